/-
  The law RequirementRaw of the given program, where the arguments are together of bulk at most 1048576: the call returns true, and each argument reads afterwards as it read before.
-/
import Derived.Test.YtdnhbfmlklaldaaGreatRows
import Derived.OpenShut
import Derived.JoinedCond
import Derived.Test.YtdnhbfmlklaldaaGreatCb1b7f320
import Derived.Test.YtdnhbfmlklaldaaGreatC1d38dafb
import Derived.Test.YtdnhbfmlklaldaaGreatC86a19a23
import Derived.Test.YtdnhbfmlklaldaaGreatC7dcf1055
import Derived.Test.YtdnhbfmlklaldaaGreatC6a9b145a
import Derived.Test.YtdnhbfmlklaldaaGreatCc0b81b2c
import Derived.Test.YtdnhbfmlklaldaaGreatC3ec7874e
import Derived.Test.YtdnhbfmlklaldaaGreatC6e4544c8
import Derived.Test.YtdnhbfmlklaldaaGreatCf7ee7f0b
set_option linter.unusedSimpArgs false
set_option linter.unusedVariables false
namespace Go.Proofs.YtdnhbfmlklaldaaGreat.requirementRaw
open Go.ChangeShapes Go.WideShapes Go.ChangeAt Go.RowKit Go.Am

theorem own:ownKnob Tryz.prog.godebug=none:=by kernel_rfl
theorem laid:laidOutB Tryz.prog=true:=by kernel_rfl
def shapes:List Ty:=[yCa,yOr,yRq,.sl yDg,.int .i64]
theorem shapes_ok:Ty.chkAll Tryz.prog shapes Tryz.f3.params.toList=true:=by kernel_rfl
theorem params_ok:zh8k Tryz.prog Tryz.f3.params.toList=true:=by kernel_rfl
theorem zh2r {H:Type} : ∀ l:List (DataW H),Rows.uptoBulkAll l=(l.map Rows.uptoBulk).sum
 | []=>by simp [Rows.uptoBulkAll]
 | d::r=>by simp only [Rows.uptoBulkAll,List.map_cons,List.sum_cons,zh2r r]
theorem bulk {H:Type}:Bulk (Rows.uptoBulk (H:=H)) :=
 ⟨fun l=>by cases l<;>simp [Rows.uptoBulk],by simp [Rows.uptoBulk],fun es sp=>by simp only [Rows.uptoBulk,zh2r]; omega,fun ps=>by simp only [Rows.uptoBulk,zh2r]; omega⟩
set_option maxRecDepth 100000 in
theorem contract (H:Type) (enc:TypeId × Value→H) (W:World) (base:Nat) (args:Array Value) (ds gs:List (DataW H)) (before:List MemPlace)
  (hval : ∀ (j:Nat) t v,Tryz.f3.params[j]? = some t→args[j]? = some v→Value.okWide Tryz.prog W .any base t v)
  (hW:DataW.Whole enc Tryz.prog Tryz.f3.params.toList Rows.requirementRawSpec.vars false W args.toList ds gs before) (hk:Rows.uptoSmall H (ds++gs)=true) :
  Calls Tryz.prog 3 args W fun e W' => ∃ v,e = .returned v∧Rows.requirementRawSpec.post enc Tryz.prog Tryz.f3 false true false false W args v W' :=
 zjs2 bulk (M:=1048576) (tb:=4) shapes shapes_ok laid params_ok (by kernel_rfl) (by kernel_rfl) rfl hval hW (fun ds h=>by
  match ds,h with
  | [d0,d1,d2,d3,d4],_=>rfl) (z36x Tryz.func3 (by kernel_rfl) rfl) (by
   have h:Rows.uptoBulkAll (ds++gs)≤1048576:=of_decide_eq_true hk
   rw [zh2r,List.map_append,List.sum_append] at h; omega) law_holds
set_option maxRecDepth 100000 in
theorem lifted (os:Os) (started:os.Started) (H:Type) (enc:TypeId × Value→H) (F:Stop.Interp) :
  ReturnsInHanded {} Tryz.checked os 3 .any ((Rows.OpenSpec.upto Rows.requirementRawSpec).pre6 enc Tryz.prog Tryz.f3 Rows.requirementRawUptoRow.domain false) (((Rows.OpenSpec.upto Rows.requirementRawSpec).at F).post enc Tryz.prog Tryz.f3 false true false false):=by
 refine returnsInHanded_of_cond (C:=Tryz.checked) (s:=Rows.OpenSpec.upto Rows.requirementRawSpec) (k:=Rows.uptoSmall) rfl own started (by kernel_rfl) Tryz.func3
  (OpenSpec.witness (enc:=enc) (C:=Tryz.checked) (s:=Rows.OpenSpec.upto Rows.requirementRawSpec) (k:=Rows.uptoSmall) rfl false ⟨#[],#[.agg ((Array.replicate 32 (.int .u8 0)) ++ #[.int .i64 0,.slice none 0 0,.slice none 0 0,.slice none 0 0]),.agg ((Array.replicate 32 (.int .u8 0)) ++ #[.string ByteArray.empty,.string ByteArray.empty]),.agg #[.int .i64 0,.int .i64 0,.int .i64 0,.string ByteArray.empty],.slice none 0 0,.int .i64 0],[]⟩ 8 (by kernel_rfl) (by kernel_rfl) (by kernel_rfl)
   (x:=([.agg [.agg (List.replicate 32 (.lit (.int .u8 0))),.lit (.int .i64 0),.nil,.nil,.nil],.agg [.agg (List.replicate 32 (.lit (.int .u8 0))),.lit (.string []),.lit (.string [])],.agg [.lit (.int .i64 0),.lit (.int .i64 0),.lit (.int .i64 0),.lit (.string [])],.nil,.lit (.int .i64 0)],[],[])) (by kernel_rfl) rfl (by kernel_rfl)) ?_
 intro W base args ds gs before hval hW _ hk _
 exact contract H enc W base args ds gs before hval hW hk
theorem over:Rows.requirementRawUptoRow.holds Tryz.pinned (Rows.OpenSpec.upto Rows.requirementRawSpec) :=
 OpenClaim.holds_of_cond 3 Tryz.f3 rfl rfl rfl rfl rfl rfl rfl ⟨rfl,rfl,rfl,rfl,rfl⟩ rfl rfl rfl rfl rfl (by kernel_rfl) Tryz.func3 (by kernel_rfl)
  (of_decide_eq_true (by kernel_rfl)) (by unfold Func.isWrapper; first|(rw [if_pos (by decide +kernel)]; kernel_rfl)|(rw [if_neg (by decide +kernel)]; exact ⟨rfl,rfl⟩))
  (fun os started H enc _ F=>lifted os started H enc F)
theorem proved:Rows.RequirementRawUptoSaid :=
 over
#print axioms proved
end Go.Proofs.YtdnhbfmlklaldaaGreat.requirementRaw
