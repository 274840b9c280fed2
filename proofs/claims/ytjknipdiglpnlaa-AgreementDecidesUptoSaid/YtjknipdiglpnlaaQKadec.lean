/-
  The law AgreementDecides of the given program, where the arguments are together of bulk at most 1048576: the call returns true, and each argument reads afterwards as it read before.
-/
import Derived.Test.YtjknipdiglpnlaaRows
import Derived.OpenShut
import Derived.JoinedCond
import Derived.Test.YtjknipdiglpnlaaCb37bba16
import Derived.Test.YtjknipdiglpnlaaC723e9050
import Derived.Test.YtjknipdiglpnlaaC67fe22bc
import Derived.Test.YtjknipdiglpnlaaC8a945f88
import Derived.Test.YtjknipdiglpnlaaCb9aab19a
import Derived.Test.YtjknipdiglpnlaaC8420a044
import Derived.Test.YtjknipdiglpnlaaCe21830c6
set_option linter.unusedSimpArgs false
set_option linter.unusedVariables false
namespace Go.Proofs.Ytjknipdiglpnlaa.agreementDecides
open Go.ChangeShapes Go.WideShapes Go.ChangeAt Go.RowKit Go.Am

theorem own:ownKnob Try.prog.godebug=none:=by kernel_rfl
theorem laid:laidOutB Try.prog=true:=by kernel_rfl
def shapes:List Ty:=[ySp,.sl yAt,.sl (.int .i64)]
theorem shapes_ok:Ty.chkAll Try.prog shapes Try.f3.params.toList=true:=by kernel_rfl
theorem params_ok:z9lx Try.prog Try.f3.params.toList=true:=by kernel_rfl
theorem zh2r {H:Type} : ∀ l:List (DataW H),Rows.uptoBulkAll l=(l.map Rows.uptoBulk).sum
 | []=>by simp [Rows.uptoBulkAll]
 | d::r=>by simp only [Rows.uptoBulkAll,List.map_cons,List.sum_cons,zh2r r]
theorem bulk {H:Type}:Bulk (Rows.uptoBulk (H:=H)) :=
 ⟨fun l=>by cases l<;>simp [Rows.uptoBulk],by simp [Rows.uptoBulk],fun es sp=>by simp only [Rows.uptoBulk,zh2r]; omega,fun ps=>by simp only [Rows.uptoBulk,zh2r]; omega⟩
set_option maxRecDepth 100000 in
theorem contract (H:Type) (enc:TypeId × Value→H) (W:World) (base:Nat) (args:Array Value) (ds gs:List (DataW H)) (before:List MemPlace)
  (hval : ∀ (j:Nat) t v,Try.f3.params[j]? = some t→args[j]? = some v→Value.okWide Try.prog W .any base t v)
  (hW:DataW.Whole enc Try.prog Try.f3.params.toList Rows.agreementDecidesSpec.vars false W args.toList ds gs before) (hk:Rows.uptoSmall H (ds++gs)=true) :
  Calls Try.prog 3 args W fun e W' => ∃ v,e = .returned v∧Rows.agreementDecidesSpec.post enc Try.prog Try.f3 false true false false W args v W' :=
 zjs2 bulk (M:=1048576) (tb:=4) shapes shapes_ok laid params_ok (by kernel_rfl) (by kernel_rfl) rfl hval hW (fun ds h=>by
  match ds,h with
  | [d0,d1,d2],_=>rfl) (z36x Try.func3 (by kernel_rfl) rfl) (by
   have h:Rows.uptoBulkAll (ds++gs)≤1048576:=of_decide_eq_true hk
   rw [zh2r,List.map_append,List.sum_append] at h; omega) law_holds
set_option maxRecDepth 100000 in
theorem lifted (os:Os) (started:os.Started) (H:Type) (enc:TypeId × Value→H) (F:Stop.Interp) :
  ReturnsInHanded {} Try.checked os 3 .any ((Rows.OpenSpec.upto Rows.agreementDecidesSpec).pre6 enc Try.prog Try.f3 Rows.agreementDecidesUptoRow.domain false) (((Rows.OpenSpec.upto Rows.agreementDecidesSpec).at F).post enc Try.prog Try.f3 false true false false):=by
 refine returnsInHanded_of_cond (C:=Try.checked) (s:=Rows.OpenSpec.upto Rows.agreementDecidesSpec) (k:=Rows.uptoSmall) rfl own started (by kernel_rfl) Try.func3
  (OpenSpec.witness (enc:=enc) (C:=Try.checked) (s:=Rows.OpenSpec.upto Rows.agreementDecidesSpec) (k:=Rows.uptoSmall) rfl false ⟨#[],#[.agg #[.string ByteArray.empty,.bool false,.int .i64 0,.slice none 0 0,.slice none 0 0,.slice none 0 0,.slice none 0 0],.slice none 0 0,.slice none 0 0],[]⟩ 8 (by kernel_rfl) (by kernel_rfl) (by kernel_rfl)
   (x:=([.agg [.lit (.string []),.lit (.bool false),.lit (.int .i64 0),.nil,.nil,.nil,.nil],.nil,.nil],[],[])) (by kernel_rfl) rfl (by kernel_rfl)) ?_
 intro W base args ds gs before hval hW _ hk _
 exact contract H enc W base args ds gs before hval hW hk
theorem over:Rows.agreementDecidesUptoRow.holds Try.pinned (Rows.OpenSpec.upto Rows.agreementDecidesSpec) :=
 OpenClaim.holds_of_cond 3 Try.f3 rfl rfl rfl rfl rfl rfl rfl ⟨rfl,rfl,rfl,rfl,rfl⟩ rfl rfl rfl rfl rfl (by kernel_rfl) Try.func3 (by kernel_rfl)
  (of_decide_eq_true (by kernel_rfl)) (by unfold Func.isWrapper; first|(rw [if_pos (by decide +kernel)]; kernel_rfl)|(rw [if_neg (by decide +kernel)]; exact ⟨rfl,rfl⟩))
  (fun os started H enc _ F=>lifted os started H enc F)
theorem proved:Rows.AgreementDecidesUptoSaid :=
 over
#print axioms proved
end Go.Proofs.Ytjknipdiglpnlaa.agreementDecides
