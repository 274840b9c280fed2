/-
  The law AgreementSame of the given program, where the arguments are together of bulk at most 1048576: the call returns true, and each argument reads afterwards as it read before.
-/
import Derived.Test.YtjknipdiglpnlaaRows
import Derived.OpenShut
import Derived.JoinedCond
import Derived.Test.YtjknipdiglpnlaaCb3f0584b
import Derived.Test.YtjknipdiglpnlaaC966dcd30
import Derived.Test.YtjknipdiglpnlaaCa291953b
import Derived.Test.YtjknipdiglpnlaaCd75c9fc6
import Derived.Test.YtjknipdiglpnlaaC2dc5e998
import Derived.Test.YtjknipdiglpnlaaCda22867b
set_option linter.unusedSimpArgs false
set_option linter.unusedVariables false
namespace Go.Proofs.Ytjknipdiglpnlaa.agreementSame
open Go.ChangeShapes Go.WideShapes Go.ChangeAt Go.RowKit Go.Am

theorem own:ownKnob Try.prog.godebug=none:=by kernel_rfl
theorem laid:laidOutB Try.prog=true:=by kernel_rfl
def shapes:List Ty:=[yLk,yLk,.sl (.int .i64)]
theorem shapes_ok:Ty.chkAll Try.prog shapes Try.f4.params.toList=true:=by kernel_rfl
theorem params_ok:z9lx Try.prog Try.f4.params.toList=true:=by kernel_rfl
theorem zh2r {H:Type} : ∀ l:List (DataW H),Rows.uptoBulkAll l=(l.map Rows.uptoBulk).sum
 | []=>by simp [Rows.uptoBulkAll]
 | d::r=>by simp only [Rows.uptoBulkAll,List.map_cons,List.sum_cons,zh2r r]
theorem bulk {H:Type}:Bulk (Rows.uptoBulk (H:=H)) :=
 ⟨fun l=>by cases l<;>simp [Rows.uptoBulk],by simp [Rows.uptoBulk],fun es sp=>by simp only [Rows.uptoBulk,zh2r]; omega,fun ps=>by simp only [Rows.uptoBulk,zh2r]; omega⟩
set_option maxRecDepth 100000 in
theorem contract (H:Type) (enc:TypeId × Value→H) (W:World) (base:Nat) (args:Array Value) (ds gs:List (DataW H)) (before:List MemPlace)
  (hval : ∀ (j:Nat) t v,Try.f4.params[j]? = some t→args[j]? = some v→Value.okWide Try.prog W .any base t v)
  (hW:DataW.Whole enc Try.prog Try.f4.params.toList Rows.agreementSameSpec.vars false W args.toList ds gs before) (hk:Rows.uptoSmall H (ds++gs)=true) :
  Calls Try.prog 4 args W fun e W' => ∃ v,e = .returned v∧Rows.agreementSameSpec.post enc Try.prog Try.f4 false true false false W args v W' :=
 zjs2 bulk (M:=1048576) (tb:=4) shapes shapes_ok laid params_ok (by kernel_rfl) (by kernel_rfl) rfl hval hW (fun ds h=>by
  match ds,h with
  | [d0,d1,d2],_=>rfl) (z36x Try.func4 (by kernel_rfl) rfl) (by
   have h:Rows.uptoBulkAll (ds++gs)≤1048576:=of_decide_eq_true hk
   rw [zh2r,List.map_append,List.sum_append] at h; omega) law_holds
set_option maxRecDepth 100000 in
theorem lifted (os:Os) (started:os.Started) (H:Type) (enc:TypeId × Value→H) (F:Stop.Interp) :
  ReturnsInHanded {} Try.checked os 4 .any ((Rows.OpenSpec.upto Rows.agreementSameSpec).pre6 enc Try.prog Try.f4 Rows.agreementSameUptoRow.domain false) (((Rows.OpenSpec.upto Rows.agreementSameSpec).at F).post enc Try.prog Try.f4 false true false false):=by
 refine returnsInHanded_of_cond (C:=Try.checked) (s:=Rows.OpenSpec.upto Rows.agreementSameSpec) (k:=Rows.uptoSmall) rfl own started (by kernel_rfl) Try.func4
  (OpenSpec.witness (enc:=enc) (C:=Try.checked) (s:=Rows.OpenSpec.upto Rows.agreementSameSpec) (k:=Rows.uptoSmall) rfl false ⟨#[],#[.agg #[.string ByteArray.empty,.slice none 0 0,.slice none 0 0],.agg #[.string ByteArray.empty,.slice none 0 0,.slice none 0 0],.slice none 0 0],[]⟩ 8 (by kernel_rfl) (by kernel_rfl) (by kernel_rfl)
   (x:=([.agg [.lit (.string []),.nil,.nil],.agg [.lit (.string []),.nil,.nil],.nil],[],[])) (by kernel_rfl) rfl (by kernel_rfl)) ?_
 intro W base args ds gs before hval hW _ hk _
 exact contract H enc W base args ds gs before hval hW hk
theorem over:Rows.agreementSameUptoRow.holds Try.pinned (Rows.OpenSpec.upto Rows.agreementSameSpec) :=
 OpenClaim.holds_of_cond 4 Try.f4 rfl rfl rfl rfl rfl rfl rfl ⟨rfl,rfl,rfl,rfl,rfl⟩ rfl rfl rfl rfl rfl (by kernel_rfl) Try.func4 (by kernel_rfl)
  (of_decide_eq_true (by kernel_rfl)) (by unfold Func.isWrapper; first|(rw [if_pos (by decide +kernel)]; kernel_rfl)|(rw [if_neg (by decide +kernel)]; exact ⟨rfl,rfl⟩))
  (fun os started H enc _ F=>lifted os started H enc F)
theorem proved:Rows.AgreementSameUptoSaid :=
 over
#print axioms proved
end Go.Proofs.Ytjknipdiglpnlaa.agreementSame
