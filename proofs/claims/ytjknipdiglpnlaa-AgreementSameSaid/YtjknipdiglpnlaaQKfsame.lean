/-
  The law AgreementSame of the given program: for every input the call returns true, and each argument reads afterwards as it read before. No condition.
-/
import Derived.Test.YtjknipdiglpnlaaRows
import Derived.Test.YtjknipdiglpnlaaCcd3143aa
import Derived.Test.YtjknipdiglpnlaaCe656babf
import Derived.Test.YtjknipdiglpnlaaCf7009e0f
import Derived.Test.YtjknipdiglpnlaaC5d3ebb32
import Derived.Test.YtjknipdiglpnlaaC4d2893d8
import Derived.Test.YtjknipdiglpnlaaCb79fb746
set_option linter.unusedSimpArgs false
set_option linter.unusedVariables false
namespace Go.Proofs.Ytjknipdiglpnlaa.agreementSame
open Go.ChangeShapes Go.WideShapes Go.ChangeAt Go.RowKit Go.Am

theorem own:ownKnob Try.prog.godebug=none:=by kernel_rfl
theorem laid:laidOutB Try.prog=true:=by kernel_rfl
def shapes:List Ty:=[yLk,yLk,.sl (.int .i64)]
theorem shapes_ok:Ty.chkAll Try.prog shapes Try.f4.params.toList=true:=by kernel_rfl
theorem params_ok:z9lx Try.prog Try.f4.params.toList=true:=by kernel_rfl
set_option maxRecDepth 100000 in
theorem contract (H:Type) (enc:TypeId × Value→H) (W:World) (base:Nat) (args:Array Value) (ds gs:List (DataW H)) (before:List MemPlace)
  (hval : ∀ (j:Nat) t v,Try.f4.params[j]? = some t→args[j]? = some v→Value.okWide Try.prog W .any base t v)
  (hW:DataW.Whole enc Try.prog Try.f4.params.toList Rows.agreementSameSpec.vars false W args.toList ds gs before) :
  Calls Try.prog 4 args W fun e W' => ∃ v,e = .returned v∧Rows.agreementSameSpec.post enc Try.prog Try.f4 false true false false W args v W' :=
 zmj8 (tb:=4) shapes shapes_ok laid params_ok (by kernel_rfl) (by kernel_rfl) rfl hval hW (fun ds h=>by
  match ds,h with
  | [d0,d1,d2],_=>rfl) (z36x Try.func4 (by kernel_rfl) rfl) law_holds
set_option maxRecDepth 100000 in
theorem lifted (os:Os) (started:os.Started) (H:Type) (enc:TypeId × Value→H) :
  ReturnsInHanded {} Try.checked os 4 .any (Rows.agreementSameSpec.pre6 enc Try.prog Try.f4 Rows.agreementSameRow.domain false) (Rows.agreementSameSpec.post enc Try.prog Try.f4 false true false false):=by
 refine returnsInHanded_of_change (C:=Try.checked) own started (by kernel_rfl) Try.func4
  (ChangeSpec.witness6 (enc:=enc) (C:=Try.checked) false ⟨#[],#[.agg #[.string ByteArray.empty,.slice none 0 0,.slice none 0 0],.agg #[.string ByteArray.empty,.slice none 0 0,.slice none 0 0],.slice none 0 0],[]⟩ 8 (by kernel_rfl) (by kernel_rfl) (by kernel_rfl) (by kernel_rfl)) ?_
 intro W base args ds gs before hval hW _ _
 exact contract H enc W base args ds gs before hval hW
theorem over:Rows.agreementSameRow.holds Try.pinned (OpenSpec.ofChange Rows.agreementSameSpec) :=
 OpenClaim.holds_of_wide 4 Try.f4 rfl rfl rfl rfl rfl rfl rfl ⟨rfl,rfl,rfl,rfl,rfl⟩ rfl rfl rfl rfl rfl (by kernel_rfl) Try.func4 (by kernel_rfl)
  (of_decide_eq_true (by kernel_rfl)) (by unfold Func.isWrapper; first|(rw [if_pos (by decide +kernel)]; kernel_rfl)|(rw [if_neg (by decide +kernel)]; exact ⟨rfl,rfl⟩))
  (fun os started H enc _=>lifted os started H enc)
theorem proved:Rows.AgreementSameSaid :=
 over
#print axioms proved
end Go.Proofs.Ytjknipdiglpnlaa.agreementSame
