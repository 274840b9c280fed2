/-
  The law RequirementCheck of the given program: for every input the call returns true, and each argument reads afterwards as it read before. No condition.
-/
import Derived.Test.YtdnhbfmlklaldaaGreatRows
import Derived.Test.YtdnhbfmlklaldaaGreatCb1b7f320
import Derived.Test.YtdnhbfmlklaldaaGreatC1d38dafb
import Derived.Test.YtdnhbfmlklaldaaGreatC86a19a23
import Derived.Test.YtdnhbfmlklaldaaGreatCbdac06b7
import Derived.Test.YtdnhbfmlklaldaaGreatC38e3cab2
import Derived.Test.YtdnhbfmlklaldaaGreatC7c8506f3
import Derived.Test.YtdnhbfmlklaldaaGreatC3f3e5205
import Derived.Test.YtdnhbfmlklaldaaGreatC2c2b28bf
set_option linter.unusedSimpArgs false
set_option linter.unusedVariables false
namespace Go.Proofs.YtdnhbfmlklaldaaGreat.requirementCheck
open Go.ChangeShapes Go.WideShapes Go.ChangeAt Go.RowKit Go.Am

theorem own:ownKnob Tryz.prog.godebug=none:=by kernel_rfl
theorem laid:laidOutB Tryz.prog=true:=by kernel_rfl
def shapes:List Ty:=[.sl (.int .i64)]
theorem shapes_ok:Ty.chkAll Tryz.prog shapes Tryz.f4.params.toList=true:=by kernel_rfl
theorem params_ok:zh8k Tryz.prog Tryz.f4.params.toList=true:=by kernel_rfl
set_option maxRecDepth 100000 in
theorem contract (H:Type) (enc:TypeId × Value→H) (W:World) (base:Nat) (args:Array Value) (ds gs:List (DataW H)) (before:List MemPlace)
  (hval : ∀ (j:Nat) t v,Tryz.f4.params[j]? = some t→args[j]? = some v→Value.okWide Tryz.prog W .any base t v)
  (hW:DataW.Whole enc Tryz.prog Tryz.f4.params.toList Rows.requirementCheckSpec.vars false W args.toList ds gs before) :
  Calls Tryz.prog 4 args W fun e W' => ∃ v,e = .returned v∧Rows.requirementCheckSpec.post enc Tryz.prog Tryz.f4 false true false false W args v W' :=
 zmj8 (tb:=4) shapes shapes_ok laid params_ok (by kernel_rfl) (by kernel_rfl) rfl hval hW (fun ds h=>by
  match ds,h with
  | [d0],_=>rfl) (z36x Tryz.func4 (by kernel_rfl) rfl) law_holds
set_option maxRecDepth 100000 in
theorem lifted (os:Os) (started:os.Started) (H:Type) (enc:TypeId × Value→H) :
  ReturnsInHanded {} Tryz.checked os 4 .any (Rows.requirementCheckSpec.pre6 enc Tryz.prog Tryz.f4 Rows.requirementCheckRow.domain false) (Rows.requirementCheckSpec.post enc Tryz.prog Tryz.f4 false true false false):=by
 refine returnsInHanded_of_change (C:=Tryz.checked) own started (by kernel_rfl) Tryz.func4
  (ChangeSpec.witness6 (enc:=enc) (C:=Tryz.checked) false ⟨#[],#[.slice none 0 0],[]⟩ 8 (by kernel_rfl) (by kernel_rfl) (by kernel_rfl) (by kernel_rfl)) ?_
 intro W base args ds gs before hval hW _ _
 exact contract H enc W base args ds gs before hval hW
theorem over:Rows.requirementCheckRow.holds Tryz.pinned (OpenSpec.ofChange Rows.requirementCheckSpec) :=
 OpenClaim.holds_of_wide 4 Tryz.f4 rfl rfl rfl rfl rfl rfl rfl ⟨rfl,rfl,rfl,rfl,rfl⟩ rfl rfl rfl rfl rfl (by kernel_rfl) Tryz.func4 (by kernel_rfl)
  (of_decide_eq_true (by kernel_rfl)) (by unfold Func.isWrapper; first|(rw [if_pos (by decide +kernel)]; kernel_rfl)|(rw [if_neg (by decide +kernel)]; exact ⟨rfl,rfl⟩))
  (fun os started H enc _=>lifted os started H enc)
theorem proved:Rows.RequirementCheckSaid :=
 over
#print axioms proved
end Go.Proofs.YtdnhbfmlklaldaaGreat.requirementCheck
