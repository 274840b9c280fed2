/-
  The law RequirementFresh of the given program: for every input the call returns true, and each argument reads afterwards as it read before. No condition.
-/
import Derived.Test.YtdnhbfmlklaldaaGreatRows
import Derived.Test.YtdnhbfmlklaldaaGreatC5f0ea989
import Derived.Test.YtdnhbfmlklaldaaGreatC7ec6da1e
import Derived.Test.YtdnhbfmlklaldaaGreatCd2e92958
import Derived.Test.YtdnhbfmlklaldaaGreatC320c5261
import Derived.Test.YtdnhbfmlklaldaaGreatC46c66ab9
import Derived.Test.YtdnhbfmlklaldaaGreatC3fc9cd0c
import Derived.Test.YtdnhbfmlklaldaaGreatC06d17065
import Derived.Test.YtdnhbfmlklaldaaGreatC71b606d7
set_option linter.unusedSimpArgs false
set_option linter.unusedVariables false
namespace Go.Proofs.YtdnhbfmlklaldaaGreat.requirementFresh
open Go.ChangeShapes Go.WideShapes Go.ChangeAt Go.RowKit Go.Am

theorem own : ownKnob Tryz.prog.godebug = none := by kernel_rfl
theorem laid : laidOutB Tryz.prog = true := by kernel_rfl
def shapes : List Ty := [.int .i64, .int .i64, .int .i64]
theorem shapes_ok : Ty.chkAll Tryz.prog shapes Tryz.f11.params.toList = true := by kernel_rfl
theorem params_ok : paramsOK Tryz.prog Tryz.f11.params.toList = true := by kernel_rfl
set_option maxRecDepth 100000 in
theorem contract (H : Type) (enc : TypeId × Value → H) (W : World) (base : Nat) (args : Array Value) (ds gs : List (DataW H)) (before : List MemPlace)
    (hval : ∀ (j : Nat) t v, Tryz.f11.params[j]? = some t → args[j]? = some v → Value.okWide Tryz.prog W .any base t v)
    (hW : DataW.Whole enc Tryz.prog Tryz.f11.params.toList Rows.requirementFreshSpec.vars false W args.toList ds gs before) :
    Calls Tryz.prog 11 args W fun e W' => ∃ v, e = .returned v ∧ Rows.requirementFreshSpec.post enc Tryz.prog Tryz.f11 false true false false W args v W' :=
  calls_law (tb := 4) shapes shapes_ok laid params_ok (by kernel_rfl) (by kernel_rfl) rfl hval hW (fun ds h => by
    match ds, h with
    | [d0, d1, d2], _ => rfl) (ent_of Tryz.func11 (by kernel_rfl) rfl) law_holds
set_option maxRecDepth 100000 in
theorem lifted (os : Os) (started : os.Started) (H : Type) (enc : TypeId × Value → H) :
    ReturnsInHanded {} Tryz.checked os 11 .any (Rows.requirementFreshSpec.pre6 enc Tryz.prog Tryz.f11 Rows.requirementFreshRow.domain false) (Rows.requirementFreshSpec.post enc Tryz.prog Tryz.f11 false true false false) := by
  refine returnsInHanded_of_change (C := Tryz.checked) own started (by kernel_rfl) Tryz.func11
    (ChangeSpec.witness6 (enc := enc) (C := Tryz.checked) false ⟨#[], #[.int .i64 0, .int .i64 0, .int .i64 0], []⟩ 8 (by kernel_rfl) (by kernel_rfl) (by kernel_rfl) (by kernel_rfl)) ?_
  intro W base args ds gs before hval hW _ _
  exact contract H enc W base args ds gs before hval hW
theorem over : Rows.requirementFreshRow.holds Tryz.pinned (OpenSpec.ofChange Rows.requirementFreshSpec) :=
  OpenClaim.holds_of_wide 11 Tryz.f11 rfl rfl rfl rfl rfl rfl rfl ⟨rfl, rfl, rfl, rfl, rfl⟩ rfl rfl rfl rfl rfl (by kernel_rfl) Tryz.func11 (by kernel_rfl)
    (of_decide_eq_true (by kernel_rfl)) (by unfold Func.isWrapper; first | (rw [if_pos (by decide +kernel)]; kernel_rfl) | (rw [if_neg (by decide +kernel)]; exact ⟨rfl, rfl⟩))
    (fun os started H enc _ => lifted os started H enc)
theorem proved : Rows.RequirementFreshSaid :=
  over
#print axioms proved
end Go.Proofs.YtdnhbfmlklaldaaGreat.requirementFresh
