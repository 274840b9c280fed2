/-
  Strings: IndexByte, HasPrefix, CutPrefix of the library; value of the reference.
-/
import Derived.Test.YthkcgeokfcbllaaTc
import Derived.Test.YthkcgeokfcbllaaFg
set_option linter.unusedSimpArgs false
set_option linter.unusedVariables false
namespace Go.Proofs.Ythkcgeokfcbllaa
open Go Go.Am

noncomputable def c_ixb : List DV → Option DV := con (fun (_ : List UInt8 × B8) => True) (fun a => [.str a.1, w8 a.2]) (fun a => .int .i64 (Lib.indexByte a.1 a.2.toNat.toUInt8))
theorem c_ixb_eq {s : List UInt8} {c : B8} : c_ixb [.str s, w8 c] = some (.int .i64 (Lib.indexByte s c.toNat.toUInt8)) :=
  con_eq' (A := fun (_ : List UInt8 × B8) => True) (a := (s, c)) (f := fun a => [.str a.1, w8 a.2]) (g := fun a => .int .i64 (Lib.indexByte a.1 a.2.toNat.toUInt8)) (by
    rintro ⟨a1, a2⟩ ⟨b1, b2⟩ _ _ e
    simp only [List.cons.injEq, DV.str.injEq, inj_w8, and_true] at e
    obtain ⟨rfl, rfl⟩ := e; rfl) trivial
noncomputable def T30 : Tbl := addT 77 (.pure c_ixb) tbl0
theorem T30_ixb : T30 77 = .pure c_ixb := by simp [T30]
theorem T30_sound : T30.Sound P := addT_sound (con_sound fun a _ => sem_ixb Try.func77 (by kernel_rfl) (by kernel_rfl) (by kernel_rfl) (by kernel_rfl) a.1 a.2) tbl0_sound
theorem runs_slixb (s : List UInt8) (c : B8) : Runs T30 a75 [.str s, w8 c] (.int .i64 (Lib.indexByte s c.toNat.toUInt8)) := by
  refine ⟨?_⟩
  simp (disch := first | omega | (simp [-List.map_take, -List.map_drop, -List.map_set, -List.map_append, -List.drop_one] <;> omega) | fail) [-List.map_take, -List.map_drop, -List.map_set, -List.map_append, -List.drop_one, a75, T30_ixb, c_ixb_eq]
noncomputable def T31 : Tbl := addT 75 (.pure c_ixb) T30
theorem T31_ixb : T31 75 = .pure c_ixb := by simp [T31]
theorem T31_sound : T31.Sound P := addT_sound (con_sound fun a _ => sem_runs mix T30_sound Try.func75 a75_ok (runs_slixb a.1 a.2)) T30_sound
theorem runs_ixb (s : List UInt8) (c : B8) : Runs T31 a70 [.str s, w8 c] (.int .i64 (Lib.indexByte s c.toNat.toUInt8)) := by
  refine ⟨?_⟩
  simp (disch := first | omega | (simp [-List.map_take, -List.map_drop, -List.map_set, -List.map_append, -List.drop_one] <;> omega) | fail) [-List.map_take, -List.map_drop, -List.map_set, -List.map_append, -List.drop_one, a70, T31_ixb, c_ixb_eq]
theorem runs_hasprefix (s p : List UInt8) : Runs tbl0 a74 [.str s, .str p] (.bool (decide (s.take p.length = p))) := by
  refine ⟨?_⟩
  by_cases h : p.length ≤ s.length
  · have h1 : (p.length : Int) ≤ s.length := by omega
    simp (disch := first | omega | (simp [-List.map_take, -List.map_drop, -List.map_set, -List.map_append, -List.drop_one] <;> omega) | fail) [-List.map_take, -List.map_drop, -List.map_set, -List.map_append, -List.drop_one, a74, h1, h]
  · have h1 : ¬ (p.length : Int) ≤ s.length := by omega
    have h2 : ¬ s.take p.length = p := fun e => by have := congrArg List.length e; simp at this; omega
    simp (disch := first | omega | (simp [-List.map_take, -List.map_drop, -List.map_set, -List.map_append, -List.drop_one] <;> omega) | fail) [-List.map_take, -List.map_drop, -List.map_set, -List.map_append, -List.drop_one, a74, h1, h, h2]
end Go.Proofs.Ythkcgeokfcbllaa
