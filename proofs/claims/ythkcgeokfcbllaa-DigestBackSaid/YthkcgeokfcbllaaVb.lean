/-
  CutPrefix of the library; value of the reference.
-/
import Derived.Test.YthkcgeokfcbllaaVa
set_option linter.unusedSimpArgs false
set_option linter.unusedVariables false
namespace Go.Proofs.Ythkcgeokfcbllaa
open Go Go.Am

abbrev StrP := List UInt8 × List UInt8
theorem str2_inj {a b : StrP} (e : [DV.str a.1, DV.str a.2] = [DV.str b.1, DV.str b.2]) : a = b := by
  obtain ⟨a1, a2⟩ := a
  obtain ⟨b1, b2⟩ := b
  simp only [List.cons.injEq, DV.str.injEq, and_true] at e
  obtain ⟨rfl, rfl⟩ := e; rfl
noncomputable def c_hp : List DV → Option DV := con (fun (_ : StrP) => True) (fun a => [.str a.1, .str a.2]) (fun a => .bool (decide (a.1.take a.2.length = a.2)))
theorem c_hp_eq {s p : List UInt8} : c_hp [.str s, .str p] = some (.bool (decide (s.take p.length = p))) :=
  con_eq' (A := fun (_ : StrP) => True) (a := (s, p)) (f := fun a => [.str a.1, .str a.2]) (g := fun a => .bool (decide (a.1.take a.2.length = a.2))) (fun a b _ _ e => by rw [str2_inj e]) trivial
noncomputable def T32 : Tbl := addT 74 (.pure c_hp) tbl0
theorem T32_hp : T32 74 = .pure c_hp := by simp [T32]
theorem T32_sound : T32.Sound P := addT_sound (con_sound fun a _ => sem_runs mix tbl0_sound Try.func74 a74_ok (runs_hasprefix a.1 a.2)) tbl0_sound
def cutD (s p : List UInt8) : DV := if s.take p.length = p then .tup [.str (s.drop p.length), .bool true] else .tup [.str s, .bool false]
theorem runs_slcut (s p : List UInt8) : Runs T32 a69 [.str s, .str p] (cutD s p) := by
  refine ⟨?_⟩
  by_cases h : s.take p.length = p
  · have hl : p.length ≤ s.length := by have := congrArg List.length h; simp at this; omega
    have ht : (s.drop p.length).take (s.length - p.length) = s.drop p.length := List.take_of_length_le (by simp)
    simp (disch := first | omega | (simp [-List.map_take, -List.map_drop, -List.map_set, -List.map_append, -List.drop_one] <;> omega) | fail) [-List.map_take, -List.map_drop, -List.map_set, -List.map_append, -List.drop_one, a69, T32_hp, c_hp_eq, h, cutD, hl, ht]
  · simp (disch := first | omega | (simp [-List.map_take, -List.map_drop, -List.map_set, -List.map_append, -List.drop_one] <;> omega) | fail) [-List.map_take, -List.map_drop, -List.map_set, -List.map_append, -List.drop_one, a69, T32_hp, c_hp_eq, h, cutD]
noncomputable def c_cut : List DV → Option DV := con (fun (_ : StrP) => True) (fun a => [.str a.1, .str a.2]) (fun a => cutD a.1 a.2)
theorem c_cut_eq {s p : List UInt8} : c_cut [.str s, .str p] = some (cutD s p) :=
  con_eq' (A := fun (_ : StrP) => True) (a := (s, p)) (f := fun a => [.str a.1, .str a.2]) (g := fun a => cutD a.1 a.2) (fun a b _ _ e => by rw [str2_inj e]) trivial
noncomputable def T33 : Tbl := addT 69 (.pure c_cut) tbl0
theorem T33_cut : T33 69 = .pure c_cut := by simp [T33]
theorem T33_sound : T33.Sound P := addT_sound (con_sound fun a _ => sem_runs mix T32_sound Try.func69 a69_ok (runs_slcut a.1 a.2)) tbl0_sound
theorem runs_cut (s p : List UInt8) : Runs T33 a57 [.str s, .str p] (cutD s p) := by
  refine ⟨?_⟩
  by_cases h : s.take p.length = p
  · simp (disch := first | omega | (simp [-List.map_take, -List.map_drop, -List.map_set, -List.map_append, -List.drop_one] <;> omega) | fail) [-List.map_take, -List.map_drop, -List.map_set, -List.map_append, -List.drop_one, a57, T33_cut, c_cut_eq, h, cutD]
  · simp (disch := first | omega | (simp [-List.map_take, -List.map_drop, -List.map_set, -List.map_append, -List.drop_one] <;> omega) | fail) [-List.map_take, -List.map_drop, -List.map_set, -List.map_append, -List.drop_one, a57, T33_cut, c_cut_eq, h, cutD]
/-- the value of a hexadecimal digit; 16: it is none -/
def vl (c : B8) : Int := if 48#8 ≤ c ∧ c ≤ 57#8 then (c - 48#8).toNat else if 97#8 ≤ c ∧ c ≤ 102#8 then (c - 97#8).toNat + 10 else 16
theorem runs_value (c : B8) : Runs tbl0 a71 [w8 c] (.int .i64 (vl c)) := by
  refine ⟨?_⟩
  unfold vl
  have b1 := (c - 48#8).isLt
  have b2 := (c - 97#8).isLt
  by_cases h1 : 48#8 ≤ c <;> by_cases h2 : c ≤ 57#8 <;> by_cases h3 : 97#8 ≤ c <;> by_cases h4 : c ≤ 102#8
  all_goals simp (disch := first | omega | (simp [-List.map_take, -List.map_drop, -List.map_set, -List.map_append, -List.drop_one] <;> omega) | fail) [-List.map_take, -List.map_drop, -List.map_set, -List.map_append, -List.drop_one, a71, h1, h2, h3, h4]
end Go.Proofs.Ythkcgeokfcbllaa
