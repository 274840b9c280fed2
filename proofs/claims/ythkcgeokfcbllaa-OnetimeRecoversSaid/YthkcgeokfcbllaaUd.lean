/-
  awake of admissionlaw08, the law OnetimeDigits.
-/
import Derived.Test.YthkcgeokfcbllaaUc
set_option linter.unusedSimpArgs false
set_option linter.unusedVariables false
namespace Go.Proofs.Ythkcgeokfcbllaa
open Go Go.Am

theorem sem_refdigits (d : List B8) (hd : d.length = 32) : Am.Sem P 17 [.agg (d.map w8)] (.sl false 1 68 ((digits d).map (DV.int .i64))) := sem_runs mix tbl0_sound Try.func17 a17_ok (runs_refdigits d hd)
theorem con_digits {f : Nat} (h : ∀ d : List B8, d.length = 32 → Am.Sem P f [.agg (d.map w8)] (.sl false 1 68 ((digits d).map (DV.int .i64)))) : (Con.pure c_digits).Sound P f := con_sound (fun d hd => h d hd)
noncomputable def T20 : Tbl := addT 16 (.pure c_digits) (addT 17 (.pure c_digits) tbl0)
theorem T20_digits : T20 16 = .pure c_digits := by simp [T20]
theorem T20_refdigits : T20 17 = .pure c_digits := by simp [T20]
theorem T20_sound : T20.Sound P := addT_sound (con_digits sem_digits) (addT_sound (con_digits sem_refdigits) tbl0_sound)
theorem digits0 : digits (rep 32 0#8) = rep 64 0 ++ [3, 0, 0, 0] := by decide +kernel
theorem runs_awake08 : Runs T20 a18 [] (.bool true) := by
  refine ⟨?_⟩
  have h := c_digits_eq (d := rep 32 0#8) (by simp)
  obtain ⟨l, hl⟩ : ∃ l, l = digits (rep 32 0#8) := ⟨_, rfl⟩
  rw [← hl] at h
  rw [digits0] at hl
  have h68 : l.length = 68 := by rw [hl]; rfl
  have e0 : l[0]'(by omega) = 0 := by subst hl; rfl
  have e64 : l[64]'(by omega) = 3 := by subst hl; rfl
  have e65 : l[65]'(by omega) = 0 := by subst hl; rfl
  clear hl
  simp (disch := first | omega | (simp [-List.map_take, -List.map_drop, -List.map_set, -List.map_append, -List.drop_one] <;> omega) | fail) [-List.map_take, -List.map_drop, -List.map_set, -List.map_append, -List.drop_one, a18, T20_digits, h, h68, e0, e64, e65]
theorem sem_awake08 : Am.Sem P 18 [] (.bool true) := sem_runs mix T20_sound Try.func18 a18_ok runs_awake08
noncomputable def T21 : Tbl := addT 18 (.pure c_true) T20
theorem T21_awake : T21 18 = .pure c_true := by simp [T21]
theorem T21_digits : T21 16 = .pure c_digits := by simp [T21, T20_digits]
theorem T21_refdigits : T21 17 = .pure c_digits := by simp [T21, T20_refdigits]
theorem T21_sound : T21.Sound P := addT_sound (con_sound fun _ _ => sem_awake08) T20_sound
theorem range_digB (b : B8) : ∀ x ∈ digB b, 0 ≤ x ∧ x ≤ 3 := by
  intro x hx
  simp only [digB, digL, List.mem_cons, List.not_mem_nil, or_false] at hx
  rcases hx with rfl | rfl | rfl | rfl <;> exact dig_range _ _
theorem range_msg (d : List B8) (i : Nat) : ∀ x ∈ msg d i, 0 ≤ x ∧ x ≤ 3 := by
  intro x hx
  unfold msg at hx
  obtain ⟨b, _, hb⟩ := List.mem_flatMap.1 hx
  exact range_digB b x hb
theorem range_digits (d : List B8) : ∀ x ∈ digits d, 0 ≤ x ∧ x ≤ 3 := by
  intro x hx
  unfold digits at hx
  rcases List.mem_append.1 hx with hx | hx
  · exact range_msg d 16 x hx
  · exact range_digB _ x hx
def S3 (d : List B8) (i : Nat) : St := a3S0 (.sl false 1 68 ((digits d).map (DV.int .i64))) (.sl false 1 68 ((digits d).map (DV.int .i64))) (.int .i64 i) [.cells (d.map w8)]
set_option maxRecDepth 20000 in
theorem runs_lawdigits (d : List B8) (hd : d.length = 32) : Runs T21 a3 [.agg (d.map w8)] (.bool true) := by
  refine ⟨?_⟩
  have hl := len_digits hd
  simp (disch := first | omega | (simp [-List.map_take, -List.map_drop, -List.map_set, -List.map_append, -List.drop_one] <;> omega) | fail) [-List.map_take, -List.map_drop, -List.map_set, -List.map_append, -List.drop_one, a3, T21_digits, T21_refdigits, c_digits_eq, hd]
  refine W_loop (S3 d) (fun i => 68 - i) (fun i => i ≤ 68) 0 (weak_same (by simp (disch := first | omega | (simp [-List.map_take, -List.map_drop, -List.map_set, -List.map_append, -List.drop_one] <;> omega) | fail) [-List.map_take, -List.map_drop, -List.map_set, -List.map_append, -List.drop_one]) (by simp (disch := first | omega | (simp [-List.map_take, -List.map_drop, -List.map_set, -List.map_append, -List.drop_one] <;> omega) | fail) [-List.map_take, -List.map_drop, -List.map_set, -List.map_append, -List.drop_one])) (by omega) (fun i hi => ?_)
  simp (disch := first | omega | (simp [-List.map_take, -List.map_drop, -List.map_set, -List.map_append, -List.drop_one] <;> omega) | fail) [-List.map_take, -List.map_drop, -List.map_set, -List.map_append, -List.drop_one, a3L0, a3S0, S3]
  by_cases h : i < 68
  · have h1 : (i : Int) < 68 := by omega
    have hil : i < (digits d).length := by omega
    obtain ⟨r0, r1⟩ := range_digits d _ (List.getElem_mem hil)
    have r2 : ¬ (digits d)[i] < 0 := by omega
    have r3 : ¬ (digits d)[i] > 3 := by omega
    simp (disch := first | omega | (simp [-List.map_take, -List.map_drop, -List.map_set, -List.map_append, -List.drop_one] <;> omega) | fail) [-List.map_take, -List.map_drop, -List.map_set, -List.map_append, -List.drop_one, h1, hl, r2, r3]
    refine ⟨i + 1, weak_same (by simp (disch := first | omega | (simp [-List.map_take, -List.map_drop, -List.map_set, -List.map_append, -List.drop_one] <;> omega) | fail) [-List.map_take, -List.map_drop, -List.map_set, -List.map_append, -List.drop_one, weakL]) (by simp (disch := first | omega | (simp [-List.map_take, -List.map_drop, -List.map_set, -List.map_append, -List.drop_one] <;> omega) | fail) [-List.map_take, -List.map_drop, -List.map_set, -List.map_append, -List.drop_one]), by omega, by omega⟩
  · have h1 : ¬ (i : Int) < 68 := by omega
    simp (disch := first | omega | (simp [-List.map_take, -List.map_drop, -List.map_set, -List.map_append, -List.drop_one] <;> omega) | fail) [-List.map_take, -List.map_drop, -List.map_set, -List.map_append, -List.drop_one, h1, T21_awake, c_true_eq]
end Go.Proofs.Ythkcgeokfcbllaa
