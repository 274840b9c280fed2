/-
  Parse and ParseHalf, of the program and of the reference.
-/
import Derived.Test.YthkcgeokfcbllaaVd
set_option linter.unusedSimpArgs false
set_option linter.unusedVariables false
namespace Go.Proofs.Ythkcgeokfcbllaa
open Go Go.Am

abbrev UnA := List UInt8 × Nat × AObj
noncomputable def c_unhex : List DV → List AObj → Option (DV × List AObj) := conH (fun (a : UnA) => 0 < a.2.1 ∧ a.2.1 ≤ 1000) (fun a => (([.str a.1, .ms 1 a.2.1 0 1 a.2.1 a.2.1] : List DV), ([a.2.2, .cells ((rep a.2.1 0#8).map w8)] : List AObj))) (fun a => ((.bool (okN a.1 a.2.1) : DV), ([a.2.2, .cells ((fillL a.1 a.2.1 (stopN a.1 a.2.1)).map w8)] : List AObj)))
theorem c_unhex_sound : (Con.heap c_unhex).Sound P 58 := conH_sound fun a h => calls_runs mix T35_sound Try.func58 a58_ok (runs_unhex a.1 a.2.1 a.2.2 h.1 h.2)
theorem c_unhex_eq {s : List UInt8} {n : Nat} {o : AObj} (h0 : 0 < n) (hn : n ≤ 1000) : c_unhex [.str s, .ms 1 n 0 1 n n] [o, .cells ((rep n 0#8).map w8)] = some (.bool (okN s n), [o, .cells ((fillL s n (stopN s n)).map w8)]) :=
  conH_eq (A := fun (a : UnA) => 0 < a.2.1 ∧ a.2.1 ≤ 1000) (f := fun a => (([.str a.1, .ms 1 a.2.1 0 1 a.2.1 a.2.1] : List DV), ([a.2.2, .cells ((rep a.2.1 0#8).map w8)] : List AObj))) (g := fun a => ((.bool (okN a.1 a.2.1) : DV), ([a.2.2, .cells ((fillL a.1 a.2.1 (stopN a.1 a.2.1)).map w8)] : List AObj))) (by
    rintro ⟨a1, a2, a3⟩ ⟨b1, b2, b3⟩ e
    simp only [Prod.mk.injEq, List.cons.injEq, DV.str.injEq, DV.ms.injEq, and_true, true_and] at e
    obtain ⟨⟨rfl, rfl, _⟩, rfl, _⟩ := e
    rfl) (s, n, o) ⟨h0, hn⟩
noncomputable def T36 : Tbl := addT 58 (.heap c_unhex) (addT 57 (.pure c_cut) tbl0)
theorem T36_unhex : T36 58 = .heap c_unhex := by simp [T36]
theorem T36_cut : T36 57 = .pure c_cut := by simp [T36]
theorem T36_sound : T36.Sound P := addT_sound c_unhex_sound (addT_sound (con_sound fun a _ => sem_runs mix T33_sound Try.func57 a57_ok (runs_cut a.1 a.2)) tbl0_sound)
/-- n bytes out of their text -/
def txD (s : List UInt8) (n : Nat) : DV := if okN s n = true then .tup [.agg ((bytesN s n).map w8), .bool true] else .tup [.agg ((rep n 0#8).map w8), .bool false]
def sha : List UInt8 := [115, 104, 97, 50, 53, 54, 58]
def parseD (s : List UInt8) : DV := if s.take 7 = sha then txD (s.drop 7) 32 else .tup [.agg ((rep 32 0#8).map w8), .bool false]
theorem stop_ok {s : List UInt8} {n : Nat} (h : okN s n = true) : fillL s n (stopN s n) = bytesN s n := by
  simp only [okN, decide_eq_true_eq] at h
  rw [stopN, if_pos h.1, h.2, fillL_all]
theorem stop_le (s : List UInt8) (n : Nat) : stopN s n ≤ n := by
  unfold stopN
  split
  · exact kN_le s n
  · omega
set_option maxRecDepth 20000 in
theorem runs_parsehalf (s : List UInt8) : Runs T36 a44 [.str s] (txD s 16) := by
  refine ⟨?_⟩
  have hc := fun o => c_unhex_eq (s := s) (n := 16) (o := o) (by decide) (by decide)
  by_cases h : okN s 16 = true
  · have hb : (bytesN s 16).take 16 = bytesN s 16 := List.take_of_length_le (by simp)
    simp (disch := first | omega | (simp [-List.map_take, -List.map_drop, -List.map_set, -List.map_append, -List.drop_one] <;> omega) | fail) [-List.map_take, -List.map_drop, -List.map_set, -List.map_append, -List.drop_one, a44, T36_unhex, hc, h, txD, stop_ok h, hb]
  · simp (disch := first | omega | (simp [-List.map_take, -List.map_drop, -List.map_set, -List.map_append, -List.drop_one] <;> omega) | fail) [-List.map_take, -List.map_drop, -List.map_set, -List.map_append, -List.drop_one, a44, T36_unhex, hc, h, txD]
set_option maxRecDepth 20000 in
theorem runs_parse (s : List UInt8) : Runs T36 a42 [.str s] (parseD s) := by
  refine ⟨?_⟩
  have hc := fun o => c_unhex_eq (s := s.drop 7) (n := 32) (o := o) (by decide) (by decide)
  have hcut := c_cut_eq (s := s) (p := sha)
  rw [cutD] at hcut
  by_cases hp : s.take 7 = sha
  · rw [if_pos (show s.take sha.length = sha from hp), sha] at hcut
    by_cases h : okN (s.drop 7) 32 = true
    · have hb : (bytesN (s.drop 7) 32).take 32 = bytesN (s.drop 7) 32 := List.take_of_length_le (by simp)
      simp (disch := first | omega | (simp [-List.map_take, -List.map_drop, -List.map_set, -List.map_append, -List.drop_one] <;> omega) | fail) [-List.map_take, -List.map_drop, -List.map_set, -List.map_append, -List.drop_one, a42, T36_unhex, T36_cut, hcut, hc, h, parseD, hp, txD, stop_ok h, hb]
    · simp (disch := first | omega | (simp [-List.map_take, -List.map_drop, -List.map_set, -List.map_append, -List.drop_one] <;> omega) | fail) [-List.map_take, -List.map_drop, -List.map_set, -List.map_append, -List.drop_one, a42, T36_unhex, T36_cut, hcut, hc, h, parseD, hp, txD]
  · rw [if_neg (show ¬ s.take sha.length = sha from hp), sha] at hcut
    simp (disch := first | omega | (simp [-List.map_take, -List.map_drop, -List.map_set, -List.map_append, -List.drop_one] <;> omega) | fail) [-List.map_take, -List.map_drop, -List.map_set, -List.map_append, -List.drop_one, a42, T36_unhex, T36_cut, hcut, parseD, hp]
end Go.Proofs.Ythkcgeokfcbllaa
