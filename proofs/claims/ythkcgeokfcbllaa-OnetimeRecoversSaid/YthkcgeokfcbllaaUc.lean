/-
  The reference's Digits; awake; the laws OnetimeDigits and OnetimeApart.
-/
import Derived.Test.YthkcgeokfcbllaaUb
import Derived.Test.YthkcgeokfcbllaaAmY
set_option linter.unusedSimpArgs false
set_option linter.unusedVariables false
namespace Go.Proofs.Ythkcgeokfcbllaa
open Go Go.Am

theorem len_digits {d : List B8} (hd : d.length = 32) : (digits d).length = 68 := by
  unfold digits
  rw [List.length_append, len_msg (by omega), len_digB]
theorem sem_digits (d : List B8) (hd : d.length = 32) : Am.Sem P 16 [.agg (d.map w8)] (.sl false 1 68 ((digits d).map (DV.int .i64))) := sem_runs mix TU1_sound Try.func16 a16_ok (runs_digits d hd)
noncomputable def c_digits : List DV → Option DV := con (fun (d : List B8) => d.length = 32) (fun d => [.agg (d.map w8)]) (fun d => .sl false 1 68 ((digits d).map (DV.int .i64)))
theorem c_digits_eq {d : List B8} (hd : d.length = 32) : c_digits [.agg (d.map w8)] = some (.sl false 1 68 ((digits d).map (DV.int .i64))) :=
  con_eq' (a := d) (by intro a b _ _ e; simp only [List.cons.injEq, DV.agg.injEq, map_inj_w8, and_true] at e; rw [e]) hd
theorem take_digB (b : B8) (j : Nat) (h : j < 4) : (digB b).take (j + 1) = (digB b).take j ++ [dig b.toNat j] := by
  obtain rfl | rfl | rfl | rfl : j = 0 ∨ j = 1 ∨ j = 2 ∨ j = 3 := by omega
  all_goals rfl
theorem take_digL (n : Int) (j : Nat) (h : j < 4) : (digL n).take (j + 1) = (digL n).take j ++ [dig n j] := by
  obtain rfl | rfl | rfl | rfl : j = 0 ∨ j = 1 ∨ j = 2 ∨ j = 3 := by omega
  all_goals rfl
theorem gap_take (b : B8) (j : Nat) (h : j ≤ 4) : 0 ≤ gap ((digB b).take j) ∧ gap ((digB b).take j) ≤ 12 := by
  have h0 := dig_range b.toNat 0
  have h1 := dig_range b.toNat 1
  have h2 := dig_range b.toNat 2
  have h3 := dig_range b.toNat 3
  obtain rfl | rfl | rfl | rfl | rfl : j = 0 ∨ j = 1 ∨ j = 2 ∨ j = 3 ∨ j = 4 := by omega
  all_goals simp [gap, digB, digL]
  all_goals omega
theorem pow24 (j : Nat) : (2 : Int) ^ (2 * (3 - j)) = 4 ^ (3 - j) := by rw [Int.pow_mul]; rfl
abbrev oD (id : Nat) (o : List Int) : DV := ownD id 1 .nils o.length (o.map (DV.int .i64))
abbrev oH (o : List Int) : List AObj := ownH (o.map (DV.int .i64))
def S17a (d : List B8) (i : Nat) : St := a17S0 (.mp 0 32 0) (oD 1 (msg d i)) (.int .i64 (gap (msg d i))) (.int .i64 i) (.cells (d.map w8) :: oH (msg d i))
def S17b (d : List B8) (o : List Int) (i : Nat) : St := a17S1 (.mp 0 32 0) (oD 1 o) (.int .i64 (gap o)) (.int .i64 i) (.int .i64 0) (.cells (d.map w8) :: oH o)
def T17 (d : List B8) (b : B8) (i j : Nat) : St := a17S1 (.mp 0 32 0) (oD 1 (msg d i ++ (digB b).take j)) (.int .i64 (gap (msg d i) + gap ((digB b).take j))) (.int .i64 i) (.int .i64 (3 - j)) (.cells (d.map w8) :: oH (msg d i ++ (digB b).take j))
def S17c (d : List B8) (j : Nat) : St := a17S2 (oD 1 (msg d 16 ++ (digL (gap (msg d 16))).take j)) (.int .i64 (gap (msg d 16))) (.int .i64 (3 - j)) (.cells (d.map w8) :: oH (msg d 16 ++ (digL (gap (msg d 16))).take j))
def S17c' (d : List B8) (s : Int) (j : Nat) : St := a17S2 (oD 1 (msg d 16 ++ (digL s).take j)) (.int .i64 s) (.int .i64 (3 - j)) (.cells (d.map w8) :: oH (msg d 16 ++ (digL s).take j))
theorem oD_len {id n : Nat} {o : List Int} (h : o.length = n) : oD id o = ownD id 1 .nils n (o.map (DV.int .i64)) := by rw [oD, h]
set_option maxRecDepth 20000 in
set_option maxHeartbeats 1000000 in
theorem runs_refdigits (d : List B8) (hd : d.length = 32) : Runs tbl0 a17 [.agg (d.map w8)] (.sl false 1 68 ((digits d).map (DV.int .i64))) := by
  refine ⟨?_⟩
  simp (disch := first | omega | (simp [-List.map_take, -List.map_drop, -List.map_set, -List.map_append, -List.drop_one] <;> omega) | fail) [-List.map_take, -List.map_drop, -List.map_set, -List.map_append, -List.drop_one, a17, hd]
  refine W_loop (S17a d) (fun i => 16 - i) (fun i => i ≤ 16) 0 (weak_same (by simp (disch := first | omega | (simp [-List.map_take, -List.map_drop, -List.map_set, -List.map_append, -List.drop_one] <;> omega) | fail) [-List.map_take, -List.map_drop, -List.map_set, -List.map_append, -List.drop_one, msg, ownD, gap]) (by simp (disch := first | omega | (simp [-List.map_take, -List.map_drop, -List.map_set, -List.map_append, -List.drop_one] <;> omega) | fail) [-List.map_take, -List.map_drop, -List.map_set, -List.map_append, -List.drop_one, msg, ownH])) (by omega) (fun i hi => ?_)
  simp (disch := first | omega | (simp [-List.map_take, -List.map_drop, -List.map_set, -List.map_append, -List.drop_one] <;> omega) | fail) [-List.map_take, -List.map_drop, -List.map_set, -List.map_append, -List.drop_one, a17L0, a17S0, S17a]
  have hm := len_msg (d := d) (i := i) (by omega)
  have hg := gap_msg (d := d) (i := i) (by omega)
  by_cases h : i < 16
  · have h1 : (i : Int) < 16 := by omega
    have hdl : i < d.length := by omega
    simp (disch := first | omega | (simp [-List.map_take, -List.map_drop, -List.map_set, -List.map_append, -List.drop_one] <;> omega) | fail) [-List.map_take, -List.map_drop, -List.map_set, -List.map_append, -List.drop_one, h1]
    refine W_loop (T17 d (d[i]'hdl) i) (fun j => 4 - j) (fun j => j ≤ 4) 0 (weak_same (by simp (disch := first | omega | (simp [-List.map_take, -List.map_drop, -List.map_set, -List.map_append, -List.drop_one] <;> omega) | fail) [-List.map_take, -List.map_drop, -List.map_set, -List.map_append, -List.drop_one, gap]) (by simp (disch := first | omega | (simp [-List.map_take, -List.map_drop, -List.map_set, -List.map_append, -List.drop_one] <;> omega) | fail) [-List.map_take, -List.map_drop, -List.map_set, -List.map_append, -List.drop_one])) (by omega) (fun j hj => ?_)
    simp (disch := first | omega | (simp [-List.map_take, -List.map_drop, -List.map_set, -List.map_append, -List.drop_one] <;> omega) | fail) [-List.map_take, -List.map_drop, -List.map_set, -List.map_append, -List.drop_one, a17L1, a17S1, T17]
    have hb := (d[i]'hdl).isLt
    have hgt := gap_take (d[i]'hdl) j hj
    have hlt : ((digB (d[i]'hdl)).take j).length = j := by simp [len_digB]; omega
    by_cases h2 : j < 4
    · have h3 : (j : Int) ≤ 3 := by omega
      have e1 : ((2 : Int) * (3 - j)).toNat = 2 * (3 - j) := by omega
      have hdr := dig_range ((d[i]'hdl).toNat : Int) j
      have e2 : ((d[i]'hdl).toNat : Int) / 4 ^ (3 - j) % 4 = dig ((d[i]'hdl).toNat : Int) j := rfl
      have e3 : (0 : Int) ≤ ((d[i]'hdl).toNat : Int) / 4 ^ (3 - j) := Int.ediv_nonneg (by omega) (Int.le_of_lt (Int.pow_pos (by decide)))
      have e4 : ((d[i]'hdl).toNat : Int) / 4 ^ (3 - j) < 9223372036854775808 := by
        have := Int.ediv_le_self (a := ((d[i]'hdl).toNat : Int)) (4 ^ (3 - j)) (by omega)
        omega
      have et := take_digB (d[i]'hdl) j h2
      have hgp : gap ((digB (d[i]'hdl)).take (j + 1)) = gap ((digB (d[i]'hdl)).take j) + (3 - dig ((d[i]'hdl).toNat : Int) j) := by rw [et, gap_append, gap_one]
      simp (disch := first | omega | (simp [-List.map_take, -List.map_drop, -List.map_set, -List.map_append, -List.drop_one] <;> omega) | fail) [-List.map_take, -List.map_drop, -List.map_set, -List.map_append, -List.drop_one, h3, hd, e1, pow24, e2, hm, hlt]
      refine ⟨j + 1, weak_same (by simp (disch := first | omega | (simp [-List.map_take, -List.map_drop, -List.map_set, -List.map_append, -List.drop_one] <;> omega) | fail) [-List.map_take, -List.map_drop, -List.map_set, -List.map_append, -List.drop_one, weakL, et, hm, hlt, gap_append, gap_one] ; exact ⟨.inr (oD_len (by simp [hm, hlt]; omega)), by omega, by omega⟩) (by simp (disch := first | omega | (simp [-List.map_take, -List.map_drop, -List.map_set, -List.map_append, -List.drop_one] <;> omega) | fail) [-List.map_take, -List.map_drop, -List.map_set, -List.map_append, -List.drop_one, et]), by omega, by omega⟩
    · have h3 : ¬ (j : Int) ≤ 3 := by omega
      simp (disch := first | omega | (simp [-List.map_take, -List.map_drop, -List.map_set, -List.map_append, -List.drop_one] <;> omega) | fail) [-List.map_take, -List.map_drop, -List.map_set, -List.map_append, -List.drop_one, h3]
      obtain rfl : j = 4 := by omega
      have e4 : (digB (d[i]'hdl)).take 4 = digB (d[i]'hdl) := rfl
      refine ⟨i + 1, weak_same (by simp (disch := first | omega | (simp [-List.map_take, -List.map_drop, -List.map_set, -List.map_append, -List.drop_one] <;> omega) | fail) [-List.map_take, -List.map_drop, -List.map_set, -List.map_append, -List.drop_one, e4, msg_succ hdl, gap_append]) (by simp (disch := first | omega | (simp [-List.map_take, -List.map_drop, -List.map_set, -List.map_append, -List.drop_one] <;> omega) | fail) [-List.map_take, -List.map_drop, -List.map_set, -List.map_append, -List.drop_one, e4, msg_succ hdl]), by omega, by omega⟩
  · have h1 : ¬ (i : Int) < 16 := by omega
    obtain rfl : i = 16 := by omega
    simp (disch := first | omega | (simp [-List.map_take, -List.map_drop, -List.map_set, -List.map_append, -List.drop_one] <;> omega) | fail) [-List.map_take, -List.map_drop, -List.map_set, -List.map_append, -List.drop_one, h1]
    have hdg : digits d = msg d 16 ++ digL (gap (msg d 16)) := by
      unfold digits digB
      congr 2
      rw [BitVec.toNat_ofInt]
      omega
    rw [hdg]
    generalize gap (msg d 16) = s at *
    refine W_loop (fun j => S17c' d s j) (fun j => 4 - j) (fun j => j ≤ 4) 0 (weak_same (by simp (disch := first | omega | (simp [-List.map_take, -List.map_drop, -List.map_set, -List.map_append, -List.drop_one] <;> omega) | fail) [-List.map_take, -List.map_drop, -List.map_set, -List.map_append, -List.drop_one]) (by simp (disch := first | omega | (simp [-List.map_take, -List.map_drop, -List.map_set, -List.map_append, -List.drop_one] <;> omega) | fail) [-List.map_take, -List.map_drop, -List.map_set, -List.map_append, -List.drop_one])) (by omega) (fun j hj => ?_)
    simp (disch := first | omega | (simp [-List.map_take, -List.map_drop, -List.map_set, -List.map_append, -List.drop_one] <;> omega) | fail) [-List.map_take, -List.map_drop, -List.map_set, -List.map_append, -List.drop_one, a17L2, a17S2, S17c']
    have hlt : ((digL s).take j).length = j := by simp [digL]; omega
    by_cases h2 : j < 4
    · have h3 : (j : Int) ≤ 3 := by omega
      have e1 : ((2 : Int) * (3 - j)).toNat = 2 * (3 - j) := by omega
      have hdr := dig_range s j
      have e2 : s / 4 ^ (3 - j) % 4 = dig s j := rfl
      have e3 : (0 : Int) ≤ s / 4 ^ (3 - j) := Int.ediv_nonneg (by omega) (Int.le_of_lt (Int.pow_pos (by decide)))
      have e4 : s / 4 ^ (3 - j) < 9223372036854775808 := by
        have := Int.ediv_le_self (a := s) (4 ^ (3 - j)) (by omega)
        omega
      have et := take_digL s j h2
      simp (disch := first | omega | (simp [-List.map_take, -List.map_drop, -List.map_set, -List.map_append, -List.drop_one] <;> omega) | fail) [-List.map_take, -List.map_drop, -List.map_set, -List.map_append, -List.drop_one, h3, e1, pow24, e2, hm, hlt]
      refine ⟨j + 1, weak_same (by simp (disch := first | omega | (simp [-List.map_take, -List.map_drop, -List.map_set, -List.map_append, -List.drop_one] <;> omega) | fail) [-List.map_take, -List.map_drop, -List.map_set, -List.map_append, -List.drop_one, weakL, et, hm, hlt] ; exact ⟨.inr (oD_len (by simp [hm, hlt]; omega)), by omega⟩) (by simp (disch := first | omega | (simp [-List.map_take, -List.map_drop, -List.map_set, -List.map_append, -List.drop_one] <;> omega) | fail) [-List.map_take, -List.map_drop, -List.map_set, -List.map_append, -List.drop_one, et]), by omega, by omega⟩
    · have h3 : ¬ (j : Int) ≤ 3 := by omega
      obtain rfl : j = 4 := by omega
      have e4 : (digL s).take 4 = digL s := rfl
      have hne : (msg d 16 ++ digL s).map (DV.int .i64) ≠ [] := by simp [digL]
      have hl : (msg d 16 ++ digL s).length = 68 := by rw [List.length_append, hm]; rfl
      simp (disch := first | omega | (simp [-List.map_take, -List.map_drop, -List.map_set, -List.map_append, -List.drop_one] <;> omega) | fail) [-List.map_take, -List.map_drop, -List.map_set, -List.map_append, -List.drop_one, h3, e4, ownD_ne hne, ownH_ne hne, hl]
      exact List.take_of_length_le (by omega)
end Go.Proofs.Ythkcgeokfcbllaa
