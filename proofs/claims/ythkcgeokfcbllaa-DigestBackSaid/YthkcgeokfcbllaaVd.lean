/-
  The program's unhex; Parse and ParseHalf of both.
-/
import Derived.Test.YthkcgeokfcbllaaVc
set_option linter.unusedSimpArgs false
set_option linter.unusedVariables false
namespace Go.Proofs.Ythkcgeokfcbllaa
open Go Go.Am

def digs16 : List UInt8 := [48, 49, 50, 51, 52, 53, 54, 55, 56, 57, 97, 98, 99, 100, 101, 102]
theorem ixb_vl (c : B8) : Lib.indexByte digs16 c.toNat.toUInt8 = if vl c = 16 then -1 else vl c := by
  have h : ∀ n : Fin 256, Lib.indexByte digs16 (BitVec.ofNat 8 n.1).toNat.toUInt8 = if vl (BitVec.ofNat 8 n.1) = 16 then -1 else vl (BitVec.ofNat 8 n.1) := by decide +kernel
  have := h ⟨c.toNat, c.isLt⟩
  simpa using this
noncomputable def T35 : Tbl := addT 70 (.pure c_ixb) tbl0
theorem T35_ixb : T35 70 = .pure c_ixb := by simp [T35]
theorem T35_sound : T35.Sound P := addT_sound (con_sound fun a _ => sem_runs mix T31_sound Try.func70 a70_ok (runs_ixb a.1 a.2)) tbl0_sound
def fillL (s : List UInt8) (n i : Nat) : List B8 := bytesN s i ++ rep (n - i) 0#8
theorem fillL_0 (s : List UInt8) (n : Nat) : fillL s n 0 = rep n 0#8 := by simp [fillL, bytesN]
theorem len_fillL {s : List UInt8} {n i : Nat} (h : i ≤ n) : (fillL s n i).length = n := by simp [fillL, rep]; omega
theorem fillL_set {s : List UInt8} {n i : Nat} (h : i < n) : (fillL s n i).set i (byteAt s i) = fillL s n (i + 1) := by
  unfold fillL
  rw [List.set_append_right _ _ (by simp), bytesN_succ]
  obtain ⟨m, hm⟩ : ∃ m, n - i = m + 1 := ⟨n - i - 1, by omega⟩
  rw [hm, show n - (i + 1) = m by omega]
  simp [rep, List.replicate_succ]
theorem fillL_all {s : List UInt8} {n : Nat} : fillL s n n = bytesN s n := by simp [fillL, rep]
/-- where unhex stops -/
def stopN (s : List UInt8) (n : Nat) : Nat := if s.length = 2 * n then kN s n else 0
def okN (s : List UInt8) (n : Nat) : Bool := decide (s.length = 2 * n ∧ kN s n = n)
def S58 (s : List UInt8) (n : Nat) (o : AObj) (i : Nat) : St := a58S0 (.str s) (.ms 1 n 0 1 n n) (.int .i64 n) (.int .i64 i) [o, .cells ((fillL s n i).map w8)]
set_option maxRecDepth 20000 in
theorem runs_unhex (s : List UInt8) (n : Nat) (o : AObj) (h0 : 0 < n) (hn : n ≤ 1000) : RunsH T35 a58 [.str s, .ms 1 n 0 1 n n] [o, .cells ((rep n 0#8).map w8)] (.bool (okN s n)) [o, .cells ((fillL s n (stopN s n)).map w8)] := by
  refine ⟨?_⟩
  have hr : (rep n 0#8).length = n := by simp [rep]
  by_cases hs : s.length = 2 * n
  case neg =>
    have h1 : ¬ ((s.length : Int) = 2 * n) := by omega
    simp (disch := first | omega | (simp [-List.map_take, -List.map_drop, -List.map_set, -List.map_append, -List.drop_one] <;> omega) | fail) [-List.map_take, -List.map_drop, -List.map_set, -List.map_append, -List.drop_one, a58, h1, okN, stopN, hs, fillL_0, hr]
  have h1 : (s.length : Int) = 2 * n := by omega
  simp (disch := first | omega | (simp [-List.map_take, -List.map_drop, -List.map_set, -List.map_append, -List.drop_one] <;> omega) | fail) [-List.map_take, -List.map_drop, -List.map_set, -List.map_append, -List.drop_one, a58, h1, hr]
  refine W_loop (S58 s n o) (fun i => n - i) (fun i => i ≤ n ∧ kN s i = i) 0 (weak_same (by simp (disch := first | omega | (simp [-List.map_take, -List.map_drop, -List.map_set, -List.map_append, -List.drop_one] <;> omega) | fail) [-List.map_take, -List.map_drop, -List.map_set, -List.map_append, -List.drop_one]) (by simp (disch := first | omega | (simp [-List.map_take, -List.map_drop, -List.map_set, -List.map_append, -List.drop_one] <;> omega) | fail) [-List.map_take, -List.map_drop, -List.map_set, -List.map_append, -List.drop_one, fillL_0])) ⟨by omega, rfl⟩ (fun i ⟨hi, hk⟩ => ?_)
  have hlf := len_fillL (s := s) hi
  simp (disch := first | omega | (simp [-List.map_take, -List.map_drop, -List.map_set, -List.map_append, -List.drop_one] <;> omega) | fail) [-List.map_take, -List.map_drop, -List.map_set, -List.map_append, -List.drop_one, a58L0, a58S0, S58]
  by_cases h : i < n
  · have h2 : (i : Int) < n := by omega
    have e1 : ((2 : Int) * i).toNat = 2 * i := by omega
    have e2 : ((2 : Int) * i + 1).toNat = 2 * i + 1 := by omega
    have r1 := vl_range (ch s (2 * i))
    have r2 := vl_range (ch s (2 * i + 1))
    have b1 : 2 * i < s.length := by omega
    have b2 : 2 * i + 1 < s.length := by omega
    have g1 : (s[2 * i]'b1).toBitVec = ch s (2 * i) := by rw [ch, getD_at b1]
    have g2 : (s[2 * i + 1]'b2).toBitVec = ch s (2 * i + 1) := by rw [ch, getD_at b2]
    have x1 := ixb_vl (ch s (2 * i))
    have x2 := ixb_vl (ch s (2 * i + 1))
    have c1 := c_ixb_eq (s := digs16) (c := ch s (2 * i))
    have c2 := c_ixb_eq (s := digs16) (c := ch s (2 * i + 1))
    rw [x1, digs16] at c1
    rw [x2, digs16] at c2
    by_cases hg : good s i = true
    · have hg' := hg
      simp only [good, Bool.and_eq_true, decide_eq_true_eq] at hg'
      rw [if_neg hg'.1] at c1
      rw [if_neg hg'.2] at c2
      have p1 : ¬ vl (ch s (2 * i)) < 0 := by omega
      have p2 : ¬ vl (ch s (2 * i + 1)) < 0 := by omega
      simp (disch := first | omega | (simp [-List.map_take, -List.map_drop, -List.map_set, -List.map_append, -List.drop_one] <;> omega) | fail) [-List.map_take, -List.map_drop, -List.map_set, -List.map_append, -List.drop_one, h, h2, hs, e1, e2, g1, g2, T35_ixb, c1, c2, p1, p2, hlf]
      refine ⟨i + 1, weak_same (by simp (disch := first | omega | (simp [-List.map_take, -List.map_drop, -List.map_set, -List.map_append, -List.drop_one] <;> omega) | fail) [-List.map_take, -List.map_drop, -List.map_set, -List.map_append, -List.drop_one]) ?_, by omega, by omega, kN_go hk hg⟩
      rw [← fillL_set h]
      simp (disch := first | omega | (simp [-List.map_take, -List.map_drop, -List.map_set, -List.map_append, -List.drop_one] <;> omega) | fail) [-List.map_take, -List.map_drop, -List.map_set, -List.map_append, -List.drop_one, byteAt]
    · have hst := kN_stuck hk (by simpa using hg) n h
      have hin : ¬ i = n := by omega
      by_cases hg1 : vl (ch s (2 * i)) = 16
      · rw [if_pos hg1] at c1
        split at c2
        all_goals simp (disch := first | omega | (simp [-List.map_take, -List.map_drop, -List.map_set, -List.map_append, -List.drop_one] <;> omega) | fail) [-List.map_take, -List.map_drop, -List.map_set, -List.map_append, -List.drop_one, h, h2, hs, e1, e2, g1, g2, T35_ixb, c1, c2, okN, hin, stopN, hst]
      · by_cases hg2 : vl (ch s (2 * i + 1)) = 16
        · rw [if_neg hg1] at c1
          rw [if_pos hg2] at c2
          have p1 : ¬ vl (ch s (2 * i)) < 0 := by omega
          simp (disch := first | omega | (simp [-List.map_take, -List.map_drop, -List.map_set, -List.map_append, -List.drop_one] <;> omega) | fail) [-List.map_take, -List.map_drop, -List.map_set, -List.map_append, -List.drop_one, h, h2, hs, e1, e2, g1, g2, T35_ixb, c1, c2, p1, okN, hin, stopN, hst]
        · simp [good, hg1, hg2] at hg
  · have h2 : ¬ (i : Int) < n := by omega
    obtain rfl : i = n := by omega
    simp (disch := first | omega | (simp [-List.map_take, -List.map_drop, -List.map_set, -List.map_append, -List.drop_one] <;> omega) | fail) [-List.map_take, -List.map_drop, -List.map_set, -List.map_append, -List.drop_one, h2, okN, hs, hk, stopN]
end Go.Proofs.Ythkcgeokfcbllaa
