/-
  unhex, of the program and of the reference.
-/
import Derived.Test.YthkcgeokfcbllaaVb
set_option linter.unusedSimpArgs false
set_option linter.unusedVariables false
namespace Go.Proofs.Ythkcgeokfcbllaa
open Go Go.Am

theorem getD_at {α : Type} {l : List α} {i : Nat} {x : α} (h : i < l.length) : l.getD i x = l[i] := by rw [List.getD_eq_getElem?_getD, List.getElem?_eq_getElem h]; rfl
def ch (s : List UInt8) (j : Nat) : B8 := (s.getD j 0).toBitVec
def good (s : List UInt8) (i : Nat) : Bool := decide (vl (ch s (2 * i)) ≠ 16) && decide (vl (ch s (2 * i + 1)) ≠ 16)
def byteAt (s : List UInt8) (i : Nat) : B8 := BitVec.ofInt 8 (16 * vl (ch s (2 * i)) + vl (ch s (2 * i + 1)))
/-- how many bytes stand at the front of a string, n at the most -/
def kN (s : List UInt8) : Nat → Nat
  | 0 => 0
  | i + 1 => if kN s i = i ∧ good s i = true then i + 1 else kN s i
theorem kN_le (s : List UInt8) : ∀ n, kN s n ≤ n
  | 0 => Nat.le_refl _
  | n + 1 => by
    rw [kN]
    split
    · omega
    · have := kN_le s n; omega
theorem kN_go {s : List UInt8} {i : Nat} (h : kN s i = i) (hg : good s i = true) : kN s (i + 1) = i + 1 := by rw [kN, if_pos ⟨h, hg⟩]
theorem kN_stuck {s : List UInt8} {i : Nat} (h : kN s i = i) (hg : good s i = false) : ∀ n, i < n → kN s n = i
  | 0, hn => by omega
  | n + 1, hn => by
    rw [kN]
    by_cases e : i = n
    · subst e; rw [if_neg (by simp [hg])]; exact h
    · have := kN_stuck h hg n (by omega)
      rw [if_neg (by rintro ⟨a, _⟩; omega)]; exact this
def bytesN (s : List UInt8) (i : Nat) : List B8 := (List.range i).map (byteAt s)
theorem bytesN_succ (s : List UInt8) (i : Nat) : bytesN s (i + 1) = bytesN s i ++ [byteAt s i] := by simp [bytesN, List.range_succ]
theorem len_bytesN (s : List UInt8) (i : Nat) : (bytesN s i).length = i := by simp [bytesN]
attribute [simp] len_bytesN
theorem vl_range (c : B8) : 0 ≤ vl c ∧ vl c ≤ 16 := by
  have h : ∀ n : Fin 256, 0 ≤ vl (BitVec.ofNat 8 n.1) ∧ vl (BitVec.ofNat 8 n.1) ≤ 16 := by decide +kernel
  have := h ⟨c.toNat, c.isLt⟩
  simpa using this
noncomputable def c_value : List DV → Option DV := con (fun (_ : B8) => True) (fun c => [w8 c]) (fun c => .int .i64 (vl c))
theorem c_value_eq {c : B8} : c_value [w8 c] = some (.int .i64 (vl c)) :=
  con_eq' (a := c) (by intro a b _ _ e; simp only [List.cons.injEq, inj_w8, and_true] at e; rw [e]) trivial
noncomputable def T34 : Tbl := addT 71 (.pure c_value) tbl0
theorem T34_value : T34 71 = .pure c_value := by simp [T34]
theorem T34_sound : T34.Sound P := addT_sound (con_sound fun c _ => sem_runs mix tbl0_sound Try.func71 a71_ok (runs_value c)) tbl0_sound
/-- what the reference's unhex returns -/
def unD (s : List UInt8) (n : Nat) : DV := if s.length = 2 * n ∧ kN s n = n then .tup [.sl false 1 n ((bytesN s n).map w8), .bool true] else .tup [.nils, .bool false]
def S59 (s : List UInt8) (n i : Nat) : St := a59S0 (.str s) (.int .i64 n) (ownD 0 1 .nils i ((bytesN s i).map w8)) (.int .i64 i) (ownH ((bytesN s i).map w8))
set_option maxRecDepth 20000 in
theorem runs_refunhex (s : List UInt8) (n : Nat) (h0 : 0 < n) (hn : n ≤ 1000) : Runs T34 a59 [.str s, .int .i64 n] (unD s n) := by
  refine ⟨?_⟩
  by_cases hs : s.length = 2 * n
  case neg =>
    have h1 : ¬ ((s.length : Int) = 2 * n) := by omega
    simp (disch := first | omega | (simp [-List.map_take, -List.map_drop, -List.map_set, -List.map_append, -List.drop_one] <;> omega) | fail) [-List.map_take, -List.map_drop, -List.map_set, -List.map_append, -List.drop_one, a59, h1, unD, hs]
  have h1 : (s.length : Int) = 2 * n := by omega
  simp (disch := first | omega | (simp [-List.map_take, -List.map_drop, -List.map_set, -List.map_append, -List.drop_one] <;> omega) | fail) [-List.map_take, -List.map_drop, -List.map_set, -List.map_append, -List.drop_one, a59, h1]
  refine W_loop (S59 s n) (fun i => n - i) (fun i => i ≤ n ∧ kN s i = i) 0 (weak_same (by simp (disch := first | omega | (simp [-List.map_take, -List.map_drop, -List.map_set, -List.map_append, -List.drop_one] <;> omega) | fail) [-List.map_take, -List.map_drop, -List.map_set, -List.map_append, -List.drop_one, ownD, bytesN]) (by simp (disch := first | omega | (simp [-List.map_take, -List.map_drop, -List.map_set, -List.map_append, -List.drop_one] <;> omega) | fail) [-List.map_take, -List.map_drop, -List.map_set, -List.map_append, -List.drop_one, ownH, bytesN])) ⟨by omega, rfl⟩ (fun i ⟨hi, hk⟩ => ?_)
  simp (disch := first | omega | (simp [-List.map_take, -List.map_drop, -List.map_set, -List.map_append, -List.drop_one] <;> omega) | fail) [-List.map_take, -List.map_drop, -List.map_set, -List.map_append, -List.drop_one, a59L0, a59S0, S59]
  by_cases h : i < n
  · have h2 : (i : Int) < n := by omega
    have e1 : ((2 : Int) * i).toNat = 2 * i := by omega
    have e2 : ((2 : Int) * i + 1).toNat = 2 * i + 1 := by omega
    have r1 := vl_range (ch s (2 * i))
    have r2 := vl_range (ch s (2 * i + 1))
    have b1 : 2 * i < s.length := by omega
    have b2 : 2 * i + 1 < s.length := by omega
    have g1 : (s[2 * i]'b1).toBitVec = ch s (2 * i) := by rw [ch, getD_at b1]
    have g2 : (s[2 * i + 1]'b2).toBitVec = ch s (2 * i + 1) := by rw [ch, getD_at b2]
    by_cases hg : good s i = true
    · have hg' := hg
      simp only [good, Bool.and_eq_true, decide_eq_true_eq] at hg'
      simp (disch := first | omega | (simp [-List.map_take, -List.map_drop, -List.map_set, -List.map_append, -List.drop_one] <;> omega) | fail) [-List.map_take, -List.map_drop, -List.map_set, -List.map_append, -List.drop_one, h, h2, hs, e1, e2, g1, g2, T34_value, c_value_eq, hg'.1, hg'.2]
      refine ⟨i + 1, weak_same (by simp (disch := first | omega | (simp [-List.map_take, -List.map_drop, -List.map_set, -List.map_append, -List.drop_one] <;> omega) | fail) [-List.map_take, -List.map_drop, -List.map_set, -List.map_append, -List.drop_one, bytesN_succ, byteAt]) (by simp (disch := first | omega | (simp [-List.map_take, -List.map_drop, -List.map_set, -List.map_append, -List.drop_one] <;> omega) | fail) [-List.map_take, -List.map_drop, -List.map_set, -List.map_append, -List.drop_one, bytesN_succ, byteAt]), by omega, by omega, kN_go hk hg⟩
    · have hst := kN_stuck hk (by simpa using hg) n h
      have hne : ¬ kN s n = n := by omega
      by_cases hg1 : vl (ch s (2 * i)) = 16
      · simp (disch := first | omega | (simp [-List.map_take, -List.map_drop, -List.map_set, -List.map_append, -List.drop_one] <;> omega) | fail) [-List.map_take, -List.map_drop, -List.map_set, -List.map_append, -List.drop_one, h, h2, hs, e1, e2, g1, g2, T34_value, c_value_eq, hg1, unD, hne]
      · by_cases hg2 : vl (ch s (2 * i + 1)) = 16
        · simp (disch := first | omega | (simp [-List.map_take, -List.map_drop, -List.map_set, -List.map_append, -List.drop_one] <;> omega) | fail) [-List.map_take, -List.map_drop, -List.map_set, -List.map_append, -List.drop_one, h, h2, hs, e1, e2, g1, g2, T34_value, c_value_eq, hg1, hg2, unD, hne]
        · simp [good, hg1, hg2] at hg
  · have h2 : ¬ (i : Int) < n := by omega
    obtain rfl : i = n := by omega
    have hne : (bytesN s i).map w8 ≠ [] := by intro e; have := congrArg List.length e; simp at this; omega
    have ht : (bytesN s i).take i = bytesN s i := List.take_of_length_le (by simp)
    simp (disch := first | omega | (simp [-List.map_take, -List.map_drop, -List.map_set, -List.map_append, -List.drop_one] <;> omega) | fail) [-List.map_take, -List.map_drop, -List.map_set, -List.map_append, -List.drop_one, h2, ownD_ne hne, ownH_ne hne, unD, hs, hk, ht]
end Go.Proofs.Ythkcgeokfcbllaa
