/-
  The law OnetimeApart.
-/
import Derived.Test.YthkcgeokfcbllaaUd
set_option linter.unusedSimpArgs false
set_option linter.unusedVariables false
namespace Go.Proofs.Ythkcgeokfcbllaa
open Go Go.Am

theorem getD_get {α : Type} {l : List α} {i : Nat} {x : α} (h : i < l.length) : l.getD i x = l[i] := by rw [List.getD_eq_getElem?_getD, List.getElem?_eq_getElem h]; rfl
/-- one chain at the least has a greater digit -/
def moreN (x y : List Int) : Nat → Bool
  | 0 => false
  | i + 1 => moreN x y i || decide (y.getD i 0 < x.getD i 0)
def sameN (d e : List B8) : Nat → Bool
  | 0 => true
  | i + 1 => sameN d e i && decide (d.getD i 0 = e.getD i 0)
def leL : List Int → List Int → Prop
  | x :: xs, y :: ys => x ≤ y ∧ leL xs ys
  | _, _ => True
theorem leL_of : ∀ {x y : List Int} {n : Nat}, x.length = n → y.length = n → (∀ k, k < n → x.getD k 0 ≤ y.getD k 0) → leL x y
  | [], _, _, _, _, _ => trivial
  | _ :: _, [], n, h1, h2, _ => by simp at h1 h2; omega
  | x :: xs, y :: ys, n, h1, h2, h => by
    refine ⟨by simpa using h 0 (by simp at h1; omega), leL_of (n := n - 1) (by simp at h1; omega) (by simp at h2; omega) fun k hk => ?_⟩
    simpa using h (k + 1) (by omega)
theorem moreN_false {x y : List Int} : ∀ {n : Nat}, moreN x y n = false → ∀ k, k < n → x.getD k 0 ≤ y.getD k 0
  | 0, _, k, hk => by omega
  | n + 1, h, k, hk => by
    simp [moreN] at h
    by_cases e : k = n
    · subst e; simpa using h.2
    · exact moreN_false h.1 k (by omega)
theorem leL_append : ∀ {a b c d : List Int}, a.length = c.length → leL (a ++ b) (c ++ d) → leL a c ∧ leL b d
  | [], b, [], d, _, h => ⟨trivial, h⟩
  | [], _, _ :: _, _, h, _ => by simp at h
  | _ :: _, _, [], _, h, _ => by simp at h
  | x :: a, b, y :: c, d, hl, h => by
    obtain ⟨h1, h2⟩ := leL_append (by simpa using hl) h.2
    exact ⟨⟨h.1, h1⟩, h2⟩
theorem gap_cons (x : Int) (l : List Int) : gap (x :: l) = 3 - x + gap l := by simp [gap]
theorem leL_gap : ∀ {a c : List Int}, a.length = c.length → leL a c → gap c ≤ gap a ∧ (gap c = gap a → a = c)
  | [], [], _, _ => ⟨Int.le_refl _, fun _ => rfl⟩
  | [], _ :: _, h, _ => by simp at h
  | _ :: _, [], h, _ => by simp at h
  | x :: a, y :: c, hl, h => by
    obtain ⟨h1, h2⟩ := leL_gap (a := a) (c := c) (by simpa using hl) h.2
    have h3 := h.1
    rw [gap_cons, gap_cons]
    refine ⟨by omega, fun e => ?_⟩
    rw [h2 (by omega), show x = y by omega]
theorem val_digB (b : B8) : 64 * dig b.toNat 0 + 16 * dig b.toNat 1 + 4 * dig b.toNat 2 + dig b.toNat 3 = (b.toNat : Int) := by
  have := b.isLt
  simp [dig]
  omega
theorem digB_inj {b c : B8} (h : digB b = digB c) : b = c := by
  have h1 := val_digB b
  have h2 := val_digB c
  simp only [digB, digL, List.cons.injEq, and_true] at h
  obtain ⟨a0, a1, a2, a3⟩ := h
  exact BitVec.eq_of_toNat_eq (by omega)
theorem leL_digB {b c : B8} (h : leL (digB b) (digB c)) : b.toNat ≤ c.toNat := by
  have h1 := val_digB b
  have h2 := val_digB c
  simp only [digB, digL, leL] at h
  omega
theorem msg_inj {d e : List B8} : ∀ {i : Nat}, i ≤ d.length → i ≤ e.length → msg d i = msg e i → d.take i = e.take i
  | 0, _, _, _ => by simp
  | i + 1, h1, h2, h => by
    rw [msg_succ (by omega), msg_succ (by omega)] at h
    obtain ⟨g1, g2⟩ := List.append_inj h (by rw [len_msg (by omega), len_msg (by omega)])
    rw [List.take_add_one, List.take_add_one, msg_inj (by omega) (by omega) g1, List.getElem?_eq_getElem h1, List.getElem?_eq_getElem h2, digB_inj g2]
theorem more_digits {d e : List B8} (hd : d.length = 32) (he : e.length = 32) (h : d.take 16 ≠ e.take 16) : moreN (digits d) (digits e) 68 = true := by
  by_cases hm : moreN (digits d) (digits e) 68 = true
  · exact hm
  exfalso
  have hl := leL_of (len_digits hd) (len_digits he) (moreN_false (by simpa using hm))
  obtain ⟨g1, g2⟩ := leL_append (by rw [len_msg (by omega), len_msg (by omega)]) hl
  obtain ⟨g3, g4⟩ := leL_gap (by rw [len_msg (by omega), len_msg (by omega)]) g1
  have g5 := leL_digB g2
  have r1 := gap_msg (d := d) (i := 16) (by omega)
  have r2 := gap_msg (d := e) (i := 16) (by omega)
  simp only [BitVec.toNat_ofInt] at g5
  exact h (msg_inj (by omega) (by omega) (g4 (by omega)))
theorem moreN_self (x : List Int) : ∀ n, moreN x x n = false
  | 0 => rfl
  | n + 1 => by simp [moreN, moreN_self x n]
theorem digits_same {d e : List B8} (h : d.take 16 = e.take 16) : digits d = digits e := by
  unfold digits msg
  rw [h]
theorem sameN_eq {d e : List B8} : ∀ {n : Nat}, n ≤ d.length → n ≤ e.length → sameN d e n = decide (d.take n = e.take n)
  | 0, _, _ => by simp [sameN]
  | n + 1, h1, h2 => by
    rw [sameN, sameN_eq (by omega) (by omega), ← Bool.decide_and]
    congr 1
    apply propext
    rw [List.take_add_one, List.take_add_one, List.getElem?_eq_getElem h1, List.getElem?_eq_getElem h2, getD_get h1, getD_get h2]
    constructor
    · rintro ⟨a, b⟩; rw [a, b]
    · intro h
      obtain ⟨a, b⟩ := List.append_inj h (by simp; omega)
      simp at b
      exact ⟨a, b⟩
theorem beq_iff {x y : B8} : (x == y) = decide (x = y) := by by_cases h : x = y <;> simp [h]
def S4a (d e : List B8) (i : Nat) : St := a4S0 (.mp 0 32 0) (.mp 1 32 0) (.bool (sameN d e i)) (.int .i64 i) [.cells (d.map w8), .cells (e.map w8)]
def S4b (d e : List B8) (s : Bool) (i : Nat) : St := a4S1 (.bool s) (.sl false 1 68 ((digits d).map (DV.int .i64))) (.sl false 1 68 ((digits e).map (DV.int .i64))) (.bool (moreN (digits d) (digits e) i)) (.bool (moreN (digits e) (digits d) i)) (.int .i64 i) [.cells (d.map w8), .cells (e.map w8)]
set_option maxRecDepth 20000 in
theorem runs_apart (d e : List B8) (hd : d.length = 32) (he : e.length = 32) : Runs T21 a4 [.agg (d.map w8), .agg (e.map w8)] (.bool true) := by
  refine ⟨?_⟩
  have hl := len_digits hd
  have hm := len_digits he
  simp (disch := first | omega | (simp [-List.map_take, -List.map_drop, -List.map_set, -List.map_append, -List.drop_one] <;> omega) | fail) [-List.map_take, -List.map_drop, -List.map_set, -List.map_append, -List.drop_one, a4, hd, he]
  refine W_loop (S4a d e) (fun i => 16 - i) (fun i => i ≤ 16) 0 (weak_same (by simp (disch := first | omega | (simp [-List.map_take, -List.map_drop, -List.map_set, -List.map_append, -List.drop_one] <;> omega) | fail) [-List.map_take, -List.map_drop, -List.map_set, -List.map_append, -List.drop_one, sameN]) (by simp (disch := first | omega | (simp [-List.map_take, -List.map_drop, -List.map_set, -List.map_append, -List.drop_one] <;> omega) | fail) [-List.map_take, -List.map_drop, -List.map_set, -List.map_append, -List.drop_one])) (by omega) (fun i hi => ?_)
  simp (disch := first | omega | (simp [-List.map_take, -List.map_drop, -List.map_set, -List.map_append, -List.drop_one] <;> omega) | fail) [-List.map_take, -List.map_drop, -List.map_set, -List.map_append, -List.drop_one, a4L0, a4S0, S4a]
  by_cases h : i < 16
  · have h1 : (i : Int) < 16 := by omega
    have hid : i < d.length := by omega
    have hie : i < e.length := by omega
    have hs : sameN d e (i + 1) = (sameN d e i && decide (d[i] = e[i])) := by rw [sameN, getD_get hid, getD_get hie]
    by_cases hb : sameN d e i = true
    · simp (disch := first | omega | (simp [-List.map_take, -List.map_drop, -List.map_set, -List.map_append, -List.drop_one] <;> omega) | fail) [-List.map_take, -List.map_drop, -List.map_set, -List.map_append, -List.drop_one, h1, hb, hd, he]
      refine ⟨i + 1, weak_same (by simp (disch := first | omega | (simp [-List.map_take, -List.map_drop, -List.map_set, -List.map_append, -List.drop_one] <;> omega) | fail) [-List.map_take, -List.map_drop, -List.map_set, -List.map_append, -List.drop_one, weakL, hs, hb, beq_iff]) (by simp (disch := first | omega | (simp [-List.map_take, -List.map_drop, -List.map_set, -List.map_append, -List.drop_one] <;> omega) | fail) [-List.map_take, -List.map_drop, -List.map_set, -List.map_append, -List.drop_one]), by omega, by omega⟩
    · have hb : sameN d e i = false := by simpa using hb
      simp (disch := first | omega | (simp [-List.map_take, -List.map_drop, -List.map_set, -List.map_append, -List.drop_one] <;> omega) | fail) [-List.map_take, -List.map_drop, -List.map_set, -List.map_append, -List.drop_one, h1, hb, hd, he]
      refine ⟨i + 1, weak_same (by simp (disch := first | omega | (simp [-List.map_take, -List.map_drop, -List.map_set, -List.map_append, -List.drop_one] <;> omega) | fail) [-List.map_take, -List.map_drop, -List.map_set, -List.map_append, -List.drop_one, weakL, hs, hb]) (by simp (disch := first | omega | (simp [-List.map_take, -List.map_drop, -List.map_set, -List.map_append, -List.drop_one] <;> omega) | fail) [-List.map_take, -List.map_drop, -List.map_set, -List.map_append, -List.drop_one]), by omega, by omega⟩
  · have h1 : ¬ (i : Int) < 16 := by omega
    obtain rfl : i = 16 := by omega
    generalize hs : sameN d e 16 = s
    simp (disch := first | omega | (simp [-List.map_take, -List.map_drop, -List.map_set, -List.map_append, -List.drop_one] <;> omega) | fail) [-List.map_take, -List.map_drop, -List.map_set, -List.map_append, -List.drop_one, h1, T21_digits, c_digits_eq, hd, he, hs]
    refine W_loop (S4b d e s) (fun i => 68 - i) (fun i => i ≤ 68) 0 (weak_same (by simp (disch := first | omega | (simp [-List.map_take, -List.map_drop, -List.map_set, -List.map_append, -List.drop_one] <;> omega) | fail) [-List.map_take, -List.map_drop, -List.map_set, -List.map_append, -List.drop_one, moreN]) (by simp (disch := first | omega | (simp [-List.map_take, -List.map_drop, -List.map_set, -List.map_append, -List.drop_one] <;> omega) | fail) [-List.map_take, -List.map_drop, -List.map_set, -List.map_append, -List.drop_one])) (by omega) (fun i hi => ?_)
    simp (disch := first | omega | (simp [-List.map_take, -List.map_drop, -List.map_set, -List.map_append, -List.drop_one] <;> omega) | fail) [-List.map_take, -List.map_drop, -List.map_set, -List.map_append, -List.drop_one, a4L1, a4S1, S4b]
    by_cases h : i < 68
    · have h1 : (i : Int) < 68 := by omega
      have hid : i < (digits d).length := by omega
      have hie : i < (digits e).length := by omega
      have hs1 : moreN (digits d) (digits e) (i + 1) = (moreN (digits d) (digits e) i || decide ((digits e)[i] < (digits d)[i])) := by rw [moreN, getD_get hid, getD_get hie]
      have hs2 : moreN (digits e) (digits d) (i + 1) = (moreN (digits e) (digits d) i || decide ((digits d)[i] < (digits e)[i])) := by rw [moreN, getD_get hid, getD_get hie]
      cases hb : moreN (digits d) (digits e) i <;> cases hc : moreN (digits e) (digits d) i
      all_goals
        simp (disch := first | omega | (simp [-List.map_take, -List.map_drop, -List.map_set, -List.map_append, -List.drop_one] <;> omega) | fail) [-List.map_take, -List.map_drop, -List.map_set, -List.map_append, -List.drop_one, h1, hb, hc, hl, hm]
        refine ⟨i + 1, weak_same (by simp (disch := first | omega | (simp [-List.map_take, -List.map_drop, -List.map_set, -List.map_append, -List.drop_one] <;> omega) | fail) [-List.map_take, -List.map_drop, -List.map_set, -List.map_append, -List.drop_one, weakL, hs1, hs2, hb, hc]) (by simp (disch := first | omega | (simp [-List.map_take, -List.map_drop, -List.map_set, -List.map_append, -List.drop_one] <;> omega) | fail) [-List.map_take, -List.map_drop, -List.map_set, -List.map_append, -List.drop_one]), by omega, by omega⟩
    · have h1 : ¬ (i : Int) < 68 := by omega
      obtain rfl : i = 68 := by omega
      rw [sameN_eq (by omega) (by omega)] at hs
      by_cases hq : d.take 16 = e.take 16
      · have : s = true := by rw [← hs]; simpa using hq
        simp (disch := first | omega | (simp [-List.map_take, -List.map_drop, -List.map_set, -List.map_append, -List.drop_one] <;> omega) | fail) [-List.map_take, -List.map_drop, -List.map_set, -List.map_append, -List.drop_one, h1, T21_awake, c_true_eq, digits_same hq, moreN_self, this]
      · have : s = false := by rw [← hs]; simpa using hq
        simp (disch := first | omega | (simp [-List.map_take, -List.map_drop, -List.map_set, -List.map_append, -List.drop_one] <;> omega) | fail) [-List.map_take, -List.map_drop, -List.map_set, -List.map_append, -List.drop_one, h1, T21_awake, c_true_eq, more_digits hd he hq, more_digits he hd (Ne.symm hq), this]
end Go.Proofs.Ythkcgeokfcbllaa
