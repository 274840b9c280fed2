/-
  Patterns: the reference's automaton computes the same; literals; what is joined.
-/
import Derived.Test.YtjjcdmjgbbaliaaDoorPa
set_option linter.unusedSimpArgs false
set_option linter.unusedVariables false
namespace Go.Proofs.YtjjcdmjgbbaliaaDoor
open Go Go.Am

theorem take_snoc {α : Type} {d : List α} {i : Nat} (h : i < d.length) : d.take (i + 1) = d.take i ++ [d[i]] := by rw [List.take_add_one, List.getElem?_eq_getElem h]; rfl
/-- the reference's positions -/
def R (l : List Pt) (s : List UInt8) (k i : Nat) : Bool := if (l.getD k .dot).long then M l s (k + 1) i else M l s k i
def nx (a tk lg : Nat → Bool) : Nat → Nat → Bool
  | 0, _ => false
  | k + 1, j => nx a tk lg k j || (a k && tk k && (j == if lg k then k else k + 1))
def fin (b lg : Nat → Bool) : Nat → Bool
  | 0 => b 0
  | j + 1 => b (j + 1) || (fin b lg j && lg j)
def ep (b lg : Nat → Bool) (k j : Nat) : Bool := if j ≤ k then fin b lg j else b j
theorem nx_zero (a tk lg : Nat → Bool) : ∀ k, nx a tk lg k 0 = (decide (0 < k) && lg 0 && a 0 && tk 0)
  | 0 => by simp [nx]
  | k + 1 => by
    rw [nx, nx_zero a tk lg k]
    by_cases hk : k = 0
    · subst hk; cases lg 0 <;> cases a 0 <;> cases tk 0 <;> simp
    · have h0 : 0 < k := by omega
      cases hl : lg k <;> cases a k <;> cases tk k <;> simp [h0, Ne.symm hk]
theorem nx_succ (a tk lg : Nat → Bool) (j : Nat) : ∀ k, nx a tk lg k (j + 1) = ((decide (j + 1 < k) && lg (j + 1) && a (j + 1) && tk (j + 1)) || (decide (j < k) && !lg j && a j && tk j))
  | 0 => by simp [nx]
  | k + 1 => by
    rw [nx, nx_succ a tk lg j k]
    by_cases h1 : k = j + 1
    · subst h1
      have e0 : j < j + 1 + 1 := by omega
      cases lg (j + 1) <;> cases a (j + 1) <;> cases tk (j + 1) <;> cases lg j <;> cases a j <;> cases tk j <;> simp [e0]
    · by_cases h2 : k = j
      · subst h2
        have e0 : ¬ k + 1 < k := by omega
        cases lg k <;> cases a k <;> cases tk k <;> simp [e0]
      · have e1 : decide (j + 1 < k + 1) = decide (j < k) := by simp
        have e2 : decide (j < k + 1) = decide (j < k) := by simp; omega
        have e3 : decide (j + 1 < k) = decide (j < k) := by simp; omega
        have e4 : (j + 1 == if lg k then k else k + 1) = false := by cases lg k <;> simp <;> omega
        rw [e1, e2, e3, e4]; simp
theorem R_step {l : List Pt} {s : List UInt8} {i : Nat} (a tk lg : Nat → Bool) (ha : ∀ k, k ≤ l.length → a k = R l s k i) (ht : ∀ k, k < l.length → tk k = (l.getD k .dot).takes (bAt s i)) (hl : ∀ k, k < l.length → lg k = (l.getD k .dot).long) :
    ∀ j, j ≤ l.length → fin (nx a tk lg l.length) lg j = R l s j (i + 1)
  | 0, _ => by
    rw [fin, nx_zero]
    by_cases h0 : 0 < l.length
    · rw [ha 0 (by omega), ht 0 h0, hl 0 h0]
      unfold R
      cases h : (l.getD 0 .dot).long with
      | false => simp [M_zero]
      | true => simp only [h, if_true, M_long h, M_zero]; simp [h0]
    · have e : (l.getD 0 .dot) = .dot := by rw [List.getD_eq_getElem?_getD, List.getElem?_eq_none (by omega)]; rfl
      simp only [R, e]; simp [h0, Pt.long, M_zero]
  | j + 1, hj => by
    have ih := R_step a tk lg ha ht hl j (by omega)
    have hj' : j < l.length := by omega
    rw [fin, nx_succ, ih, ha j (by omega), ht j hj', hl j hj']
    have e1 : M l s (j + 1) (i + 1) = ((R l s j (i + 1) && (l.getD j .dot).long) || (!(l.getD j .dot).long && R l s j i && (l.getD j .dot).takes (bAt s i))) := by
      unfold R
      cases h : (l.getD j .dot).long with
      | false => simp [M_short h]
      | true => simp
    by_cases h1 : j + 1 < l.length
    · rw [ha (j + 1) (by omega), ht (j + 1) h1, hl (j + 1) h1]
      cases h : (l.getD (j + 1) .dot).long with
      | false =>
        have : R l s (j + 1) (i + 1) = M l s (j + 1) (i + 1) := by rw [R, if_neg (by rw [h]; simp)]
        rw [this, e1]
        cases (l.getD j .dot).long <;> cases R l s j (i + 1) <;> cases R l s j i <;> simp [hj']
      | true =>
        have : R l s (j + 1) (i + 1) = (M l s (j + 1) (i + 1) || (R l s (j + 1) i && (l.getD (j + 1) .dot).takes (bAt s i))) := by simp only [R, h, if_true]; exact M_long h
        rw [this, e1]
        cases (l.getD j .dot).long <;> cases R l s j (i + 1) <;> cases R l s j i <;> cases R l s (j + 1) i <;> cases (l.getD (j + 1) .dot).takes (bAt s i) <;> simp [hj', h1]
    · have e : (l.getD (j + 1) .dot) = .dot := by rw [List.getD_eq_getElem?_getD, List.getElem?_eq_none (by omega)]; rfl
      have : R l s (j + 1) (i + 1) = M l s (j + 1) (i + 1) := by simp only [R, e]; simp [Pt.long]
      rw [this, e1]
      cases (l.getD j .dot).long <;> cases R l s j (i + 1) <;> cases R l s j i <;> simp [hj', h1]
theorem R_last (l : List Pt) (s : List UInt8) (i : Nat) : R l s l.length i = M l s l.length i := by
  have e : (l.getD l.length .dot) = .dot := by rw [List.getD_eq_getElem?_getD, List.getElem?_eq_none (by omega)]; rfl
  simp only [R, e]; simp [Pt.long]
/-- before any byte: the first parts, as long as they stand for sequences -/
theorem M_init {l : List Pt} {s : List UInt8} {k : Nat} (h : ∀ i, i < k → (l.getD i .dot).long = true) : M l s k 0 = true := by
  induction k with
  | zero => rfl
  | succ k ih => rw [M_first, h k (by omega), ih (fun i hi => h i (by omega))]; rfl
theorem M_init_no {l : List Pt} {s : List UInt8} {k : Nat} (h : (l.getD k .dot).long = false) : ∀ j, k < j → M l s j 0 = false
  | 0, hj => by omega
  | j + 1, hj => by
    rw [M_first]
    by_cases e : j = k
    · subst e; rw [h]; rfl
    · rw [M_init_no h j (by omega)]; simp
theorem R_init {l : List Pt} {s : List UInt8} {k : Nat} (hk : ∀ i, i < k → (l.getD i .dot).long = true) (h : (l.getD k .dot).long = false) (j : Nat) : R l s j 0 = decide (j ≤ k) := by
  unfold R
  by_cases hj : j ≤ k
  · have h1 := M_init (s := s) (k := j) (fun i hi => hk i (by omega))
    split
    · rename_i hl; rw [M_first, hl, h1]; simp [hj]
    · rw [h1]; simp [hj]
  · split
    · rw [M_init_no h (j + 1) (by omega)]; simp [hj]
    · rw [M_init_no h j (by omega)]; simp [hj]

/-! "**" and "*" -/
theorem M_all (s : List UInt8) : ∀ i, M [.whole] s 1 i = true
  | 0 => rfl
  | i + 1 => by
    rw [M_long (k := 0) (by rfl), M_all s i]
    simp [Pt.takes]
theorem M_star (s : List UInt8) : ∀ i, i ≤ s.length → M [.some] s 1 i = !((s.take i).contains 47)
  | 0, _ => rfl
  | i + 1, h => by
    rw [M_long (k := 0) (by rfl), M_star s i (by omega), M_zero, List.take_add_one, List.getElem?_eq_getElem (by omega)]
    have : bAt s i = s[i].toBitVec := by simp [bAt, List.getD_eq_getElem?_getD, List.getElem?_eq_getElem (show i < s.length by omega)]
    simp only [List.getD_cons_zero, Pt.takes, this]
    have e : (s[i].toBitVec != 47#8) = !(decide (s[i] = 47)) := by
      by_cases hc : s[i] = 47
      · rw [hc]; rfl
      · have : s[i].toBitVec ≠ 47#8 := fun e => hc (UInt8.toBitVec_inj.1 e)
        simp [hc, this]
    rw [e]
    by_cases h1 : 47 ∈ s.take i
    · simp [-List.take_append_getElem, List.contains_eq_mem, h1]
    · by_cases h2 : s[i] = 47
      · simp [-List.take_append_getElem, List.contains_eq_mem, h1, h2]
      · have h2' : ¬ 47 = s[i] := fun e => h2 e.symm
        simp [-List.take_append_getElem, List.contains_eq_mem, h1, h2, h2']

/-! literals -/
def litC (c : UInt8) : List UInt8 := if c = 92 ∨ c = 42 ∨ c = 63 then [92, c] else [c]
def litS (s : List UInt8) : List UInt8 := s.flatMap litC
def ones (s : List UInt8) : List Pt := s.map fun c => .one c.toBitVec
theorem tb_ne {c : UInt8} {n : UInt8} (h : c ≠ n) : c.toBitVec ≠ n.toBitVec := fun e => h (UInt8.toBitVec_inj.1 e)
theorem prs_plain {c : UInt8} (h1 : c ≠ 92) (h2 : c ≠ 42) (h3 : c ≠ 63) (r : List UInt8) : prs (c :: r) = (prs r).map fun l => .one c.toBitVec :: l := by
  have g1 : c.toBitVec ≠ 92#8 := tb_ne h1
  have g2 : c.toBitVec ≠ 42#8 := tb_ne h2
  have g3 : c.toBitVec ≠ 63#8 := tb_ne h3
  rw [prs.eq_def]; simp [g1, g2, g3]
theorem prs_esc (c : UInt8) (r : List UInt8) : prs (92 :: c :: r) = (prs r).map fun l => .one c.toBitVec :: l := by
  rw [prs.eq_def]; simp
theorem prs_lit : ∀ (s r : List UInt8), prs (litS s ++ r) = (prs r).map fun l => ones s ++ l
  | [], r => by cases h : prs r <;> simp [litS, ones, h]
  | c :: s, r => by
    have ih := prs_lit s r
    have e : litS (c :: s) ++ r = litC c ++ (litS s ++ r) := by simp [litS]
    rw [e]
    by_cases h : c = 92 ∨ c = 42 ∨ c = 63
    · rw [litC, if_pos h]
      show prs (92 :: c :: (litS s ++ r)) = _
      rw [prs_esc, ih]
      cases prs r <;> simp [ones]
    · rw [litC, if_neg h]
      simp only [not_or] at h
      show prs (c :: (litS s ++ r)) = _
      rw [prs_plain h.1 h.2.1 h.2.2, ih]
      cases prs r <;> simp [ones]
theorem prs_lit' (s : List UInt8) : prs (litS s) = .some (ones s) := by
  have := prs_lit s []
  simpa [prs] using this
theorem noZ_app (a b : List UInt8) : noZ (a ++ b) = (noZ a && noZ b) := by simp [noZ]
theorem noZ_lit : ∀ (s : List UInt8), noZ (litS s) = noZ s
  | [] => rfl
  | c :: s => by
    have e : litS (c :: s) = litC c ++ litS s := by simp [litS]
    have e2 : noZ (c :: s) = (c != 0 && noZ s) := by simp [noZ]
    rw [e, noZ_app, noZ_lit s, e2]
    by_cases h : c = 92 ∨ c = 42 ∨ c = 63
    · rw [litC, if_pos h]; simp [noZ]
    · rw [litC, if_neg h]; simp [noZ]
theorem len_litC (c : UInt8) : 1 ≤ (litC c).length ∧ (litC c).length ≤ 2 := by
  unfold litC; split <;> simp
theorem len_litS : ∀ (s : List UInt8), s.length ≤ (litS s).length ∧ (litS s).length ≤ 2 * s.length
  | [] => by simp [litS]
  | c :: s => by
    have e : litS (c :: s) = litC c ++ litS s := by simp [litS]
    have := len_litC c
    have := len_litS s
    rw [e]; simp; omega
theorem litS_succ {s : List UInt8} {i : Nat} (h : i < s.length) : litS (s.take (i + 1)) = litS (s.take i) ++ litC s[i] := by
  unfold litS
  rw [List.take_add_one, List.getElem?_eq_getElem h, List.flatMap_append]
  simp
theorem bAt_get {s : List UInt8} {i : Nat} (h : i < s.length) : bAt s i = s[i].toBitVec := by simp [bAt, List.getD_eq_getElem?_getD, List.getElem?_eq_getElem h]
theorem M_ones (s o : List UInt8) : ∀ k i, k ≤ s.length → i ≤ o.length → M (ones s) o k i = (decide (k = i) && decide (s.take k = o.take i))
  | 0, i, _, _ => by rw [M_zero]; cases i <;> simp
  | k + 1, 0, hk, _ => by
    rw [M_first]
    have : ((ones s).getD k .dot).long = false := by
      rw [List.getD_eq_getElem?_getD]; simp [ones]
      rw [List.getElem?_eq_getElem (by omega)]; rfl
    rw [this]; simp
  | k + 1, i + 1, hk, hi => by
    have e1 : (ones s).getD k .dot = .one s[k].toBitVec := by
      rw [List.getD_eq_getElem?_getD]; simp [ones]
      rw [List.getElem?_eq_getElem (by omega)]; rfl
    rw [M_short (by rw [e1]; rfl), e1, M_ones s o k i (by omega) (by omega), bAt_get (by omega)]
    simp only [Pt.takes]
    by_cases hki : k = i
    · subst hki
      have h1 := take_snoc (d := s) (i := k) (by omega)
      have h2 := take_snoc (d := o) (i := k) (by omega)
      rw [h1, h2]
      by_cases he : s.take k = o.take k
      · rw [he]
        by_cases hc : s[k] = o[k]
        · simp [hc]
        · have : o[k].toBitVec ≠ s[k].toBitVec := fun e => hc (UInt8.toBitVec_inj.1 e).symm
          simp [-List.take_append_getElem, hc, this]
      · have : s.take k ++ [s[k]] ≠ o.take k ++ [o[k]] := fun e => he (List.append_inj_left' e rfl)
        simp [-List.take_append_getElem, he, this]
    · simp [hki]
theorem M_lit (s o : List UInt8) : M (ones s) o s.length o.length = decide (s = o) := by
  rw [M_ones s o _ _ (Nat.le_refl _) (Nat.le_refl _), List.take_length, List.take_length]
  by_cases h : s = o
  · subst h; simp
  · simp [h]
theorem len_ones (s : List UInt8) : (ones s).length = s.length := by simp [ones]

/-! a literal before -/
theorem M_pre {q : List UInt8} {l : List Pt} {s : List UInt8} : ∀ k i, k ≤ q.length → M (ones q ++ l) (q ++ s) k i = decide (k = i)
  | 0, i, _ => by rw [M_zero]; cases i <;> simp
  | k + 1, 0, hk => by
    have e1 : (ones q ++ l).getD k .dot = .one q[k].toBitVec := by
      rw [List.getD_eq_getElem?_getD, List.getElem?_append_left (by simp [ones]; omega)]; simp [ones]
      rw [List.getElem?_eq_getElem (by omega)]; rfl
    rw [M_first, e1]; simp [Pt.long]
  | k + 1, i + 1, hk => by
    have e1 : (ones q ++ l).getD k .dot = .one q[k].toBitVec := by
      rw [List.getD_eq_getElem?_getD, List.getElem?_append_left (by simp [ones]; omega)]; simp [ones]
      rw [List.getElem?_eq_getElem (by omega)]; rfl
    rw [M_short (by rw [e1]; rfl), e1, M_pre k i (by omega)]
    by_cases hki : k = i
    · subst hki
      have : bAt (q ++ s) k = q[k].toBitVec := by
        rw [bAt_get (by simp; omega), List.getElem_append_left (by omega)]
      simp [Pt.takes, this]
    · simp [hki]
theorem getD_after {α : Type} {a b : List α} {k n : Nat} {d : α} (h : a.length = n) : (a ++ b).getD (n + k) d = b.getD k d := by
  subst h
  rw [List.getD_eq_getElem?_getD, List.getD_eq_getElem?_getD, List.getElem?_append_right (by omega)]
  simp
theorem M_join {q : List UInt8} {l : List Pt} {s : List UInt8} (h0 : 0 < q.length) : ∀ k i, M (ones q ++ l) (q ++ s) (q.length + k) i = if i < q.length then false else M l s k (i - q.length)
  | 0, i => by
    rw [Nat.add_zero, M_pre _ _ (Nat.le_refl _), M_zero]
    by_cases h : i < q.length
    · rw [if_pos h]; simp; omega
    · rw [if_neg h]
      by_cases e : q.length = i
      · simp [e]
      · have : ¬ i - q.length = 0 := by omega
        simp [e, this]
  | k + 1, 0 => by
    rw [if_pos h0]
    show M _ _ (q.length + k + 1) 0 = false
    rw [M_first, M_join h0 k 0, if_pos h0]; simp
  | k + 1, i + 1 => by
    have e1 : (ones q ++ l).getD (q.length + k) .dot = l.getD k .dot := getD_after (len_ones q)
    show M _ _ (q.length + k + 1) (i + 1) = _
    have ih1 := M_join (l := l) (s := s) h0 k (i + 1)
    have ih2 := M_join (l := l) (s := s) h0 k i
    have ih3 := M_join (l := l) (s := s) h0 (k + 1) i
    have ih3 : M (ones q ++ l) (q ++ s) (q.length + k + 1) i = if i < q.length then false else M l s (k + 1) (i - q.length) := ih3
    have hb : q.length ≤ i → bAt (q ++ s) i = bAt s (i - q.length) := by
      intro h
      obtain ⟨m, rfl⟩ : ∃ m, i = q.length + m := ⟨i - q.length, by omega⟩
      simp only [bAt]
      rw [getD_after rfl]; simp
    cases hl : (l.getD k .dot).long with
    | true =>
      rw [M_long (by rw [e1]; exact hl), e1, ih1, ih3]
      by_cases h1 : i + 1 < q.length
      · simp only [if_pos h1, if_pos (show i < q.length by omega)]; simp
      · by_cases h2 : i < q.length
        · simp only [if_neg h1, if_pos h2]
          rw [show i + 1 - q.length = 0 by omega, M_first, hl]; simp
        · simp only [if_neg h1, if_neg h2]
          rw [show i + 1 - q.length = i - q.length + 1 by omega, M_long hl, hb (by omega)]
    | false =>
      rw [M_short (by rw [e1]; exact hl), e1, ih2]
      by_cases h1 : i + 1 < q.length
      · simp only [if_pos h1, if_pos (show i < q.length by omega)]; simp
      · by_cases h2 : i < q.length
        · simp only [if_neg h1, if_pos h2]
          rw [show i + 1 - q.length = 0 by omega, M_first, hl]; simp
        · simp only [if_neg h1, if_neg h2]
          rw [show i + 1 - q.length = i - q.length + 1 by omega, M_short hl, hb (by omega)]
end Go.Proofs.YtjjcdmjgbbaliaaDoor
