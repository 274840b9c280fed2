/-
  The walk of digest.Sum: it computes 'sum'.
-/
import Derived.Test.YthkcgeokfcbllaaSd
set_option linter.unusedSimpArgs false
set_option linter.unusedVariables false
namespace Go.Proofs.Ythkcgeokfcbllaa
open Go Go.Am

/-- the tail as the program makes it -/
def tailB (b : List B8) : List B8 := (spl (rep 128 0#8) 0 (b.drop (64 * (b.length / 64)))).set (b.length % 64) 128#8
def tailE (b : List B8) : Nat := if 56 ≤ b.length % 64 then 128 else 64
theorem len_tailB (b : List B8) : (tailB b).length = 128 := by
  unfold tailB
  rw [List.length_set, length_spl (by simp; omega), length_rep]

theorem getD_iter_setLen (L : BitVec 64) (e : Nat) (t : List B8) (j : Nat) (he : e ≤ t.length) : ∀ n, n ≤ e → (iter (setLen L e) n t).getD j 0 = if e - n ≤ j ∧ j < e then (L >>> (8 * (e - 1 - j))).setWidth 8 else t.getD j 0
  | 0, _ => by simp; omega
  | n + 1, hn => by
    rw [iter_succ, setLen]
    by_cases hj : j < t.length
    · rw [getD_set (by simpa using hj), getD_iter_setLen L e t j he n (by omega)]
      by_cases h1 : e - 1 - n = j
      · rw [if_pos h1, if_pos (by omega)]
        congr 3
        omega
      · rw [if_neg h1]
        by_cases h2 : e - n ≤ j ∧ j < e
        · rw [if_pos h2, if_pos (by omega)]
        · rw [if_neg h2, if_neg (by omega)]
    · rw [if_neg (by omega)]
      simp [List.getD_eq_getElem?_getD]
      rw [List.getElem?_eq_none (by simp; omega), List.getElem?_eq_none (by omega)]
theorem ext_getD {α : Type} {l r : List α} (d : α) (hl : l.length = r.length) (h : ∀ j, j < l.length → l.getD j d = r.getD j d) : l = r := by
  refine List.ext_getElem hl fun j h1 h2 => ?_
  have := h j h1
  simpa [List.getD_eq_getElem?_getD, h1, h2] using this
theorem getD_append_l {α : Type} {l r : List α} {j : Nat} {d : α} (h : j < l.length) : (l ++ r).getD j d = l.getD j d := by simp [List.getD_eq_getElem?_getD, List.getElem?_append_left h]
theorem getD_append_r {α : Type} {l r : List α} {j : Nat} {d : α} (h : l.length ≤ j) : (l ++ r).getD j d = r.getD (j - l.length) d := by simp [List.getD_eq_getElem?_getD, List.getElem?_append_right h]
theorem getD_rep {α : Type} {n j : Nat} {d : α} : (rep n d).getD j d = d := by
  simp [List.getD_eq_getElem?_getD, rep, List.getElem?_replicate]
  split <;> rfl
theorem getD_rep8 {n j : Nat} : (rep n 0#8).getD j 0 = (0 : B8) := getD_rep
theorem getD_drop {α : Type} {l : List α} {n j : Nat} {d : α} : (l.drop n).getD j d = l.getD (n + j) d := by simp [List.getD_eq_getElem?_getD]
theorem getD_take {α : Type} {l : List α} {n j : Nat} {d : α} (h : j < n) : (l.take n).getD j d = l.getD j d := by simp [List.getD_eq_getElem?_getD, List.getElem?_take, h]
theorem getD_len8 (n j : Nat) (h : j < 8) : (len8 n).getD j 0 = ((BitVec.ofNat 64 n * 8#64) >>> (8 * (7 - j))).setWidth 8 := by
  simp [len8, List.getD_eq_getElem?_getD, h]

/-- the tail, filled, is the rest of the padded content -/
theorem tail_eq (b : List B8) : (iter (setLen (len64 b) (tailE b)) 8 (tailB b)).take (tailE b) = (pad b).drop (64 * (b.length / 64)) := by
  have hE : tailE b = b.length % 64 + 1 + zeros b.length + 8 := by
    unfold tailE zeros
    split <;> omega
  have hle : tailE b ≤ 128 := by unfold tailE; split <;> omega
  have hlen := len_tailB b
  refine ext_getD 0 (by simp [hlen, len_pad]; omega) fun j hj => ?_
  have hj' : j < tailE b := by simp at hj; omega
  rw [getD_take hj', getD_iter_setLen _ _ _ _ (by omega) _ (by omega), getD_drop]
  unfold pad
  by_cases h1 : j < b.length % 64
  · rw [if_neg (by omega), getD_append_l (by omega)]
    unfold tailB
    rw [getD_set (by rw [length_spl (by simp; omega)]; simp; omega), if_neg (by omega)]
    unfold spl
    rw [List.take_zero, List.nil_append, getD_append_l (by simp; omega), getD_drop]
  · rw [getD_append_r (by omega)]
    by_cases h2 : j = b.length % 64
    · rw [if_neg (by omega)]
      unfold tailB
      rw [getD_set (by rw [length_spl (by simp; omega)]; simp; omega), if_pos h2.symm]
      rw [show 64 * (b.length / 64) + j - b.length = 0 from by omega]
      rfl
    · rw [show 64 * (b.length / 64) + j - b.length = (j - b.length % 64 - 1) + 1 from by omega, List.getD_cons_succ]
      by_cases h3 : j < b.length % 64 + 1 + zeros b.length
      · rw [if_neg (by omega), getD_append_l (by simp; omega), getD_rep8]
        unfold tailB
        rw [getD_set (by rw [length_spl (by simp; omega)]; simp; omega), if_neg (by omega)]
        unfold spl
        rw [List.take_zero, List.nil_append, getD_append_r (by simp; omega), getD_drop, getD_rep8]
      · rw [if_pos (by omega), getD_append_r (by simp; omega), length_rep, getD_len8 _ _ (by omega)]
        unfold len64
        congr 3
        omega

theorem take_blk {b : List B8} {q i : Nat} {p : List B8} (h : b = p.drop (64 * q)) : (b.drop (64 * i)).take 64 = (p.drop (64 * (q + i))).take 64 := by
  subst h
  rw [List.drop_drop]
  congr 2
  omega
/-- **what the program computes is 'sum'** -/
theorem sum_blks (b : List B8) : blks (iter (setLen (len64 b) (tailE b)) 8 (tailB b)) (tailE b / 64) (blks b (b.length / 64) h0) = blks (pad b) ((pad b).length / 64) h0 := by
  have hE : tailE b = b.length % 64 + 1 + zeros b.length + 8 := by
    unfold tailE zeros
    split <;> omega
  have hE2 : tailE b = 64 ∨ tailE b = 128 := by unfold tailE; split <;> simp
  have hlen := len_tailB b
  rw [show (pad b).length / 64 = b.length / 64 + tailE b / 64 from by rw [len_pad]; omega]
  unfold blks
  rw [iter_add]
  have e1 : iter (blk (pad b)) (b.length / 64) h0 = iter (blk b) (b.length / 64) h0 := by
    refine iter_congr _ _ fun i s hi => ?_
    unfold blk pad
    rw [List.drop_append_of_le_length (by omega), List.take_append_of_le_length (by simp; omega)]
  rw [e1]
  refine iter_congr _ _ fun i s hi => ?_
  unfold blk
  rw [← take_blk rfl, ← tail_eq, List.drop_take, List.take_take]
  congr 2
  omega

set_option maxRecDepth 20000 in
theorem runs_sum (k : Option Bool) (b : List B8) (hk : k = none → b = []) : Runs T3 a33 [bD k b] (.agg ((sum b).map w8)) := by
  refine ⟨?_⟩
  have hn : ∀ i, k = none → b.drop (64 * i) = [] := fun i h => by simp [hk h]
  simp (disch := first | omega | (simp [-List.map_take, -List.map_drop, -List.map_set, -List.map_append, -List.drop_one] <;> omega) | fail) [-List.map_take, -List.map_drop, -List.map_set, -List.map_append, -List.drop_one, a33, T3_rounds, c_rounds_eq, lenD_bD hk]
  refine W_loop (S33a k b) (fun i => b.length / 64 - i) (fun i => i ≤ b.length / 64) 0 (weak_same (by simp (disch := first | omega | (simp [-List.map_take, -List.map_drop, -List.map_set, -List.map_append, -List.drop_one] <;> omega) | fail) [-List.map_take, -List.map_drop, -List.map_set, -List.map_append, -List.drop_one, bD, h0, len64]) (by simp (disch := first | omega | (simp [-List.map_take, -List.map_drop, -List.map_set, -List.map_append, -List.drop_one] <;> omega) | fail) [-List.map_take, -List.map_drop, -List.map_set, -List.map_append, -List.drop_one, blks, h0])) (by omega) (fun i hi => ?_)
  by_cases h : i < b.length / 64
  · have h1 : (64 : Int) ≤ ((b.length - 64 * i : Nat) : Int) := by omega
    have hs : (blks b i h0).length = 8 := by simp [h0]
    cases k with
    | none => simp [hk rfl] at h
    | some f =>
      simp (disch := first | omega | (simp [-List.map_take, -List.map_drop, -List.map_set, -List.map_append, -List.drop_one] <;> omega) | fail) [-List.map_take, -List.map_drop, -List.map_set, -List.map_append, -List.drop_one, a33L0, a33S0, S33a, lenD_bD (hn i), h1, slD_some, T3_absorb, c_absorb_sl, hs]
      refine ⟨i + 1, weak_same (by simp (disch := first | omega | (simp [-List.map_take, -List.map_drop, -List.map_set, -List.map_append, -List.drop_one] <;> omega) | fail) [-List.map_take, -List.map_drop, -List.map_set, -List.map_append, -List.drop_one, weakL, slD_some]; rw [show b.length - 64 * i - 64 = b.length - 64 * (i + 1) from by omega, show 64 * i + 64 = 64 * (i + 1) from by omega]; simp; exact (List.take_of_length_le (by simp)).symm) ?_, by omega, by omega⟩
      simp (disch := first | omega | (simp [-List.map_take, -List.map_drop, -List.map_set, -List.map_append, -List.drop_one] <;> omega) | fail) [-List.map_take, -List.map_drop, -List.map_set, -List.map_append, -List.drop_one, blks, iter_succ (n := i), blk]
  · obtain rfl : i = b.length / 64 := by omega
    have hs : (blks b (b.length / 64) h0).length = 8 := by simp [h0]
    have hr2 : (b.drop (64 * (b.length / 64))).length = b.length % 64 := by simp; omega
    have hn2 := hn (b.length / 64)
    have ht := len_tailB b
    have hf := sum_blks b
    simp only [tailB, tailE, ← hr2] at ht hf
    simp only [a33L0, a33S0, S33a]
    rw [show sum b = outB (blks (pad b) ((pad b).length / 64) h0) from rfl, ← hf]
    clear hf
    generalize b.drop (64 * (b.length / 64)) = r at *
    have h1 : ¬ (64 : Int) ≤ (r.length : Int) := by omega
    have hsp : (spl (rep 128 0#8) 0 r).length = 128 := by rw [length_spl (by simp; omega)]; simp
    have htk : r.take (min r.length 128) = r := List.take_of_length_le (by omega)
    simp (disch := first | omega | (simp [-List.map_take, -List.map_drop, -List.map_set, -List.map_append, -List.drop_one] <;> omega) | fail) [-List.map_take, -List.map_drop, -List.map_set, -List.map_append, -List.drop_one, h1, visY_bD hn2, lenD_bD hn2, hsp, htk]
    generalize hu : (spl (rep 128 0#8) 0 r).set r.length 128#8 = u at *
    by_cases hc : 56 ≤ r.length
    · have hc' : (56 : Int) ≤ (r.length : Int) := by omega
      simp (disch := first | omega | (simp [-List.map_take, -List.map_drop, -List.map_set, -List.map_append, -List.drop_one] <;> omega) | fail) [-List.map_take, -List.map_drop, -List.map_set, -List.map_append, -List.drop_one, hc', hc]
      exact sum_tail b u ht _ hs 128 (.inr rfl) _ (weak_same (by simp (disch := first | omega | (simp [-List.map_take, -List.map_drop, -List.map_set, -List.map_append, -List.drop_one] <;> omega) | fail) [-List.map_take, -List.map_drop, -List.map_set, -List.map_append, -List.drop_one]) (by simp (disch := first | omega | (simp [-List.map_take, -List.map_drop, -List.map_set, -List.map_append, -List.drop_one] <;> omega) | fail) [-List.map_take, -List.map_drop, -List.map_set, -List.map_append, -List.drop_one]))
    · have hc' : ¬ (56 : Int) ≤ (r.length : Int) := by omega
      simp (disch := first | omega | (simp [-List.map_take, -List.map_drop, -List.map_set, -List.map_append, -List.drop_one] <;> omega) | fail) [-List.map_take, -List.map_drop, -List.map_set, -List.map_append, -List.drop_one, hc', hc]
      exact sum_tail b u ht _ hs 64 (.inl rfl) _ (weak_same (by simp (disch := first | omega | (simp [-List.map_take, -List.map_drop, -List.map_set, -List.map_append, -List.drop_one] <;> omega) | fail) [-List.map_take, -List.map_drop, -List.map_set, -List.map_append, -List.drop_one]) (by simp (disch := first | omega | (simp [-List.map_take, -List.map_drop, -List.map_set, -List.map_append, -List.drop_one] <;> omega) | fail) [-List.map_take, -List.map_drop, -List.map_set, -List.map_append, -List.drop_one]))
theorem sem_sum (k : Option Bool) (b : List B8) (hk : k = none → b = []) : Am.Sem P 33 [bD k b] (.agg ((sum b).map w8)) := sem_runs mix T3_sound Try.func33 a33_ok (runs_sum k b hk)
noncomputable def c_sum : List DV → Option DV := con (fun (a : Option Bool × List B8) => a.1 = none → a.2 = []) (fun a => [bD a.1 a.2]) (fun a => .agg ((sum a.2).map w8))
theorem bD_inj {k k' : Option Bool} {b b' : List B8} (hk : k = none → b = []) (hk' : k' = none → b' = []) (e : bD k b = bD k' b') : b = b' := by
  cases k with
  | none =>
    cases k' with
    | none => rw [hk rfl, hk' rfl]
    | some f => simp [slD] at e
  | some f =>
    cases k' with
    | none => simp [slD] at e
    | some f' => simp only [slD, DV.sl.injEq, map_inj_w8] at e; exact e.2.2.2
theorem c_sum_eq {k : Option Bool} {b : List B8} (hk : k = none → b = []) : c_sum [bD k b] = some (.agg ((sum b).map w8)) :=
  con_eq' (A := fun (a : Option Bool × List B8) => a.1 = none → a.2 = []) (f := fun a => [bD a.1 a.2]) (g := fun a => .agg ((sum a.2).map w8)) (a := (k, b)) (by rintro ⟨a, b⟩ ⟨c, d⟩ h1 h2 e; rw [bD_inj h1 h2 (by simpa using e)]) hk
theorem c_sum_sl {f : Bool} {n : Nat} {b : List B8} (h : b.length = n) : c_sum [.sl f 1 n (b.map w8)] = some (.agg ((sum b).map w8)) := by
  subst h
  exact c_sum_eq (k := some f) (by simp)
theorem c_sum_nils : c_sum [.nils] = some (.agg ((sum []).map w8)) := c_sum_eq (k := none) (b := []) (by simp)
end Go.Proofs.Ythkcgeokfcbllaa
