/-
  Half, of the program and of the reference.
-/
import Derived.Test.YthkcgeokfcbllaaTa
set_option linter.unusedSimpArgs false
set_option linter.unusedVariables false
namespace Go.Proofs.Ythkcgeokfcbllaa
open Go Go.Am

abbrev Part := Option Bool × List B8
abbrev partD (p : Part) : DV := bD p.1 p.2
def WfP (p : Part) : Prop := p.1 = none → p.2 = []
def cat (l : List Part) : List B8 := l.flatMap (·.2)
def half (b : List B8) : List B8 := (sum b).take 16
theorem len_half (b : List B8) : (half b).length = 16 := by simp [half]
attribute [simp] len_half
theorem cat_succ {l : List Part} {i : Nat} (h : i < l.length) : cat (l.take (i + 1)) = cat (l.take i) ++ l[i].2 := by
  unfold cat
  rw [List.take_add_one, List.getElem?_eq_getElem h, List.flatMap_append]
  simp
theorem half_spl (b : List B8) : spl (rep 16 0#8) 0 (List.take 16 (List.take 32 (sum b))) = half b := by
  unfold half spl
  rw [List.take_of_length_le (l := sum b) (by simp)]
  simp [rep]
theorem len_cat_le {l : List Part} (i : Nat) : (cat (l.take i)).length ≤ (cat l).length := by
  have : cat l = cat (l.take i) ++ cat (l.drop i) := by
    unfold cat
    rw [← List.flatMap_append, List.take_append_drop]
  rw [this]; simp
theorem pure_parts {l : List Part} : pureL (l.map partD) = true := pureL_map fun p => pure_slD pureL_w8
theorem take_eq_map {d : List B8} {n : Nat} (h : n ≤ d.length) : (List.range n).map (fun i => d.getD i 0) = d.take n := by
  refine List.ext_getElem (by simp [h]) fun i h1 h2 => ?_
  simp at h1 h2
  simp [List.getD_eq_getElem?_getD, List.getElem?_eq_getElem (show i < d.length by omega)]

def S39 (k : Option Bool) (l : List Part) (i : Nat) : St :=
  a39S0 (.mp 0 16 0) (ownD 1 1 .nils (cat (l.take i)).length ((cat (l.take i)).map w8)) (slD k 1 l.length (l.map partD)) (.int .i64 l.length) (.int .i64 i) (.cells ((rep 16 0#8).map w8) :: ownH ((cat (l.take i)).map w8))
set_option maxRecDepth 20000 in
theorem runs_half (k : Option Bool) (l : List Part) (hk : k = none → l = []) (hw : ∀ p ∈ l, WfP p) (hl : (cat l).length ≤ 1000000) (hn : l.length ≤ 1000000) : Runs T6 a39 [slD k 1 l.length (l.map partD)] (.agg ((half (cat l)).map w8)) := by
  refine ⟨?_⟩
  have hln : ∀ h, lenD h (slD k 1 l.length (l.map partD)) = some (.int .i64 l.length) := fun h => lenD_slD (fun e => by rw [hk e]; rfl)
  simp (disch := first | omega | (simp [-List.map_take, -List.map_drop, -List.map_set, -List.map_append, -List.drop_one] <;> omega) | fail) [-List.map_take, -List.map_drop, -List.map_set, -List.map_append, -List.drop_one, a39, hln]
  refine W_loop (S39 k l) (fun i => l.length - i) (fun i => i ≤ l.length) 0 (weak_same (by simp (disch := first | omega | (simp [-List.map_take, -List.map_drop, -List.map_set, -List.map_append, -List.drop_one] <;> omega) | fail) [-List.map_take, -List.map_drop, -List.map_set, -List.map_append, -List.drop_one, cat, ownD]) (by simp (disch := first | omega | (simp [-List.map_take, -List.map_drop, -List.map_set, -List.map_append, -List.drop_one] <;> omega) | fail) [-List.map_take, -List.map_drop, -List.map_set, -List.map_append, -List.drop_one, cat, ownH])) (by omega) (fun i hi => ?_)
  simp (disch := first | omega | (simp [-List.map_take, -List.map_drop, -List.map_set, -List.map_append, -List.drop_one] <;> omega) | fail) [-List.map_take, -List.map_drop, -List.map_set, -List.map_append, -List.drop_one, a39L0, a39S0, S39]
  by_cases h : i < l.length
  · have h1 : (i : Int) < l.length := by omega
    have hv : ∀ h', visY h' (partD l[i]) = some (l[i].2.length, l[i].2.map w8) := fun h' => visY_bD (hw _ (List.getElem_mem h))
    have hc := cat_succ h
    have hlen : (cat (l.take i)).length + l[i].2.length ≤ 1000000 := by
      have := len_cat_le (l := l) (i + 1)
      rw [hc, List.length_append] at this
      omega
    cases k with
    | none => simp [hk rfl] at h
    | some f =>
      simp (disch := first | omega | (simp [-List.map_take, -List.map_drop, -List.map_set, -List.map_append, -List.drop_one] <;> omega) | fail) [-List.map_take, -List.map_drop, -List.map_set, -List.map_append, -List.drop_one, h1, h, slD_some, hv]
      refine ⟨i + 1, weak_same (by simp (disch := first | omega | (simp [-List.map_take, -List.map_drop, -List.map_set, -List.map_append, -List.drop_one] <;> omega) | fail) [-List.map_take, -List.map_drop, -List.map_set, -List.map_append, -List.drop_one, slD_some, hc]) (by simp (disch := first | omega | (simp [-List.map_take, -List.map_drop, -List.map_set, -List.map_append, -List.drop_one] <;> omega) | fail) [-List.map_take, -List.map_drop, -List.map_set, -List.map_append, -List.drop_one, hc]), by omega, by omega⟩
  · have h1 : ¬ (i : Int) < l.length := by omega
    obtain rfl : i = l.length := by omega
    by_cases hc : cat l = []
    · simp (disch := first | omega | (simp [-List.map_take, -List.map_drop, -List.map_set, -List.map_append, -List.drop_one] <;> omega) | fail) [-List.map_take, -List.map_drop, -List.map_set, -List.map_append, -List.drop_one, h1, hc, ownD_nil, ownH_nil, T6_sum, c_sum_nils, half_spl]
    · have hc' : (cat l).map w8 ≠ [] := by simp [hc]
      simp (disch := first | omega | (simp [-List.map_take, -List.map_drop, -List.map_set, -List.map_append, -List.drop_one] <;> omega) | fail) [-List.map_take, -List.map_drop, -List.map_set, -List.map_append, -List.drop_one, h1, ownD_ne hc', ownH_ne hc', T6_sum, c_sum_sl, half_spl]
theorem sem_half (k : Option Bool) (l : List Part) (hk : k = none → l = []) (hw : ∀ p ∈ l, WfP p) (hl : (cat l).length ≤ 1000000) (hn : l.length ≤ 1000000) : Am.Sem P 39 [slD k 1 l.length (l.map partD)] (.agg ((half (cat l)).map w8)) := sem_runs mix T6_sound Try.func39 a39_ok (runs_half k l hk hw hl hn)

def S52a (k : Option Bool) (l : List Part) (i : Nat) : St :=
  a52S0 (slD k 1 l.length (l.map partD)) (.mp 0 16 0) (ownD 1 1 .nils (cat (l.take i)).length ((cat (l.take i)).map w8)) (.int .i64 i) (.cells ((rep 16 0#8).map w8) :: ownH ((cat (l.take i)).map w8))
def cp (d : List B8) (i : Nat) (h : List B8) : List B8 := h.set i (d.getD i 0)
theorem len_cp {d h : List B8} {n : Nat} : (iter (cp d) n h).length = h.length := length_iter_set (f := fun i _ => d.getD i 0) (g := fun i => i) n h
attribute [simp] len_cp
def S52b (pre : List AObj) (d : List B8) (i : Nat) : St :=
  a52S1 (.mp 0 16 0) (.mp (pre.length + 1) 32 0) (.mp (pre.length + 2) 16 0) (.int .i64 i) (.cells ((rep 16 0#8).map w8) :: (pre ++ [.cells (d.map w8), .cells ((iter (cp d) i (rep 16 0#8)).map w8)]))
set_option maxRecDepth 20000 in
theorem refhalf_tail (pre : List AObj) (hp : pre = [] ∨ ∃ o, pre = [o]) (d : List B8) (hd : d.length = 32) (st : St) (hst : Weak 0 st (S52b pre d 0)) :
    W T6 0 (.loop a52L1) (blockK 2 (seqK T6 0 (tailC 6 a52.code) (retK a52.res (.agg ((d.take 16).map w8))))) st := by
  refine W_loop (S52b pre d) (fun i => 16 - i) (fun i => i ≤ 16) 0 hst (by omega) (fun i hi => ?_)
  have hl : (iter (cp d) i (rep 16 0#8)).length = 16 := by simp
  rcases hp with rfl | ⟨o, rfl⟩
  all_goals
    simp (disch := first | omega | (simp [-List.map_take, -List.map_drop, -List.map_set, -List.map_append, -List.drop_one] <;> omega) | fail) [-List.map_take, -List.map_drop, -List.map_set, -List.map_append, -List.drop_one, a52L1, a52S1, S52b, tailC, a52]
    by_cases h : i < 16
    · have h1 : (i : Int) < 16 := by omega
      simp (disch := first | omega | (simp [-List.map_take, -List.map_drop, -List.map_set, -List.map_append, -List.drop_one] <;> omega) | fail) [-List.map_take, -List.map_drop, -List.map_set, -List.map_append, -List.drop_one, h1, hd, hl]
      refine ⟨i + 1, weak_same (by simp (disch := first | omega | (simp [-List.map_take, -List.map_drop, -List.map_set, -List.map_append, -List.drop_one] <;> omega) | fail) [-List.map_take, -List.map_drop, -List.map_set, -List.map_append, -List.drop_one]) ?_, by omega, by omega⟩
      simp (disch := first | omega | (simp [-List.map_take, -List.map_drop, -List.map_set, -List.map_append, -List.drop_one] <;> omega) | fail) [-List.map_take, -List.map_drop, -List.map_set, -List.map_append, -List.drop_one, iter_succ (n := i), cp, hd]
    · have h1 : ¬ (i : Int) < 16 := by omega
      obtain rfl : i = 16 := by omega
      have hx : iter (cp d) 16 (rep 16 0#8) = d.take 16 := (iter_set _ _ _ (by simp)).trans (by rw [take_eq_map (by omega)]; simp [rep])
      simp (disch := first | omega | (simp [-List.map_take, -List.map_drop, -List.map_set, -List.map_append, -List.drop_one] <;> omega) | fail) [-List.map_take, -List.map_drop, -List.map_set, -List.map_append, -List.drop_one, h1, hx, hd]
set_option maxRecDepth 20000 in
theorem runs_refhalf (k : Option Bool) (l : List Part) (hk : k = none → l = []) (hw : ∀ p ∈ l, WfP p) (hl : (cat l).length ≤ 1000000) (hn : l.length ≤ 1000000) : Runs T6 a52 [slD k 1 l.length (l.map partD)] (.agg ((half (cat l)).map w8)) := by
  refine ⟨?_⟩
  have hln : ∀ h, lenD h (slD k 1 l.length (l.map partD)) = some (.int .i64 l.length) := fun h => lenD_slD (fun e => by rw [hk e]; rfl)
  simp (disch := first | omega | (simp [-List.map_take, -List.map_drop, -List.map_set, -List.map_append, -List.drop_one] <;> omega) | fail) [-List.map_take, -List.map_drop, -List.map_set, -List.map_append, -List.drop_one, a52]
  refine W_loop (S52a k l) (fun i => l.length - i) (fun i => i ≤ l.length) 0 (weak_same (by simp (disch := first | omega | (simp [-List.map_take, -List.map_drop, -List.map_set, -List.map_append, -List.drop_one] <;> omega) | fail) [-List.map_take, -List.map_drop, -List.map_set, -List.map_append, -List.drop_one, cat, ownD]) (by simp (disch := first | omega | (simp [-List.map_take, -List.map_drop, -List.map_set, -List.map_append, -List.drop_one] <;> omega) | fail) [-List.map_take, -List.map_drop, -List.map_set, -List.map_append, -List.drop_one, cat, ownH])) (by omega) (fun i hi => ?_)
  simp (disch := first | omega | (simp [-List.map_take, -List.map_drop, -List.map_set, -List.map_append, -List.drop_one] <;> omega) | fail) [-List.map_take, -List.map_drop, -List.map_set, -List.map_append, -List.drop_one, a52L0, a52S0, S52a, hln]
  by_cases h : i < l.length
  · have h1 : (i : Int) < l.length := by omega
    have hv : ∀ h', visY h' (partD l[i]) = some (l[i].2.length, l[i].2.map w8) := fun h' => visY_bD (hw _ (List.getElem_mem h))
    have hc := cat_succ h
    have hlen : (cat (l.take i)).length + l[i].2.length ≤ 1000000 := by
      have := len_cat_le (l := l) (i + 1)
      rw [hc, List.length_append] at this
      omega
    cases k with
    | none => simp [hk rfl] at h
    | some f =>
      simp (disch := first | omega | (simp [-List.map_take, -List.map_drop, -List.map_set, -List.map_append, -List.drop_one] <;> omega) | fail) [-List.map_take, -List.map_drop, -List.map_set, -List.map_append, -List.drop_one, h1, h, slD_some, hv]
      refine ⟨i + 1, weak_same (by simp (disch := first | omega | (simp [-List.map_take, -List.map_drop, -List.map_set, -List.map_append, -List.drop_one] <;> omega) | fail) [-List.map_take, -List.map_drop, -List.map_set, -List.map_append, -List.drop_one, slD_some, hc]) (by simp (disch := first | omega | (simp [-List.map_take, -List.map_drop, -List.map_set, -List.map_append, -List.drop_one] <;> omega) | fail) [-List.map_take, -List.map_drop, -List.map_set, -List.map_append, -List.drop_one, hc]), by omega, by omega⟩
  · have h1 : ¬ (i : Int) < l.length := by omega
    obtain rfl : i = l.length := by omega
    rw [show half (cat l) = (sum (cat l)).take 16 from rfl]
    by_cases hc : cat l = []
    · simp (disch := first | omega | (simp [-List.map_take, -List.map_drop, -List.map_set, -List.map_append, -List.drop_one] <;> omega) | fail) [-List.map_take, -List.map_drop, -List.map_set, -List.map_append, -List.drop_one, h1, hc, ownD_nil, ownH_nil, T6_refsum, c_refsum_nils]
      exact refhalf_tail [] (.inl rfl) (sum []) (by simp) _ (weak_same (by simp (disch := first | omega | (simp [-List.map_take, -List.map_drop, -List.map_set, -List.map_append, -List.drop_one] <;> omega) | fail) [-List.map_take, -List.map_drop, -List.map_set, -List.map_append, -List.drop_one]) (by simp (disch := first | omega | (simp [-List.map_take, -List.map_drop, -List.map_set, -List.map_append, -List.drop_one] <;> omega) | fail) [-List.map_take, -List.map_drop, -List.map_set, -List.map_append, -List.drop_one]))
    · have hc' : (cat l).map w8 ≠ [] := by simp [hc]
      simp (disch := first | omega | (simp [-List.map_take, -List.map_drop, -List.map_set, -List.map_append, -List.drop_one] <;> omega) | fail) [-List.map_take, -List.map_drop, -List.map_set, -List.map_append, -List.drop_one, h1, ownD_ne hc', ownH_ne hc', T6_refsum, c_refsum_sl]
      exact refhalf_tail [.cells ((cat l).map w8)] (.inr ⟨_, rfl⟩) (sum (cat l)) (by simp) _ (weak_same (by simp (disch := first | omega | (simp [-List.map_take, -List.map_drop, -List.map_set, -List.map_append, -List.drop_one] <;> omega) | fail) [-List.map_take, -List.map_drop, -List.map_set, -List.map_append, -List.drop_one]) (by simp (disch := first | omega | (simp [-List.map_take, -List.map_drop, -List.map_set, -List.map_append, -List.drop_one] <;> omega) | fail) [-List.map_take, -List.map_drop, -List.map_set, -List.map_append, -List.drop_one]))
theorem sem_refhalf (k : Option Bool) (l : List Part) (hk : k = none → l = []) (hw : ∀ p ∈ l, WfP p) (hl : (cat l).length ≤ 1000000) (hn : l.length ≤ 1000000) : Am.Sem P 52 [slD k 1 l.length (l.map partD)] (.agg ((half (cat l)).map w8)) := sem_runs mix T6_sound Try.func52 a52_ok (runs_refhalf k l hk hw hl hn)
end Go.Proofs.Ythkcgeokfcbllaa
