/-
  The laws DigestTrees and DigestSplits.
-/
import Derived.Test.YthkcgeokfcbllaaTd
set_option linter.unusedSimpArgs false
set_option linter.unusedVariables false
namespace Go.Proofs.Ythkcgeokfcbllaa
open Go Go.Am

noncomputable def c_tree200 : List DV → Option DV := c_tree 201
noncomputable def T14 : Tbl := addT 40 (.pure (c_tree 201)) (addT 41 (.pure (c_tree 201)) T9)
theorem T14_tree : T14 40 = .pure (c_tree 201) := by simp [T14]
theorem T14_reftree : T14 41 = .pure (c_tree 201) := by simp [T14]
theorem T14_awake : T14 32 = .pure c_true := by simp [T14, T9, T7]
theorem T14_node : T14 37 = .pure c_node := by simp [T14, T9]
theorem T14_sound : T14.Sound P := addT_sound (con_sound fun a h => sem_tree a.1 a.2 h.1 h.2.1 h.2.2.2) (addT_sound (con_sound fun a h => sem_reftree a.1 a.2 h.1 h.2.1 h.2.2.2) T9_sound)
theorem runs_trees (k : Option Bool) (l : List (List B8)) (hk : k = none → l = []) (h : D32 l) : Runs T14 a12 [dD k l] (.bool true) := by
  refine ⟨?_⟩
  have hln : ∀ h, lenD h (dD k l) = some (.int .i64 l.length) := fun h => lenD_slD (fun e => by rw [hk e]; rfl)
  have hp : pureD (dD k l) = true := pure_slD (pure_fl l)
  have hlt := len_tree h
  by_cases h2 : l.length ≤ 200
  · have h1 : ¬ (200 : Int) < l.length := by omega
    have ht := c_tree_eq (n := 201) (k := k) (l := l) ⟨hk, h, (by omega : l.length < 201), h2⟩
    simp (disch := first | omega | (simp [-List.map_take, -List.map_drop, -List.map_set, -List.map_append, -List.drop_one] <;> omega) | fail) [-List.map_take, -List.map_drop, -List.map_set, -List.map_append, -List.drop_one, a12, hln, h1, T14_awake, T14_tree, T14_reftree, c_true_eq, ht, hp, hlt]
  · have h1 : (200 : Int) < l.length := by omega
    simp (disch := first | omega | (simp [-List.map_take, -List.map_drop, -List.map_set, -List.map_append, -List.drop_one] <;> omega) | fail) [-List.map_take, -List.map_drop, -List.map_set, -List.map_append, -List.drop_one, a12, hln, h1]
theorem sem_trees (k : Option Bool) (l : List (List B8)) (hk : k = none → l = []) (h : D32 l) : Am.Sem P 12 [dD k l] (.bool true) := sem_runs mix T14_sound Try.func12 a12_ok (runs_trees k l hk h)
def S13 (k : Option Bool) (l : List (List B8)) (q : Nat) : St := a13S0 (dD k l) (.int .i64 q) []
set_option maxRecDepth 20000 in
theorem runs_splits (k : Option Bool) (l : List (List B8)) (hk : k = none → l = []) (h : D32 l) : Runs T14 a13 [dD k l] (.bool true) := by
  refine ⟨?_⟩
  have hln : ∀ h, lenD h (dD k l) = some (.int .i64 l.length) := fun h => lenD_slD (fun e => by rw [hk e]; rfl)
  have hp : pureD (dD k l) = true := pure_slD (pure_fl l)
  have hlt := len_tree h
  by_cases h200 : l.length ≤ 200
  · have h1 : ¬ (200 : Int) < l.length := by omega
    have ht := c_tree_eq (n := 201) (k := k) (l := l) ⟨hk, h, (by omega : l.length < 201), h200⟩
    by_cases h2 : 2 ≤ l.length
    · cases k with
      | none => simp [hk rfl] at h2
      | some f =>
        have c1 : ¬ (l.length = 1) := by omega
        have c2 : ¬ (l = []) := by rintro rfl; simp at h2
        have c3 : ¬ ((l.length : Int) = 1) := by omega
        have c0 : ¬ ((l.length : Int) = 0) := by omega
        have hsp := splitN_lt h2
        have t1 := fun i => take_fl h i
        have t2 := fun i => drop_fl h i
        have t3 : (fl (l.drop (splitN l.length))).take ((l.length - splitN l.length) * 32) = fl (l.drop (splitN l.length)) := by
          rw [take_fl (D32_drop h _)]
          congr 1
          exact List.take_of_length_le (by simp)
        have d1 := D32_take h (splitN l.length)
        have d2 := D32_drop h (splitN l.length)
        have r1 := fun g => c_tree_sl (n := 201) (f := g) (m := splitN l.length) d1 (by simp; omega) (by omega) (by omega)
        have r2 := fun g => c_tree_sl (n := 201) (f := g) (m := l.length - splitN l.length) d2 (by simp) (by omega) (by omega)
        have n1 := c_node_eq (len_tree d1) (len_tree d2)
        simp (disch := first | omega | (simp [-List.map_take, -List.map_drop, -List.map_set, -List.map_append, -List.drop_one] <;> omega) | fail) [-List.map_take, -List.map_drop, -List.map_set, -List.map_append, -List.drop_one, a13, hln, h1, c0, c1, c2, c3]
        refine W_loop (S13 (some f) l) (fun q => l.length - q) (fun q => (∃ j, q = 2 ^ j) ∧ q < l.length) 1 (weak_same (by simp (disch := first | omega | (simp [-List.map_take, -List.map_drop, -List.map_set, -List.map_append, -List.drop_one] <;> omega) | fail) [-List.map_take, -List.map_drop, -List.map_set, -List.map_append, -List.drop_one]) (by simp (disch := first | omega | (simp [-List.map_take, -List.map_drop, -List.map_set, -List.map_append, -List.drop_one] <;> omega) | fail) [-List.map_take, -List.map_drop, -List.map_set, -List.map_append, -List.drop_one])) ⟨⟨0, rfl⟩, by omega⟩ (fun q hq => ?_)
        obtain ⟨⟨j, hq⟩, hql⟩ := hq
        have hj0 : 0 < q := by rw [hq]; exact Nat.pow_pos (by decide)
        simp (disch := first | omega | (simp [-List.map_take, -List.map_drop, -List.map_set, -List.map_append, -List.drop_one] <;> omega) | fail) [-List.map_take, -List.map_drop, -List.map_set, -List.map_append, -List.drop_one, a13L0, a13S0, S13, hln]
        by_cases hc : 2 * q < l.length
        · have hc1 : 2 * (q : Int) < l.length := by omega
          simp (disch := first | omega | (simp [-List.map_take, -List.map_drop, -List.map_set, -List.map_append, -List.drop_one] <;> omega) | fail) [-List.map_take, -List.map_drop, -List.map_set, -List.map_append, -List.drop_one, hc1]
          refine ⟨2 * q, weak_same (by simp (disch := first | omega | (simp [-List.map_take, -List.map_drop, -List.map_set, -List.map_append, -List.drop_one] <;> omega) | fail) [-List.map_take, -List.map_drop, -List.map_set, -List.map_append, -List.drop_one]) (by simp (disch := first | omega | (simp [-List.map_take, -List.map_drop, -List.map_set, -List.map_append, -List.drop_one] <;> omega) | fail) [-List.map_take, -List.map_drop, -List.map_set, -List.map_append, -List.drop_one]), by omega, ⟨j + 1, by rw [Nat.pow_succ, hq]; omega⟩, by omega⟩
        · have hc1 : ¬ 2 * (q : Int) < l.length := by omega
          obtain rfl : q = splitN l.length := by rw [hq]; exact (splitN_of (by omega) (by omega)).symm
          have ht' := c_tree_sl (n := 201) (f := f) h rfl (by omega) h200
          simp (disch := first | omega | (simp [-List.map_take, -List.map_drop, -List.map_set, -List.map_append, -List.drop_one] <;> omega) | fail) [-List.map_take, -List.map_drop, -List.map_set, -List.map_append, -List.drop_one, hc1, slD_some, t1, t2, t3, T14_tree, r1, r2, T14_node, T14_awake, c_true_eq, ht', n1, pure_fl, ← tree_two h2, hlt]
    · match l, h2 with
      | [], _ =>
        simp (disch := first | omega | (simp [-List.map_take, -List.map_drop, -List.map_set, -List.map_append, -List.drop_one] <;> omega) | fail) [-List.map_take, -List.map_drop, -List.map_set, -List.map_append, -List.drop_one, a13, hln, tree_nil, T14_awake, T14_tree, c_true_eq, ht, hp]
      | [a], _ =>
        cases k with
        | none => simp at hk
        | some f =>
          have ha := h a (by simp)
          have e1 : fl [a] = a.map w8 := by simp [fl]
          have ht' := c_tree_sl (n := 201) (f := f) (m := 1) h rfl (by omega) (by omega)
          have hta : a.take 32 = a := List.take_of_length_le (by omega)
          rw [e1, tree_one] at ht'
          simp (disch := first | omega | (simp [-List.map_take, -List.map_drop, -List.map_set, -List.map_append, -List.drop_one] <;> omega) | fail) [-List.map_take, -List.map_drop, -List.map_set, -List.map_append, -List.drop_one, a13, hln, tree_one, e1, slD_some, ha, T14_awake, T14_tree, c_true_eq, ht', hta]
      | _ :: _ :: _, h2 => simp at h2
  · have h1 : (200 : Int) < l.length := by omega
    simp (disch := first | omega | (simp [-List.map_take, -List.map_drop, -List.map_set, -List.map_append, -List.drop_one] <;> omega) | fail) [-List.map_take, -List.map_drop, -List.map_set, -List.map_append, -List.drop_one, a13, hln, h1]
theorem sem_splits (k : Option Bool) (l : List (List B8)) (hk : k = none → l = []) (h : D32 l) : Am.Sem P 13 [dD k l] (.bool true) := sem_runs mix T14_sound Try.func13 a13_ok (runs_splits k l hk h)
theorem ok_digests {ds : List DV} (h : Ty.Ok (.sl (.arr 32 (.int .u8))) ds) : ∃ (k : Option Bool) (l : List (List B8)), (k = none → l = []) ∧ D32 l ∧ ds = [dD k l] := by
  obtain ⟨k, l, hk, hw, rfl⟩ := ok_sl (f := List.map w8) (R := fun a => a.length = 32) (fun ds h => ok_words h) h
  exact ⟨k, l, hk, hw, rfl⟩
namespace digestTrees
theorem law_holds (dvs : List DV) (h : Ty.Args [.sl (.arr 32 (.int .u8))] dvs) : Am.Sem P 12 dvs (.bool true) := by
  obtain ⟨ds, l, rfl, h1, rfl⟩ := h
  obtain ⟨k, l, hk, hw, rfl⟩ := ok_digests h1
  exact sem_trees k l hk hw
end digestTrees
namespace digestSplits
theorem law_holds (dvs : List DV) (h : Ty.Args [.sl (.arr 32 (.int .u8))] dvs) : Am.Sem P 13 dvs (.bool true) := by
  obtain ⟨ds, l, rfl, h1, rfl⟩ := h
  obtain ⟨k, l, hk, hw, rfl⟩ := ok_digests h1
  exact sem_splits k l hk hw
end digestSplits
end Go.Proofs.Ythkcgeokfcbllaa
