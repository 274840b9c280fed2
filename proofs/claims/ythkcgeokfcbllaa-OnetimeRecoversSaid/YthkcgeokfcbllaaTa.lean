/-
  Leaf and Node, of the program and of the reference; the law DigestNodes.
-/
import Derived.Test.YthkcgeokfcbllaaSi
import Derived.Test.YthkcgeokfcbllaaFb
set_option linter.unusedSimpArgs false
set_option linter.unusedVariables false
namespace Go.Proofs.Ythkcgeokfcbllaa
open Go Go.Am

theorem app_prefix {h : List AObj} {p b : List B8} (hp : 0 < p.length) (hb : p.length + b.length ≤ 4294967296) :
    appX h 1 1 (.sl true 1 p.length (p.map w8)) b.length (b.map w8) = if b = [] then some (.sl true 1 p.length (p.map w8), h) else some (.ms h.length (p.length + b.length) 0 1 (p.length + b.length) (p.length + b.length), h ++ [.cells ((p ++ b).map w8)]) := by
  by_cases hb0 : b = []
  · subst hb0; rw [if_pos rfl]; simp (disch := first | omega | (simp [-List.map_take, -List.map_drop, -List.map_set, -List.map_append, -List.drop_one] <;> omega) | fail) [-List.map_take, -List.map_drop, -List.map_set, -List.map_append, -List.drop_one]
  · have : 0 < b.length := List.length_pos_iff.2 hb0
    rw [if_neg hb0, appX_full (by omega) (by omega) (by simp (disch := first | omega | (simp [-List.map_take, -List.map_drop, -List.map_set, -List.map_append, -List.drop_one] <;> omega) | fail) [-List.map_take, -List.map_drop, -List.map_set, -List.map_append, -List.drop_one]) this (by omega)]
    simp (disch := first | omega | (simp [-List.map_take, -List.map_drop, -List.map_set, -List.map_append, -List.drop_one] <;> omega) | fail) [-List.map_take, -List.map_drop, -List.map_set, -List.map_append, -List.drop_one]
noncomputable def T8 : Tbl := T7
set_option maxRecDepth 20000 in
theorem runs_leaf (k : Option Bool) (b : List B8) (hk : k = none → b = []) (hb : b.length ≤ 999999) : Runs T7 a35 [bD k b] (.agg ((sum (0#8 :: b)).map w8)) := by
  refine ⟨?_⟩
  have ha := fun h => app_prefix (h := h) (p := [0#8]) (b := b) (by simp) (by simp; omega)
  simp only [List.length_singleton, List.map_cons, List.map_nil] at ha
  by_cases hb0 : b = []
  · have ha' := fun h => (ha h).trans (if_pos hb0)
    have := c_sum_sl (f := true) (b := [0#8]) (n := 1) rfl
    simp only [List.map_cons, List.map_nil] at this
    simp (disch := first | omega | (simp [-List.map_take, -List.map_drop, -List.map_set, -List.map_append, -List.drop_one] <;> omega) | fail) [-List.map_take, -List.map_drop, -List.map_set, -List.map_append, -List.drop_one, a35, visY_bD hk, ha', T7_sum, this]
    rw [hb0]
  · obtain ⟨q, hq⟩ : ∃ q, q = [0#8] ++ b := ⟨_, rfl⟩
    have hql : q.length = 1 + b.length := by rw [hq, List.length_append]; rfl
    have ha' := fun h => (ha h).trans (if_neg hb0)
    rw [show 0#8 :: b = q from hq.symm]
    simp only [← hq, ← hql] at ha'
    have := c_sum_sl (f := false) (b := q) (n := q.length) rfl
    simp (disch := first | omega | (simp [-List.map_take, -List.map_drop, -List.map_set, -List.map_append, -List.drop_one] <;> omega) | fail) [-List.map_take, -List.map_drop, -List.map_set, -List.map_append, -List.drop_one, a35, visY_bD hk, ha', T7_sum, this]
theorem sem_leaf (k : Option Bool) (b : List B8) (hk : k = none → b = []) (hb : b.length ≤ 999999) : Am.Sem P 35 [bD k b] (.agg ((sum (0#8 :: b)).map w8)) := sem_runs mix T7_sound Try.func35 a35_ok (runs_leaf k b hk hb)
set_option maxRecDepth 20000 in
theorem runs_refleaf (k : Option Bool) (b : List B8) (hk : k = none → b = []) (hb : b.length ≤ 999999) : Runs T7 a36 [bD k b] (.agg ((sum (0#8 :: b)).map w8)) := by
  refine ⟨?_⟩
  have ha := fun h => app_prefix (h := h) (p := [0#8]) (b := b) (by simp) (by simp; omega)
  simp only [List.length_singleton, List.map_cons, List.map_nil] at ha
  by_cases hb0 : b = []
  · have ha' := fun h => (ha h).trans (if_pos hb0)
    have := c_refsum_sl (f := true) (b := [0#8]) (n := 1) rfl (by omega)
    simp only [List.map_cons, List.map_nil] at this
    simp (disch := first | omega | (simp [-List.map_take, -List.map_drop, -List.map_set, -List.map_append, -List.drop_one] <;> omega) | fail) [-List.map_take, -List.map_drop, -List.map_set, -List.map_append, -List.drop_one, a36, visY_bD hk, ha', T7_refsum, this]
    rw [hb0]
  · obtain ⟨q, hq⟩ : ∃ q, q = [0#8] ++ b := ⟨_, rfl⟩
    have hql : q.length = 1 + b.length := by rw [hq, List.length_append]; rfl
    have ha' := fun h => (ha h).trans (if_neg hb0)
    rw [show 0#8 :: b = q from hq.symm]
    simp only [← hq, ← hql] at ha'
    have := c_refsum_sl (f := false) (b := q) (n := q.length) rfl (by omega)
    simp (disch := first | omega | (simp [-List.map_take, -List.map_drop, -List.map_set, -List.map_append, -List.drop_one] <;> omega) | fail) [-List.map_take, -List.map_drop, -List.map_set, -List.map_append, -List.drop_one, a36, visY_bD hk, ha', T7_refsum, this]
theorem sem_refleaf (k : Option Bool) (b : List B8) (hk : k = none → b = []) (hb : b.length ≤ 999999) : Am.Sem P 36 [bD k b] (.agg ((sum (0#8 :: b)).map w8)) := sem_runs mix T7_sound Try.func36 a36_ok (runs_refleaf k b hk hb)
set_option maxRecDepth 20000 in
theorem runs_node (a b : List B8) (ha : a.length = 32) (hb : b.length = 32) : Runs T7 a37 [.agg (a.map w8), .agg (b.map w8)] (.agg ((sum (1#8 :: (a ++ b))).map w8)) := by
  refine ⟨?_⟩
  have := c_sum_sl (f := false) (b := 1#8 :: (a ++ b)) (n := 65) (by simp [ha, hb])
  have h1 : a.take 32 = a := List.take_of_length_le (by omega)
  have h2 : b.take 32 = b := List.take_of_length_le (by omega)
  have h3 : (a ++ b).take 64 = a ++ b := List.take_of_length_le (by simp; omega)
  simp (disch := first | omega | (simp [-List.map_take, -List.map_drop, -List.map_set, -List.map_append, -List.drop_one] <;> omega) | fail) [-List.map_take, -List.map_drop, -List.map_set, -List.map_append, -List.drop_one, a37, T7_sum, ha, hb, h1, h2, h3] at this ⊢
  simp (disch := first | omega | (simp [-List.map_take, -List.map_drop, -List.map_set, -List.map_append, -List.drop_one] <;> omega) | fail) [-List.map_take, -List.map_drop, -List.map_set, -List.map_append, -List.drop_one, this]
theorem sem_node (a b : List B8) (ha : a.length = 32) (hb : b.length = 32) : Am.Sem P 37 [.agg (a.map w8), .agg (b.map w8)] (.agg ((sum (1#8 :: (a ++ b))).map w8)) := sem_runs mix T7_sound Try.func37 a37_ok (runs_node a b ha hb)
def S38a (a b : List B8) (i : Nat) : St := a38S0 (.mp 0 32 0) (.mp 1 32 0) (.mp 2 32 0) (ownD 3 1 (.sl true 1 1 [w8 1#8]) 0 []) (.int .i64 i) [.cells (a.map w8), .cells (b.map w8), .cells ((rep 32 0#8).map w8)]
/-- the slice under way: one byte that nothing was appended to, or an object -/
def nodeP (p : List B8) : DV := if p.length = 1 then .sl true 1 1 (p.map w8) else .ms 3 p.length 0 1 p.length p.length
def nodeH (p : List B8) : List AObj := if p.length = 1 then [] else [.cells (p.map w8)]
theorem app_nodeP {p : List B8} {o0 o1 o2 : AObj} {x : B8} (hp : 0 < p.length) (hl : p.length ≤ 100) :
    appX (o0 :: o1 :: o2 :: nodeH p) 1 1 (nodeP p) 1 [w8 x] = some (nodeP (p ++ [x]), o0 :: o1 :: o2 :: nodeH (p ++ [x])) := by
  by_cases h : p.length = 1
  · have hn : ¬ (p ++ [x]).length = 1 := by rw [List.length_append, List.length_singleton]; omega
    unfold nodeP nodeH
    rw [if_pos h, if_pos h, if_neg hn, if_neg hn, appX_full (by omega) (by omega) (by simp (disch := first | omega | (simp [-List.map_take, -List.map_drop, -List.map_set, -List.map_append, -List.drop_one] <;> omega) | fail) [-List.map_take, -List.map_drop, -List.map_set, -List.map_append, -List.drop_one]) (by omega) (by omega)]
    simp (disch := first | omega | (simp [-List.map_take, -List.map_drop, -List.map_set, -List.map_append, -List.drop_one] <;> omega) | fail) [-List.map_take, -List.map_drop, -List.map_set, -List.map_append, -List.drop_one, h]
  · have hn : ¬ (p ++ [x]).length = 1 := by rw [List.length_append, List.length_singleton]; omega
    unfold nodeP nodeH
    rw [if_neg h, if_neg h, if_neg hn, if_neg hn, appX_own (by omega) (by omega) (by omega) (by simp (disch := first | omega | (simp [-List.map_take, -List.map_drop, -List.map_set, -List.map_append, -List.drop_one] <;> omega) | fail) [-List.map_take, -List.map_drop, -List.map_set, -List.map_append, -List.drop_one]) (by omega) (by simp (disch := first | omega | (simp [-List.map_take, -List.map_drop, -List.map_set, -List.map_append, -List.drop_one] <;> omega) | fail) [-List.map_take, -List.map_drop, -List.map_set, -List.map_append, -List.drop_one])]
    simp (disch := first | omega | (simp [-List.map_take, -List.map_drop, -List.map_set, -List.map_append, -List.drop_one] <;> omega) | fail) [-List.map_take, -List.map_drop, -List.map_set, -List.map_append, -List.drop_one]
def S38b (a b : List B8) (i : Nat) : St := a38S0 (.mp 0 32 0) (.mp 1 32 0) (.mp 2 32 0) (nodeP (1#8 :: a.take i)) (.int .i64 i) (.cells (a.map w8) :: .cells (b.map w8) :: .cells ((rep 32 0#8).map w8) :: nodeH (1#8 :: a.take i))
def S38c (a b : List B8) (i : Nat) : St := a38S1 (.mp 1 32 0) (.mp 2 32 0) (nodeP (1#8 :: (a ++ b.take i))) (.int .i64 i) (.cells (a.map w8) :: .cells (b.map w8) :: .cells ((rep 32 0#8).map w8) :: nodeH (1#8 :: (a ++ b.take i)))
theorem take_succ' {α : Type} {l : List α} {i : Nat} (h : i < l.length) : l.take i ++ [l[i]] = l.take (i + 1) := by rw [List.take_add_one, List.getElem?_eq_getElem h]; rfl
set_option maxRecDepth 20000 in
theorem runs_refnode (a b : List B8) (ha : a.length = 32) (hb : b.length = 32) : Runs T7 a38 [.agg (a.map w8), .agg (b.map w8)] (.agg ((sum (1#8 :: (a ++ b))).map w8)) := by
  refine ⟨?_⟩
  have := c_refsum_sl (f := false) (b := 1#8 :: (a ++ b)) (n := 65) (by simp [ha, hb]) (by omega)
  simp (disch := first | omega | (simp [-List.map_take, -List.map_drop, -List.map_set, -List.map_append, -List.drop_one] <;> omega) | fail) [-List.map_take, -List.map_drop, -List.map_set, -List.map_append, -List.drop_one, a38, ha, hb]
  refine W_loop (S38b a b) (fun i => 32 - i) (fun i => i ≤ 32) 0 (weak_same (by simp (disch := first | omega | (simp [-List.map_take, -List.map_drop, -List.map_set, -List.map_append, -List.drop_one] <;> omega) | fail) [-List.map_take, -List.map_drop, -List.map_set, -List.map_append, -List.drop_one, nodeP]) (by simp (disch := first | omega | (simp [-List.map_take, -List.map_drop, -List.map_set, -List.map_append, -List.drop_one] <;> omega) | fail) [-List.map_take, -List.map_drop, -List.map_set, -List.map_append, -List.drop_one, nodeH])) (by omega) (fun i hi => ?_)
  simp (disch := first | omega | (simp [-List.map_take, -List.map_drop, -List.map_set, -List.map_append, -List.drop_one] <;> omega) | fail) [-List.map_take, -List.map_drop, -List.map_set, -List.map_append, -List.drop_one, a38L0, a38S0, S38b]
  by_cases h : i < 32
  · have h1 : (i : Int) < 32 := by omega
    simp (disch := first | omega | (simp [-List.map_take, -List.map_drop, -List.map_set, -List.map_append, -List.drop_one] <;> omega) | fail) [-List.map_take, -List.map_drop, -List.map_set, -List.map_append, -List.drop_one, h1, ha, app_nodeP]
    refine ⟨i + 1, weak_same (by simp (disch := first | omega | (simp [-List.map_take, -List.map_drop, -List.map_set, -List.map_append, -List.drop_one] <;> omega) | fail) [-List.map_take, -List.map_drop, -List.map_set, -List.map_append, -List.drop_one]) (by simp (disch := first | omega | (simp [-List.map_take, -List.map_drop, -List.map_set, -List.map_append, -List.drop_one] <;> omega) | fail) [-List.map_take, -List.map_drop, -List.map_set, -List.map_append, -List.drop_one]), by omega, by omega⟩
  · have h1 : ¬ (i : Int) < 32 := by omega
    obtain rfl : i = 32 := by omega
    have h2 : a.take 32 = a := List.take_of_length_le (by omega)
    simp (disch := first | omega | (simp [-List.map_take, -List.map_drop, -List.map_set, -List.map_append, -List.drop_one] <;> omega) | fail) [-List.map_take, -List.map_drop, -List.map_set, -List.map_append, -List.drop_one, h1, h2]
    refine W_loop (S38c a b) (fun i => 32 - i) (fun i => i ≤ 32) 0 (weak_same (by simp (disch := first | omega | (simp [-List.map_take, -List.map_drop, -List.map_set, -List.map_append, -List.drop_one] <;> omega) | fail) [-List.map_take, -List.map_drop, -List.map_set, -List.map_append, -List.drop_one]) (by simp (disch := first | omega | (simp [-List.map_take, -List.map_drop, -List.map_set, -List.map_append, -List.drop_one] <;> omega) | fail) [-List.map_take, -List.map_drop, -List.map_set, -List.map_append, -List.drop_one])) (by omega) (fun i hi => ?_)
    simp (disch := first | omega | (simp [-List.map_take, -List.map_drop, -List.map_set, -List.map_append, -List.drop_one] <;> omega) | fail) [-List.map_take, -List.map_drop, -List.map_set, -List.map_append, -List.drop_one, a38L1, a38S1, S38c]
    by_cases h : i < 32
    · have h1 : (i : Int) < 32 := by omega
      simp (disch := first | omega | (simp [-List.map_take, -List.map_drop, -List.map_set, -List.map_append, -List.drop_one] <;> omega) | fail) [-List.map_take, -List.map_drop, -List.map_set, -List.map_append, -List.drop_one, h1, hb, app_nodeP, ha]
      refine ⟨i + 1, weak_same (by simp (disch := first | omega | (simp [-List.map_take, -List.map_drop, -List.map_set, -List.map_append, -List.drop_one] <;> omega) | fail) [-List.map_take, -List.map_drop, -List.map_set, -List.map_append, -List.drop_one]) (by simp (disch := first | omega | (simp [-List.map_take, -List.map_drop, -List.map_set, -List.map_append, -List.drop_one] <;> omega) | fail) [-List.map_take, -List.map_drop, -List.map_set, -List.map_append, -List.drop_one]), by omega, by omega⟩
    · have h1 : ¬ (i : Int) < 32 := by omega
      obtain rfl : i = 32 := by omega
      have h2 : b.take 32 = b := List.take_of_length_le (by omega)
      have h3 : (a ++ b).take 64 = a ++ b := List.take_of_length_le (by simp; omega)
      simp only [List.map_cons] at this
      simp (disch := first | omega | (simp [-List.map_take, -List.map_drop, -List.map_set, -List.map_append, -List.drop_one] <;> omega) | fail) [-List.map_take, -List.map_drop, -List.map_set, -List.map_append, -List.drop_one, h1, h2, T7_refsum, nodeP, nodeH, ha, hb, h3, this]
theorem sem_refnode (a b : List B8) (ha : a.length = 32) (hb : b.length = 32) : Am.Sem P 38 [.agg (a.map w8), .agg (b.map w8)] (.agg ((sum (1#8 :: (a ++ b))).map w8)) := sem_runs mix T7_sound Try.func38 a38_ok (runs_refnode a b ha hb)
noncomputable def c_leaf : List DV → Option DV := con (fun (a : Option Bool × List B8) => (a.1 = none → a.2 = []) ∧ a.2.length ≤ 999999) (fun a => [bD a.1 a.2]) (fun a => .agg ((sum (0#8 :: a.2)).map w8))
theorem c_leaf_eq {k : Option Bool} {b : List B8} (hk : k = none → b = []) (hb : b.length ≤ 999999) : c_leaf [bD k b] = some (.agg ((sum (0#8 :: b)).map w8)) :=
  con_eq' (A := fun (a : Option Bool × List B8) => (a.1 = none → a.2 = []) ∧ a.2.length ≤ 999999) (f := fun a => [bD a.1 a.2]) (g := fun a => .agg ((sum (0#8 :: a.2)).map w8)) (a := (k, b)) (by rintro ⟨a, b⟩ ⟨c, d⟩ h1 h2 e; rw [bD_inj h1.1 h2.1 (by simpa using e)]) ⟨hk, hb⟩
noncomputable def c_node : List DV → Option DV := con (fun (a : List B8 × List B8) => a.1.length = 32 ∧ a.2.length = 32) (fun a => [.agg (a.1.map w8), .agg (a.2.map w8)]) (fun a => .agg ((sum (1#8 :: (a.1 ++ a.2))).map w8))
theorem c_node_eq {a b : List B8} (ha : a.length = 32) (hb : b.length = 32) : c_node [.agg (a.map w8), .agg (b.map w8)] = some (.agg ((sum (1#8 :: (a ++ b))).map w8)) :=
  con_eq' (a := (a, b)) (by rintro ⟨a, b⟩ ⟨c, d⟩ _ _ e; simp only [List.cons.injEq, DV.agg.injEq, map_inj_w8, and_true] at e; obtain ⟨rfl, rfl⟩ := e; rfl) ⟨ha, hb⟩
noncomputable def T9 : Tbl := addT 35 (.pure c_leaf) (addT 36 (.pure c_leaf) (addT 37 (.pure c_node) (addT 38 (.pure c_node) T7)))
theorem T9_leaf : T9 35 = .pure c_leaf := by simp [T9]
theorem T9_refleaf : T9 36 = .pure c_leaf := by simp [T9]
theorem T9_node : T9 37 = .pure c_node := by simp [T9]
theorem T9_refnode : T9 38 = .pure c_node := by simp [T9]
theorem T9_awake : T9 32 = .pure c_true := by simp [T9, T7]
theorem T9_sound : T9.Sound P := addT_sound (con_sound fun a h => sem_leaf a.1 a.2 h.1 h.2) (addT_sound (con_sound fun a h => sem_refleaf a.1 a.2 h.1 h.2) (addT_sound (con_sound fun a h => sem_node a.1 a.2 h.1 h.2) (addT_sound (con_sound fun a h => sem_refnode a.1 a.2 h.1 h.2) T7_sound)))
theorem runs_nodes (k : Option Bool) (b x y : List B8) (hk : k = none → b = []) (hx : x.length = 32) (hy : y.length = 32) : Runs T9 a10 [bD k b, .agg (x.map w8), .agg (y.map w8)] (.bool true) := by
  refine ⟨?_⟩
  by_cases h : b.length ≤ 5000
  · have h1 : ¬ (5000 : Int) < b.length := by omega
    have hp : pureD (bD k b) = true := pure_slD pureL_w8
    simp (disch := first | omega | (simp [-List.map_take, -List.map_drop, -List.map_set, -List.map_append, -List.drop_one] <;> omega) | fail) [-List.map_take, -List.map_drop, -List.map_set, -List.map_append, -List.drop_one, a10, lenD_bD hk, h1, T9_awake, T9_leaf, T9_refleaf, T9_node, T9_refnode, c_true_eq, c_leaf_eq hk (by omega), c_node_eq hx hy, hp, hx, hy]
  · have h1 : (5000 : Int) < b.length := by omega
    simp (disch := first | omega | (simp [-List.map_take, -List.map_drop, -List.map_set, -List.map_append, -List.drop_one] <;> omega) | fail) [-List.map_take, -List.map_drop, -List.map_set, -List.map_append, -List.drop_one, a10, lenD_bD hk, h1]
theorem sem_nodes (k : Option Bool) (b x y : List B8) (hk : k = none → b = []) (hx : x.length = 32) (hy : y.length = 32) : Am.Sem P 10 [bD k b, .agg (x.map w8), .agg (y.map w8)] (.bool true) := sem_runs mix T9_sound Try.func10 a10_ok (runs_nodes k b x y hk hx hy)
namespace digestNodes
theorem law_holds (dvs : List DV) (h : Ty.Args [.sl (.int .u8), .arr 32 (.int .u8), .arr 32 (.int .u8)] dvs) : Am.Sem P 10 dvs (.bool true) := by
  obtain ⟨ds, l, rfl, h1, d2, l2, rfl, h2, d3, l3, rfl, h3, rfl⟩ := h
  obtain ⟨k, b, hk, rfl⟩ := ok_bytes h1
  obtain ⟨x, hx, rfl⟩ := ok_words h2
  obtain ⟨y, hy, rfl⟩ := ok_words h3
  exact sem_nodes k b x y hk hx hy
end digestNodes
end Go.Proofs.Ythkcgeokfcbllaa
