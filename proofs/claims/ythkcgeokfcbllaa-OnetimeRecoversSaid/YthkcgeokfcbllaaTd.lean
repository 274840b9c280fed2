/-
  Trees: of the program and of the reference; the laws DigestTrees and DigestSplits.
-/
import Derived.Test.YthkcgeokfcbllaaTc
import Derived.Test.YthkcgeokfcbllaaFc
set_option linter.unusedSimpArgs false
set_option linter.unusedVariables false
namespace Go.Proofs.Ythkcgeokfcbllaa
open Go Go.Am

/-! lists of digests -/
def fl (l : List (List B8)) : List DV := l.flatMap (List.map w8)
abbrev D32 (l : List (List B8)) : Prop := ∀ a ∈ l, a.length = 32
theorem fl_cons (a : List B8) (l : List (List B8)) : fl (a :: l) = a.map w8 ++ fl l := rfl
theorem len_fl : ∀ {l : List (List B8)}, D32 l → (fl l).length = l.length * 32
  | [], _ => rfl
  | a :: l, h => by
    rw [fl_cons, List.length_append, List.length_map, h a (by simp), len_fl (fun b hb => h b (by simp [hb])), List.length_cons]
    omega
theorem take_fl : ∀ {l : List (List B8)}, D32 l → ∀ i, (fl l).take (i * 32) = fl (l.take i)
  | [], _, i => by simp [fl]
  | a :: l, h, 0 => by simp [fl]
  | a :: l, h, i + 1 => by
    have ha := h a (by simp)
    rw [fl_cons, List.take_append, List.take_of_length_le (by rw [List.length_map]; omega), List.length_map, ha, show (i + 1) * 32 - 32 = i * 32 from by omega, take_fl (fun b hb => h b (by simp [hb])), List.take_succ_cons, fl_cons]
theorem drop_fl : ∀ {l : List (List B8)}, D32 l → ∀ i, (fl l).drop (i * 32) = fl (l.drop i)
  | [], _, i => by simp [fl]
  | a :: l, h, 0 => by simp [fl]
  | a :: l, h, i + 1 => by
    have ha := h a (by simp)
    rw [fl_cons, List.drop_append, List.drop_of_length_le (by rw [List.length_map]; omega), List.length_map, ha, show (i + 1) * 32 - 32 = i * 32 from by omega, drop_fl (fun b hb => h b (by simp [hb])), List.nil_append, List.drop_succ_cons]
theorem fl_inj : ∀ {l l' : List (List B8)}, D32 l → D32 l' → fl l = fl l' → l = l'
  | [], [], _, _, _ => rfl
  | [], b :: l', _, h', e => by
    have := congrArg List.length e
    rw [len_fl h'] at this
    simp [fl] at this
  | a :: l, [], h, _, e => by
    have := congrArg List.length e
    rw [len_fl h] at this
    simp [fl] at this
  | a :: l, b :: l', h, h', e => by
    rw [fl_cons, fl_cons] at e
    have h1 := List.append_inj e (by rw [List.length_map, List.length_map, h a (by simp), h' b (by simp)])
    rw [map_inj_w8] at h1
    rw [h1.1, fl_inj (fun c hc => h c (by simp [hc])) (fun c hc => h' c (by simp [hc])) h1.2]
theorem pure_fl : ∀ (l : List (List B8)), pureL (fl l) = true
  | [] => rfl
  | a :: l => by
    have app : ∀ (x y : List DV), pureL x = true → pureL y = true → pureL (x ++ y) = true := by
      intro x
      induction x with
      | nil => intro y _ h; exact h
      | cons d r ih => intro y h1 h2; simp only [List.cons_append, pureL, Bool.and_eq_true] at *; exact ⟨h1.1, ih y h1.2 h2⟩
    rw [fl_cons]; exact app _ _ pureL_w8 (pure_fl l)
abbrev dD (k : Option Bool) (l : List (List B8)) : DV := slD k 32 l.length (fl l)

/-- the greatest power of two less than n -/
def splitN (n : Nat) : Nat := 2 ^ Nat.log2 (n - 1)
theorem splitN_lt {n : Nat} (h : 2 ≤ n) : 0 < splitN n ∧ splitN n < n := by
  have h1 := Nat.log2_self_le (n := n - 1) (by omega)
  have h2 : 0 < 2 ^ Nat.log2 (n - 1) := Nat.pow_pos (by decide)
  unfold splitN
  omega
theorem splitN_of {n j : Nat} (h1 : 2 ^ j < n) (h2 : n ≤ 2 * 2 ^ j) : splitN n = 2 ^ j := by
  have h0 : 0 < 2 ^ j := Nat.pow_pos (by decide)
  unfold splitN
  rw [(Nat.log2_eq_iff (n := n - 1) (k := j) (by omega)).2 ⟨by omega, by rw [Nat.pow_succ]; omega⟩]
def tree (l : List (List B8)) : List B8 :=
  if h : 2 ≤ l.length then
    have h' := splitN_lt h
    sum (1#8 :: (tree (l.take (splitN l.length)) ++ tree (l.drop (splitN l.length))))
  else l.headD (rep 32 0#8)
termination_by l.length
decreasing_by
  all_goals simp
  all_goals omega
theorem tree_two {l : List (List B8)} (h : 2 ≤ l.length) : tree l = sum (1#8 :: (tree (l.take (splitN l.length)) ++ tree (l.drop (splitN l.length)))) := by rw [tree.eq_def, dif_pos h]
theorem tree_nil : tree [] = rep 32 0#8 := by rw [tree.eq_def]; rfl
theorem tree_one (a : List B8) : tree [a] = a := by rw [tree.eq_def]; rfl
theorem len_tree {l : List (List B8)} (h : D32 l) : (tree l).length = 32 := by
  by_cases h2 : 2 ≤ l.length
  · rw [tree_two h2]; simp
  · match l, h2 with
    | [], _ => rw [tree_nil]; rfl
    | [a], _ => rw [tree_one]; exact h a (by simp)
    | _ :: _ :: _, h2 => simp at h2

/-! bits.Len -/
def len8tab : List UInt8 := [0, 1, 2, 2, 3, 3, 3, 3, 4, 4, 4, 4, 4, 4, 4, 4, 5, 5, 5, 5, 5, 5, 5, 5, 5, 5, 5, 5, 5, 5, 5, 5, 6, 6, 6, 6, 6, 6, 6, 6, 6, 6, 6, 6, 6, 6, 6, 6, 6, 6, 6, 6, 6, 6, 6, 6, 6, 6, 6, 6, 6, 6, 6, 6, 7, 7, 7, 7, 7, 7, 7, 7, 7, 7, 7, 7, 7, 7, 7, 7, 7, 7, 7, 7, 7, 7, 7, 7, 7, 7, 7, 7, 7, 7, 7, 7, 7, 7, 7, 7, 7, 7, 7, 7, 7, 7, 7, 7, 7, 7, 7, 7, 7, 7, 7, 7, 7, 7, 7, 7, 7, 7, 7, 7, 7, 7, 7, 7, 8, 8, 8, 8, 8, 8, 8, 8, 8, 8, 8, 8, 8, 8, 8, 8, 8, 8, 8, 8, 8, 8, 8, 8, 8, 8, 8, 8, 8, 8, 8, 8, 8, 8, 8, 8, 8, 8, 8, 8, 8, 8, 8, 8, 8, 8, 8, 8, 8, 8, 8, 8, 8, 8, 8, 8, 8, 8, 8, 8, 8, 8, 8, 8, 8, 8, 8, 8, 8, 8, 8, 8, 8, 8, 8, 8, 8, 8, 8, 8, 8, 8, 8, 8, 8, 8, 8, 8, 8, 8, 8, 8, 8, 8, 8, 8, 8, 8, 8, 8, 8, 8, 8, 8, 8, 8, 8, 8, 8, 8, 8, 8, 8, 8, 8, 8, 8, 8, 8, 8, 8, 8, 8, 8, 8, 8, 8, 8]
set_option maxRecDepth 20000 in
theorem len_len8tab : len8tab.length = 256 := by decide +kernel
set_option maxRecDepth 20000 in
theorem len8tab_eq : ∀ n (h : n < len8tab.length), n ≠ 0 → IntKind.i64.wrap ((len8tab[n]).toNat : Int) = ((Nat.log2 n + 1 : Nat) : Int) := by decide +kernel
set_option maxRecDepth 20000 in
theorem runs_len64 (n : Nat) (h0 : n ≠ 0) (h1 : n < 256) : Runs tbl0 a68 [w64 (BitVec.ofNat 64 n)] (.int .i64 (Nat.log2 n + 1 : Nat)) := by
  refine ⟨?_⟩
  have c1 : ¬ (4294967296#64 ≤ BitVec.ofNat 64 n) := by rw [BitVec.le_def, BitVec.toNat_ofNat, BitVec.toNat_ofNat]; omega
  have c2 : ¬ (65536#64 ≤ BitVec.ofNat 64 n) := by rw [BitVec.le_def, BitVec.toNat_ofNat, BitVec.toNat_ofNat]; omega
  have c3 : ¬ (256#64 ≤ BitVec.ofNat 64 n) := by rw [BitVec.le_def, BitVec.toNat_ofNat, BitVec.toNat_ofNat]; omega
  have e1 : (BitVec.ofNat 8 n).toNat = n := by simp; omega
  have hlog : Nat.log2 n < 8 := (Nat.log2_lt h0).2 h1
  have e2 : (BitVec.ofNat 8 (Nat.log2 n + 1)).toNat = Nat.log2 n + 1 := by simp; omega
  simp (disch := first | omega | (simp [-List.map_take, -List.map_drop, -List.map_set, -List.map_append, -List.drop_one] <;> omega) | fail) [-List.map_take, -List.map_drop, -List.map_set, -List.map_append, -List.drop_one, a68, c1, c2, c3]
  have e3 : ((n : Int) % 256).toNat = n := by omega
  have := len8tab_eq n (by rw [len_len8tab]; exact h1) h0
  simp only [e3]
  simpa [len8tab] using this
theorem sem_len64 (n : Nat) (h0 : n ≠ 0) (h1 : n < 256) : Am.Sem P 68 [w64 (BitVec.ofNat 64 n)] (.int .i64 (Nat.log2 n + 1 : Nat)) := sem_runs mix tbl0_sound Try.func68 a68_ok (runs_len64 n h0 h1)
noncomputable def c_len : List DV → Option DV := con (fun (n : Nat) => n ≠ 0 ∧ n < 256) (fun n => [w64 (BitVec.ofNat 64 n)]) (fun n => .int .i64 (Nat.log2 n + 1 : Nat))
theorem c_len_eq {n : Nat} (h0 : n ≠ 0) (h1 : n < 256) : c_len [w64 (BitVec.ofNat 64 n)] = some (.int .i64 (Nat.log2 n + 1 : Nat)) :=
  con_eq' (a := n) (by
    intro a b ha hb e
    simp only [List.cons.injEq, and_true, inj_w64] at e
    have := congrArg BitVec.toNat e
    rw [BitVec.toNat_ofNat, BitVec.toNat_ofNat] at this
    have : a = b := by omega
    rw [this]) ⟨h0, h1⟩
noncomputable def T11 : Tbl := addT 68 (.pure c_len) tbl0
theorem T11_len : T11 68 = .pure c_len := by simp [T11]
theorem T11_sound : T11.Sound P := addT_sound (con_sound fun n h => sem_len64 n h.1 h.2) tbl0_sound
theorem runs_len (n : Nat) (h0 : n ≠ 0) (h1 : n < 256) : Runs T11 a56 [w64 (BitVec.ofNat 64 n)] (.int .i64 (Nat.log2 n + 1 : Nat)) := by
  refine ⟨?_⟩
  simp (disch := first | omega | (simp [-List.map_take, -List.map_drop, -List.map_set, -List.map_append, -List.drop_one] <;> omega) | fail) [-List.map_take, -List.map_drop, -List.map_set, -List.map_append, -List.drop_one, a56, T11_len, c_len_eq h0 h1]
theorem sem_len (n : Nat) (h0 : n ≠ 0) (h1 : n < 256) : Am.Sem P 56 [w64 (BitVec.ofNat 64 n)] (.int .i64 (Nat.log2 n + 1 : Nat)) := sem_runs mix T11_sound Try.func56 a56_ok (runs_len n h0 h1)

/-! the trees -/
abbrev TreeA (n : Nat) (a : Option Bool × List (List B8)) : Prop := (a.1 = none → a.2 = []) ∧ D32 a.2 ∧ a.2.length < n ∧ a.2.length ≤ 200
theorem dD_inj {k k' : Option Bool} {l l' : List (List B8)} (hk : k = none → l = []) (hk' : k' = none → l' = []) (h : D32 l) (h' : D32 l') (e : dD k l = dD k' l') : l = l' := by
  cases k with
  | none =>
    cases k' with
    | none => rw [hk rfl, hk' rfl]
    | some f => simp [slD] at e
  | some f =>
    cases k' with
    | none => simp [slD] at e
    | some f' =>
      simp only [slD, DV.sl.injEq] at e
      exact fl_inj h h' e.2.2.2
noncomputable def c_tree (n : Nat) : List DV → Option DV := con (TreeA n) (fun a => [dD a.1 a.2]) (fun a => .agg ((tree a.2).map w8))
theorem c_tree_eq {n : Nat} {k : Option Bool} {l : List (List B8)} (h : TreeA n (k, l)) : c_tree n [dD k l] = some (.agg ((tree l).map w8)) :=
  con_eq' (A := TreeA n) (f := fun a => [dD a.1 a.2]) (g := fun a => .agg ((tree a.2).map w8)) (a := (k, l)) (by rintro ⟨a, b⟩ ⟨c, d⟩ h1 h2 e; rw [dD_inj h1.1 h2.1 h1.2.1 h2.2.1 (by simpa using e)]) h
theorem c_tree_sl {n : Nat} {f : Bool} {m : Nat} {l : List (List B8)} (h32 : D32 l) (hm : l.length = m) (hn : m < n) (h200 : m ≤ 200) : c_tree n [.sl f 32 m (fl l)] = some (.agg ((tree l).map w8)) := by
  subst hm
  exact c_tree_eq (k := some f) ⟨by simp, h32, hn, h200⟩
noncomputable def T12 (n : Nat) : Tbl := addT 40 (.pure (c_tree n)) (addT 56 (.pure c_len) T9)
theorem T12_tree (n : Nat) : T12 n 40 = .pure (c_tree n) := by simp [T12]
theorem T12_len (n : Nat) : T12 n 56 = .pure c_len := by simp [T12]
theorem T12_node (n : Nat) : T12 n 37 = .pure c_node := by simp [T12, T9]
theorem D32_take {l : List (List B8)} (h : D32 l) (i : Nat) : D32 (l.take i) := fun a ha => h a (List.mem_of_mem_take ha)
theorem D32_drop {l : List (List B8)} (h : D32 l) (i : Nat) : D32 (l.drop i) := fun a ha => h a (List.mem_of_mem_drop ha)
set_option maxRecDepth 20000 in
theorem runs_tree (n : Nat) (k : Option Bool) (l : List (List B8)) (hk : k = none → l = []) (h : D32 l) (hn : l.length = n) (h200 : n ≤ 200) : Runs (T12 n) a40 [dD k l] (.agg ((tree l).map w8)) := by
  refine ⟨?_⟩
  have hln : ∀ h, lenD h (dD k l) = some (.int .i64 l.length) := fun h => lenD_slD (fun e => by rw [hk e]; rfl)
  by_cases h2 : 2 ≤ l.length
  · cases k with
    | none => simp [hk rfl] at h2
    | some f =>
      have c0 : ¬ ((l.length : Int) = 0) := by omega
      have c1 : ¬ (l.length = 1) := by omega
      have c2 : ¬ (l = []) := by rintro rfl; simp at h2
      have c3 : ¬ ((l.length : Int) = 1) := by omega
      have hsp := splitN_lt h2
      have e0 : BitVec.ofInt 64 ((l.length : Int) - 1) = BitVec.ofNat 64 (l.length - 1) := by
        rw [show (l.length : Int) - 1 = ((l.length - 1 : Nat) : Int) from by omega, BitVec.ofInt_natCast]
      have hlog : Nat.log2 (l.length - 1) < 8 := (Nat.log2_lt (by omega)).2 (by omega)
      have e1 : (1 : Int) * 2 ^ (Nat.log2 (l.length - 1)) = ((splitN l.length : Nat) : Int) := by simp [splitN]
      have e2 : (2 : Int) ^ (Nat.log2 (l.length - 1)) = ((splitN l.length : Nat) : Int) := by simp [splitN]
      have cl := c_len_eq (n := l.length - 1) (by omega) (by omega)
      have t1 := fun i => take_fl h i
      have t2 := fun i => drop_fl h i
      have t3 : (fl (l.drop (splitN l.length))).take ((l.length - splitN l.length) * 32) = fl (l.drop (splitN l.length)) := by
        rw [take_fl (D32_drop h _)]
        congr 1
        exact List.take_of_length_le (by simp)
      have d1 := D32_take h (splitN l.length)
      have d2 := D32_drop h (splitN l.length)
      have r1 := fun g => c_tree_sl (n := n) (f := g) (m := splitN l.length) d1 (by simp; omega) (by omega) (by omega)
      have r2 := fun g => c_tree_sl (n := n) (f := g) (m := l.length - splitN l.length) d2 (by simp) (by omega) (by omega)
      have n1 := c_node_eq (len_tree d1) (len_tree d2)
      have hlt := len_tree h
      simp (disch := first | omega | (simp [-List.map_take, -List.map_drop, -List.map_set, -List.map_append, -List.drop_one] <;> omega) | fail) [-List.map_take, -List.map_drop, -List.map_set, -List.map_append, -List.drop_one, a40, hln, c0, c1, c2, c3, T12_len, e0, cl, e1, e2, slD_some, t1, t2, t3, T12_tree, r1, r2, T12_node, n1, pure_fl, ← tree_two h2, hlt]
  · match l, h2 with
    | [], _ =>
      simp (disch := first | omega | (simp [-List.map_take, -List.map_drop, -List.map_set, -List.map_append, -List.drop_one] <;> omega) | fail) [-List.map_take, -List.map_drop, -List.map_set, -List.map_append, -List.drop_one, a40, hln, tree_nil]
    | [a], _ =>
      cases k with
      | none => simp at hk
      | some f =>
        have ha := h a (by simp)
        have e1 : fl [a] = a.map w8 := by simp [fl]
        simp (disch := first | omega | (simp [-List.map_take, -List.map_drop, -List.map_set, -List.map_append, -List.drop_one] <;> omega) | fail) [-List.map_take, -List.map_drop, -List.map_set, -List.map_append, -List.drop_one, a40, hln, tree_one, e1, slD_some, ha]
        exact List.take_of_length_le (by omega)
    | _ :: _ :: _, h2 => simp at h2
theorem T12_sound (n : Nat) (hn : ∀ k l, TreeA n (k, l) → Am.Sem P 40 [dD k l] (.agg ((tree l).map w8))) : (T12 n).Sound P :=
  addT_sound (con_sound fun a h => hn a.1 a.2 h) (addT_sound (con_sound fun n h => sem_len n h.1 h.2) T9_sound)
theorem sem_tree (k : Option Bool) (l : List (List B8)) (hk : k = none → l = []) (h : D32 l) (h200 : l.length ≤ 200) : Am.Sem P 40 [dD k l] (.agg ((tree l).map w8)) := by
  have key : ∀ (n : Nat) (k : Option Bool) (l : List (List B8)), l.length = n → (k = none → l = []) → D32 l → l.length ≤ 200 → Am.Sem P 40 [dD k l] (.agg ((tree l).map w8)) := by
    intro n
    induction n using Nat.strongRecOn with
    | ind n ih =>
      intro k l hn hk h h200
      exact sem_runs mix (T12_sound n fun k l h => ih l.length h.2.2.1 k l rfl h.1 h.2.1 h.2.2.2) Try.func40 a40_ok (runs_tree n k l hk h hn (by omega))
  exact key _ k l rfl hk h h200
noncomputable def T13 (n : Nat) : Tbl := addT 41 (.pure (c_tree n)) T9
theorem T13_tree (n : Nat) : T13 n 41 = .pure (c_tree n) := by simp [T13]
theorem T13_node (n : Nat) : T13 n 38 = .pure c_node := by simp [T13, T9]
def S41 (k : Option Bool) (l : List (List B8)) (q : Nat) : St := a41S0 (dD k l) (.mp 0 32 0) (.int .i64 q) [.cells ((rep 32 0#8).map w8)]
set_option maxRecDepth 20000 in
theorem runs_reftree (n : Nat) (k : Option Bool) (l : List (List B8)) (hk : k = none → l = []) (h : D32 l) (hn : l.length = n) (h200 : n ≤ 200) : Runs (T13 n) a41 [dD k l] (.agg ((tree l).map w8)) := by
  refine ⟨?_⟩
  have hln : ∀ h, lenD h (dD k l) = some (.int .i64 l.length) := fun h => lenD_slD (fun e => by rw [hk e]; rfl)
  by_cases h2 : 2 ≤ l.length
  · cases k with
    | none => simp [hk rfl] at h2
    | some f =>
      have c0 : ¬ ((l.length : Int) = 0) := by omega
      have c1 : ¬ (l.length = 1) := by omega
      have c2 : ¬ (l = []) := by rintro rfl; simp at h2
      have c3 : ¬ ((l.length : Int) = 1) := by omega
      have hsp := splitN_lt h2
      have t1 := fun i => take_fl h i
      have t2 := fun i => drop_fl h i
      have t3 : (fl (l.drop (splitN l.length))).take ((l.length - splitN l.length) * 32) = fl (l.drop (splitN l.length)) := by
        rw [take_fl (D32_drop h _)]
        congr 1
        exact List.take_of_length_le (by simp)
      have d1 := D32_take h (splitN l.length)
      have d2 := D32_drop h (splitN l.length)
      have r1 := fun g => c_tree_sl (n := n) (f := g) (m := splitN l.length) d1 (by simp; omega) (by omega) (by omega)
      have r2 := fun g => c_tree_sl (n := n) (f := g) (m := l.length - splitN l.length) d2 (by simp) (by omega) (by omega)
      have n1 := c_node_eq (len_tree d1) (len_tree d2)
      have hlt := len_tree h
      simp (disch := first | omega | (simp [-List.map_take, -List.map_drop, -List.map_set, -List.map_append, -List.drop_one] <;> omega) | fail) [-List.map_take, -List.map_drop, -List.map_set, -List.map_append, -List.drop_one, a41, hln, c0, c1, c2, c3]
      refine W_loop (S41 (some f) l) (fun q => l.length - q) (fun q => (∃ j, q = 2 ^ j) ∧ q < l.length) 1 (weak_same (by simp (disch := first | omega | (simp [-List.map_take, -List.map_drop, -List.map_set, -List.map_append, -List.drop_one] <;> omega) | fail) [-List.map_take, -List.map_drop, -List.map_set, -List.map_append, -List.drop_one]) (by simp (disch := first | omega | (simp [-List.map_take, -List.map_drop, -List.map_set, -List.map_append, -List.drop_one] <;> omega) | fail) [-List.map_take, -List.map_drop, -List.map_set, -List.map_append, -List.drop_one])) ⟨⟨0, rfl⟩, by omega⟩ (fun q hq => ?_)
      obtain ⟨⟨j, hq⟩, hql⟩ := hq
      have hj0 : 0 < q := by rw [hq]; exact Nat.pow_pos (by decide)
      simp (disch := first | omega | (simp [-List.map_take, -List.map_drop, -List.map_set, -List.map_append, -List.drop_one] <;> omega) | fail) [-List.map_take, -List.map_drop, -List.map_set, -List.map_append, -List.drop_one, a41L0, a41S0, S41, hln]
      by_cases hc : 2 * q < l.length
      · have hc1 : 2 * (q : Int) < l.length := by omega
        simp (disch := first | omega | (simp [-List.map_take, -List.map_drop, -List.map_set, -List.map_append, -List.drop_one] <;> omega) | fail) [-List.map_take, -List.map_drop, -List.map_set, -List.map_append, -List.drop_one, hc1]
        refine ⟨2 * q, weak_same (by simp (disch := first | omega | (simp [-List.map_take, -List.map_drop, -List.map_set, -List.map_append, -List.drop_one] <;> omega) | fail) [-List.map_take, -List.map_drop, -List.map_set, -List.map_append, -List.drop_one]) (by simp (disch := first | omega | (simp [-List.map_take, -List.map_drop, -List.map_set, -List.map_append, -List.drop_one] <;> omega) | fail) [-List.map_take, -List.map_drop, -List.map_set, -List.map_append, -List.drop_one]), by omega, ⟨j + 1, by rw [Nat.pow_succ, hq]; omega⟩, by omega⟩
      · have hc1 : ¬ 2 * (q : Int) < l.length := by omega
        obtain rfl : q = splitN l.length := by rw [hq]; exact (splitN_of (by omega) (by omega)).symm
        simp (disch := first | omega | (simp [-List.map_take, -List.map_drop, -List.map_set, -List.map_append, -List.drop_one] <;> omega) | fail) [-List.map_take, -List.map_drop, -List.map_set, -List.map_append, -List.drop_one, hc1, slD_some, t1, t2, t3, T13_tree, r1, r2, T13_node, n1, pure_fl, ← tree_two h2, hlt]
  · match l, h2 with
    | [], _ =>
      simp (disch := first | omega | (simp [-List.map_take, -List.map_drop, -List.map_set, -List.map_append, -List.drop_one] <;> omega) | fail) [-List.map_take, -List.map_drop, -List.map_set, -List.map_append, -List.drop_one, a41, hln, tree_nil]
    | [a], _ =>
      cases k with
      | none => simp at hk
      | some f =>
        have ha := h a (by simp)
        have e1 : fl [a] = a.map w8 := by simp [fl]
        simp (disch := first | omega | (simp [-List.map_take, -List.map_drop, -List.map_set, -List.map_append, -List.drop_one] <;> omega) | fail) [-List.map_take, -List.map_drop, -List.map_set, -List.map_append, -List.drop_one, a41, hln, tree_one, e1, slD_some, ha]
        exact List.take_of_length_le (by omega)
    | _ :: _ :: _, h2 => simp at h2
theorem T13_sound (n : Nat) (hn : ∀ k l, TreeA n (k, l) → Am.Sem P 41 [dD k l] (.agg ((tree l).map w8))) : (T13 n).Sound P :=
  addT_sound (con_sound fun a h => hn a.1 a.2 h) T9_sound
theorem sem_reftree (k : Option Bool) (l : List (List B8)) (hk : k = none → l = []) (h : D32 l) (h200 : l.length ≤ 200) : Am.Sem P 41 [dD k l] (.agg ((tree l).map w8)) := by
  have key : ∀ (n : Nat) (k : Option Bool) (l : List (List B8)), l.length = n → (k = none → l = []) → D32 l → l.length ≤ 200 → Am.Sem P 41 [dD k l] (.agg ((tree l).map w8)) := by
    intro n
    induction n using Nat.strongRecOn with
    | ind n ih =>
      intro k l hn hk h h200
      exact sem_runs mix (T13_sound n fun k l h => ih l.length h.2.2.1 k l rfl h.1 h.2.1 h.2.2.2) Try.func41 a41_ok (runs_reftree n k l hk h hn (by omega))
  exact key _ k l rfl hk h h200
end Go.Proofs.Ythkcgeokfcbllaa
