/-
  Match of the program.
-/
import Derived.Test.YtjjcdmjgbbaliaaDoorPe
set_option linter.unusedSimpArgs false
set_option linter.unusedVariables false
namespace Go.Proofs.YtjjcdmjgbbaliaaDoor
open Go Go.Am

theorem ptC_inj {x y : Pt} (e : ptC x = ptC y) : x = y := by
  cases x <;> cases y <;> simp [ptC, Pt.kind, Pt.chr, inj_w8] at e ⊢ <;> exact e
noncomputable def c_class : List DV → Option DV := con (fun (_ : Pt) => True) (fun x => [.agg (ptC x)]) classD
theorem c_class_eq {x : Pt} : c_class [.agg [.int .i64 x.kind, w8 x.chr]] = some (classD x) :=
  con_eq' (A := fun (_ : Pt) => True) (a := x) (f := fun x => [.agg (ptC x)]) (g := classD) (by intro a b _ _ e; simp only [List.cons.injEq, DV.agg.injEq, and_true] at e; rw [ptC_inj e]) trivial
noncomputable def c_rep : List DV → Option DV := con (fun (_ : Pt) => True) (fun x => [.agg (ptC x)]) (fun x => .bool x.long)
theorem c_rep_eq {x : Pt} : c_rep [.agg [.int .i64 x.kind, w8 x.chr]] = some (.bool x.long) :=
  con_eq' (A := fun (_ : Pt) => True) (a := x) (f := fun x => [.agg (ptC x)]) (g := fun x => .bool x.long) (by intro a b _ _ e; simp only [List.cons.injEq, DV.agg.injEq, and_true] at e; rw [ptC_inj e]) trivial
noncomputable def c_cl1 : List DV → Option DV := con (fun (_ : B8 × B8) => True) (fun a => [w8 a.1, .ref [.int .i64 0, w8 a.2]]) (fun a => .bool (a.1 == a.2))
theorem c_cl1_eq {b c : B8} : c_cl1 [w8 b, .ref [.int .i64 0, w8 c]] = some (.bool (b == c)) :=
  con_eq' (A := fun (_ : B8 × B8) => True) (a := (b, c)) (f := fun a => [w8 a.1, .ref [.int .i64 0, w8 a.2]]) (g := fun a => .bool (a.1 == a.2)) (by
    rintro ⟨a, b⟩ ⟨c, d⟩ _ _ e; simp only [List.cons.injEq, DV.ref.injEq, inj_w8, and_true, true_and] at e; obtain ⟨rfl, rfl⟩ := e; rfl) trivial
noncomputable def c_cl2 : List DV → Option DV := con (fun (_ : B8) => True) (fun a => [w8 a]) (fun _ => .bool true)
theorem c_cl2_eq {b : B8} : c_cl2 [w8 b] = some (.bool true) :=
  con_eq' (A := fun (_ : B8) => True) (a := b) (f := fun a => [w8 a]) (g := fun _ => .bool true) (by intros; rfl) trivial
noncomputable def c_cl3 : List DV → Option DV := con (fun (_ : B8) => True) (fun a => [w8 a]) (fun a => .bool (a != 47#8))
theorem c_cl3_eq {b : B8} : c_cl3 [w8 b] = some (.bool (b != 47#8)) :=
  con_eq' (A := fun (_ : B8) => True) (a := b) (f := fun a => [w8 a]) (g := fun a => .bool (a != 47#8)) (by intro a b _ _ e; simp only [List.cons.injEq, inj_w8, and_true] at e; rw [e]) trivial
noncomputable def T59 : Tbl := addT 47 (.pure c_class) (addT 48 (.pure c_rep) (addT 89 (.pure c_cl1) (addT 90 (.pure c_cl2) (addT 91 (.pure c_cl3)
  (addT 46 (.pure (cS partsR)) (addT 16 (.pure (cS pathB)) tbl0))))))
theorem T59_class : T59 47 = .pure c_class := by simp [T59]
theorem T59_rep : T59 48 = .pure c_rep := by simp [T59]
theorem T59_cl1 : T59 89 = .pure c_cl1 := by simp [T59]
theorem T59_cl2 : T59 90 = .pure c_cl2 := by simp [T59]
theorem T59_cl3 : T59 91 = .pure c_cl3 := by simp [T59]
theorem T59_parse : T59 46 = .pure (cS partsR) := by simp [T59]
theorem T59_path : T59 16 = .pure (cS pathB) := by simp [T59]
theorem T59_sound : T59.Sound P :=
  addT_sound (con_sound fun x _ => sem_runs mix tbl0_sound Tryd.func47 a47_ok (runs_class x))
  (addT_sound (con_sound fun x _ => sem_runs mix tbl0_sound Tryd.func48 a48_ok (runs_repeats x))
  (addT_sound (con_sound fun a _ => sem_runs mix tbl0_sound Tryd.func89 a89_ok (runs_class1 a.1 a.2))
  (addT_sound (con_sound fun a _ => sem_runs mix tbl0_sound Tryd.func90 a90_ok (runs_class2 a))
  (addT_sound (con_sound fun a _ => sem_runs mix tbl0_sound Tryd.func91 a91_ok (runs_class3 a))
  (addT_sound (cS_sound fun p => sem_runs mix T57_sound Tryd.func46 a46_ok (runs_parse p))
  (addT_sound (cS_sound fun p => sem_runs mix T57_sound Tryd.func16 a16_ok (runs_path p)) tbl0_sound))))))
theorem callF_class {y : Pt} {b : B8} {h : List AObj} : callF T59 false (classD y) [w8 b] h = some (.bool (y.takes b), h) := by
  cases y with
  | one c => simp [classD, callF_fn, T59_cl1, c_cl1_eq, Pt.takes]
  | dot => simp [classD, callF_fn, T59_cl3, c_cl3_eq, Pt.takes]
  | some => simp [classD, callF_fn, T59_cl3, c_cl3_eq, Pt.takes]
  | whole => simp [classD, callF_fn, T59_cl2, c_cl2_eq, Pt.takes]
/-! rows of bools -/
def rowOf (f : Nat → Bool) (n : Nat) : List Bool := (List.range (n + 1)).map f
def inn (f : Nat → Bool) (i n : Nat) : List Bool := (List.range (n + 1)).map fun j => decide (j ≤ i) && f j
def falses (m : Nat) : List Bool := List.replicate m false
theorem len_rowOf (f : Nat → Bool) (n : Nat) : (rowOf f n).length = n + 1 := by simp [rowOf]
theorem len_inn (f : Nat → Bool) (i n : Nat) : (inn f i n).length = n + 1 := by simp [inn]
theorem len_falses (m : Nat) : (falses m).length = m := by simp [falses]
theorem get_rowOf {f : Nat → Bool} {n i : Nat} (h : i < (rowOf f n).length) : (rowOf f n)[i] = f i := by simp [rowOf]
theorem get_inn {f : Nat → Bool} {n i : Nat} (h : i < (inn f i n).length) : (inn f i n)[i] = f i := by simp [inn]
theorem reps_bool (m : Nat) : reps m [.bool false] = (falses m).map DV.bool := by
  unfold reps falses
  induction m with
  | zero => rfl
  | succ m ih => rw [List.replicate_succ, List.flatten_cons, ih, List.replicate_succ]; rfl
theorem rep_bool (m : Nat) : rep m (DV.bool false) = (falses m).map DV.bool := by simp [rep, falses]
theorem prs_len : ∀ (n : Nat) (s : List UInt8) (l : List Pt), s.length ≤ n → prs s = .some l → l.length ≤ s.length
  | _, [], l, _, h => by simp [prs] at h; subst h; simp
  | 0, c :: r, l, hn, h => by simp at hn
  | n + 1, c :: r, l, hn, h => by
    have hr : r.length ≤ n := by simpa using hn
    have one : ∀ (q : List UInt8) (y : Pt), q.length ≤ r.length → (prs q).map (fun l => y :: l) = .some l → l.length ≤ (c :: r).length := by
      intro q y hq e
      obtain ⟨l', e1, e2⟩ := Option.map_eq_some_iff.1 e
      have := prs_len n q l' (by omega) e1
      rw [← e2]; simp; omega
    by_cases h1 : c = 92
    · subst h1
      match r, h with
      | [], h => simp [prs_bs] at h
      | d :: r, h => rw [prs_esc] at h; exact one r _ (by simp) h
    · by_cases h2 : c = 42
      · subst h2
        match r, h with
        | [], h => simp [prs_st0] at h; subst h; simp
        | d :: r, h =>
          by_cases h3 : d = 42
          · subst h3; rw [prs_st2] at h; exact one r _ (by simp) h
          · rw [prs_st1 h3] at h; exact one _ _ (Nat.le_refl _) h
      · by_cases h3 : c = 63
        · subst h3; rw [prs_q] at h; exact one r _ (Nat.le_refl _) h
        · rw [prs_other h1 h2 h3] at h; exact one r _ (Nat.le_refl _) h
theorem parse_len {p : List UInt8} {l : List Pt} (h : parseP p = .some l) : l.length ≤ 200 := by
  unfold parseP at h
  split at h
  · rename_i hc
    have := prs_len _ p l (Nat.le_refl _) h
    omega
  · simp at h
theorem falses_inn (f : Nat → Bool) (n : Nat) : (falses (n + 1)).set 0 (f 0) = inn f 0 n := by
  apply List.ext_getElem (by simp [falses, inn])
  intro i h1 h2
  cases i with
  | zero => simp [inn]
  | succ i => simp [falses, inn]
theorem falses_row (l s) (n : Nat) : (falses (n + 1)).set 0 true = rowOf (M l s 0) n := by
  apply List.ext_getElem (by simp [falses, rowOf])
  intro i h1 h2
  cases i with
  | zero => simp [rowOf, M_zero]
  | succ i => simp [falses, rowOf, M_zero]
theorem inn_set {f : Nat → Bool} {i n : Nat} (h : i < n) : (inn f i n).set (i + 1) (f (i + 1)) = inn f (i + 1) n := by
  apply List.ext_getElem (by simp [inn])
  intro j h1 h2
  rw [List.getElem_set]
  split
  · rename_i e; subst e; simp [inn]
  · rename_i e
    simp only [inn, List.getElem_map, List.getElem_range]
    by_cases hj : j ≤ i
    · have : j ≤ i + 1 := by omega
      simp [hj, this]
    · have : ¬ j ≤ i + 1 := by omega
      simp [hj, this]
theorem inn_all (f : Nat → Bool) (n : Nat) : inn f n n = rowOf f n := by
  apply List.ext_getElem (by simp [inn, rowOf])
  intro j h1 h2
  have : j ≤ n := by simp [inn] at h1; omega
  simp [inn, rowOf, this]
theorem objV_pre {pre l : List AObj} {j ver : Nat} : objV (pre ++ l) (pre.length + j) ver = objV l j ver := by
  simp only [objV, objAt]; rw [List.getElem?_append_right (by omega)]; simp
theorem objV_pre0 {pre l : List AObj} {ver : Nat} : objV (pre ++ l) pre.length ver = objV l 0 ver := by
  have := objV_pre (pre := pre) (l := l) (j := 0) (ver := ver)
  simpa using this
theorem set_pre0 {pre l : List AObj} {o : AObj} : (pre ++ l).set pre.length o = pre ++ l.set 0 o := by rw [List.set_append_right _ _ (by omega)]; simp
theorem set_pre {pre l : List AObj} {j : Nat} {o : AObj} : (pre ++ l).set (pre.length + j) o = pre ++ l.set j o := by rw [List.set_append_right _ _ (by omega)]; simp
theorem get_cellsP : ∀ {l : List Pt} {k : Nat} (h : k < l.length), ((cellsP l).drop (k * 2)).take 2 = [.int .i64 l[k].kind, w8 l[k].chr]
  | x :: l, 0, _ => by simp [cellsP, ptC]
  | x :: l, k + 1, h => by
    have := get_cellsP (l := l) (k := k) (by simpa using h)
    have e : cellsP (x :: l) = .int .i64 x.kind :: w8 x.chr :: cellsP l := by simp [cellsP, ptC]
    rw [e, show (k + 1) * 2 = k * 2 + 1 + 1 by omega]
    simpa using this
theorem storeO_bool {h : List AObj} {id off : Nat} {x : Bool} {l : List Bool} (hi : off < l.length) : storeO h id 1 off (.bool x) (some (l.map DV.bool)) = some (.junk, h.set id (.cells ((l.set off x).map DV.bool))) := by
  rw [storeO_1 rfl rfl (by simpa using hi), List.map_set]
theorem rep_inn (f : Nat → Bool) (n : Nat) : (rep (n + 1) (DV.bool false)).set 0 (.bool (f 0)) = (inn f 0 n).map DV.bool := by
  rw [rep_bool, ← falses_inn, List.map_set]
theorem rep_row (l s) (n : Nat) : (rep (n + 1) (DV.bool false)).set 0 (.bool true) = (rowOf (M l s 0) n).map DV.bool := by
  rw [rep_bool, ← falses_row l s, List.map_set]
theorem one_two {a b : DV} : one 2 true [a, b] = some (.agg [a, b]) := rfl
theorem storeO_two {h : List AObj} {id : Nat} {a b c d : DV} (hc : c.one = true) (hd : d.one = true) : storeO h id 2 0 (.agg [c, d]) (some [a, b]) = some (.junk, h.set id (.cells [c, d])) := storeO_agg rfl rfl (by simp [hc, hd])
structure X8 where
  k : Nat
  pre : List AObj
def S8 (l : List Pt) (s : List UInt8) (x : X8) : St :=
  a14S0 (.str s) (.ms x.pre.length (s.length + 1) 0 1 (s.length + 1) (s.length + 1)) (.sl false 2 l.length (cellsP l)) (.int .i64 l.length) (.int .i64 x.k) (x.pre ++ [.cells ((rowOf (M l s x.k) s.length).map DV.bool)])
def S8b (l : List Pt) (s : List UInt8) (k : Nat) (y : Pt) (pre : List AObj) (i : Nat) : St :=
  a14S1 (.str s) (.ms pre.length (s.length + 1) 0 1 (s.length + 1) (s.length + 1)) (.mp (pre.length + 1) 2 0) (classD y) (.ms (pre.length + 2) (s.length + 1) 0 1 (s.length + 1) (s.length + 1)) (.sl false 2 l.length (cellsP l)) (.int .i64 l.length) (.int .i64 k) (.int .i64 s.length) (.int .i64 i)
    (pre ++ [.cells ((rowOf (M l s k) s.length).map DV.bool), .cells [.int .i64 y.kind, w8 y.chr], .cells ((inn (M l s (k + 1)) i s.length).map DV.bool)])
set_option maxRecDepth 20000 in
set_option maxHeartbeats 2000000 in
theorem runs_match (p s : List UInt8) : Runs T59 a14 [.str p, .str s] (.bool (matchD p s)) := by
  refine ⟨?_⟩
  cases hp : parseP p with
  | none =>
    have hm : matchD p s = false := by rw [matchD, hp]
    simp (disch := first | omega | (simp [-List.map_take, -List.map_drop, -List.map_set, -List.map_append, -List.drop_one] <;> omega) | fail) [-List.map_take, -List.map_drop, -List.map_set, -List.map_append, -List.drop_one, a14, T59_parse, cS_eq, partsR, hp, partsD, hm]
  | some l =>
  by_cases hs : pathD s = true
  case neg =>
    have hs : pathD s = false := by simpa using hs
    have hm : matchD p s = false := by rw [matchD, hp]; simp [hs]
    simp (disch := first | omega | (simp [-List.map_take, -List.map_drop, -List.map_set, -List.map_append, -List.drop_one] <;> omega) | fail) [-List.map_take, -List.map_drop, -List.map_set, -List.map_append, -List.drop_one, a14, T59_parse, T59_path, cS_eq, partsR, hp, partsD, pathB, hs, hm]
  have hm : matchD p s = M l s l.length s.length := by rw [matchD, hp]; simp [hs]
  have hsl : s.length ≤ 200 := by simp only [pathD, Bool.and_eq_true, decide_eq_true_eq] at hs; omega
  have hlp := parse_len hp
  have hlc := len_cellsP l
  simp (disch := first | omega | (simp [-List.map_take, -List.map_drop, -List.map_set, -List.map_append, -List.drop_one] <;> omega) | fail) [-List.map_take, -List.map_drop, -List.map_set, -List.map_append, -List.drop_one, a14, T59_parse, T59_path, cS_eq, partsR, hp, partsD, pathB, hs]
  refine W_loop (S8 l s) (fun x => l.length - x.k) (fun x => x.k ≤ l.length) ⟨0, []⟩ (weak_same (by simp (disch := first | omega | (simp [-List.map_take, -List.map_drop, -List.map_set, -List.map_append, -List.drop_one] <;> omega) | fail) [-List.map_take, -List.map_drop, -List.map_set, -List.map_append, -List.drop_one]) (by simp (disch := first | omega | (simp [-List.map_take, -List.map_drop, -List.map_set, -List.map_append, -List.drop_one] <;> omega) | fail) [-List.map_take, -List.map_drop, -List.map_set, -List.map_append, -List.drop_one]; exact (rep_row l s _).symm)) (by simp) (fun x hx => ?_)
  obtain ⟨k, pre⟩ := x
  simp only at hx
  have hlr := len_rowOf (M l s k) s.length
  simp (disch := first | omega | (simp [-List.map_take, -List.map_drop, -List.map_set, -List.map_append, -List.drop_one] <;> omega) | fail) [-List.map_take, -List.map_drop, -List.map_set, -List.map_append, -List.drop_one, a14L0, a14S0, S8]
  by_cases h : k < l.length
  · have h1 : (k : Int) < l.length := by omega
    have hg := get_cellsP h
    simp (disch := first | omega | (simp [-List.map_take, -List.map_drop, -List.map_set, -List.map_append, -List.drop_one] <;> omega) | fail) [-List.map_take, -List.map_drop, -List.map_set, -List.map_append, -List.drop_one, one_two, storeO_two, storeO_bool, h1, h, hg, objV_pre, objV_pre0, set_pre, set_pre0, T59_class, c_class_eq, hlr, get_rowOf, T59_rep, c_rep_eq]
    have hgd : l.getD k .dot = l[k] := by rw [List.getD_eq_getElem?_getD, List.getElem?_eq_getElem h]; rfl
    obtain ⟨y, hy⟩ : ∃ y, l[k] = y := ⟨_, rfl⟩
    rw [hy] at hgd
    have hf0 : M l s (k + 1) 0 = (y.long && M l s k 0) := by rw [M_first, hgd]
    obtain ⟨b0, hb0⟩ : ∃ b0, M l s k 0 = b0 := ⟨_, rfl⟩
    cases b0
    all_goals
      rw [hb0] at hf0
      simp only [Bool.and_true, Bool.and_false] at hf0
      have hr0 := rep_inn (M l s (k + 1)) s.length
      rw [hf0] at hr0
      simp (disch := first | omega | (simp [-List.map_take, -List.map_drop, -List.map_set, -List.map_append, -List.drop_one] <;> omega) | fail) [-List.map_take, -List.map_drop, -List.map_set, -List.map_append, -List.drop_one, one_two, storeO_two, storeO_bool, hy, hb0, objV_pre, objV_pre0, set_pre, set_pre0, T59_rep, c_rep_eq]
      refine W_loop (S8b l s k y pre) (fun i => s.length - i) (fun i => i ≤ s.length) 0 (weak_same (by simp (disch := first | omega | (simp [-List.map_take, -List.map_drop, -List.map_set, -List.map_append, -List.drop_one] <;> omega) | fail) [-List.map_take, -List.map_drop, -List.map_set, -List.map_append, -List.drop_one]) (by simp (disch := first | omega | (simp [-List.map_take, -List.map_drop, -List.map_set, -List.map_append, -List.drop_one] <;> omega) | fail) [-List.map_take, -List.map_drop, -List.map_set, -List.map_append, -List.drop_one, hr0])) (by omega) (fun i hi => ?_)
      have hli := len_inn (M l s (k + 1)) i s.length
      simp (disch := first | omega | (simp [-List.map_take, -List.map_drop, -List.map_set, -List.map_append, -List.drop_one] <;> omega) | fail) [-List.map_take, -List.map_drop, -List.map_set, -List.map_append, -List.drop_one, a14L1, a14S1, S8b]
      by_cases hs1 : i < s.length
      · have hs2 : (i : Int) < s.length := by omega
        have hba := bAt_get hs1
        by_cases hlg : y.long = true
        · have hM := M_long (l := l) (s := s) (k := k) (i := i) (by rw [hgd]; exact hlg)
          rw [hgd, hba] at hM
          obtain ⟨v1, hv1⟩ : ∃ v1, M l s k (i + 1) = v1 := ⟨_, rfl⟩
          obtain ⟨v2, hv2⟩ : ∃ v2, M l s (k + 1) i = v2 := ⟨_, rfl⟩
          rw [hv1, hv2] at hM
          cases v1 <;> cases v2
          all_goals
            simp only [Bool.false_or, Bool.true_or, Bool.false_and, Bool.true_and] at hM
            have hset := inn_set (f := M l s (k + 1)) hs1
            rw [hM] at hset
            simp (disch := first | omega | (simp [-List.map_take, -List.map_drop, -List.map_set, -List.map_append, -List.drop_one] <;> omega) | fail) [-List.map_take, -List.map_drop, -List.map_set, -List.map_append, -List.drop_one, one_two, storeO_bool, hs1, hs2, hlg, objV_pre, objV_pre0, set_pre, set_pre0, T59_rep, c_rep_eq, hlr, get_rowOf, hli, get_inn, callF_class, hv1, hv2]
            exact ⟨i + 1, weak_same (by simp (disch := first | omega | (simp [-List.map_take, -List.map_drop, -List.map_set, -List.map_append, -List.drop_one] <;> omega) | fail) [-List.map_take, -List.map_drop, -List.map_set, -List.map_append, -List.drop_one]) (by simp (disch := first | omega | (simp [-List.map_take, -List.map_drop, -List.map_set, -List.map_append, -List.drop_one] <;> omega) | fail) [-List.map_take, -List.map_drop, -List.map_set, -List.map_append, -List.drop_one, hset]), by omega, by omega⟩
        · have hlg : y.long = false := by simpa using hlg
          have hM := M_short (l := l) (s := s) (k := k) (i := i) (by rw [hgd]; exact hlg)
          rw [hgd, hba] at hM
          obtain ⟨v1, hv1⟩ : ∃ v1, M l s k i = v1 := ⟨_, rfl⟩
          rw [hv1] at hM
          cases v1
          all_goals
            simp only [Bool.false_and, Bool.true_and] at hM
            have hset := inn_set (f := M l s (k + 1)) hs1
            rw [hM] at hset
            simp (disch := first | omega | (simp [-List.map_take, -List.map_drop, -List.map_set, -List.map_append, -List.drop_one] <;> omega) | fail) [-List.map_take, -List.map_drop, -List.map_set, -List.map_append, -List.drop_one, one_two, storeO_bool, hs1, hs2, hlg, objV_pre, objV_pre0, set_pre, set_pre0, T59_rep, c_rep_eq, hlr, get_rowOf, hli, get_inn, callF_class, hv1]
            exact ⟨i + 1, weak_same (by simp (disch := first | omega | (simp [-List.map_take, -List.map_drop, -List.map_set, -List.map_append, -List.drop_one] <;> omega) | fail) [-List.map_take, -List.map_drop, -List.map_set, -List.map_append, -List.drop_one]) (by simp (disch := first | omega | (simp [-List.map_take, -List.map_drop, -List.map_set, -List.map_append, -List.drop_one] <;> omega) | fail) [-List.map_take, -List.map_drop, -List.map_set, -List.map_append, -List.drop_one, hset]), by omega, by omega⟩
      · have hs2 : ¬ (i : Int) < s.length := by omega
        obtain rfl : i = s.length := by omega
        simp (disch := first | omega | (simp [-List.map_take, -List.map_drop, -List.map_set, -List.map_append, -List.drop_one] <;> omega) | fail) [-List.map_take, -List.map_drop, -List.map_set, -List.map_append, -List.drop_one, hs2]
        refine ⟨⟨k + 1, pre ++ [.cells ((rowOf (M l s k) s.length).map DV.bool), .cells [.int .i64 y.kind, w8 y.chr]]⟩, weak_same (by simp (disch := first | omega | (simp [-List.map_take, -List.map_drop, -List.map_set, -List.map_append, -List.drop_one] <;> omega) | fail) [-List.map_take, -List.map_drop, -List.map_set, -List.map_append, -List.drop_one]) (by simp (disch := first | omega | (simp [-List.map_take, -List.map_drop, -List.map_set, -List.map_append, -List.drop_one] <;> omega) | fail) [-List.map_take, -List.map_drop, -List.map_set, -List.map_append, -List.drop_one, inn_all]), by show l.length - (k + 1) < l.length - k; omega, by show k + 1 ≤ l.length; omega⟩
  · have h1 : ¬ (k : Int) < l.length := by omega
    obtain rfl : k = l.length := by omega
    simp (disch := first | omega | (simp [-List.map_take, -List.map_drop, -List.map_set, -List.map_append, -List.drop_one] <;> omega) | fail) [-List.map_take, -List.map_drop, -List.map_set, -List.map_append, -List.drop_one, h1, objV_pre0, hlr, get_rowOf, hm]
end Go.Proofs.YtjjcdmjgbbaliaaDoor
