/-
  Match of the reference.
-/
import Derived.Test.YtjjcdmjgbbaliaaDoorPl
set_option linter.unusedSimpArgs false
set_option linter.unusedVariables false
namespace Go.Proofs.YtjjcdmjgbbaliaaDoor
open Go Go.Am

theorem rowOf_set {f : Nat → Bool} {n m : Nat} {x : Bool} : (rowOf f n).set m x = rowOf (fun j => if j = m then x else f j) n := by
  apply List.ext_getElem (by simp [rowOf])
  intro j h1 h2
  rw [List.getElem_set]
  simp only [rowOf, List.getElem_map, List.getElem_range]
  by_cases e : m = j
  · subst e; simp
  · simp [e, Ne.symm e]
theorem rowOf_congr {f g : Nat → Bool} {n : Nat} (h : ∀ j, j ≤ n → f j = g j) : rowOf f n = rowOf g n := by
  apply List.ext_getElem (by simp [rowOf])
  intro j h1 h2
  simp only [rowOf, List.getElem_map, List.getElem_range]
  exact h j (by simp [rowOf] at h1; omega)
theorem inn_row {l : List Pt} {s : List UInt8} {k n : Nat} (h : ∀ j, R l s j 0 = decide (j ≤ k)) : inn (fun _ => true) k n = rowOf (fun j => R l s j 0) n := by
  apply List.ext_getElem (by simp [inn, rowOf])
  intro j h1 h2
  simp [inn, rowOf, h]
theorem falses_nx (a tk lg : Nat → Bool) (n : Nat) : falses (n + 1) = rowOf (nx a tk lg 0) n := by
  apply List.ext_getElem (by simp [falses, rowOf])
  intro j h1 h2
  simp [falses, rowOf, nx]
theorem ep_zero (b lg : Nat → Bool) : ep b lg 0 = b := by
  funext j
  unfold ep
  cases j with
  | zero => rfl
  | succ j => rw [if_neg (by omega)]
theorem ep_self (b lg : Nat → Bool) (k : Nat) : ep b lg k k = fin b lg k := if_pos (Nat.le_refl _)
theorem ep_go {b lg : Nat → Bool} {k : Nat} (h : (fin b lg k && lg k) = true) : (fun j => if j = k + 1 then true else ep b lg k j) = ep b lg (k + 1) := by
  funext j
  by_cases e : j = k + 1
  · subst e; rw [if_pos rfl, ep_self, fin, h]; simp
  · rw [if_neg e]
    unfold ep
    by_cases hj : j ≤ k
    · rw [if_pos hj, if_pos (by omega)]
    · rw [if_neg hj, if_neg (by omega)]
theorem ep_stay {b lg : Nat → Bool} {k : Nat} (h : (fin b lg k && lg k) = false) : ep b lg k = ep b lg (k + 1) := by
  funext j
  by_cases e : j = k + 1
  · subst e; rw [ep_self, fin, h]; unfold ep; rw [if_neg (by omega)]; simp
  · unfold ep
    by_cases hj : j ≤ k
    · rw [if_pos hj, if_pos (by omega)]
    · rw [if_neg hj, if_neg (by omega)]
theorem nx_go {a tk lg : Nat → Bool} {k m : Nat} (h : (a k && tk k) = true) (hm : (if lg k then k else k + 1) = m) : (fun j => if j = m then true else nx a tk lg k j) = nx a tk lg (k + 1) := by
  funext j
  rw [nx, h, hm]
  by_cases e : j = m <;> simp [e]
theorem nx_stay {a tk lg : Nat → Bool} {k : Nat} (h : (a k && tk k) = false) : nx a tk lg k = nx a tk lg (k + 1) := by
  funext j
  rw [nx, h]; simp
def lgF (l : List Pt) (k : Nat) : Bool := (l.getD k .dot).long
def tkF (l : List Pt) (s : List UInt8) (i k : Nat) : Bool := (l.getD k .dot).takes (bAt s i)
def nxF (l : List Pt) (s : List UInt8) (i k : Nat) : Nat → Bool := nx (fun j => R l s j i) (tkF l s i) (lgF l) k
def epF (l : List Pt) (s : List UInt8) (i k : Nat) : Nat → Bool := ep (nxF l s i l.length) (lgF l) k
theorem ep_last {l : List Pt} {s : List UInt8} {i : Nat} : rowOf (epF l s i l.length) l.length = rowOf (fun j => R l s j (i + 1)) l.length := by
  refine rowOf_congr fun j hj => ?_
  rw [epF, ep, if_pos hj]
  exact R_step _ _ _ (fun k _ => rfl) (fun k _ => rfl) (fun k _ => rfl) j hj
noncomputable def c_takes : List DV → Option DV := con (fun (_ : Pt × B8) => True) (fun a => [.agg (ptC a.1), w8 a.2]) (fun a => .bool (a.1.takes a.2))
theorem c_takes_eq {x : Pt} {b : B8} : c_takes [.agg [.int .i64 x.kind, w8 x.chr], w8 b] = some (.bool (x.takes b)) :=
  con_eq' (A := fun (_ : Pt × B8) => True) (a := (x, b)) (f := fun a => [.agg (ptC a.1), w8 a.2]) (g := fun a => .bool (a.1.takes a.2)) (by
    rintro ⟨a, b⟩ ⟨c, d⟩ _ _ e; simp only [List.cons.injEq, DV.agg.injEq, inj_w8, and_true] at e; obtain ⟨e1, rfl⟩ := e; rw [ptC_inj e1]) trivial
noncomputable def T76 : Tbl := addT 50 (.pure c_rep) (addT 51 (.pure c_takes) (addT 49 (.pure (cS partsR)) (addT 17 (.pure (cS pathB)) tbl0)))
theorem T76_long : T76 50 = .pure c_rep := by simp [T76]
theorem T76_takes : T76 51 = .pure c_takes := by simp [T76]
theorem T76_read : T76 49 = .pure (cS partsR) := by simp [T76]
theorem T76_path : T76 17 = .pure (cS pathB) := by simp [T76]
theorem T76_sound : T76.Sound P :=
  addT_sound (con_sound fun x _ => sem_runs mix tbl0_sound Tryd.func50 a50_ok (runs_long x))
  (addT_sound (con_sound fun a _ => sem_runs mix tbl0_sound Tryd.func51 a51_ok (runs_takes a.1 a.2))
  (addT_sound (cS_sound fun p => sem_runs mix tbl0_sound Tryd.func49 a49_ok (runs_read p))
  (addT_sound (cS_sound fun p => sem_runs mix T73_sound Tryd.func17 a17_ok (runs_refpath p)) tbl0_sound)))
def ptsD (l : List Pt) : DV := .sl false 2 l.length (cellsP l)
def atD (id n : Nat) : DV := .ms id (n + 1) 0 1 (n + 1) (n + 1)
def S15a (l : List Pt) (s : List UInt8) (k : Nat) : St := a15S0 (.str s) (ptsD l) (atD 0 l.length) (.int .i64 k) [.cells ((inn (fun _ => true) k l.length).map DV.bool)]
structure X15b where
  i : Nat
  pre : List AObj
def S15b (l : List Pt) (s : List UInt8) (x : X15b) : St := a15S1 (.str s) (ptsD l) (atD x.pre.length l.length) (.int .i64 x.i) (x.pre ++ [.cells ((rowOf (fun j => R l s j x.i) l.length).map DV.bool)])
def S15c (l : List Pt) (s : List UInt8) (i : Nat) (pre : List AObj) (k : Nat) : St :=
  a15S2 (.str s) (ptsD l) (atD pre.length l.length) (.int .i64 i) (atD (pre.length + 1) l.length) (.int .i64 k) (pre ++ [.cells ((rowOf (fun j => R l s j i) l.length).map DV.bool), .cells ((rowOf (nxF l s i k) l.length).map DV.bool)])
def S15d (l : List Pt) (s : List UInt8) (i : Nat) (pre : List AObj) (k : Nat) : St :=
  a15S3 (.str s) (ptsD l) (.int .i64 i) (atD (pre.length + 1) l.length) (.int .i64 k) (pre ++ [.cells ((rowOf (fun j => R l s j i) l.length).map DV.bool), .cells ((rowOf (epF l s i k) l.length).map DV.bool)])
set_option maxRecDepth 20000 in
set_option maxHeartbeats 2000000 in
theorem ref_tail (p s : List UInt8) (l : List Pt) (hm : matchD p s = M l s l.length s.length) (hsl : s.length ≤ 200) (hlp : l.length ≤ 200) (st : St) (hst : Weak 0 st (S15b l s ⟨0, []⟩)) :
    W T76 0 (.loop a15L1) (blockK 2 (seqK T76 0 (tailC 7 a15.code) (retK a15.res (matchB p s)))) st := by
  have hlc := len_cellsP l
  refine W_loop (S15b l s) (fun x => s.length - x.i) (fun x => x.i ≤ s.length) ⟨0, []⟩ hst (by simp) (fun x hx => ?_)
  obtain ⟨i, pre⟩ := x
  simp only at hx
  have hlr := len_rowOf (fun j => R l s j i) l.length
  simp (disch := first | omega | (simp [-List.map_take, -List.map_drop, -List.map_set, -List.map_append, -List.drop_one] <;> omega) | fail) [-List.map_take, -List.map_drop, -List.map_set, -List.map_append, -List.drop_one, a15L1, a15S1, S15b, ptsD, atD, tailC, a15]
  by_cases h : i < s.length
  · have h1 : (i : Int) < s.length := by omega
    have hba := bAt_get h
    simp (disch := first | omega | (simp [-List.map_take, -List.map_drop, -List.map_set, -List.map_append, -List.drop_one] <;> omega) | fail) [-List.map_take, -List.map_drop, -List.map_set, -List.map_append, -List.drop_one, h, h1]
    have hr0 : rep (l.length + 1) (DV.bool false) = (rowOf (nxF l s i 0) l.length).map DV.bool := by
      rw [rep_bool, falses_nx (fun j => R l s j i) (tkF l s i) (lgF l)]; rfl
    refine W_loop (S15c l s i pre) (fun k => l.length - k) (fun k => k ≤ l.length) 0 (weak_same (by simp (disch := first | omega | (simp [-List.map_take, -List.map_drop, -List.map_set, -List.map_append, -List.drop_one] <;> omega) | fail) [-List.map_take, -List.map_drop, -List.map_set, -List.map_append, -List.drop_one, ptsD, atD]) (by simp (disch := first | omega | (simp [-List.map_take, -List.map_drop, -List.map_set, -List.map_append, -List.drop_one] <;> omega) | fail) [-List.map_take, -List.map_drop, -List.map_set, -List.map_append, -List.drop_one, hr0])) (by omega) (fun k hk => ?_)
    have hln := len_rowOf (nxF l s i k) l.length
    simp (disch := first | omega | (simp [-List.map_take, -List.map_drop, -List.map_set, -List.map_append, -List.drop_one] <;> omega) | fail) [-List.map_take, -List.map_drop, -List.map_set, -List.map_append, -List.drop_one, a15L2, a15S2, S15c, ptsD, atD]
    by_cases hk1 : k < l.length
    · have hk2 : (k : Int) < l.length := by omega
      have hg := get_cellsP hk1
      have hgd : l.getD k .dot = l[k] := by rw [List.getD_eq_getElem?_getD, List.getElem?_eq_getElem hk1]; rfl
      obtain ⟨y, hy⟩ : ∃ y, l[k] = y := ⟨_, rfl⟩
      rw [hy] at hgd
      obtain ⟨v1, hv1⟩ : ∃ v1, R l s k i = v1 := ⟨_, rfl⟩
      obtain ⟨v2, hv2⟩ : ∃ v2, y.takes s[i].toBitVec = v2 := ⟨_, rfl⟩
      have ht : tkF l s i k = v2 := by rw [tkF, hgd, hba, hv2]
      obtain ⟨v3, hv3⟩ : ∃ v3, y.long = v3 := ⟨_, rfl⟩
      have hlg : lgF l k = v3 := by rw [lgF, hgd, hv3]
      cases v1
      · have hs := nx_stay (a := fun j => R l s j i) (tk := tkF l s i) (lg := lgF l) (k := k) (by rw [hv1]; rfl)
        have hs : nxF l s i k = nxF l s i (k + 1) := hs
        simp (disch := first | omega | (simp [-List.map_take, -List.map_drop, -List.map_set, -List.map_append, -List.drop_one] <;> omega) | fail) [-List.map_take, -List.map_drop, -List.map_set, -List.map_append, -List.drop_one, hk1, hk2, hg, hy, one_two, T76_takes, T76_long, c_takes_eq, c_rep_eq, objV_pre, objV_pre0, set_pre, set_pre0, get_rowOf, hlr, hln, hv1, h]
        exact ⟨k + 1, weak_same (by simp (disch := first | omega | (simp [-List.map_take, -List.map_drop, -List.map_set, -List.map_append, -List.drop_one] <;> omega) | fail) [-List.map_take, -List.map_drop, -List.map_set, -List.map_append, -List.drop_one, ptsD, atD]) (by simp (disch := first | omega | (simp [-List.map_take, -List.map_drop, -List.map_set, -List.map_append, -List.drop_one] <;> omega) | fail) [-List.map_take, -List.map_drop, -List.map_set, -List.map_append, -List.drop_one, hs]), by omega, by omega⟩
      · cases v2
        · have hs := nx_stay (a := fun j => R l s j i) (tk := tkF l s i) (lg := lgF l) (k := k) (by rw [ht]; simp)
          have hs : nxF l s i k = nxF l s i (k + 1) := hs
          simp (disch := first | omega | (simp [-List.map_take, -List.map_drop, -List.map_set, -List.map_append, -List.drop_one] <;> omega) | fail) [-List.map_take, -List.map_drop, -List.map_set, -List.map_append, -List.drop_one, hk1, hk2, hg, hy, one_two, T76_takes, T76_long, c_takes_eq, c_rep_eq, objV_pre, objV_pre0, set_pre, set_pre0, get_rowOf, hlr, hln, hv1, hv2, h]
          exact ⟨k + 1, weak_same (by simp (disch := first | omega | (simp [-List.map_take, -List.map_drop, -List.map_set, -List.map_append, -List.drop_one] <;> omega) | fail) [-List.map_take, -List.map_drop, -List.map_set, -List.map_append, -List.drop_one, ptsD, atD]) (by simp (disch := first | omega | (simp [-List.map_take, -List.map_drop, -List.map_set, -List.map_append, -List.drop_one] <;> omega) | fail) [-List.map_take, -List.map_drop, -List.map_set, -List.map_append, -List.drop_one, hs]), by omega, by omega⟩
        · cases v3
          · have hs := nx_go (a := fun j => R l s j i) (tk := tkF l s i) (lg := lgF l) (k := k) (m := k + 1) (by rw [ht, hv1]; rfl) (by rw [hlg]; rfl)
            have hset : (rowOf (nxF l s i k) l.length).set (k + 1) true = rowOf (nxF l s i (k + 1)) l.length := by rw [rowOf_set]; exact congrArg (fun f => rowOf f l.length) hs
            simp (disch := first | omega | (simp [-List.map_take, -List.map_drop, -List.map_set, -List.map_append, -List.drop_one] <;> omega) | fail) [-List.map_take, -List.map_drop, -List.map_set, -List.map_append, -List.drop_one, hk1, hk2, hg, hy, one_two, T76_takes, T76_long, c_takes_eq, c_rep_eq, objV_pre, objV_pre0, set_pre, set_pre0, get_rowOf, hlr, hln, hv1, hv2, hv3, h, storeO_bool]
            exact ⟨k + 1, weak_same (by simp (disch := first | omega | (simp [-List.map_take, -List.map_drop, -List.map_set, -List.map_append, -List.drop_one] <;> omega) | fail) [-List.map_take, -List.map_drop, -List.map_set, -List.map_append, -List.drop_one, ptsD, atD]) (by simp (disch := first | omega | (simp [-List.map_take, -List.map_drop, -List.map_set, -List.map_append, -List.drop_one] <;> omega) | fail) [-List.map_take, -List.map_drop, -List.map_set, -List.map_append, -List.drop_one, hset]), by omega, by omega⟩
          · have hs := nx_go (a := fun j => R l s j i) (tk := tkF l s i) (lg := lgF l) (k := k) (m := k) (by rw [ht, hv1]; rfl) (by rw [hlg]; rfl)
            have hset : (rowOf (nxF l s i k) l.length).set k true = rowOf (nxF l s i (k + 1)) l.length := by rw [rowOf_set]; exact congrArg (fun f => rowOf f l.length) hs
            simp (disch := first | omega | (simp [-List.map_take, -List.map_drop, -List.map_set, -List.map_append, -List.drop_one] <;> omega) | fail) [-List.map_take, -List.map_drop, -List.map_set, -List.map_append, -List.drop_one, hk1, hk2, hg, hy, one_two, T76_takes, T76_long, c_takes_eq, c_rep_eq, objV_pre, objV_pre0, set_pre, set_pre0, get_rowOf, hlr, hln, hv1, hv2, hv3, h, storeO_bool]
            exact ⟨k + 1, weak_same (by simp (disch := first | omega | (simp [-List.map_take, -List.map_drop, -List.map_set, -List.map_append, -List.drop_one] <;> omega) | fail) [-List.map_take, -List.map_drop, -List.map_set, -List.map_append, -List.drop_one, ptsD, atD]) (by simp (disch := first | omega | (simp [-List.map_take, -List.map_drop, -List.map_set, -List.map_append, -List.drop_one] <;> omega) | fail) [-List.map_take, -List.map_drop, -List.map_set, -List.map_append, -List.drop_one, hset]), by omega, by omega⟩
    · have hk2 : ¬ (k : Int) < l.length := by omega
      obtain rfl : k = l.length := by omega
      simp (disch := first | omega | (simp [-List.map_take, -List.map_drop, -List.map_set, -List.map_append, -List.drop_one] <;> omega) | fail) [-List.map_take, -List.map_drop, -List.map_set, -List.map_append, -List.drop_one, hk2]
      have he0 : nxF l s i l.length = epF l s i 0 := by rw [epF, ep_zero]
      refine W_loop (S15d l s i pre) (fun k => l.length - k) (fun k => k ≤ l.length) 0 (weak_same (by simp (disch := first | omega | (simp [-List.map_take, -List.map_drop, -List.map_set, -List.map_append, -List.drop_one] <;> omega) | fail) [-List.map_take, -List.map_drop, -List.map_set, -List.map_append, -List.drop_one, ptsD, atD]) (by simp (disch := first | omega | (simp [-List.map_take, -List.map_drop, -List.map_set, -List.map_append, -List.drop_one] <;> omega) | fail) [-List.map_take, -List.map_drop, -List.map_set, -List.map_append, -List.drop_one, he0])) (by omega) (fun k hk => ?_)
      have hln := len_rowOf (epF l s i k) l.length
      simp (disch := first | omega | (simp [-List.map_take, -List.map_drop, -List.map_set, -List.map_append, -List.drop_one] <;> omega) | fail) [-List.map_take, -List.map_drop, -List.map_set, -List.map_append, -List.drop_one, a15L3, a15S3, S15d, ptsD, atD]
      by_cases hk1 : k < l.length
      · have hk2 : (k : Int) < l.length := by omega
        have hg := get_cellsP hk1
        have hgd : l.getD k .dot = l[k] := by rw [List.getD_eq_getElem?_getD, List.getElem?_eq_getElem hk1]; rfl
        obtain ⟨y, hy⟩ : ∃ y, l[k] = y := ⟨_, rfl⟩
        rw [hy] at hgd
        obtain ⟨v1, hv1⟩ : ∃ v1, epF l s i k k = v1 := ⟨_, rfl⟩
        have hfv : fin (nxF l s i l.length) (lgF l) k = v1 := by rw [← hv1, epF, ep_self]
        obtain ⟨v3, hv3⟩ : ∃ v3, y.long = v3 := ⟨_, rfl⟩
        have hlg : lgF l k = v3 := by rw [lgF, hgd, hv3]
        cases v1
        · have hs := ep_stay (b := nxF l s i l.length) (lg := lgF l) (k := k) (by rw [hfv]; rfl)
          have hs : epF l s i k = epF l s i (k + 1) := hs
          simp (disch := first | omega | (simp [-List.map_take, -List.map_drop, -List.map_set, -List.map_append, -List.drop_one] <;> omega) | fail) [-List.map_take, -List.map_drop, -List.map_set, -List.map_append, -List.drop_one, hk1, hk2, hg, hy, one_two, T76_long, c_rep_eq, objV_pre, objV_pre0, set_pre, set_pre0, get_rowOf, hln, hv1]
          exact ⟨k + 1, weak_same (by simp (disch := first | omega | (simp [-List.map_take, -List.map_drop, -List.map_set, -List.map_append, -List.drop_one] <;> omega) | fail) [-List.map_take, -List.map_drop, -List.map_set, -List.map_append, -List.drop_one, ptsD, atD]) (by simp (disch := first | omega | (simp [-List.map_take, -List.map_drop, -List.map_set, -List.map_append, -List.drop_one] <;> omega) | fail) [-List.map_take, -List.map_drop, -List.map_set, -List.map_append, -List.drop_one, hs]), by omega, by omega⟩
        · cases v3
          · have hs := ep_stay (b := nxF l s i l.length) (lg := lgF l) (k := k) (by rw [hlg]; simp)
            have hs : epF l s i k = epF l s i (k + 1) := hs
            simp (disch := first | omega | (simp [-List.map_take, -List.map_drop, -List.map_set, -List.map_append, -List.drop_one] <;> omega) | fail) [-List.map_take, -List.map_drop, -List.map_set, -List.map_append, -List.drop_one, hk1, hk2, hg, hy, one_two, T76_long, c_rep_eq, objV_pre, objV_pre0, set_pre, set_pre0, get_rowOf, hln, hv1, hv3]
            exact ⟨k + 1, weak_same (by simp (disch := first | omega | (simp [-List.map_take, -List.map_drop, -List.map_set, -List.map_append, -List.drop_one] <;> omega) | fail) [-List.map_take, -List.map_drop, -List.map_set, -List.map_append, -List.drop_one, ptsD, atD]) (by simp (disch := first | omega | (simp [-List.map_take, -List.map_drop, -List.map_set, -List.map_append, -List.drop_one] <;> omega) | fail) [-List.map_take, -List.map_drop, -List.map_set, -List.map_append, -List.drop_one, hs]), by omega, by omega⟩
          · have hs := ep_go (b := nxF l s i l.length) (lg := lgF l) (k := k) (by rw [hfv, hlg]; rfl)
            have hset : (rowOf (epF l s i k) l.length).set (k + 1) true = rowOf (epF l s i (k + 1)) l.length := by rw [rowOf_set]; exact congrArg (fun f => rowOf f l.length) hs
            simp (disch := first | omega | (simp [-List.map_take, -List.map_drop, -List.map_set, -List.map_append, -List.drop_one] <;> omega) | fail) [-List.map_take, -List.map_drop, -List.map_set, -List.map_append, -List.drop_one, hk1, hk2, hg, hy, one_two, T76_long, c_rep_eq, objV_pre, objV_pre0, set_pre, set_pre0, get_rowOf, hln, hv1, hv3, storeO_bool]
            exact ⟨k + 1, weak_same (by simp (disch := first | omega | (simp [-List.map_take, -List.map_drop, -List.map_set, -List.map_append, -List.drop_one] <;> omega) | fail) [-List.map_take, -List.map_drop, -List.map_set, -List.map_append, -List.drop_one, ptsD, atD]) (by simp (disch := first | omega | (simp [-List.map_take, -List.map_drop, -List.map_set, -List.map_append, -List.drop_one] <;> omega) | fail) [-List.map_take, -List.map_drop, -List.map_set, -List.map_append, -List.drop_one, hset]), by omega, by omega⟩
      · have hk2 : ¬ (k : Int) < l.length := by omega
        obtain rfl : k = l.length := by omega
        have hep := ep_last (l := l) (s := s) (i := i)
        simp (disch := first | omega | (simp [-List.map_take, -List.map_drop, -List.map_set, -List.map_append, -List.drop_one] <;> omega) | fail) [-List.map_take, -List.map_drop, -List.map_set, -List.map_append, -List.drop_one, hk2]
        exact ⟨⟨i + 1, pre ++ [.cells ((rowOf (fun j => R l s j i) l.length).map DV.bool)]⟩, weak_same (by simp (disch := first | omega | (simp [-List.map_take, -List.map_drop, -List.map_set, -List.map_append, -List.drop_one] <;> omega) | fail) [-List.map_take, -List.map_drop, -List.map_set, -List.map_append, -List.drop_one, ptsD, atD]) (by simp (disch := first | omega | (simp [-List.map_take, -List.map_drop, -List.map_set, -List.map_append, -List.drop_one] <;> omega) | fail) [-List.map_take, -List.map_drop, -List.map_set, -List.map_append, -List.drop_one, hep]), by show s.length - (i + 1) < s.length - i; omega, by show i + 1 ≤ s.length; omega⟩
  · have h1 : ¬ (i : Int) < s.length := by omega
    obtain rfl : i = s.length := by omega
    have hR := R_last l s s.length
    simp (disch := first | omega | (simp [-List.map_take, -List.map_drop, -List.map_set, -List.map_append, -List.drop_one] <;> omega) | fail) [-List.map_take, -List.map_drop, -List.map_set, -List.map_append, -List.drop_one, h1, objV_pre0, get_rowOf, hlr, matchB, hm, hR]
set_option maxRecDepth 20000 in
set_option maxHeartbeats 2000000 in
theorem runs_refmatch (p s : List UInt8) : Runs T76 a15 [.str p, .str s] (matchB p s) := by
  refine ⟨?_⟩
  cases hp : parseP p with
  | none =>
    have hm : matchD p s = false := by rw [matchD, hp]
    simp (disch := first | omega | (simp [-List.map_take, -List.map_drop, -List.map_set, -List.map_append, -List.drop_one] <;> omega) | fail) [-List.map_take, -List.map_drop, -List.map_set, -List.map_append, -List.drop_one, a15, T76_read, cS_eq, partsR, hp, partsD, matchB, hm]
  | some l =>
  by_cases hs : pathD s = true
  case neg =>
    have hs : pathD s = false := by simpa using hs
    have hm : matchD p s = false := by rw [matchD, hp]; simp [hs]
    simp (disch := first | omega | (simp [-List.map_take, -List.map_drop, -List.map_set, -List.map_append, -List.drop_one] <;> omega) | fail) [-List.map_take, -List.map_drop, -List.map_set, -List.map_append, -List.drop_one, a15, T76_read, T76_path, cS_eq, partsR, hp, partsD, pathB, hs, matchB, hm]
  have hm : matchD p s = M l s l.length s.length := by rw [matchD, hp]; simp [hs]
  have hsl : s.length ≤ 200 := (path_len hs).2.1
  have hlp := parse_len hp
  have hlc := len_cellsP l
  have hr0 := rep_inn (fun _ => true) l.length
  simp (disch := first | omega | (simp [-List.map_take, -List.map_drop, -List.map_set, -List.map_append, -List.drop_one] <;> omega) | fail) [-List.map_take, -List.map_drop, -List.map_set, -List.map_append, -List.drop_one, a15, T76_read, T76_path, cS_eq, partsR, hp, partsD, pathB, hs]
  refine W_loop (S15a l s) (fun k => l.length - k) (fun k => k ≤ l.length ∧ ∀ j, j < k → (l.getD j .dot).long = true) 0 (weak_same (by simp (disch := first | omega | (simp [-List.map_take, -List.map_drop, -List.map_set, -List.map_append, -List.drop_one] <;> omega) | fail) [-List.map_take, -List.map_drop, -List.map_set, -List.map_append, -List.drop_one, ptsD, atD]) (by simp (disch := first | omega | (simp [-List.map_take, -List.map_drop, -List.map_set, -List.map_append, -List.drop_one] <;> omega) | fail) [-List.map_take, -List.map_drop, -List.map_set, -List.map_append, -List.drop_one, hr0])) ⟨by omega, by intro j hj; omega⟩ (fun k hk => ?_)
  obtain ⟨hk1, hk2⟩ := hk
  have hli := len_inn (fun _ => true) k l.length
  simp (disch := first | omega | (simp [-List.map_take, -List.map_drop, -List.map_set, -List.map_append, -List.drop_one] <;> omega) | fail) [-List.map_take, -List.map_drop, -List.map_set, -List.map_append, -List.drop_one, a15L0, a15S0, S15a, ptsD, atD]
  by_cases h : k < l.length
  · have h1 : (k : Int) < l.length := by omega
    have hg := get_cellsP h
    have hgd : l.getD k .dot = l[k] := by rw [List.getD_eq_getElem?_getD, List.getElem?_eq_getElem h]; rfl
    by_cases hl : l[k].long = true
    · have hset := inn_set (f := fun _ => true) h
      simp (disch := first | omega | (simp [-List.map_take, -List.map_drop, -List.map_set, -List.map_append, -List.drop_one] <;> omega) | fail) [-List.map_take, -List.map_drop, -List.map_set, -List.map_append, -List.drop_one, h, h1, hg, one_two, T76_long, c_rep_eq, hl, storeO_bool, hli]
      refine ⟨k + 1, weak_same (by simp (disch := first | omega | (simp [-List.map_take, -List.map_drop, -List.map_set, -List.map_append, -List.drop_one] <;> omega) | fail) [-List.map_take, -List.map_drop, -List.map_set, -List.map_append, -List.drop_one, ptsD, atD]) (by simp (disch := first | omega | (simp [-List.map_take, -List.map_drop, -List.map_set, -List.map_append, -List.drop_one] <;> omega) | fail) [-List.map_take, -List.map_drop, -List.map_set, -List.map_append, -List.drop_one, hset]), by omega, by omega, fun j hj => ?_⟩
      by_cases e : j = k
      · simp only [e, List.getElem?_eq_getElem h]; exact hl
      · exact hk2 j (by omega)
    · have hl : l[k].long = false := by simpa using hl
      have hR := R_init (s := s) hk2 (by rw [hgd]; exact hl)
      have hrow := inn_row (n := l.length) hR
      simp (disch := first | omega | (simp [-List.map_take, -List.map_drop, -List.map_set, -List.map_append, -List.drop_one] <;> omega) | fail) [-List.map_take, -List.map_drop, -List.map_set, -List.map_append, -List.drop_one, h, h1, hg, one_two, T76_long, c_rep_eq, hl]
      exact ref_tail p s l hm hsl hlp _ (weak_same (by simp (disch := first | omega | (simp [-List.map_take, -List.map_drop, -List.map_set, -List.map_append, -List.drop_one] <;> omega) | fail) [-List.map_take, -List.map_drop, -List.map_set, -List.map_append, -List.drop_one, S15b, a15S1, ptsD, atD]) (by simp (disch := first | omega | (simp [-List.map_take, -List.map_drop, -List.map_set, -List.map_append, -List.drop_one] <;> omega) | fail) [-List.map_take, -List.map_drop, -List.map_set, -List.map_append, -List.drop_one, S15b, a15S1, hrow]))
  · have h1 : ¬ (k : Int) < l.length := by omega
    obtain rfl : k = l.length := by omega
    have hgd : (l.getD l.length .dot).long = false := by rw [List.getD_eq_getElem?_getD, List.getElem?_eq_none (by omega)]; rfl
    have hR := R_init (s := s) hk2 hgd
    have hrow := inn_row (n := l.length) hR
    simp (disch := first | omega | (simp [-List.map_take, -List.map_drop, -List.map_set, -List.map_append, -List.drop_one] <;> omega) | fail) [-List.map_take, -List.map_drop, -List.map_set, -List.map_append, -List.drop_one, h1]
    exact ref_tail p s l hm hsl hlp _ (weak_same (by simp (disch := first | omega | (simp [-List.map_take, -List.map_drop, -List.map_set, -List.map_append, -List.drop_one] <;> omega) | fail) [-List.map_take, -List.map_drop, -List.map_set, -List.map_append, -List.drop_one, S15b, a15S1, ptsD, atD]) (by simp (disch := first | omega | (simp [-List.map_take, -List.map_drop, -List.map_set, -List.map_append, -List.drop_one] <;> omega) | fail) [-List.map_take, -List.map_drop, -List.map_set, -List.map_append, -List.drop_one, S15b, a15S1, hrow]))
end Go.Proofs.YtjjcdmjgbbaliaaDoor
