/-
  Started and Stop of the program.
-/
import Derived.Test.YtjhakjeioppijaaDoorWq
set_option linter.unusedSimpArgs false
set_option linter.unusedVariables false
namespace Go.Proofs.YtjhakjeioppijaaDoor
open Go Go.Am

theorem splice_in {l : List Ins} {k j : Nat} (h : k < l.length) (hj : j < 37) {v : DV} : splice (l.flatMap inC) (k * 37 + j) [v] = (l.take k).flatMap inC ++ (splice (inC l[k]) j [v] ++ (l.drop (k + 1)).flatMap inC) := by
  have hl := len_inC l[k]
  unfold splice
  rw [List.length_singleton, List.take_add, fm_take len_inC, fm_drop len_inC, Nat.add_assoc, ← List.drop_drop, fm_drop len_inC, List.drop_eq_getElem_cons h, List.flatMap_cons]
  rw [List.take_append_of_le_length (by omega), List.drop_append_of_le_length (by omega)]
  simp only [List.append_assoc]
theorem set_ins {l : List Ins} {k : Nat} (h : k < l.length) {y : Ins} : (l.set k y).flatMap inC = (l.take k).flatMap inC ++ (inC y ++ (l.drop (k + 1)).flatMap inC) := by
  rw [List.set_eq_take_append_cons_drop, if_pos h, List.flatMap_append, List.flatMap_cons]
theorem inC_split (x : Ins) : inC x = (DV.int .i64 x.id :: .int .i64 x.grp :: dgC x.art) ++ [.int .i64 x.state, .int .i64 x.since, .int .i64 x.den] := rfl
theorem len_pre (x : Ins) : (DV.int .i64 x.id :: .int .i64 x.grp :: dgC x.art).length = 34 := by simp
theorem splice_st (x : Ins) (v : Int) : splice (inC x) 34 [.int .i64 v] = inC (x.st v) := by
  have h := len_pre x
  rw [inC_split, inC_split]
  unfold splice
  rw [List.take_append_of_le_length (by omega), List.take_of_length_le (by omega), List.drop_append, List.drop_of_length_le (by simp), h]
  simp [Ins.st]
theorem splice_si (x : Ins) (v : Int) : splice (inC x) 35 [.int .i64 v] = inC (x.si v) := by
  have h := len_pre x
  rw [inC_split, inC_split]
  unfold splice
  rw [List.take_append, List.take_of_length_le (by omega), List.drop_append, List.drop_of_length_le (by simp), h]
  simp [Ins.si]
theorem splice_de (x : Ins) (v : Int) : splice (inC x) 36 [.int .i64 v] = inC (x.de v) := by
  have h := len_pre x
  rw [inC_split, inC_split]
  unfold splice
  rw [List.take_append, List.take_of_length_le (by omega), List.drop_append, List.drop_of_length_le (by simp), h]
  simp [Ins.de]
theorem store_st {H : List AObj} {id k : Nat} {l : List Ins} {v : Int} (h : k < l.length) : storeO H id 1 (k * 37 + 34) (.int .i64 v) (some (l.flatMap inC)) = some (.junk, H.set id (.cells ((l.set k (l[k].st v)).flatMap inC))) := by
  rw [storeO_one rfl rfl (by rw [fm_len len_inC]; omega), splice_in h (by decide), splice_st, set_ins h]
theorem store_si {H : List AObj} {id k : Nat} {l : List Ins} {v : Int} (h : k < l.length) : storeO H id 1 (k * 37 + 35) (.int .i64 v) (some (l.flatMap inC)) = some (.junk, H.set id (.cells ((l.set k (l[k].si v)).flatMap inC))) := by
  rw [storeO_one rfl rfl (by rw [fm_len len_inC]; omega), splice_in h (by decide), splice_si, set_ins h]
theorem store_de {H : List AObj} {id k : Nat} {l : List Ins} {v : Int} (h : k < l.length) : storeO H id 1 (k * 37 + 36) (.int .i64 v) (some (l.flatMap inC)) = some (.junk, H.set id (.cells ((l.set k (l[k].de v)).flatMap inC))) := by
  rw [storeO_one rfl rfl (by rw [fm_len len_inC]; omega), splice_in h (by decide), splice_de, set_ins h]
theorem runs_may1 (s : Int) : Runs tbl0 a79 [.int .i64 s] (.bool (decide (s = 1))) := by
  refine ⟨?_⟩
  simp (disch := first | omega | (simp [-List.map_take, -List.map_drop, -List.map_set, -List.map_append, -List.drop_one] <;> omega) | fail) [-List.map_take, -List.map_drop, -List.map_set, -List.map_append, -List.drop_one, a79]
theorem runs_may2 (s : Int) : Runs tbl0 a81 [.int .i64 s] (.bool (decide (s ≠ 3))) := by
  refine ⟨?_⟩
  simp (disch := first | omega | (simp [-List.map_take, -List.map_drop, -List.map_set, -List.map_append, -List.drop_one] <;> omega) | fail) [-List.map_take, -List.map_drop, -List.map_set, -List.map_append, -List.drop_one, a81]
def cIb (g : Int → Bool) : List DV → Option DV
  | [.int .i64 s] => some (.bool (g s)) | _ => none
theorem cIb_eq {g : Int → Bool} {s : Int} : cIb g [.int .i64 s] = some (.bool (g s)) := rfl
theorem cIb_sound {f : Nat} {g : Int → Bool} (h : ∀ s, Am.Sem P f [.int .i64 s] (.bool (g s))) : (Con.pure (cIb g)).Sound P f := by
  intro args v e
  unfold cIb at e
  split at e
  · simp at e; subst e; exact h _
  · simp at e
noncomputable def T113 : Tbl := addT 79 (.pure (cIb fun s => decide (s = 1))) (addT 81 (.pure (cIb fun s => decide (s ≠ 3))) T112)
theorem T113_1 : T113 79 = .pure (cIb fun s => decide (s = 1)) := by simp [T113]
theorem T113_2 : T113 81 = .pure (cIb fun s => decide (s ≠ 3)) := by simp [T113]
theorem T113_v : T113 20 = .pure (cC1 validCB) := by simp [T113, T112]
theorem T113_c : T113 71 = .new cNC := by simp [T113, T112]
theorem T113_t : T113 70 = .pure cTm := by simp [T113, T112]
theorem T113_f : T113 24 = .pure (cCi fun c i => .int .i64 (findIx c.i.l i)) := by simp [T113, T112]
theorem T113_sound : T113.Sound P := addT_sound (cIb_sound fun s => sem_runs mix tbl0_sound Tryd.func79 a79_ok (runs_may1 s)) (addT_sound (cIb_sound fun s => sem_runs mix tbl0_sound Tryd.func81 a81_ok (runs_may2 s)) T112_sound)
noncomputable def changeB (c : Clu) (id t to : Int) : DV := .tup [.agg (clC (changeP c id t to).1), .int .i64 (changeP c id t to).2]
theorem valid_gne {c : Clu} (hv : ValidC c) {k : Nat} (hk : k < c.i.l.length) : c.g.l ≠ [] := by
  intro e
  have h1 := (hv.i k hk).1.g0
  have h2 := (hv.i k hk).1.g1
  rw [e] at h2; simp at h2; omega
set_option maxHeartbeats 4000000 in
theorem runs_change1 (c : Clu) (id t : Int) : Runs T113 a78 [.agg (clC c), .int .i64 id, .int .i64 t, .int .i64 2, .fn (.func 79) [] []] (changeB c id t 2) := by
  refine ⟨?_⟩
  by_cases hv : ValidC c
  case neg =>
    have hd : changeP c id t 2 = (clu0, 1) := by rw [changeP, if_pos (.inl hv)]
    simp (disch := first | omega | (simp [-List.map_take, -List.map_drop, -List.map_set, -List.map_append, -List.drop_one] <;> omega) | fail) [-List.map_take, -List.map_drop, -List.map_set, -List.map_append, -List.drop_one, a78, T113_v, cC1_eq, validCB, T113_t, cTm_eq, T113_f, cCi_eq, changeB, tv_false hv, hd, clC_clu0]
  by_cases ht : timeOK t
  case neg =>
    have hd : changeP c id t 2 = (clu0, 1) := by rw [changeP, if_pos (.inr ht)]
    simp (disch := first | omega | (simp [-List.map_take, -List.map_drop, -List.map_set, -List.map_append, -List.drop_one] <;> omega) | fail) [-List.map_take, -List.map_drop, -List.map_set, -List.map_append, -List.drop_one, a78, T113_v, cC1_eq, validCB, T113_t, cTm_eq, T113_f, cCi_eq, changeB, tv_true hv, tv_false ht, hd, clC_clu0]
  have hnn : ¬ (¬ ValidC c ∨ ¬ timeOK t) := fun h => h.elim (fun h => h hv) (fun h => h ht)
  by_cases hx : findIx c.i.l id < 0
  · have hd : changeP c id t 2 = (clu0, 4) := by rw [changeP, if_neg hnn, if_pos hx]
    simp (disch := first | omega | (simp [-List.map_take, -List.map_drop, -List.map_set, -List.map_append, -List.drop_one] <;> omega) | fail) [-List.map_take, -List.map_drop, -List.map_set, -List.map_append, -List.drop_one, a78, T113_v, cC1_eq, validCB, T113_t, cTm_eq, T113_f, cCi_eq, changeB, tv_true hv, tv_true ht, hx, hd, clC_clu0]
  obtain ⟨k, hk, hke, _, _⟩ := ixI_pos (show 0 ≤ findIx c.i.l id by omega)
  have hke : findIx c.i.l id = k := hke
  have hx' : ¬ (k : Int) < 0 := by omega
  have hk' : (k : Int) < c.i.l.length := by omega
  obtain ⟨x, hxe⟩ : ∃ x, c.i.l[k] = x := ⟨_, rfl⟩
  have hgx : ∀ H, idxSD H 37 (c.i.dv 37 inC) k = some (.ref (inC x)) := fun H => by rw [idxSD_dv len_inC hk, hxe]
  have hopt : c.i.l[k]? = some x := by rw [List.getElem?_eq_getElem hk, hxe]
  by_cases hm : x.state = 1
  case neg =>
    have hd : changeP c id t 2 = (clu0, 30) := by rw [changeP, if_neg hnn, if_neg hx, hke]; simp [hopt, may]; simpa using hm
    have hm' : ¬ x.state = 1 := by simpa using hm
    simp (disch := first | omega | (simp [-List.map_take, -List.map_drop, -List.map_set, -List.map_append, -List.drop_one] <;> omega) | fail) [-List.map_take, -List.map_drop, -List.map_set, -List.map_append, -List.drop_one, a78, T113_v, cC1_eq, validCB, T113_t, cTm_eq, T113_f, cCi_eq, changeB, tv_true hv, tv_true ht, hke, hx', hk', hk, hgx, T113_1, cIb_eq, hm', hd, clC_clu0]
  have hd : changeP c id t 2 = (⟨c.clone.g, own (c.i.l.set k ((x.st 2).si t)), c.next⟩, 0) := by
    rw [changeP, if_neg hnn, if_neg hx, hke, if_pos (by simp [hopt, may]; simpa using hm)]
    simp only [Int.toNat_natCast, setI, hopt]
  have hm' : x.state = 1 := by simpa using hm
  have ho := own_dv (l := c.i.l.set k ((x.st 2).si t)) (s := 37) (f := inC) (by rw [List.length_set]; exact c.i.b)
  have ha : ∀ l : List Grp, (l.flatMap grC).length = l.length * 6 := fm_len len_grC
  have hb : ∀ l : List Ins, (l.flatMap inC).length = l.length * 37 := fm_len len_inC
  have hg := valid_gne hv hk
  have hi : c.i.l ≠ [] := by intro e; rw [e] at hk; simp at hk
  have e2 := mutO_ne (f := grC) hg
  have e3 := mutD_ne (id := 4) (s := 6) (f := grC) (clone_gne hg)
  have e4 := mutO_ne (f := grC) (clone_gne hg)
  have e6 := clone_g_ne hg
  have e7 := take_grs (l := c.g.l.map Grp.clone) (n := c.g.l.length) (by simp)
  have f1 := mutD_ne (id := 5) (s := 37) (f := inC) hi
  have f2 := mutO_ne (f := inC) hi
  have s1 : ∀ H id, storeO H id 1 (k * 37 + 34) (.int .i64 2) (some (c.i.l.flatMap inC)) = some (.junk, H.set id (.cells ((c.i.l.set k (x.st 2)).flatMap inC))) := fun H id => by rw [store_st hk, hxe]
  have s2 : ∀ H id, storeO H id 1 (k * 37 + 35) (.int .i64 t) (some ((c.i.l.set k (x.st 2)).flatMap inC)) = some (.junk, H.set id (.cells ((c.i.l.set k ((x.st 2).si t)).flatMap inC))) := fun H id => by
    rw [store_si (by rw [List.length_set]; exact hk), List.getElem_set_self, List.set_set]
  have e8 := take_ins (l := c.i.l.set k ((x.st 2).si t)) (n := c.i.l.length) (by rw [List.length_set]; exact Nat.le_refl _)
  simp (disch := first | omega | (simp [-List.map_take, -List.map_drop, -List.map_set, -List.map_append, -List.drop_one] <;> omega) | fail) [-List.map_take, -List.map_drop, -List.map_set, -List.map_append, -List.drop_one, a78, T113_v, cC1_eq, validCB, T113_t, cTm_eq, T113_f, cCi_eq, changeB, tv_true hv, tv_true ht, hke, hx', hk', hk, hgx, T113_1, cIb_eq, hm', T113_c, cNC_eq, clW, e2, e3, e4, e6, e7, e8, f1, f2, ha, hb, clone_gl, storeO_one, s1, s2, hd, clC_mk, ho]
set_option maxHeartbeats 4000000 in
theorem runs_change2 (c : Clu) (id t : Int) : Runs T113 a78 [.agg (clC c), .int .i64 id, .int .i64 t, .int .i64 3, .fn (.func 81) [] []] (changeB c id t 3) := by
  refine ⟨?_⟩
  by_cases hv : ValidC c
  case neg =>
    have hd : changeP c id t 3 = (clu0, 1) := by rw [changeP, if_pos (.inl hv)]
    simp (disch := first | omega | (simp [-List.map_take, -List.map_drop, -List.map_set, -List.map_append, -List.drop_one] <;> omega) | fail) [-List.map_take, -List.map_drop, -List.map_set, -List.map_append, -List.drop_one, a78, T113_v, cC1_eq, validCB, T113_t, cTm_eq, T113_f, cCi_eq, changeB, tv_false hv, hd, clC_clu0]
  by_cases ht : timeOK t
  case neg =>
    have hd : changeP c id t 3 = (clu0, 1) := by rw [changeP, if_pos (.inr ht)]
    simp (disch := first | omega | (simp [-List.map_take, -List.map_drop, -List.map_set, -List.map_append, -List.drop_one] <;> omega) | fail) [-List.map_take, -List.map_drop, -List.map_set, -List.map_append, -List.drop_one, a78, T113_v, cC1_eq, validCB, T113_t, cTm_eq, T113_f, cCi_eq, changeB, tv_true hv, tv_false ht, hd, clC_clu0]
  have hnn : ¬ (¬ ValidC c ∨ ¬ timeOK t) := fun h => h.elim (fun h => h hv) (fun h => h ht)
  by_cases hx : findIx c.i.l id < 0
  · have hd : changeP c id t 3 = (clu0, 4) := by rw [changeP, if_neg hnn, if_pos hx]
    simp (disch := first | omega | (simp [-List.map_take, -List.map_drop, -List.map_set, -List.map_append, -List.drop_one] <;> omega) | fail) [-List.map_take, -List.map_drop, -List.map_set, -List.map_append, -List.drop_one, a78, T113_v, cC1_eq, validCB, T113_t, cTm_eq, T113_f, cCi_eq, changeB, tv_true hv, tv_true ht, hx, hd, clC_clu0]
  obtain ⟨k, hk, hke, _, _⟩ := ixI_pos (show 0 ≤ findIx c.i.l id by omega)
  have hke : findIx c.i.l id = k := hke
  have hx' : ¬ (k : Int) < 0 := by omega
  have hk' : (k : Int) < c.i.l.length := by omega
  obtain ⟨x, hxe⟩ : ∃ x, c.i.l[k] = x := ⟨_, rfl⟩
  have hgx : ∀ H, idxSD H 37 (c.i.dv 37 inC) k = some (.ref (inC x)) := fun H => by rw [idxSD_dv len_inC hk, hxe]
  have hopt : c.i.l[k]? = some x := by rw [List.getElem?_eq_getElem hk, hxe]
  by_cases hm : x.state ≠ 3
  case neg =>
    have hd : changeP c id t 3 = (clu0, 30) := by rw [changeP, if_neg hnn, if_neg hx, hke]; simp [hopt, may]; simpa using hm
    have hm' : x.state = 3 := by simpa using hm
    simp (disch := first | omega | (simp [-List.map_take, -List.map_drop, -List.map_set, -List.map_append, -List.drop_one] <;> omega) | fail) [-List.map_take, -List.map_drop, -List.map_set, -List.map_append, -List.drop_one, a78, T113_v, cC1_eq, validCB, T113_t, cTm_eq, T113_f, cCi_eq, changeB, tv_true hv, tv_true ht, hke, hx', hk', hk, hgx, T113_2, cIb_eq, hm', hd, clC_clu0]
  have hd : changeP c id t 3 = (⟨c.clone.g, own (c.i.l.set k ((x.st 3).si t)), c.next⟩, 0) := by
    rw [changeP, if_neg hnn, if_neg hx, hke, if_pos (by simp [hopt, may]; simpa using hm)]
    simp only [Int.toNat_natCast, setI, hopt]
  have hm' : ¬ x.state = 3 := by simpa using hm
  have ho := own_dv (l := c.i.l.set k ((x.st 3).si t)) (s := 37) (f := inC) (by rw [List.length_set]; exact c.i.b)
  have ha : ∀ l : List Grp, (l.flatMap grC).length = l.length * 6 := fm_len len_grC
  have hb : ∀ l : List Ins, (l.flatMap inC).length = l.length * 37 := fm_len len_inC
  have hg := valid_gne hv hk
  have hi : c.i.l ≠ [] := by intro e; rw [e] at hk; simp at hk
  have e2 := mutO_ne (f := grC) hg
  have e3 := mutD_ne (id := 4) (s := 6) (f := grC) (clone_gne hg)
  have e4 := mutO_ne (f := grC) (clone_gne hg)
  have e6 := clone_g_ne hg
  have e7 := take_grs (l := c.g.l.map Grp.clone) (n := c.g.l.length) (by simp)
  have f1 := mutD_ne (id := 5) (s := 37) (f := inC) hi
  have f2 := mutO_ne (f := inC) hi
  have s1 : ∀ H id, storeO H id 1 (k * 37 + 34) (.int .i64 3) (some (c.i.l.flatMap inC)) = some (.junk, H.set id (.cells ((c.i.l.set k (x.st 3)).flatMap inC))) := fun H id => by rw [store_st hk, hxe]
  have s2 : ∀ H id, storeO H id 1 (k * 37 + 35) (.int .i64 t) (some ((c.i.l.set k (x.st 3)).flatMap inC)) = some (.junk, H.set id (.cells ((c.i.l.set k ((x.st 3).si t)).flatMap inC))) := fun H id => by
    rw [store_si (by rw [List.length_set]; exact hk), List.getElem_set_self, List.set_set]
  have e8 := take_ins (l := c.i.l.set k ((x.st 3).si t)) (n := c.i.l.length) (by rw [List.length_set]; exact Nat.le_refl _)
  simp (disch := first | omega | (simp [-List.map_take, -List.map_drop, -List.map_set, -List.map_append, -List.drop_one] <;> omega) | fail) [-List.map_take, -List.map_drop, -List.map_set, -List.map_append, -List.drop_one, a78, T113_v, cC1_eq, validCB, T113_t, cTm_eq, T113_f, cCi_eq, changeB, tv_true hv, tv_true ht, hke, hx', hk', hk, hgx, T113_2, cIb_eq, hm', T113_c, cNC_eq, clW, e2, e3, e4, e6, e7, e8, f1, f2, ha, hb, clone_gl, storeO_one, s1, s2, hd, clC_mk, ho]
noncomputable def cChg (M : Nat) (to : Int) : List DV → Option DV := con (fun _ => True) (fun p : Clu × Int × Int => [.agg (clC p.1), .int .i64 p.2.1, .int .i64 p.2.2, .int .i64 to, .fn (.func M) [] []]) (fun p => changeB p.1 p.2.1 p.2.2 to)
theorem cChg_eq {M : Nat} {to : Int} {c : Clu} {id t : Int} : cChg M to [.agg (clC c), .int .i64 id, .int .i64 t, .int .i64 to, .fn (.func M) [] []] = some (changeB c id t to) :=
  con_inj (f := fun p : Clu × Int × Int => [.agg (clC p.1), .int .i64 p.2.1, .int .i64 p.2.2, .int .i64 to, .fn (.func M) [] []]) (by
    rintro ⟨a, b, c⟩ ⟨a', b', c'⟩ e
    simp only [List.cons.injEq, DV.agg.injEq, DV.int.injEq, and_true, true_and] at e
    rw [clC_inj e.1, e.2.1, e.2.2]) (c, id, t)
noncomputable def T114 : Tbl := addT 78 (.pure (cChg 79 2)) tbl0
theorem T114_c : T114 78 = .pure (cChg 79 2) := by simp [T114]
theorem T114_sound : T114.Sound P := addT_sound (con_sound fun p _ => sem_runs mix T113_sound Tryd.func78 a78_ok (runs_change1 p.1 p.2.1 p.2.2)) tbl0_sound
noncomputable def T115 : Tbl := addT 78 (.pure (cChg 81 3)) tbl0
theorem T115_c : T115 78 = .pure (cChg 81 3) := by simp [T115]
theorem T115_sound : T115.Sound P := addT_sound (con_sound fun p _ => sem_runs mix T113_sound Tryd.func78 a78_ok (runs_change2 p.1 p.2.1 p.2.2)) tbl0_sound
theorem runs_started (c : Clu) (id t : Int) : Runs T114 a38 [.agg (clC c), .int .i64 id, .int .i64 t] (changeB c id t 2) := by
  refine ⟨?_⟩
  simp (disch := first | omega | (simp [-List.map_take, -List.map_drop, -List.map_set, -List.map_append, -List.drop_one] <;> omega) | fail) [-List.map_take, -List.map_drop, -List.map_set, -List.map_append, -List.drop_one, a38, T114_c, cChg_eq, changeB]
theorem runs_stop (c : Clu) (id t : Int) : Runs T115 a40 [.agg (clC c), .int .i64 id, .int .i64 t] (changeB c id t 3) := by
  refine ⟨?_⟩
  simp (disch := first | omega | (simp [-List.map_take, -List.map_drop, -List.map_set, -List.map_append, -List.drop_one] <;> omega) | fail) [-List.map_take, -List.map_drop, -List.map_set, -List.map_append, -List.drop_one, a40, T115_c, cChg_eq, changeB]
end Go.Proofs.YtjhakjeioppijaaDoor
