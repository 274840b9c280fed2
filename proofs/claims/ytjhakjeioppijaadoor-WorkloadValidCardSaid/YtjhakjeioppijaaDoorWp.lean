/-
  Deploy, Start of the program.
-/
import Derived.Test.YtjhakjeioppijaaDoorWo
set_option linter.unusedSimpArgs false
set_option linter.unusedVariables false
namespace Go.Proofs.YtjhakjeioppijaaDoor
open Go Go.Am

def clW (n : Nat) (c : Clu) : List DV := [mutD (n + 2) 6 c.clone.g grC, mutD (n + (2 + (mutO c.g grC).length)) 37 c.i inC, .int .i64 c.next]
theorem len_clW {n : Nat} {c : Clu} : (clW n c).length = 3 := rfl
theorem shD_mut' {α : Type} {n id s : Nat} {x : Sl α} {f : α → List DV} (hp : ∀ a, pureL (f a) = true) : shD n (mutD id s x f) = mutD (n + id) s x f := by
  by_cases h : x.l = []
  · rw [mutD_nil h, mutD_nil h]; exact shD_pure n _ (dv_pure hp _)
  · rw [mutD_ne h, mutD_ne h]; rfl
noncomputable def cNC : List DV → Nat → Option (DV × List AObj) := conN (fun _ => True) (fun c : Clu => [.agg (clC c)]) (fun c => (cloneV c, cloneK c))
theorem cNC_eq {c : Clu} {n : Nat} : cNC [.agg (clC c)] n = some (.agg (clW n c), .cells (clW n c) :: .cells (clW n c) :: (mutO c.clone.g grC ++ mutO c.i inC)) := by
  have := conN_eq (A := fun _ => True) (f := fun x : Clu => [.agg (clC x)]) (g := fun c => (cloneV c, cloneK c)) (fun a b e => by
    simp only [List.cons.injEq, DV.agg.injEq, and_true] at e
    rw [clC_inj e]) c trivial n
  simp only [cloneV, cloneK, I3, shD_agg, shL_cons, shL_nil, shD_mut' pure_grC, shD_mut' pure_inC, shD_int, List.map_cons, List.map_append, shO_cells, shO_mut pure_grC, shO_mut pure_inC] at this
  exact this
noncomputable def T112 : Tbl := addT 20 (.pure (cC1 validCB)) (addT 18 (.pure (cG1 validGB)) (addT 22 (.pure (cCSS grpD)) (addT 71 (.new cNC) (addT 75 (.pure cCD) (addT 70 (.pure cTm) (addT 24 (.pure (cCi fun c i => .int .i64 (findIx c.i.l i))) tbl0))))))
theorem T112_v : T112 20 = .pure (cC1 validCB) := by simp [T112]
theorem T112_vg : T112 18 = .pure (cG1 validGB) := by simp [T112]
theorem T112_g : T112 22 = .pure (cCSS grpD) := by simp [T112]
theorem T112_c : T112 71 = .new cNC := by simp [T112]
theorem T112_d : T112 75 = .pure cCD := by simp [T112]
theorem T112_t : T112 70 = .pure cTm := by simp [T112]
theorem T112_f : T112 24 = .pure (cCi fun c i => .int .i64 (findIx c.i.l i)) := by simp [T112]
theorem T112_sound : T112.Sound P := addT_sound (con_sound fun x _ => sem_runs mix T107_sound Tryd.func20 a20_ok (runs_valid x)) (addT_sound (con_sound fun x _ => sem_runs mix T106_sound Tryd.func18 a18_ok (runs_validgroup x)) (addT_sound (con_sound fun x _ => sem_runs mix T102_sound Tryd.func22 a22_ok (runs_group x.1 x.2.1 x.2.2)) (addT_sound (conN_sound (fun x _ => by simp) fun x _ => calls_runs mix T110_sound Tryd.func71 a71_ok (runs_clone x)) (addT_sound (con_sound fun x _ => sem_cloneD x) (addT_sound (cTm_sound fun t => sem_runs mix tbl0_sound Tryd.func70 a70_ok (runs_timed t)) (addT_sound (con_sound fun x _ => sem_runs mix T104_sound Tryd.func24 a24_ok (runs_find x.1 x.2)) tbl0_sound))))))
theorem clC_mk {g : Sl Grp} {i : Sl Ins} {n : Int} : clC ⟨g, i, n⟩ = [g.dv 6 grC, i.dv 37 inC, .int .i64 n] := rfl
theorem clC_clu0 : clC clu0 = [.nils, .nils, .int .i64 0] := rfl
noncomputable def deployB (c : Clu) (g : Grp) : DV := .tup [.agg (clC (deployP c g).1), .int .i64 (deployP c g).2]
theorem splice_g5 {g : Grp} {y : Sl Dg} : splice (grC g) 5 [y.dv 32 dgC] = grC (g.withCh y) := rfl
theorem with_clone {g : Grp} : g.withCh g.ch.clone = g.clone := rfl
theorem appX_clone0 {α : Type} {x : Sl α} {s b m : Nat} {f : α → List DV} {h : List AObj} {cs : List DV} (hx : x.l = []) (hb : b ≤ 16384) (h0 : 0 < s) (hm : m * s = cs.length) (hm0 : 0 < m) (hbig : m ≤ 4294967296) :
    appX h s b (x.clone.dv s f) m cs = some (.ms h.length cs.length 0 s m cs.length, h ++ [.cells cs]) := by
  obtain ⟨k, l, hk, hl⟩ := x
  cases (show l = [] from hx)
  cases k with
  | none => exact appX_nils hb h0 hm hm0 hbig
  | some q =>
    have := appX_full (h := h) (s := s) (b := b) (n := 0) (m := m) (ds := []) (cs := cs) hb h0 hm hm0 (by omega)
    simp only [List.length_nil, Nat.zero_add, List.nil_append] at this
    exact this
theorem snapL_grs {h : List AObj} {k : Nat} {l : List Grp} : snapL h k (l.flatMap grC) = some (l.flatMap grC) := snapL_clean (fm_pure pure_grC l)
theorem snapL_ins {h : List AObj} {k : Nat} {l : List Ins} : snapL h k (l.flatMap inC) = some (l.flatMap inC) := snapL_clean (fm_pure pure_inC l)
theorem take_grs {l : List Grp} {n : Nat} (h : l.length ≤ n) : (l.flatMap grC).take (n * 6) = l.flatMap grC := by rw [fm_take len_grC, List.take_of_length_le h]
theorem take_ins {l : List Ins} {n : Nat} (h : l.length ≤ n) : (l.flatMap inC).take (n * 37) = l.flatMap inC := by rw [fm_take len_inC, List.take_of_length_le h]
theorem clone_dv_ne {α : Type} {x : Sl α} {s : Nat} {f : α → List DV} (h : x.l ≠ []) : x.clone.dv s f = .sl false s x.l.length (x.l.flatMap f) := by simp [Sl.clone, Sl.dv, slD, h]
theorem storeO_grs {h : List AObj} {id off : Nat} {x : Grp} {l : List DV} (hl : off + 6 ≤ l.length) : storeO h id 6 off (.agg (grC x)) (some l) = some (.junk, h.set id (.cells (splice l off (grC x)))) := by
  have e : (DV.agg (grC x)).cells = grC x := rfl
  simp only [storeO, e, all_grC, len_grC]
  rw [if_pos ⟨trivial, hl, trivial⟩]
theorem take_gr6 {g : Grp} : (grC g).take 6 = grC g := List.take_of_length_le (by simp)
theorem take_in37 {g : Ins} : (inC g).take 37 = inC g := List.take_of_length_le (by simp)
attribute [simp] take_gr6 take_in37 snapL_grs snapL_ins all_grC all_inC all_dgC
theorem bsl_g {z : List DV} {g : Grp} (hz : z.length = 6) : bslD 6 1 z [(0, 6, .agg (grC g))] = some (.sl true 6 1 (grC g)) := by
  rw [bslD_of (by simp [DV.known]) (by simp [seqD, hz, DV.cells])]; simp [seqD, DV.cells]
set_option maxHeartbeats 4000000 in
theorem runs_deploy (c : Clu) (g : Grp) : Runs T112 a35 [.agg (clC c), .agg (grC g)] (deployB c g) := by
  refine ⟨?_⟩
  by_cases hv : ValidC c
  case neg =>
    have hd : deployP c g = (clu0, 1) := by rw [deployP, if_pos (.inl hv)]
    simp (disch := first | omega | (simp [-List.map_take, -List.map_drop, -List.map_set, -List.map_append, -List.drop_one] <;> omega) | fail) [-List.map_take, -List.map_drop, -List.map_set, -List.map_append, -List.drop_one, a35, T112_v, cC1_eq, validCB, tv_false hv, deployB, hd, clC_clu0]
  by_cases hvg : ValidG g
  case neg =>
    have hd : deployP c g = (clu0, 1) := by rw [deployP, if_pos (.inr hvg)]
    simp (disch := first | omega | (simp [-List.map_take, -List.map_drop, -List.map_set, -List.map_append, -List.drop_one] <;> omega) | fail) [-List.map_take, -List.map_drop, -List.map_set, -List.map_append, -List.drop_one, a35, T112_v, cC1_eq, validCB, tv_true hv, T112_vg, cG1_eq, validGB, tv_false hvg, deployB, hd, clC_clu0]
  have hnn : ¬ (¬ ValidC c ∨ ¬ ValidG g) := fun h => h.elim (fun h => h hv) (fun h => h hvg)
  have hng := hv.ng
  by_cases hx : grpIx c.g.l g.ns g.im < 0
  · by_cases hl : 16 ≤ c.g.l.length
    · have hl' : (16 : Int) ≤ c.g.l.length := by omega
      have hd : deployP c g = (clu0, 3) := by rw [deployP, if_neg hnn, if_pos hx, if_pos hl]
      simp (disch := first | omega | (simp [-List.map_take, -List.map_drop, -List.map_set, -List.map_append, -List.drop_one] <;> omega) | fail) [-List.map_take, -List.map_drop, -List.map_set, -List.map_append, -List.drop_one, a35, T112_v, cC1_eq, validCB, tv_true hv, T112_vg, cG1_eq, validGB, tv_true hvg, T112_g, cCSS_eq, grpD, hx, hl', hl, deployB, hd, clC_clu0]
    · have hl' : ¬ (16 : Int) ≤ c.g.l.length := by omega
      have hd : deployP c g = (⟨own (c.g.l.map Grp.clone ++ [g.clone]), c.i.clone, c.next⟩, 0) := by rw [deployP, if_neg hnn, if_pos hx, if_neg hl]
      have ho := own_dv (l := c.g.l.map Grp.clone ++ [g.clone]) (s := 6) (f := grC) (by simp; omega)
      have ha : ∀ l : List Grp, (l.flatMap grC).length = l.length * 6 := fm_len len_grC
      have hb : ∀ l : List Ins, (l.flatMap inC).length = l.length * 37 := fm_len len_inC
      have hgl : c.clone.g.l.length = c.g.l.length := by simp [clone_gl]
      by_cases hg : c.g.l = []
      · have e2 := mutO_nil (f := grC) hg
        have e3 := mutD_nil (id := 5) (s := 6) (f := grC) (clone_gnil hg)
        have e4 := mutO_nil (f := grC) (clone_gnil hg)
        have e5 := fun h cs => appX_clone0 (x := c.clone.g) (s := 6) (b := 80) (m := 1) (f := grC) (h := h) (cs := grC cs) (clone_gnil hg) (by decide) (by decide) (by simp) (by decide) (by decide)
        have hm : c.g.l.map Grp.clone = [] := by rw [hg]; rfl
        have ho : (own (c.g.l.map Grp.clone ++ [g.clone])).dv 6 grC = .sl false 6 1 (grC g.clone) := by rw [ho, hm]; simp
        by_cases hi : c.i.l = []
        · have f1 := fun id => mutD_nil (id := id) (s := 37) (f := inC) hi
          have f2 := mutO_nil (f := inC) hi
          simp (disch := first | omega | (simp [-List.map_take, -List.map_drop, -List.map_set, -List.map_append, -List.drop_one] <;> omega) | fail) [-List.map_take, -List.map_drop, -List.map_set, -List.map_append, -List.drop_one, a35, T112_v, cC1_eq, validCB, tv_true hv, T112_vg, cG1_eq, validGB, tv_true hvg, T112_g, cCSS_eq, grpD, hx, hl', hl, T112_c, cNC_eq, T112_d, cCD_eq, clW, storeO_one, splice_g5, with_clone, bsl_g, deployB, hd, clC_mk, ho, e2, e3, e4, e5, f1, f2]
        · have f1 := fun id => mutD_ne (id := id) (s := 37) (f := inC) hi
          have f2 := mutO_ne (f := inC) hi
          have f3 := clone_dv_ne (s := 37) (f := inC) hi
          have f4 := take_ins (l := c.i.l) (Nat.le_refl _)
          simp (disch := first | omega | (simp [-List.map_take, -List.map_drop, -List.map_set, -List.map_append, -List.drop_one] <;> omega) | fail) [-List.map_take, -List.map_drop, -List.map_set, -List.map_append, -List.drop_one, a35, T112_v, cC1_eq, validCB, tv_true hv, T112_vg, cG1_eq, validGB, tv_true hvg, T112_g, cCSS_eq, grpD, hx, hl', hl, T112_c, cNC_eq, T112_d, cCD_eq, clW, storeO_one, splice_g5, with_clone, bsl_g, deployB, hd, clC_mk, ho, e2, e3, e4, e5, f1, f2, f3, f4, hb]
      · have e2 := mutO_ne (f := grC) hg
        have e3 := mutD_ne (id := 5) (s := 6) (f := grC) (clone_gne hg)
        have e4 := mutO_ne (f := grC) (clone_gne hg)
        have e6 : (c.g.l.length + 1) * 6 = c.g.l.length * 6 + 6 := by omega
        have e7 : ((c.g.l.map Grp.clone).flatMap grC ++ grC g.clone).take ((c.g.l.length + 1) * 6) = (c.g.l.map Grp.clone).flatMap grC ++ grC g.clone := List.take_of_length_le (by rw [List.length_append, ha, len_grC, List.length_map]; omega)
        have e11 : ∀ H k, snapL H k ((c.g.l.map Grp.clone).flatMap grC ++ grC g.clone) = some ((c.g.l.map Grp.clone).flatMap grC ++ grC g.clone) := fun H k => snapL_clean (pureL_append (fm_pure pure_grC _) (pure_grC _))
        by_cases hi : c.i.l = []
        · have f1 := fun id => mutD_nil (id := id) (s := 37) (f := inC) hi
          have f2 := mutO_nil (f := inC) hi
          simp (disch := first | omega | (simp [-List.map_take, -List.map_drop, -List.map_set, -List.map_append, -List.drop_one] <;> omega) | fail) [-List.map_take, -List.map_drop, -List.map_set, -List.map_append, -List.drop_one, a35, T112_v, cC1_eq, validCB, tv_true hv, T112_vg, cG1_eq, validGB, tv_true hvg, T112_g, cCSS_eq, grpD, hx, hl', hl, T112_c, cNC_eq, T112_d, cCD_eq, clW, storeO_one, splice_g5, with_clone, bsl_g, deployB, hd, clC_mk, ho, e2, e3, e4, e11, f1, f2, ha, hb, clone_gl, e7]
        · have f1 := fun id => mutD_ne (id := id) (s := 37) (f := inC) hi
          have f2 := mutO_ne (f := inC) hi
          have f3 := clone_dv_ne (s := 37) (f := inC) hi
          have f4 := take_ins (l := c.i.l) (Nat.le_refl _)
          simp (disch := first | omega | (simp [-List.map_take, -List.map_drop, -List.map_set, -List.map_append, -List.drop_one] <;> omega) | fail) [-List.map_take, -List.map_drop, -List.map_set, -List.map_append, -List.drop_one, a35, T112_v, cC1_eq, validCB, tv_true hv, T112_vg, cG1_eq, validGB, tv_true hvg, T112_g, cCSS_eq, grpD, hx, hl', hl, T112_c, cNC_eq, T112_d, cCD_eq, clW, storeO_one, splice_g5, with_clone, bsl_g, deployB, hd, clC_mk, ho, e2, e3, e4, e11, f1, f2, f3, f4, ha, hb, clone_gl, e7]
  · obtain ⟨k, hk, hke, hkf, _⟩ := ixI_pos (show 0 ≤ grpIx c.g.l g.ns g.im by omega)
    have hke : grpIx c.g.l g.ns g.im = k := hke
    have hd : deployP c g = (⟨own ((c.g.l.map Grp.clone).set k g.clone), c.i.clone, c.next⟩, 0) := by rw [deployP, if_neg hnn, if_neg hx, hke]; rfl
    have ho := own_dv (l := (c.g.l.map Grp.clone).set k g.clone) (s := 6) (f := grC) (by simp; omega)
    have ha : ∀ l : List Grp, (l.flatMap grC).length = l.length * 6 := fm_len len_grC
    have hb : ∀ l : List Ins, (l.flatMap inC).length = l.length * 37 := fm_len len_inC
    have hg : c.g.l ≠ [] := by intro e; rw [e] at hk; simp at hk
    have e2 := mutO_ne (f := grC) hg
    have e3 := mutD_ne (id := 5) (s := 6) (f := grC) (clone_gne hg)
    have e4 := mutO_ne (f := grC) (clone_gne hg)
    have hx' : ¬ (k : Int) < 0 := by omega
    have hk' : (k : Int) < c.g.l.length := by omega
    have e8 : splice ((c.g.l.map Grp.clone).flatMap grC) (k * 6) (grC g.clone) = ((c.g.l.map Grp.clone).set k g.clone).flatMap grC := fm_set len_grC (by simpa using hk) _
    have e9 := take_grs (l := (c.g.l.map Grp.clone).set k g.clone) (n := c.g.l.length) (by simp)
    have e10 : ∀ H id, storeO H id 6 (k * 6) (.agg (grC g.clone)) (some ((c.g.l.map Grp.clone).flatMap grC)) = some (.junk, H.set id (.cells (((c.g.l.map Grp.clone).set k g.clone).flatMap grC))) := fun H id => by
      rw [storeO_grs (by rw [ha, List.length_map]; omega), e8]
    by_cases hi : c.i.l = []
    · have f1 := fun id => mutD_nil (id := id) (s := 37) (f := inC) hi
      have f2 := mutO_nil (f := inC) hi
      simp (disch := first | omega | (simp [-List.map_take, -List.map_drop, -List.map_set, -List.map_append, -List.drop_one] <;> omega) | fail) [-List.map_take, -List.map_drop, -List.map_set, -List.map_append, -List.drop_one, a35, T112_v, cC1_eq, validCB, tv_true hv, T112_vg, cG1_eq, validGB, tv_true hvg, T112_g, cCSS_eq, grpD, hke, hx', hk', hk, T112_c, cNC_eq, T112_d, cCD_eq, clW, storeO_one, splice_g5, with_clone, deployB, hd, clC_mk, ho, e2, e3, e4, e9, e10, f1, f2, ha, hb, clone_gl]
    · have f1 := fun id => mutD_ne (id := id) (s := 37) (f := inC) hi
      have f2 := mutO_ne (f := inC) hi
      have f3 := clone_dv_ne (s := 37) (f := inC) hi
      have f4 := take_ins (l := c.i.l) (Nat.le_refl _)
      simp (disch := first | omega | (simp [-List.map_take, -List.map_drop, -List.map_set, -List.map_append, -List.drop_one] <;> omega) | fail) [-List.map_take, -List.map_drop, -List.map_set, -List.map_append, -List.drop_one, a35, T112_v, cC1_eq, validCB, tv_true hv, T112_vg, cG1_eq, validGB, tv_true hvg, T112_g, cCSS_eq, grpD, hke, hx', hk', hk, T112_c, cNC_eq, T112_d, cCD_eq, clW, storeO_one, splice_g5, with_clone, deployB, hd, clC_mk, ho, e2, e3, e4, e9, e10, f1, f2, f3, f4, ha, hb, clone_gl]
end Go.Proofs.YtjhakjeioppijaaDoor
