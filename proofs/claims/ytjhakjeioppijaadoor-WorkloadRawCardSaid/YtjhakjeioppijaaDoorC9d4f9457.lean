/-
  48 texts of mine in one.
-/
import Derived.Lib.AppendZeros
import Derived.WalkKit
import Derived.Test.YtjhakjeioppijaaDoorC5f0ea989
import Derived.Test.YtjhakjeioppijaaDoorC950dc02d
import Derived.Test.YtjhakjeioppijaaDoorC0aefe577
import Derived.Test.YtjhakjeioppijaaDoorC05f1b330
set_option linter.unusedSimpArgs false
set_option linter.unusedVariables false
namespace Go.Proofs.YtjhakjeioppijaaDoor
open Go Go.Am
def clW (n : Nat) (c : Clu) : List DV := [mutD (n + 2) 6 c.clone.g grC, mutD (n + (2 + (mutO c.g grC).length)) 37 c.i inC, .int .i64 c.next]
theorem shD_mut' {α : Type} {n id s : Nat} {x : Sl α} {f : α → List DV} (hp : ∀ a, pureL (f a) = true) : shD n (mutD id s x f) = mutD (n + id) s x f := by
  by_cases h : x.l = []
  · rw [mutD_nil h, mutD_nil h]; exact shD_pure n _ (dv_pure hp _)
  · rw [mutD_ne h, mutD_ne h]; rfl
noncomputable def cNC : List DV → Nat → Option (DV × List AObj) := conN (fun _ => True) (fun c : Clu => [.agg (clC c)]) (fun c => (cloneV c, cloneK c))
theorem cNC_eq {c : Clu} {n : Nat} : cNC [.agg (clC c)] n = some (.agg (clW n c), .cells (clW n c) :: .cells (clW n c) :: (mutO c.clone.g grC ++ mutO c.i inC)) := by
  have := conN_eq (A := fun _ => True) (f := fun x : Clu => [.agg (clC x)]) (g := fun c => (cloneV c, cloneK c)) (fun a b e => by
    simp only [List.cons.injEq, DV.agg.injEq, and_true] at e
    rw [clC_inj e]) c trivial n
  simp only [cloneV, cloneK, I3, shD_agg, shL_cons, shL_nil, shD_mut' pure_grC, shD_mut' pure_inC, shD_int, List.map_cons, List.map_append, shO_cells, shO_mut pure_grC, shO_mut pure_inC] at this
  exact this
noncomputable def T112 : Tbl := addT 20 (.pure (cC1 validCB)) (addT 18 (.pure (cG1 validGB)) (addT 22 (.pure (cCSS grpD)) (addT 71 (.new cNC) (addT 75 (.pure cCD) (addT 70 (.pure cTm) (addT 24 (.pure (cCi fun c i => .int .i64 (findIx c.i.l i))) tbl0))))))
theorem T112_v : T112 20 = .pure (cC1 validCB) := by simp [T112]
theorem T112_vg : T112 18 = .pure (cG1 validGB) := by simp [T112]
theorem T112_g : T112 22 = .pure (cCSS grpD) := by simp [T112]
theorem T112_c : T112 71 = .new cNC := by simp [T112]
theorem T112_d : T112 75 = .pure cCD := by simp [T112]
theorem T112_t : T112 70 = .pure cTm := by simp [T112]
theorem T112_sound : T112.Sound P := addT_sound (con_sound fun x _ => sem_runs mix T107_sound Tryd.func20 a20_ok (runs_valid x)) (addT_sound (con_sound fun x _ => sem_runs mix T106_sound Tryd.func18 a18_ok (runs_validgroup x)) (addT_sound (con_sound fun x _ => sem_runs mix T102_sound Tryd.func22 a22_ok (runs_group x.1 x.2.1 x.2.2)) (addT_sound (conN_sound (fun x _ => by simp) fun x _ => calls_runs mix T110_sound Tryd.func71 a71_ok (runs_clone x)) (addT_sound (con_sound fun x _ => sem_cloneD x) (addT_sound (cTm_sound fun t => sem_runs mix tbl0_sound Tryd.func70 a70_ok (runs_timed t)) (addT_sound (con_sound fun x _ => sem_runs mix T104_sound Tryd.func24 a24_ok (runs_find x.1 x.2)) tbl0_sound))))))
theorem clC_mk {g : Sl Grp} {i : Sl Ins} {n : Int} : clC ⟨g, i, n⟩ = [g.dv 6 grC, i.dv 37 inC, .int .i64 n] := rfl
theorem clC_clu0 : clC clu0 = [.nils, .nils, .int .i64 0] := rfl
noncomputable def deployB (c : Clu) (g : Grp) : DV := .tup [.agg (clC (deployP c g).1), .int .i64 (deployP c g).2]
theorem splice_g5 {g : Grp} {y : Sl Dg} : splice (grC g) 5 [y.dv 32 dgC] = grC (g.withCh y) := rfl
theorem with_clone {g : Grp} : g.withCh g.ch.clone = g.clone := rfl
theorem appX_clone0 {α : Type} {x : Sl α} {s b m : Nat} {f : α → List DV} {h : List AObj} {cs : List DV} (hx : x.l = []) (hb : b ≤ 16384) (h0 : 0 < s) (hm : m * s = cs.length) (hm0 : 0 < m) (hbig : m ≤ 4294967296) :
    appX h s b (x.clone.dv s f) m cs = some (.ms h.length cs.length 0 s m cs.length, h ++ [.cells cs]) := by
  obtain ⟨k, l, hk, hl⟩ := x
  cases (show l = [] from hx)
  cases k with
  | none => exact appX_nils hb h0 hm hm0 hbig
  | some q =>
    have := appX_full (h := h) (s := s) (b := b) (n := 0) (m := m) (ds := []) (cs := cs) hb h0 hm hm0 (by omega)
    simp only [List.length_nil, Nat.zero_add, List.nil_append] at this
    exact this
theorem snapL_grs {h : List AObj} {k : Nat} {l : List Grp} : snapL h k (l.flatMap grC) = some (l.flatMap grC) := snapL_clean (fm_pure pure_grC l)
theorem snapL_ins {h : List AObj} {k : Nat} {l : List Ins} : snapL h k (l.flatMap inC) = some (l.flatMap inC) := snapL_clean (fm_pure pure_inC l)
theorem take_grs {l : List Grp} {n : Nat} (h : l.length ≤ n) : (l.flatMap grC).take (n * 6) = l.flatMap grC := by rw [fm_take len_grC, List.take_of_length_le h]
theorem take_ins {l : List Ins} {n : Nat} (h : l.length ≤ n) : (l.flatMap inC).take (n * 37) = l.flatMap inC := by rw [fm_take len_inC, List.take_of_length_le h]
theorem clone_dv_ne {α : Type} {x : Sl α} {s : Nat} {f : α → List DV} (h : x.l ≠ []) : x.clone.dv s f = .sl false s x.l.length (x.l.flatMap f) := by simp [Sl.clone, Sl.dv, slD, h]
theorem storeO_grs {h : List AObj} {id off : Nat} {x : Grp} {l : List DV} (hl : off + 6 ≤ l.length) : storeO h id 6 off (.agg (grC x)) (some l) = some (.junk, h.set id (.cells (splice l off (grC x)))) := by
  have e : (DV.agg (grC x)).cells = grC x := rfl
  simp only [storeO, e, all_grC, len_grC]
  rw [if_pos ⟨trivial, hl, trivial⟩]
theorem take_gr6 {g : Grp} : (grC g).take 6 = grC g := List.take_of_length_le (by simp)
theorem take_in37 {g : Ins} : (inC g).take 37 = inC g := List.take_of_length_le (by simp)
attribute [simp] take_gr6 take_in37 snapL_grs snapL_ins all_grC all_inC all_dgC
theorem bsl_g {z : List DV} {g : Grp} (hz : z.length = 6) : bslD 6 1 z [(0, 6, .agg (grC g))] = some (.sl true 6 1 (grC g)) := by
  rw [bslD_of (by simp [DV.known]) (by simp [seqD, hz, DV.cells])]; simp [seqD, DV.cells]
set_option maxHeartbeats 4000000 in
theorem runs_deploy (c : Clu) (g : Grp) : Runs T112 a35 [.agg (clC c), .agg (grC g)] (deployB c g) := by
  refine ⟨?_⟩
  by_cases hv : ValidC c
  case neg =>
    have hd : deployP c g = (clu0, 1) := by rw [deployP, if_pos (.inl hv)]
    simp (disch := first | omega | (simp [-List.map_take, -List.map_drop, -List.map_set, -List.map_append, -List.drop_one] <;> omega) | fail) [-List.map_take, -List.map_drop, -List.map_set, -List.map_append, -List.drop_one, a35, T112_v, cC1_eq, validCB, tv_false hv, deployB, hd, clC_clu0]
  by_cases hvg : ValidG g
  case neg =>
    have hd : deployP c g = (clu0, 1) := by rw [deployP, if_pos (.inr hvg)]
    simp (disch := first | omega | (simp [-List.map_take, -List.map_drop, -List.map_set, -List.map_append, -List.drop_one] <;> omega) | fail) [-List.map_take, -List.map_drop, -List.map_set, -List.map_append, -List.drop_one, a35, T112_v, cC1_eq, validCB, tv_true hv, T112_vg, cG1_eq, validGB, tv_false hvg, deployB, hd, clC_clu0]
  have hnn : ¬ (¬ ValidC c ∨ ¬ ValidG g) := fun h => h.elim (fun h => h hv) (fun h => h hvg)
  have hng := hv.ng
  by_cases hx : grpIx c.g.l g.ns g.im < 0
  · by_cases hl : 16 ≤ c.g.l.length
    · have hl' : (16 : Int) ≤ c.g.l.length := by omega
      have hd : deployP c g = (clu0, 3) := by rw [deployP, if_neg hnn, if_pos hx, if_pos hl]
      simp (disch := first | omega | (simp [-List.map_take, -List.map_drop, -List.map_set, -List.map_append, -List.drop_one] <;> omega) | fail) [-List.map_take, -List.map_drop, -List.map_set, -List.map_append, -List.drop_one, a35, T112_v, cC1_eq, validCB, tv_true hv, T112_vg, cG1_eq, validGB, tv_true hvg, T112_g, cCSS_eq, grpD, hx, hl', hl, deployB, hd, clC_clu0]
    · have hl' : ¬ (16 : Int) ≤ c.g.l.length := by omega
      have hd : deployP c g = (⟨own (c.g.l.map Grp.clone ++ [g.clone]), c.i.clone, c.next⟩, 0) := by rw [deployP, if_neg hnn, if_pos hx, if_neg hl]
      have ho := own_dv (l := c.g.l.map Grp.clone ++ [g.clone]) (s := 6) (f := grC) (by simp; omega)
      have ha : ∀ l : List Grp, (l.flatMap grC).length = l.length * 6 := fm_len len_grC
      have hb : ∀ l : List Ins, (l.flatMap inC).length = l.length * 37 := fm_len len_inC
      have hgl : c.clone.g.l.length = c.g.l.length := by simp [clone_gl]
      by_cases hg : c.g.l = []
      · have e2 := mutO_nil (f := grC) hg
        have e3 := mutD_nil (id := 5) (s := 6) (f := grC) (clone_gnil hg)
        have e4 := mutO_nil (f := grC) (clone_gnil hg)
        have e5 := fun h cs => appX_clone0 (x := c.clone.g) (s := 6) (b := 80) (m := 1) (f := grC) (h := h) (cs := grC cs) (clone_gnil hg) (by decide) (by decide) (by simp) (by decide) (by decide)
        have hm : c.g.l.map Grp.clone = [] := by rw [hg]; rfl
        have ho : (own (c.g.l.map Grp.clone ++ [g.clone])).dv 6 grC = .sl false 6 1 (grC g.clone) := by rw [ho, hm]; simp
        by_cases hi : c.i.l = []
        · have f1 := fun id => mutD_nil (id := id) (s := 37) (f := inC) hi
          have f2 := mutO_nil (f := inC) hi
          simp (disch := first | omega | (simp [-List.map_take, -List.map_drop, -List.map_set, -List.map_append, -List.drop_one] <;> omega) | fail) [-List.map_take, -List.map_drop, -List.map_set, -List.map_append, -List.drop_one, a35, T112_v, cC1_eq, validCB, tv_true hv, T112_vg, cG1_eq, validGB, tv_true hvg, T112_g, cCSS_eq, grpD, hx, hl', hl, T112_c, cNC_eq, T112_d, cCD_eq, clW, storeO_one, splice_g5, with_clone, bsl_g, deployB, hd, clC_mk, ho, e2, e3, e4, e5, f1, f2]
        · have f1 := fun id => mutD_ne (id := id) (s := 37) (f := inC) hi
          have f2 := mutO_ne (f := inC) hi
          have f3 := clone_dv_ne (s := 37) (f := inC) hi
          have f4 := take_ins (l := c.i.l) (Nat.le_refl _)
          simp (disch := first | omega | (simp [-List.map_take, -List.map_drop, -List.map_set, -List.map_append, -List.drop_one] <;> omega) | fail) [-List.map_take, -List.map_drop, -List.map_set, -List.map_append, -List.drop_one, a35, T112_v, cC1_eq, validCB, tv_true hv, T112_vg, cG1_eq, validGB, tv_true hvg, T112_g, cCSS_eq, grpD, hx, hl', hl, T112_c, cNC_eq, T112_d, cCD_eq, clW, storeO_one, splice_g5, with_clone, bsl_g, deployB, hd, clC_mk, ho, e2, e3, e4, e5, f1, f2, f3, f4, hb]
      · have e2 := mutO_ne (f := grC) hg
        have e3 := mutD_ne (id := 5) (s := 6) (f := grC) (clone_gne hg)
        have e4 := mutO_ne (f := grC) (clone_gne hg)
        have e6 : (c.g.l.length + 1) * 6 = c.g.l.length * 6 + 6 := by omega
        have e7 : ((c.g.l.map Grp.clone).flatMap grC ++ grC g.clone).take ((c.g.l.length + 1) * 6) = (c.g.l.map Grp.clone).flatMap grC ++ grC g.clone := List.take_of_length_le (by rw [List.length_append, ha, len_grC, List.length_map]; omega)
        have e11 : ∀ H k, snapL H k ((c.g.l.map Grp.clone).flatMap grC ++ grC g.clone) = some ((c.g.l.map Grp.clone).flatMap grC ++ grC g.clone) := fun H k => snapL_clean (pureL_append (fm_pure pure_grC _) (pure_grC _))
        by_cases hi : c.i.l = []
        · have f1 := fun id => mutD_nil (id := id) (s := 37) (f := inC) hi
          have f2 := mutO_nil (f := inC) hi
          simp (disch := first | omega | (simp [-List.map_take, -List.map_drop, -List.map_set, -List.map_append, -List.drop_one] <;> omega) | fail) [-List.map_take, -List.map_drop, -List.map_set, -List.map_append, -List.drop_one, a35, T112_v, cC1_eq, validCB, tv_true hv, T112_vg, cG1_eq, validGB, tv_true hvg, T112_g, cCSS_eq, grpD, hx, hl', hl, T112_c, cNC_eq, T112_d, cCD_eq, clW, storeO_one, splice_g5, with_clone, bsl_g, deployB, hd, clC_mk, ho, e2, e3, e4, e11, f1, f2, ha, hb, clone_gl, e7]
        · have f1 := fun id => mutD_ne (id := id) (s := 37) (f := inC) hi
          have f2 := mutO_ne (f := inC) hi
          have f3 := clone_dv_ne (s := 37) (f := inC) hi
          have f4 := take_ins (l := c.i.l) (Nat.le_refl _)
          simp (disch := first | omega | (simp [-List.map_take, -List.map_drop, -List.map_set, -List.map_append, -List.drop_one] <;> omega) | fail) [-List.map_take, -List.map_drop, -List.map_set, -List.map_append, -List.drop_one, a35, T112_v, cC1_eq, validCB, tv_true hv, T112_vg, cG1_eq, validGB, tv_true hvg, T112_g, cCSS_eq, grpD, hx, hl', hl, T112_c, cNC_eq, T112_d, cCD_eq, clW, storeO_one, splice_g5, with_clone, bsl_g, deployB, hd, clC_mk, ho, e2, e3, e4, e11, f1, f2, f3, f4, ha, hb, clone_gl, e7]
  · obtain ⟨k, hk, hke, hkf, _⟩ := ixI_pos (show 0 ≤ grpIx c.g.l g.ns g.im by omega)
    have hke : grpIx c.g.l g.ns g.im = k := hke
    have hd : deployP c g = (⟨own ((c.g.l.map Grp.clone).set k g.clone), c.i.clone, c.next⟩, 0) := by rw [deployP, if_neg hnn, if_neg hx, hke]; rfl
    have ho := own_dv (l := (c.g.l.map Grp.clone).set k g.clone) (s := 6) (f := grC) (by simp; omega)
    have ha : ∀ l : List Grp, (l.flatMap grC).length = l.length * 6 := fm_len len_grC
    have hb : ∀ l : List Ins, (l.flatMap inC).length = l.length * 37 := fm_len len_inC
    have hg : c.g.l ≠ [] := by intro e; rw [e] at hk; simp at hk
    have e2 := mutO_ne (f := grC) hg
    have e3 := mutD_ne (id := 5) (s := 6) (f := grC) (clone_gne hg)
    have e4 := mutO_ne (f := grC) (clone_gne hg)
    have hx' : ¬ (k : Int) < 0 := by omega
    have hk' : (k : Int) < c.g.l.length := by omega
    have e8 : splice ((c.g.l.map Grp.clone).flatMap grC) (k * 6) (grC g.clone) = ((c.g.l.map Grp.clone).set k g.clone).flatMap grC := fm_set len_grC (by simpa using hk) _
    have e9 := take_grs (l := (c.g.l.map Grp.clone).set k g.clone) (n := c.g.l.length) (by simp)
    have e10 : ∀ H id, storeO H id 6 (k * 6) (.agg (grC g.clone)) (some ((c.g.l.map Grp.clone).flatMap grC)) = some (.junk, H.set id (.cells (((c.g.l.map Grp.clone).set k g.clone).flatMap grC))) := fun H id => by
      rw [storeO_grs (by rw [ha, List.length_map]; omega), e8]
    by_cases hi : c.i.l = []
    · have f1 := fun id => mutD_nil (id := id) (s := 37) (f := inC) hi
      have f2 := mutO_nil (f := inC) hi
      simp (disch := first | omega | (simp [-List.map_take, -List.map_drop, -List.map_set, -List.map_append, -List.drop_one] <;> omega) | fail) [-List.map_take, -List.map_drop, -List.map_set, -List.map_append, -List.drop_one, a35, T112_v, cC1_eq, validCB, tv_true hv, T112_vg, cG1_eq, validGB, tv_true hvg, T112_g, cCSS_eq, grpD, hke, hx', hk', hk, T112_c, cNC_eq, T112_d, cCD_eq, clW, storeO_one, splice_g5, with_clone, deployB, hd, clC_mk, ho, e2, e3, e4, e9, e10, f1, f2, ha, hb, clone_gl]
    · have f1 := fun id => mutD_ne (id := id) (s := 37) (f := inC) hi
      have f2 := mutO_ne (f := inC) hi
      have f3 := clone_dv_ne (s := 37) (f := inC) hi
      have f4 := take_ins (l := c.i.l) (Nat.le_refl _)
      simp (disch := first | omega | (simp [-List.map_take, -List.map_drop, -List.map_set, -List.map_append, -List.drop_one] <;> omega) | fail) [-List.map_take, -List.map_drop, -List.map_set, -List.map_append, -List.drop_one, a35, T112_v, cC1_eq, validCB, tv_true hv, T112_vg, cG1_eq, validGB, tv_true hvg, T112_g, cCSS_eq, grpD, hke, hx', hk', hk, T112_c, cNC_eq, T112_d, cCD_eq, clW, storeO_one, splice_g5, with_clone, deployB, hd, clC_mk, ho, e2, e3, e4, e9, e10, f1, f2, f3, f4, ha, hb, clone_gl]
end Go.Proofs.YtjhakjeioppijaaDoor
set_option linter.unusedSimpArgs false
set_option linter.unusedVariables false
namespace Go.Proofs.YtjhakjeioppijaaDoor
open Go Go.Am
theorem clone_g_dv {c : Clu} : c.clone.g.clone.dv 6 grC = c.clone.g.dv 6 grC := by
  by_cases h : c.g.l = []
  · simp only [Sl.clone, Clu.clone, Sl.dv, h, List.map_nil, if_true]
    cases c.g.k <;> rfl
  · simp [Sl.clone, Clu.clone, Sl.dv, h]
theorem clone_g_ne {c : Clu} (h : c.g.l ≠ []) : c.clone.g.dv 6 grC = .sl false 6 c.g.l.length ((c.g.l.map Grp.clone).flatMap grC) := by
  rw [← clone_g_dv, clone_dv_ne (clone_gne h), clone_gl, List.length_map]
theorem bsl_i {z : List DV} {x : Ins} (hz : z.length = 37) : bslD 37 1 z [(0, 37, .agg (inC x))] = some (.sl true 37 1 (inC x)) := by
  rw [bslD_of (by simp [DV.known]) (by simp [seqD, hz, DV.cells])]; simp [seqD, DV.cells]
noncomputable def startB (c : Clu) (g : Int) (d : Dg) (t : Int) : DV := .tup [.agg (clC (startP c g d t).1), .int .i64 (startP c g d t).2.1, .int .i64 (startP c g d t).2.2]
set_option maxHeartbeats 4000000 in
theorem runs_start (c : Clu) (gr : Int) (d : Dg) (t : Int) : Runs T112 a32 [.agg (clC c), .int .i64 gr, .agg (dgC d), .int .i64 t] (startB c gr d t) := by
  refine ⟨?_⟩
  by_cases hv : ValidC c
  case neg =>
    have hd : startP c gr d t = (clu0, 0, 1) := by rw [startP, if_pos (.inl hv)]
    simp (disch := first | omega | (simp [-List.map_take, -List.map_drop, -List.map_set, -List.map_append, -List.drop_one] <;> omega) | fail) [-List.map_take, -List.map_drop, -List.map_set, -List.map_append, -List.drop_one, a32, T112_v, cC1_eq, validCB, T112_t, cTm_eq, startB, tv_false hv, hd, clC_clu0]
  by_cases hz : d = dg0
  · have hd : startP c gr d t = (clu0, 0, 1) := by rw [startP, if_pos (.inr (.inl hz))]
    simp (disch := first | omega | (simp [-List.map_take, -List.map_drop, -List.map_set, -List.map_append, -List.drop_one] <;> omega) | fail) [-List.map_take, -List.map_drop, -List.map_set, -List.map_append, -List.drop_one, a32, T112_v, cC1_eq, validCB, T112_t, cTm_eq, startB, tv_true hv, hz, hd, clC_clu0]
    simp [← hz, hd, clC_clu0]
  by_cases ht : timeOK t
  case neg =>
    have hd : startP c gr d t = (clu0, 0, 1) := by rw [startP, if_pos (.inr (.inr ht))]
    simp (disch := first | omega | (simp [-List.map_take, -List.map_drop, -List.map_set, -List.map_append, -List.drop_one] <;> omega) | fail) [-List.map_take, -List.map_drop, -List.map_set, -List.map_append, -List.drop_one, a32, T112_v, cC1_eq, validCB, T112_t, cTm_eq, startB, tv_true hv, hz, tv_false ht, hd, clC_clu0]
  have hnn : ¬ (¬ ValidC c ∨ d = dg0 ∨ ¬ timeOK t) := fun h => h.elim (fun h => h hv) (fun h => h.elim hz (fun h => h ht))
  have hni := hv.ni
  have hn0 := hv.n0
  by_cases g0 : gr < 0
  · have hd : startP c gr d t = (clu0, 0, 4) := by rw [startP, if_neg hnn, if_pos (.inl g0)]
    simp (disch := first | omega | (simp [-List.map_take, -List.map_drop, -List.map_set, -List.map_append, -List.drop_one] <;> omega) | fail) [-List.map_take, -List.map_drop, -List.map_set, -List.map_append, -List.drop_one, a32, T112_v, cC1_eq, validCB, T112_t, cTm_eq, startB, tv_true hv, hz, tv_true ht, g0, hd, clC_clu0]
  by_cases g1 : (c.g.l.length : Int) ≤ gr
  · have hd : startP c gr d t = (clu0, 0, 4) := by rw [startP, if_neg hnn, if_pos (.inr g1)]
    simp (disch := first | omega | (simp [-List.map_take, -List.map_drop, -List.map_set, -List.map_append, -List.drop_one] <;> omega) | fail) [-List.map_take, -List.map_drop, -List.map_set, -List.map_append, -List.drop_one, a32, T112_v, cC1_eq, validCB, T112_t, cTm_eq, startB, tv_true hv, hz, tv_true ht, g0, g1, hd, clC_clu0]
  have hnn2 : ¬ (gr < 0 ∨ (c.g.l.length : Int) ≤ gr) := fun h => h.elim g0 g1
  by_cases l0 : 200 ≤ c.i.l.length
  · have l0' : (200 : Int) ≤ c.i.l.length := by omega
    have hd : startP c gr d t = (clu0, 0, 3) := by rw [startP, if_neg hnn, if_neg hnn2, if_pos (.inl l0)]
    simp (disch := first | omega | (simp [-List.map_take, -List.map_drop, -List.map_set, -List.map_append, -List.drop_one] <;> omega) | fail) [-List.map_take, -List.map_drop, -List.map_set, -List.map_append, -List.drop_one, a32, T112_v, cC1_eq, validCB, T112_t, cTm_eq, startB, tv_true hv, hz, tv_true ht, g0, g1, l0', l0, hd, clC_clu0]
  have l0' : ¬ (200 : Int) ≤ c.i.l.length := by omega
  by_cases l1 : 1099511627776 ≤ c.next
  · have hd : startP c gr d t = (clu0, 0, 3) := by rw [startP, if_neg hnn, if_neg hnn2, if_pos (.inr l1)]
    simp (disch := first | omega | (simp [-List.map_take, -List.map_drop, -List.map_set, -List.map_append, -List.drop_one] <;> omega) | fail) [-List.map_take, -List.map_drop, -List.map_set, -List.map_append, -List.drop_one, a32, T112_v, cC1_eq, validCB, T112_t, cTm_eq, startB, tv_true hv, hz, tv_true ht, g0, g1, l0', l0, l1, hd, clC_clu0]
  have hnn3 : ¬ (200 ≤ c.i.l.length ∨ 1099511627776 ≤ c.next) := fun h => h.elim l0 l1
  have hd : startP c gr d t = (⟨c.clone.g, own (c.i.l ++ [newI c gr d t]), c.next + 1⟩, c.next, 0) := by rw [startP, if_neg hnn, if_neg hnn2, if_neg hnn3]
  have ho := own_dv (l := c.i.l ++ [newI c gr d t]) (s := 37) (f := inC) (by simp; omega)
  have ha : ∀ l : List Grp, (l.flatMap grC).length = l.length * 6 := fm_len len_grC
  have hb : ∀ l : List Ins, (l.flatMap inC).length = l.length * 37 := fm_len len_inC
  have e12 : DV.int .i64 c.next :: DV.int .i64 gr :: (dgC d ++ [DV.int .i64 1, DV.int .i64 t, DV.int .i64 (-1)]) = inC (newI c gr d t) := rfl
  have hg : c.g.l ≠ [] := by intro e; rw [e] at g1; simp at g1; omega
  have e2 := mutO_ne (f := grC) hg
  have e3 := mutD_ne (id := 5) (s := 6) (f := grC) (clone_gne hg)
  have e4 := mutO_ne (f := grC) (clone_gne hg)
  have e6 := clone_g_ne hg
  have e7 := take_grs (l := c.g.l.map Grp.clone) (n := c.g.l.length) (by simp)
  by_cases hi : c.i.l = []
  · have f1 := fun id => mutD_nil (id := id) (s := 37) (f := inC) hi
    have f2 := mutO_nil (f := inC) hi
    have e5 := fun h cs => appX_clone0 (x := c.i) (s := 37) (b := 72) (m := 1) (f := inC) (h := h) (cs := inC cs) hi (by decide) (by decide) (by simp) (by decide) (by decide)
    have ho : (own (c.i.l ++ [newI c gr d t])).dv 37 inC = .sl false 37 1 (inC (newI c gr d t)) := by rw [ho, hi]; simp
    simp (disch := first | omega | (simp [-List.map_take, -List.map_drop, -List.map_set, -List.map_append, -List.drop_one] <;> omega) | fail) [-List.map_take, -List.map_drop, -List.map_set, -List.map_append, -List.drop_one, a32, T112_v, cC1_eq, validCB, T112_t, cTm_eq, startB, tv_true hv, hz, tv_true ht, g0, g1, l0', l0, l1, T112_c, cNC_eq, clW, storeO_one, bsl_i, e12, hd, clC_mk, ho, clone_gl, e2, e3, e4, e5, e6, e7, f1, f2, ha, hb]
  · have f1 := fun id => mutD_ne (id := id) (s := 37) (f := inC) hi
    have f2 := mutO_ne (f := inC) hi
    have e8 : (c.i.l.flatMap inC ++ inC (newI c gr d t)).take ((c.i.l.length + 1) * 37) = c.i.l.flatMap inC ++ inC (newI c gr d t) := List.take_of_length_le (by rw [List.length_append, hb, len_inC]; omega)
    have e9 : ∀ H k, snapL H k (c.i.l.flatMap inC ++ inC (newI c gr d t)) = some (c.i.l.flatMap inC ++ inC (newI c gr d t)) := fun H k => snapL_clean (pureL_append (fm_pure pure_inC _) (pure_inC _))
    simp (disch := first | omega | (simp [-List.map_take, -List.map_drop, -List.map_set, -List.map_append, -List.drop_one] <;> omega) | fail) [-List.map_take, -List.map_drop, -List.map_set, -List.map_append, -List.drop_one, a32, T112_v, cC1_eq, validCB, T112_t, cTm_eq, startB, tv_true hv, hz, tv_true ht, g0, g1, l0', l0, l1, T112_c, cNC_eq, clW, storeO_one, bsl_i, e12, hd, clC_mk, ho, clone_gl, e2, e3, e4, e6, e7, e8, e9, f1, f2, ha, hb]
theorem splice_in {l : List Ins} {k j : Nat} (h : k < l.length) (hj : j < 37) {v : DV} : splice (l.flatMap inC) (k * 37 + j) [v] = (l.take k).flatMap inC ++ (splice (inC l[k]) j [v] ++ (l.drop (k + 1)).flatMap inC) := by
  have hl := len_inC l[k]
  unfold splice
  rw [List.length_singleton, List.take_add, fm_take len_inC, fm_drop len_inC, Nat.add_assoc, ← List.drop_drop, fm_drop len_inC, List.drop_eq_getElem_cons h, List.flatMap_cons]
  rw [List.take_append_of_le_length (by omega), List.drop_append_of_le_length (by omega)]
  simp only [List.append_assoc]
theorem set_ins {l : List Ins} {k : Nat} (h : k < l.length) {y : Ins} : (l.set k y).flatMap inC = (l.take k).flatMap inC ++ (inC y ++ (l.drop (k + 1)).flatMap inC) := by
  rw [List.set_eq_take_append_cons_drop, if_pos h, List.flatMap_append, List.flatMap_cons]
theorem inC_split (x : Ins) : inC x = (DV.int .i64 x.id :: .int .i64 x.grp :: dgC x.art) ++ [.int .i64 x.state, .int .i64 x.since, .int .i64 x.den] := rfl
theorem len_pre (x : Ins) : (DV.int .i64 x.id :: .int .i64 x.grp :: dgC x.art).length = 34 := by simp
theorem splice_st (x : Ins) (v : Int) : splice (inC x) 34 [.int .i64 v] = inC (x.st v) := by
  have h := len_pre x
  rw [inC_split, inC_split]
  unfold splice
  rw [List.take_append_of_le_length (by omega), List.take_of_length_le (by omega), List.drop_append, List.drop_of_length_le (by simp), h]
  simp [Ins.st]
theorem splice_si (x : Ins) (v : Int) : splice (inC x) 35 [.int .i64 v] = inC (x.si v) := by
  have h := len_pre x
  rw [inC_split, inC_split]
  unfold splice
  rw [List.take_append, List.take_of_length_le (by omega), List.drop_append, List.drop_of_length_le (by simp), h]
  simp [Ins.si]
theorem splice_de (x : Ins) (v : Int) : splice (inC x) 36 [.int .i64 v] = inC (x.de v) := by
  have h := len_pre x
  rw [inC_split, inC_split]
  unfold splice
  rw [List.take_append, List.take_of_length_le (by omega), List.drop_append, List.drop_of_length_le (by simp), h]
  simp [Ins.de]
theorem store_st {H : List AObj} {id k : Nat} {l : List Ins} {v : Int} (h : k < l.length) : storeO H id 1 (k * 37 + 34) (.int .i64 v) (some (l.flatMap inC)) = some (.junk, H.set id (.cells ((l.set k (l[k].st v)).flatMap inC))) := by
  rw [storeO_one rfl rfl (by rw [fm_len len_inC]; omega), splice_in h (by decide), splice_st, set_ins h]
theorem store_si {H : List AObj} {id k : Nat} {l : List Ins} {v : Int} (h : k < l.length) : storeO H id 1 (k * 37 + 35) (.int .i64 v) (some (l.flatMap inC)) = some (.junk, H.set id (.cells ((l.set k (l[k].si v)).flatMap inC))) := by
  rw [storeO_one rfl rfl (by rw [fm_len len_inC]; omega), splice_in h (by decide), splice_si, set_ins h]
theorem store_de {H : List AObj} {id k : Nat} {l : List Ins} {v : Int} (h : k < l.length) : storeO H id 1 (k * 37 + 36) (.int .i64 v) (some (l.flatMap inC)) = some (.junk, H.set id (.cells ((l.set k (l[k].de v)).flatMap inC))) := by
  rw [storeO_one rfl rfl (by rw [fm_len len_inC]; omega), splice_in h (by decide), splice_de, set_ins h]
end Go.Proofs.YtjhakjeioppijaaDoor
set_option linter.unusedSimpArgs false
set_option linter.unusedVariables false
namespace Go.Proofs.YtjhakjeioppijaaDoor
open Go Go.Am
def S120 (x : Sl Dg) (d : Dg) (i : Nat) : St := a63S0 (x.dv 32 dgC) (.mp 0 32 0) (.int .i64 i) [.cells (dgC d)]
theorem runs_refhas (x : Sl Dg) (d : Dg) : Runs tbl0 a63 [x.dv 32 dgC, .agg (dgC d)] (hasB x d) := by
  refine ⟨?_⟩
  have hb := x.b
  simp (disch := first | omega | (simp [-List.map_take, -List.map_drop, -List.map_set, -List.map_append, -List.drop_one] <;> omega) | fail) [-List.map_take, -List.map_drop, -List.map_set, -List.map_append, -List.drop_one, a63]
  refine W_loop (S120 x d) (fun i => x.l.length - i) (fun i => i ≤ x.l.length ∧ ∀ j (hj : j < x.l.length), j < i → ¬ x.l[j] = d) 0 (weak_same (by simp (disch := first | omega | (simp [-List.map_take, -List.map_drop, -List.map_set, -List.map_append, -List.drop_one] <;> omega) | fail) [-List.map_take, -List.map_drop, -List.map_set, -List.map_append, -List.drop_one]) (by simp (disch := first | omega | (simp [-List.map_take, -List.map_drop, -List.map_set, -List.map_append, -List.drop_one] <;> omega) | fail) [-List.map_take, -List.map_drop, -List.map_set, -List.map_append, -List.drop_one])) ⟨by omega, fun j _ hj => by omega⟩ (fun i hi => ?_)
  obtain ⟨h1, h2⟩ := hi
  simp (disch := first | omega | (simp [-List.map_take, -List.map_drop, -List.map_set, -List.map_append, -List.drop_one] <;> omega) | fail) [-List.map_take, -List.map_drop, -List.map_set, -List.map_append, -List.drop_one, a63L0, a63S0, S120]
  by_cases h : i < x.l.length
  · have h' : (i : Int) < x.l.length := by omega
    have hg : ∀ H, idxSD H 32 (x.dv 32 dgC) i = some (.ref (dgC x.l[i])) := fun H => idxSD_dv len_dgC h
    by_cases e : x.l[i] = d
    · have hm : d ∈ x.l := e ▸ List.getElem_mem h
      simp (disch := first | omega | (simp [-List.map_take, -List.map_drop, -List.map_set, -List.map_append, -List.drop_one] <;> omega) | fail) [-List.map_take, -List.map_drop, -List.map_set, -List.map_append, -List.drop_one, h', h, hg, e, hasB, hm]
    · simp (disch := first | omega | (simp [-List.map_take, -List.map_drop, -List.map_set, -List.map_append, -List.drop_one] <;> omega) | fail) [-List.map_take, -List.map_drop, -List.map_set, -List.map_append, -List.drop_one, h', h, hg, e]
      refine ⟨i + 1, weak_same (by simp (disch := first | omega | (simp [-List.map_take, -List.map_drop, -List.map_set, -List.map_append, -List.drop_one] <;> omega) | fail) [-List.map_take, -List.map_drop, -List.map_set, -List.map_append, -List.drop_one]) (by simp (disch := first | omega | (simp [-List.map_take, -List.map_drop, -List.map_set, -List.map_append, -List.drop_one] <;> omega) | fail) [-List.map_take, -List.map_drop, -List.map_set, -List.map_append, -List.drop_one]), by omega, by omega, fun j hj hji => ?_⟩
      by_cases ej : j = i
      · subst ej; exact e
      · exact h2 j hj (by omega)
  · have h' : ¬ (i : Int) < x.l.length := by omega
    have hm : ¬ d ∈ x.l := fun hm => by
      obtain ⟨j, hj, e⟩ := List.getElem_of_mem hm
      exact h2 j hj (by omega) e
    simp (disch := first | omega | (simp [-List.map_take, -List.map_drop, -List.map_set, -List.map_append, -List.drop_one] <;> omega) | fail) [-List.map_take, -List.map_drop, -List.map_set, -List.map_append, -List.drop_one, h, h', hasB, hm]
theorem runs_instant (t : Int) : Runs tbl0 a77 [.int .i64 t] (.bool (tv (timeOK t))) := by
  refine ⟨?_⟩
  by_cases h0 : 0 ≤ t
  · by_cases h1 : t ≤ 1099511627776
    · simp (disch := first | omega | (simp [-List.map_take, -List.map_drop, -List.map_set, -List.map_append, -List.drop_one] <;> omega) | fail) [-List.map_take, -List.map_drop, -List.map_set, -List.map_append, -List.drop_one, a77, h0, h1, tv_true (show timeOK t from ⟨h0, h1⟩)]
    · simp (disch := first | omega | (simp [-List.map_take, -List.map_drop, -List.map_set, -List.map_append, -List.drop_one] <;> omega) | fail) [-List.map_take, -List.map_drop, -List.map_set, -List.map_append, -List.drop_one, a77, h0, h1, tv_false (show ¬ timeOK t from fun h => h1 h.2)]
  · simp (disch := first | omega | (simp [-List.map_take, -List.map_drop, -List.map_set, -List.map_append, -List.drop_one] <;> omega) | fail) [-List.map_take, -List.map_drop, -List.map_set, -List.map_append, -List.drop_one, a77, h0, tv_false (show ¬ timeOK t from fun h => h0 h.1)]
noncomputable def T120 : Tbl := addT 62 (.pure (cS pathB)) (addT 63 (.pure (cDgs hasB)) (addT 77 (.pure cTm) tbl0))
theorem T120_p : T120 62 = .pure (cS pathB) := by simp [T120]
theorem T120_h : T120 63 = .pure (cDgs hasB) := by simp [T120]
theorem T120_t : T120 77 = .pure cTm := by simp [T120]
theorem T120_sound : T120.Sound P := addT_sound (cS_sound fun s => sem_runs mix T73_sound Tryd.func62 a62_ok (runs_refpath s)) (addT_sound (con_sound fun p _ => sem_runs mix tbl0_sound Tryd.func63 a63_ok (runs_refhas p.1 p.2)) (addT_sound (cTm_sound fun t => sem_runs mix tbl0_sound Tryd.func77 a77_ok (runs_instant t)) tbl0_sound))
def S121 (c : Clu) (ns im : List UInt8) (i : Nat) : St := a23S0 (.str ns) (.str im) (.mp 0 3 0) (.int .i64 i) [.cells (clC c)]
theorem runs_refgroup (c : Clu) (ns im : List UInt8) : Runs tbl0 a23 [.agg (clC c), .str ns, .str im] (grpD c ns im) := by
  refine ⟨?_⟩
  have hb := c.g.b
  simp (disch := first | omega | (simp [-List.map_take, -List.map_drop, -List.map_set, -List.map_append, -List.drop_one] <;> omega) | fail) [-List.map_take, -List.map_drop, -List.map_set, -List.map_append, -List.drop_one, a23]
  refine W_loop (S121 c ns im) (fun i => c.g.l.length - i) (fun i => i ≤ c.g.l.length ∧ ∀ j (hj : j < c.g.l.length), j < i → fitG ns im c.g.l[j] = false) 0 (weak_same (by simp (disch := first | omega | (simp [-List.map_take, -List.map_drop, -List.map_set, -List.map_append, -List.drop_one] <;> omega) | fail) [-List.map_take, -List.map_drop, -List.map_set, -List.map_append, -List.drop_one]) (by simp (disch := first | omega | (simp [-List.map_take, -List.map_drop, -List.map_set, -List.map_append, -List.drop_one] <;> omega) | fail) [-List.map_take, -List.map_drop, -List.map_set, -List.map_append, -List.drop_one])) ⟨by omega, fun j _ hj => by omega⟩ (fun i hi => ?_)
  obtain ⟨h1, h2⟩ := hi
  simp (disch := first | omega | (simp [-List.map_take, -List.map_drop, -List.map_set, -List.map_append, -List.drop_one] <;> omega) | fail) [-List.map_take, -List.map_drop, -List.map_set, -List.map_append, -List.drop_one, a23L0, a23S0, S121]
  by_cases h : i < c.g.l.length
  · have h' : (i : Int) < c.g.l.length := by omega
    have hg : ∀ H, idxSD H 6 (c.g.dv 6 grC) i = some (.ref (grC c.g.l[i])) := fun H => idxSD_dv len_grC h
    by_cases e1 : c.g.l[i].ns = ns
    · by_cases e2 : c.g.l[i].im = im
      · have hr : grpIx c.g.l ns im = i := ixI_at h (by simp [fitG, e1, e2]) h2
        simp (disch := first | omega | (simp [-List.map_take, -List.map_drop, -List.map_set, -List.map_append, -List.drop_one] <;> omega) | fail) [-List.map_take, -List.map_drop, -List.map_set, -List.map_append, -List.drop_one, h', h, hg, e1, e2, grpD, hr]
      · simp (disch := first | omega | (simp [-List.map_take, -List.map_drop, -List.map_set, -List.map_append, -List.drop_one] <;> omega) | fail) [-List.map_take, -List.map_drop, -List.map_set, -List.map_append, -List.drop_one, h', h, hg, e1, e2]
        refine ⟨i + 1, weak_same (by simp (disch := first | omega | (simp [-List.map_take, -List.map_drop, -List.map_set, -List.map_append, -List.drop_one] <;> omega) | fail) [-List.map_take, -List.map_drop, -List.map_set, -List.map_append, -List.drop_one]) (by simp (disch := first | omega | (simp [-List.map_take, -List.map_drop, -List.map_set, -List.map_append, -List.drop_one] <;> omega) | fail) [-List.map_take, -List.map_drop, -List.map_set, -List.map_append, -List.drop_one]), by omega, by omega, fun j hj hji => ?_⟩
        by_cases ej : j = i
        · subst ej; simp [fitG, e2]
        · exact h2 j hj (by omega)
    · simp (disch := first | omega | (simp [-List.map_take, -List.map_drop, -List.map_set, -List.map_append, -List.drop_one] <;> omega) | fail) [-List.map_take, -List.map_drop, -List.map_set, -List.map_append, -List.drop_one, h', h, hg, e1]
      refine ⟨i + 1, weak_same (by simp (disch := first | omega | (simp [-List.map_take, -List.map_drop, -List.map_set, -List.map_append, -List.drop_one] <;> omega) | fail) [-List.map_take, -List.map_drop, -List.map_set, -List.map_append, -List.drop_one]) (by simp (disch := first | omega | (simp [-List.map_take, -List.map_drop, -List.map_set, -List.map_append, -List.drop_one] <;> omega) | fail) [-List.map_take, -List.map_drop, -List.map_set, -List.map_append, -List.drop_one]), by omega, by omega, fun j hj hji => ?_⟩
      by_cases ej : j = i
      · subst ej; simp [fitG, e1]
      · exact h2 j hj (by omega)
  · have h' : ¬ (i : Int) < c.g.l.length := by omega
    have hr : grpIx c.g.l ns im = -1 := ixI_none (fun j hj => h2 j hj (by omega))
    simp (disch := first | omega | (simp [-List.map_take, -List.map_drop, -List.map_set, -List.map_append, -List.drop_one] <;> omega) | fail) [-List.map_take, -List.map_drop, -List.map_set, -List.map_append, -List.drop_one, h, h', grpD, hr]
def S122 (c : Clu) (id : Int) (i : Nat) : St := a25S0 (.int .i64 id) (.mp 0 3 0) (.int .i64 i) [.cells (clC c)]
theorem runs_reffind (c : Clu) (id : Int) : Runs tbl0 a25 [.agg (clC c), .int .i64 id] (.int .i64 (findIx c.i.l id)) := by
  refine ⟨?_⟩
  have hb := c.i.b
  simp (disch := first | omega | (simp [-List.map_take, -List.map_drop, -List.map_set, -List.map_append, -List.drop_one] <;> omega) | fail) [-List.map_take, -List.map_drop, -List.map_set, -List.map_append, -List.drop_one, a25]
  refine W_loop (S122 c id) (fun i => c.i.l.length - i) (fun i => i ≤ c.i.l.length ∧ ∀ j (hj : j < c.i.l.length), j < i → decide (c.i.l[j].id = id) = false) 0 (weak_same (by simp (disch := first | omega | (simp [-List.map_take, -List.map_drop, -List.map_set, -List.map_append, -List.drop_one] <;> omega) | fail) [-List.map_take, -List.map_drop, -List.map_set, -List.map_append, -List.drop_one]) (by simp (disch := first | omega | (simp [-List.map_take, -List.map_drop, -List.map_set, -List.map_append, -List.drop_one] <;> omega) | fail) [-List.map_take, -List.map_drop, -List.map_set, -List.map_append, -List.drop_one])) ⟨by omega, fun j _ hj => by omega⟩ (fun i hi => ?_)
  obtain ⟨h1, h2⟩ := hi
  simp (disch := first | omega | (simp [-List.map_take, -List.map_drop, -List.map_set, -List.map_append, -List.drop_one] <;> omega) | fail) [-List.map_take, -List.map_drop, -List.map_set, -List.map_append, -List.drop_one, a25L0, a25S0, S122]
  by_cases h : i < c.i.l.length
  · have h' : (i : Int) < c.i.l.length := by omega
    have hg : ∀ H, idxSD H 37 (c.i.dv 37 inC) i = some (.ref (inC c.i.l[i])) := fun H => idxSD_dv len_inC h
    by_cases e : c.i.l[i].id = id
    · have hr : findIx c.i.l id = i := ixI_at h (by simp [e]) h2
      simp (disch := first | omega | (simp [-List.map_take, -List.map_drop, -List.map_set, -List.map_append, -List.drop_one] <;> omega) | fail) [-List.map_take, -List.map_drop, -List.map_set, -List.map_append, -List.drop_one, h', h, hg, e, hr]
    · simp (disch := first | omega | (simp [-List.map_take, -List.map_drop, -List.map_set, -List.map_append, -List.drop_one] <;> omega) | fail) [-List.map_take, -List.map_drop, -List.map_set, -List.map_append, -List.drop_one, h', h, hg, e]
      refine ⟨i + 1, weak_same (by simp (disch := first | omega | (simp [-List.map_take, -List.map_drop, -List.map_set, -List.map_append, -List.drop_one] <;> omega) | fail) [-List.map_take, -List.map_drop, -List.map_set, -List.map_append, -List.drop_one]) (by simp (disch := first | omega | (simp [-List.map_take, -List.map_drop, -List.map_set, -List.map_append, -List.drop_one] <;> omega) | fail) [-List.map_take, -List.map_drop, -List.map_set, -List.map_append, -List.drop_one]), by omega, by omega, fun j hj hji => ?_⟩
      by_cases ej : j = i
      · subst ej; exact e
      · simpa using h2 j hj (by omega)
  · have h' : ¬ (i : Int) < c.i.l.length := by omega
    have hr : findIx c.i.l id = -1 := ixI_none (fun j hj => h2 j hj (by omega))
    simp (disch := first | omega | (simp [-List.map_take, -List.map_drop, -List.map_set, -List.map_append, -List.drop_one] <;> omega) | fail) [-List.map_take, -List.map_drop, -List.map_set, -List.map_append, -List.drop_one, h, h', hr]
set_option maxHeartbeats 1000000 in
theorem runs_refinstance (c : Clu) (x : Ins) : Runs T120 a65 [.agg (clC c), .agg (inC x)] (soundB c x) := by
  refine ⟨?_⟩
  by_cases k0 : 1 ≤ x.id
  case neg =>
    have hn : ¬ SoundI c.g.l.length c.next x := fun h => k0 h.id0
    simp (disch := first | omega | (simp [-List.map_take, -List.map_drop, -List.map_set, -List.map_append, -List.drop_one] <;> omega) | fail) [-List.map_take, -List.map_drop, -List.map_set, -List.map_append, -List.drop_one, a65, T120_t, cTm_eq, soundB, tv_false hn, k0]
  by_cases k1 : x.id < c.next
  case neg =>
    have hn : ¬ SoundI c.g.l.length c.next x := fun h => k1 h.id1
    simp (disch := first | omega | (simp [-List.map_take, -List.map_drop, -List.map_set, -List.map_append, -List.drop_one] <;> omega) | fail) [-List.map_take, -List.map_drop, -List.map_set, -List.map_append, -List.drop_one, a65, T120_t, cTm_eq, soundB, tv_false hn, k0, k1]
  by_cases k2 : 0 ≤ x.grp
  case neg =>
    have hn : ¬ SoundI c.g.l.length c.next x := fun h => k2 h.g0
    simp (disch := first | omega | (simp [-List.map_take, -List.map_drop, -List.map_set, -List.map_append, -List.drop_one] <;> omega) | fail) [-List.map_take, -List.map_drop, -List.map_set, -List.map_append, -List.drop_one, a65, T120_t, cTm_eq, soundB, tv_false hn, k0, k1, k2]
  by_cases k3 : x.grp < c.g.l.length
  case neg =>
    have hn : ¬ SoundI c.g.l.length c.next x := fun h => k3 h.g1
    simp (disch := first | omega | (simp [-List.map_take, -List.map_drop, -List.map_set, -List.map_append, -List.drop_one] <;> omega) | fail) [-List.map_take, -List.map_drop, -List.map_set, -List.map_append, -List.drop_one, a65, T120_t, cTm_eq, soundB, tv_false hn, k0, k1, k2, k3]
  by_cases k4 : ¬ x.art = dg0
  case neg =>
    have k4 : x.art = dg0 := Classical.not_not.1 k4
    have hn : ¬ SoundI c.g.l.length c.next x := fun h => h.art k4
    simp (disch := first | omega | (simp [-List.map_take, -List.map_drop, -List.map_set, -List.map_append, -List.drop_one] <;> omega) | fail) [-List.map_take, -List.map_drop, -List.map_set, -List.map_append, -List.drop_one, a65, T120_t, cTm_eq, soundB, tv_false hn, k0, k1, k2, k3, k4]
  by_cases k5 : 1 ≤ x.state
  case neg =>
    have hn : ¬ SoundI c.g.l.length c.next x := fun h => k5 h.s0
    simp (disch := first | omega | (simp [-List.map_take, -List.map_drop, -List.map_set, -List.map_append, -List.drop_one] <;> omega) | fail) [-List.map_take, -List.map_drop, -List.map_set, -List.map_append, -List.drop_one, a65, T120_t, cTm_eq, soundB, tv_false hn, k0, k1, k2, k3, k4, k5]
  by_cases k6 : x.state ≤ 3
  case neg =>
    have hn : ¬ SoundI c.g.l.length c.next x := fun h => k6 h.s1
    simp (disch := first | omega | (simp [-List.map_take, -List.map_drop, -List.map_set, -List.map_append, -List.drop_one] <;> omega) | fail) [-List.map_take, -List.map_drop, -List.map_set, -List.map_append, -List.drop_one, a65, T120_t, cTm_eq, soundB, tv_false hn, k0, k1, k2, k3, k4, k5, k6]
  by_cases k7 : timeOK x.since
  case neg =>
    have hn : ¬ SoundI c.g.l.length c.next x := fun h => k7 h.si
    simp (disch := first | omega | (simp [-List.map_take, -List.map_drop, -List.map_set, -List.map_append, -List.drop_one] <;> omega) | fail) [-List.map_take, -List.map_drop, -List.map_set, -List.map_append, -List.drop_one, a65, T120_t, cTm_eq, soundB, tv_false hn, k0, k1, k2, k3, k4, k5, k6, tv_false k7]
  by_cases k8 : -1 ≤ x.den
  case neg =>
    have hn : ¬ SoundI c.g.l.length c.next x := fun h => by rcases h.de with h | h <;> omega
    simp (disch := first | omega | (simp [-List.map_take, -List.map_drop, -List.map_set, -List.map_append, -List.drop_one] <;> omega) | fail) [-List.map_take, -List.map_drop, -List.map_set, -List.map_append, -List.drop_one, a65, T120_t, cTm_eq, soundB, tv_false hn, k0, k1, k2, k3, k4, k5, k6, tv_true k7, k8]
  by_cases k9 : x.den ≤ 1099511627776
  · have hy : SoundI c.g.l.length c.next x := ⟨k0, k1, k2, k3, k4, k5, k6, k7, by
      by_cases h : x.den = -1
      · exact .inl h
      · exact .inr ⟨by omega, k9⟩⟩
    simp (disch := first | omega | (simp [-List.map_take, -List.map_drop, -List.map_set, -List.map_append, -List.drop_one] <;> omega) | fail) [-List.map_take, -List.map_drop, -List.map_set, -List.map_append, -List.drop_one, a65, T120_t, cTm_eq, soundB, tv_true hy, k0, k1, k2, k3, k4, k5, k6, tv_true k7, k8, k9]
  · have hn : ¬ SoundI c.g.l.length c.next x := fun h => by rcases h.de with h | h <;> omega
    simp (disch := first | omega | (simp [-List.map_take, -List.map_drop, -List.map_set, -List.map_append, -List.drop_one] <;> omega) | fail) [-List.map_take, -List.map_drop, -List.map_set, -List.map_append, -List.drop_one, a65, T120_t, cTm_eq, soundB, tv_false hn, k0, k1, k2, k3, k4, k5, k6, tv_true k7, k8, k9]
def S123 (g : Grp) (i : Nat) : St := a19S0 (.mp 0 6 0) (.int .i64 i) [.cells (grC g)]
set_option maxHeartbeats 1000000 in
theorem runs_refvalidgroup (g : Grp) : Runs T120 a19 [.agg (grC g)] (validGB g) := by
  refine ⟨?_⟩
  have hb := g.ch.b
  by_cases k0 : pathD g.ns = true
  case neg =>
    have hn : ¬ ValidG g := fun h => k0 h.ns
    have k0 : pathD g.ns = false := by simpa using k0
    simp (disch := first | omega | (simp [-List.map_take, -List.map_drop, -List.map_set, -List.map_append, -List.drop_one] <;> omega) | fail) [-List.map_take, -List.map_drop, -List.map_set, -List.map_append, -List.drop_one, a19, T120_p, cS_eq, pathB, validGB, tv_false hn, k0]
  by_cases k1 : pathD g.im = true
  case neg =>
    have hn : ¬ ValidG g := fun h => k1 h.im
    have k1 : pathD g.im = false := by simpa using k1
    simp (disch := first | omega | (simp [-List.map_take, -List.map_drop, -List.map_set, -List.map_append, -List.drop_one] <;> omega) | fail) [-List.map_take, -List.map_drop, -List.map_set, -List.map_append, -List.drop_one, a19, T120_p, cS_eq, pathB, validGB, tv_false hn, k0, k1]
  by_cases k2 : 0 ≤ g.want
  case neg =>
    have hn : ¬ ValidG g := fun h => k2 h.w0
    have k2' : g.want < 0 := by omega
    simp (disch := first | omega | (simp [-List.map_take, -List.map_drop, -List.map_set, -List.map_append, -List.drop_one] <;> omega) | fail) [-List.map_take, -List.map_drop, -List.map_set, -List.map_append, -List.drop_one, a19, T120_p, cS_eq, pathB, validGB, tv_false hn, k0, k1, k2, k2']
  have k2' : ¬ g.want < 0 := by omega
  by_cases k3 : g.want ≤ 8
  case neg =>
    have hn : ¬ ValidG g := fun h => k3 h.w1
    have k3' : 8 < g.want := by omega
    simp (disch := first | omega | (simp [-List.map_take, -List.map_drop, -List.map_set, -List.map_append, -List.drop_one] <;> omega) | fail) [-List.map_take, -List.map_drop, -List.map_set, -List.map_append, -List.drop_one, a19, T120_p, cS_eq, pathB, validGB, tv_false hn, k0, k1, k2, k2', k3, k3']
  have k3' : ¬ 8 < g.want := by omega
  by_cases k4 : 0 ≤ g.least
  case neg =>
    have hn : ¬ ValidG g := fun h => k4 h.l0
    have k4' : g.least < 0 := by omega
    simp (disch := first | omega | (simp [-List.map_take, -List.map_drop, -List.map_set, -List.map_append, -List.drop_one] <;> omega) | fail) [-List.map_take, -List.map_drop, -List.map_set, -List.map_append, -List.drop_one, a19, T120_p, cS_eq, pathB, validGB, tv_false hn, k0, k1, k2, k2', k3, k3', k4, k4']
  have k4' : ¬ g.least < 0 := by omega
  by_cases k5 : g.least ≤ g.want
  case neg =>
    have hn : ¬ ValidG g := fun h => k5 h.l1
    have k5' : g.want < g.least := by omega
    simp (disch := first | omega | (simp [-List.map_take, -List.map_drop, -List.map_set, -List.map_append, -List.drop_one] <;> omega) | fail) [-List.map_take, -List.map_drop, -List.map_set, -List.map_append, -List.drop_one, a19, T120_p, cS_eq, pathB, validGB, tv_false hn, k0, k1, k2, k2', k3, k3', k4, k4', k5, k5']
  have k5' : ¬ g.want < g.least := by omega
  by_cases k6 : 0 ≤ g.down
  case neg =>
    have hn : ¬ ValidG g := fun h => k6 h.d0
    have k6' : g.down < 0 := by omega
    simp (disch := first | omega | (simp [-List.map_take, -List.map_drop, -List.map_set, -List.map_append, -List.drop_one] <;> omega) | fail) [-List.map_take, -List.map_drop, -List.map_set, -List.map_append, -List.drop_one, a19, T120_p, cS_eq, pathB, validGB, tv_false hn, k0, k1, k2, k2', k3, k3', k4, k4', k5, k5', k6, k6']
  have k6' : ¬ g.down < 0 := by omega
  by_cases k7 : g.down ≤ g.want
  case neg =>
    have hn : ¬ ValidG g := fun h => k7 h.d1
    have k7' : g.want < g.down := by omega
    simp (disch := first | omega | (simp [-List.map_take, -List.map_drop, -List.map_set, -List.map_append, -List.drop_one] <;> omega) | fail) [-List.map_take, -List.map_drop, -List.map_set, -List.map_append, -List.drop_one, a19, T120_p, cS_eq, pathB, validGB, tv_false hn, k0, k1, k2, k2', k3, k3', k4, k4', k5, k5', k6, k6', k7, k7']
  have k7' : ¬ g.want < g.down := by omega
  by_cases k8 : g.ch.l.length ≤ 6
  case neg =>
    have hn : ¬ ValidG g := fun h => k8 h.n
    have k8' : ¬ (g.ch.l.length : Int) ≤ 6 := by omega
    have k8'' : (6 : Int) < g.ch.l.length := by omega
    simp (disch := first | omega | (simp [-List.map_take, -List.map_drop, -List.map_set, -List.map_append, -List.drop_one] <;> omega) | fail) [-List.map_take, -List.map_drop, -List.map_set, -List.map_append, -List.drop_one, a19, T120_p, cS_eq, pathB, validGB, tv_false hn, k0, k1, k2, k2', k3, k3', k4, k4', k5, k5', k6, k6', k7, k7', k8, k8', k8'']
  have k8' : (g.ch.l.length : Int) ≤ 6 := by omega
  have k8'' : ¬ (6 : Int) < g.ch.l.length := by omega
  simp (disch := first | omega | (simp [-List.map_take, -List.map_drop, -List.map_set, -List.map_append, -List.drop_one] <;> omega) | fail) [-List.map_take, -List.map_drop, -List.map_set, -List.map_append, -List.drop_one, a19, T120_p, cS_eq, pathB, k0, k1, k2, k2', k3, k3', k4, k4', k5, k5', k6, k6', k7, k7', k8, k8', k8'']
  refine W_loop (S123 g) (fun i => g.ch.l.length - i) (fun i => i ≤ g.ch.l.length ∧ ∀ j (hj : j < g.ch.l.length), j < i → g.ch.l[j] ≠ dg0 ∧ g.ch.l[j] ∉ g.ch.l.take j) 0 (weak_same (by simp (disch := first | omega | (simp [-List.map_take, -List.map_drop, -List.map_set, -List.map_append, -List.drop_one] <;> omega) | fail) [-List.map_take, -List.map_drop, -List.map_set, -List.map_append, -List.drop_one]) (by simp (disch := first | omega | (simp [-List.map_take, -List.map_drop, -List.map_set, -List.map_append, -List.drop_one] <;> omega) | fail) [-List.map_take, -List.map_drop, -List.map_set, -List.map_append, -List.drop_one])) ⟨by omega, fun j _ hj => by omega⟩ (fun i hi => ?_)
  obtain ⟨h1, h2⟩ := hi
  simp (disch := first | omega | (simp [-List.map_take, -List.map_drop, -List.map_set, -List.map_append, -List.drop_one] <;> omega) | fail) [-List.map_take, -List.map_drop, -List.map_set, -List.map_append, -List.drop_one, a19L0, a19S0, S123]
  by_cases h : i < g.ch.l.length
  · have h' : (i : Int) < g.ch.l.length := by omega
    have hg : ∀ H, idxSD H 32 (g.ch.dv 32 dgC) i = some (.ref (dgC g.ch.l[i])) := fun H => idxSD_dv len_dgC h
    have hsl : ∀ H, slcSD H 32 (g.ch.dv 32 dgC) none (some (.int .i64 i)) none = some ((g.ch.part 0 i (i == g.ch.l.length)).dv 32 dgC) := fun H => slc_dv len_dgC (by omega)
    by_cases e : g.ch.l[i] = dg0
    · have hn : ¬ ValidG g := fun hv => (hv.ch i h).1 e
      simp (disch := first | omega | (simp [-List.map_take, -List.map_drop, -List.map_set, -List.map_append, -List.drop_one] <;> omega) | fail) [-List.map_take, -List.map_drop, -List.map_set, -List.map_append, -List.drop_one, h', h, hg, e, validGB, tv_false hn]
    · by_cases e2 : g.ch.l[i] ∈ g.ch.l.take i
      · have hn : ¬ ValidG g := fun hv => (hv.ch i h).2 e2
        simp (disch := first | omega | (simp [-List.map_take, -List.map_drop, -List.map_set, -List.map_append, -List.drop_one] <;> omega) | fail) [-List.map_take, -List.map_drop, -List.map_set, -List.map_append, -List.drop_one, h', h, hg, hsl, e, T120_h, cDgs_eq, hasB, part_l, e2, validGB, tv_false hn]
      · simp (disch := first | omega | (simp [-List.map_take, -List.map_drop, -List.map_set, -List.map_append, -List.drop_one] <;> omega) | fail) [-List.map_take, -List.map_drop, -List.map_set, -List.map_append, -List.drop_one, h', h, hg, hsl, e, T120_h, cDgs_eq, hasB, part_l, e2]
        refine ⟨i + 1, weak_same (by simp (disch := first | omega | (simp [-List.map_take, -List.map_drop, -List.map_set, -List.map_append, -List.drop_one] <;> omega) | fail) [-List.map_take, -List.map_drop, -List.map_set, -List.map_append, -List.drop_one]) (by simp (disch := first | omega | (simp [-List.map_take, -List.map_drop, -List.map_set, -List.map_append, -List.drop_one] <;> omega) | fail) [-List.map_take, -List.map_drop, -List.map_set, -List.map_append, -List.drop_one]), by omega, by omega, fun j hj hji => ?_⟩
        by_cases ej : j = i
        · subst ej; exact ⟨e, e2⟩
        · exact h2 j hj (by omega)
  · have h' : ¬ (i : Int) < g.ch.l.length := by omega
    have hy : ValidG g := ⟨k0, k1, k2, k3, k4, k5, k6, k7, k8, fun j hj => h2 j hj (by omega)⟩
    simp (disch := first | omega | (simp [-List.map_take, -List.map_drop, -List.map_set, -List.map_append, -List.drop_one] <;> omega) | fail) [-List.map_take, -List.map_drop, -List.map_set, -List.map_append, -List.drop_one, h, h', validGB, tv_true hy]
noncomputable def T121 : Tbl := addT 19 (.pure (cG1 validGB)) (addT 23 (.pure (cCSS grpD)) (addT 65 (.pure (cCI soundB)) tbl0))
theorem T121_v : T121 19 = .pure (cG1 validGB) := by simp [T121]
theorem T121_g : T121 23 = .pure (cCSS grpD) := by simp [T121]
theorem T121_s : T121 65 = .pure (cCI soundB) := by simp [T121]
theorem T121_sound : T121.Sound P := addT_sound (con_sound fun x _ => sem_runs mix T120_sound Tryd.func19 a19_ok (runs_refvalidgroup x)) (addT_sound (con_sound fun x _ => sem_runs mix tbl0_sound Tryd.func23 a23_ok (runs_refgroup x.1 x.2.1 x.2.2)) (addT_sound (con_sound fun x _ => sem_runs mix T120_sound Tryd.func65 a65_ok (runs_refinstance x.1 x.2)) tbl0_sound))
def S124 (c : Clu) (i : Nat) : St := a21S0 (.mp 0 3 0) (.int .i64 i) [.cells (clC c)]
def S125 (c : Clu) (i : Nat) : St := a21S1 (.mp 0 3 0) (.int .i64 i) [.cells (clC c)]
set_option maxHeartbeats 2000000 in
theorem runs_refvalid (c : Clu) : Runs T121 a21 [.agg (clC c)] (validCB c) := by
  refine ⟨?_⟩
  have hbg := c.g.b
  have hbi := c.i.b
  by_cases k0 : (16 : Int) < c.g.l.length
  · have hn : ¬ ValidC c := fun h => by have := h.ng; omega
    simp (disch := first | omega | (simp [-List.map_take, -List.map_drop, -List.map_set, -List.map_append, -List.drop_one] <;> omega) | fail) [-List.map_take, -List.map_drop, -List.map_set, -List.map_append, -List.drop_one, a21, k0, validCB, tv_false hn]
  by_cases k1 : (200 : Int) < c.i.l.length
  · have hn : ¬ ValidC c := fun h => by have := h.ni; omega
    simp (disch := first | omega | (simp [-List.map_take, -List.map_drop, -List.map_set, -List.map_append, -List.drop_one] <;> omega) | fail) [-List.map_take, -List.map_drop, -List.map_set, -List.map_append, -List.drop_one, a21, k0, k1, validCB, tv_false hn]
  by_cases k2 : c.next < 1
  · have hn : ¬ ValidC c := fun h => by have := h.n0; omega
    simp (disch := first | omega | (simp [-List.map_take, -List.map_drop, -List.map_set, -List.map_append, -List.drop_one] <;> omega) | fail) [-List.map_take, -List.map_drop, -List.map_set, -List.map_append, -List.drop_one, a21, k0, k1, k2, validCB, tv_false hn]
  by_cases k3 : 1099511627776 < c.next
  · have hn : ¬ ValidC c := fun h => by have := h.n1; omega
    simp (disch := first | omega | (simp [-List.map_take, -List.map_drop, -List.map_set, -List.map_append, -List.drop_one] <;> omega) | fail) [-List.map_take, -List.map_drop, -List.map_set, -List.map_append, -List.drop_one, a21, k0, k1, k2, k3, validCB, tv_false hn]
  simp (disch := first | omega | (simp [-List.map_take, -List.map_drop, -List.map_set, -List.map_append, -List.drop_one] <;> omega) | fail) [-List.map_take, -List.map_drop, -List.map_set, -List.map_append, -List.drop_one, a21, k0, k1, k2, k3]
  refine W_loop (S124 c) (fun i => c.g.l.length - i) (fun i => i ≤ c.g.l.length ∧ ∀ j (hj : j < c.g.l.length), j < i → ValidG c.g.l[j] ∧ grpIx c.g.l c.g.l[j].ns c.g.l[j].im = j) 0 (weak_same (by simp (disch := first | omega | (simp [-List.map_take, -List.map_drop, -List.map_set, -List.map_append, -List.drop_one] <;> omega) | fail) [-List.map_take, -List.map_drop, -List.map_set, -List.map_append, -List.drop_one]) (by simp (disch := first | omega | (simp [-List.map_take, -List.map_drop, -List.map_set, -List.map_append, -List.drop_one] <;> omega) | fail) [-List.map_take, -List.map_drop, -List.map_set, -List.map_append, -List.drop_one])) ⟨by omega, fun j _ hj => by omega⟩ (fun i hi => ?_)
  obtain ⟨h1, h2⟩ := hi
  simp (disch := first | omega | (simp [-List.map_take, -List.map_drop, -List.map_set, -List.map_append, -List.drop_one] <;> omega) | fail) [-List.map_take, -List.map_drop, -List.map_set, -List.map_append, -List.drop_one, a21L0, a21S0, S124]
  by_cases h : i < c.g.l.length
  · have h' : (i : Int) < c.g.l.length := by omega
    have hg : ∀ H, idxSD H 6 (c.g.dv 6 grC) i = some (.ref (grC c.g.l[i])) := fun H => idxSD_dv len_grC h
    by_cases e : ValidG c.g.l[i]
    · by_cases e2 : grpIx c.g.l c.g.l[i].ns c.g.l[i].im = i
      · simp (disch := first | omega | (simp [-List.map_take, -List.map_drop, -List.map_set, -List.map_append, -List.drop_one] <;> omega) | fail) [-List.map_take, -List.map_drop, -List.map_set, -List.map_append, -List.drop_one, h', h, hg, T121_v, cG1_eq, validGB, tv_true e, T121_g, cCSS_eq, grpD, e2]
        refine ⟨i + 1, weak_same (by simp (disch := first | omega | (simp [-List.map_take, -List.map_drop, -List.map_set, -List.map_append, -List.drop_one] <;> omega) | fail) [-List.map_take, -List.map_drop, -List.map_set, -List.map_append, -List.drop_one]) (by simp (disch := first | omega | (simp [-List.map_take, -List.map_drop, -List.map_set, -List.map_append, -List.drop_one] <;> omega) | fail) [-List.map_take, -List.map_drop, -List.map_set, -List.map_append, -List.drop_one]), by omega, by omega, fun j hj hji => ?_⟩
        by_cases ej : j = i
        · subst ej; exact ⟨e, e2⟩
        · exact h2 j hj (by omega)
      · have hn : ¬ ValidC c := fun hv => e2 (hv.g i h).2
        simp (disch := first | omega | (simp [-List.map_take, -List.map_drop, -List.map_set, -List.map_append, -List.drop_one] <;> omega) | fail) [-List.map_take, -List.map_drop, -List.map_set, -List.map_append, -List.drop_one, h', h, hg, T121_v, cG1_eq, validGB, tv_true e, T121_g, cCSS_eq, grpD, e2, validCB, tv_false hn]
    · have hn : ¬ ValidC c := fun hv => e (hv.g i h).1
      simp (disch := first | omega | (simp [-List.map_take, -List.map_drop, -List.map_set, -List.map_append, -List.drop_one] <;> omega) | fail) [-List.map_take, -List.map_drop, -List.map_set, -List.map_append, -List.drop_one, h', h, hg, T121_v, cG1_eq, validGB, tv_false e, validCB, tv_false hn]
  have h' : ¬ (i : Int) < c.g.l.length := by omega
  have hG : ∀ j (hj : j < c.g.l.length), ValidG c.g.l[j] ∧ grpIx c.g.l c.g.l[j].ns c.g.l[j].im = j := fun j hj => h2 j hj (by omega)
  simp (disch := first | omega | (simp [-List.map_take, -List.map_drop, -List.map_set, -List.map_append, -List.drop_one] <;> omega) | fail) [-List.map_take, -List.map_drop, -List.map_set, -List.map_append, -List.drop_one, h, h']
  refine W_loop (S125 c) (fun i => c.i.l.length - i) (fun i => i ≤ c.i.l.length ∧ ∀ j (hj : j < c.i.l.length), j < i → SoundI c.g.l.length c.next c.i.l[j] ∧ (∀ h0 : 0 < j, c.i.l[j - 1].id < c.i.l[j].id)) 0 (weak_same (by simp (disch := first | omega | (simp [-List.map_take, -List.map_drop, -List.map_set, -List.map_append, -List.drop_one] <;> omega) | fail) [-List.map_take, -List.map_drop, -List.map_set, -List.map_append, -List.drop_one]) (by simp (disch := first | omega | (simp [-List.map_take, -List.map_drop, -List.map_set, -List.map_append, -List.drop_one] <;> omega) | fail) [-List.map_take, -List.map_drop, -List.map_set, -List.map_append, -List.drop_one])) ⟨by omega, fun j _ hj => by omega⟩ (fun i hi => ?_)
  obtain ⟨h1, h2⟩ := hi
  simp (disch := first | omega | (simp [-List.map_take, -List.map_drop, -List.map_set, -List.map_append, -List.drop_one] <;> omega) | fail) [-List.map_take, -List.map_drop, -List.map_set, -List.map_append, -List.drop_one, a21L1, a21S1, S125]
  by_cases h : i < c.i.l.length
  · have h' : (i : Int) < c.i.l.length := by omega
    have hg : ∀ H, idxSD H 37 (c.i.dv 37 inC) i = some (.ref (inC c.i.l[i])) := fun H => idxSD_dv len_inC h
    by_cases e : SoundI c.g.l.length c.next c.i.l[i]
    · by_cases e0 : i = 0
      · have e0' : ¬ (0 : Int) < i := by omega
        have e0'' : ¬ 0 < i := by omega
        simp (disch := first | omega | (simp [-List.map_take, -List.map_drop, -List.map_set, -List.map_append, -List.drop_one] <;> omega) | fail) [-List.map_take, -List.map_drop, -List.map_set, -List.map_append, -List.drop_one, h', h, hg, T121_s, cCI_eq, soundB, tv_true e, e0', e0'']
        refine ⟨i + 1, weak_same (by simp (disch := first | omega | (simp [-List.map_take, -List.map_drop, -List.map_set, -List.map_append, -List.drop_one] <;> omega) | fail) [-List.map_take, -List.map_drop, -List.map_set, -List.map_append, -List.drop_one]) (by simp (disch := first | omega | (simp [-List.map_take, -List.map_drop, -List.map_set, -List.map_append, -List.drop_one] <;> omega) | fail) [-List.map_take, -List.map_drop, -List.map_set, -List.map_append, -List.drop_one]), by omega, by omega, fun j hj hji => ?_⟩
        obtain rfl : j = i := by omega
        exact ⟨e, fun h0 => by omega⟩
      · have e0' : (0 : Int) < i := by omega
        have e0'' : 0 < i := by omega
        have em : (i : Int) - 1 = (i - 1 : Nat) := by omega
        have hg2 : ∀ H, idxSD H 37 (c.i.dv 37 inC) ((i - 1 : Nat) : Int) = some (.ref (inC c.i.l[i - 1])) := fun H => idxSD_dv len_inC (by omega)
        by_cases e2 : c.i.l[i].id ≤ c.i.l[i - 1].id
        · have hn : ¬ ValidC c := fun hv => by have := (hv.i i h).2 (by omega); omega
          simp (disch := first | omega | (simp [-List.map_take, -List.map_drop, -List.map_set, -List.map_append, -List.drop_one] <;> omega) | fail) [-List.map_take, -List.map_drop, -List.map_set, -List.map_append, -List.drop_one, h', h, hg, T121_s, cCI_eq, soundB, tv_true e, e0', e0'', em, hg2, e2, validCB, tv_false hn]
        · simp (disch := first | omega | (simp [-List.map_take, -List.map_drop, -List.map_set, -List.map_append, -List.drop_one] <;> omega) | fail) [-List.map_take, -List.map_drop, -List.map_set, -List.map_append, -List.drop_one, h', h, hg, T121_s, cCI_eq, soundB, tv_true e, e0', e0'', em, hg2, e2]
          refine ⟨i + 1, weak_same (by simp (disch := first | omega | (simp [-List.map_take, -List.map_drop, -List.map_set, -List.map_append, -List.drop_one] <;> omega) | fail) [-List.map_take, -List.map_drop, -List.map_set, -List.map_append, -List.drop_one]) (by simp (disch := first | omega | (simp [-List.map_take, -List.map_drop, -List.map_set, -List.map_append, -List.drop_one] <;> omega) | fail) [-List.map_take, -List.map_drop, -List.map_set, -List.map_append, -List.drop_one]), by omega, by omega, fun j hj hji => ?_⟩
          by_cases ej : j = i
          · subst ej; exact ⟨e, fun _ => by omega⟩
          · exact h2 j hj (by omega)
    · have hn : ¬ ValidC c := fun hv => e (hv.i i h).1
      simp (disch := first | omega | (simp [-List.map_take, -List.map_drop, -List.map_set, -List.map_append, -List.drop_one] <;> omega) | fail) [-List.map_take, -List.map_drop, -List.map_set, -List.map_append, -List.drop_one, h', h, hg, T121_s, cCI_eq, soundB, tv_false e, validCB, tv_false hn]
  · have h' : ¬ (i : Int) < c.i.l.length := by omega
    have hy : ValidC c := ⟨by omega, by omega, by omega, by omega, hG, fun j hj => h2 j hj (by omega)⟩
    simp (disch := first | omega | (simp [-List.map_take, -List.map_drop, -List.map_set, -List.map_append, -List.drop_one] <;> omega) | fail) [-List.map_take, -List.map_drop, -List.map_set, -List.map_append, -List.drop_one, h, h', validCB, tv_true hy]
end Go.Proofs.YtjhakjeioppijaaDoor
set_option linter.unusedSimpArgs false
set_option linter.unusedVariables false
namespace Go.Proofs.YtjhakjeioppijaaDoor
open Go Go.Am
end Go.Proofs.YtjhakjeioppijaaDoor
set_option linter.unusedSimpArgs false
set_option linter.unusedVariables false
namespace Go.Proofs.YtjhakjeioppijaaDoor
open Go Go.Am
structure Tp where
  k : Option Bool
  l : List Int
  h : k = none → l = []
  at_ : Nat
def inI (n : Int) : List DV := [.int .i64 n]
def Tp.sl (t : Tp) : DV := slD t.k 1 t.l.length (t.l.flatMap inI)
def tpC (t : Tp) : List DV := [t.sl, .int .i64 t.at_]
def Tp.adv (t : Tp) (m : Nat) : Tp := { t with at_ := t.at_ + m }
theorem pure_inI (n : Int) : pureL (inI n) = true := rfl
theorem pure_sl (t : Tp) : pureD t.sl = true := by
  obtain ⟨k, l, h, a⟩ := t
  cases k with
  | none => rfl
  | some b => show pureL _ = true; exact fm_pure pure_inI l
theorem len_tpC (t : Tp) : (tpC t).length = 2 := by simp [tpC]
theorem sl_len (t : Tp) (H : List AObj) : lenD H t.sl = some (.int .i64 t.l.length) := lenD_slD (fun e => by rw [t.h e]; rfl)
theorem sl_one (t : Tp) : t.sl.one = true := by obtain ⟨k, l, h, a⟩ := t; cases k <;> rfl
theorem sl_known (t : Tp) : t.sl.known = true := by obtain ⟨k, l, h, a⟩ := t; cases k <;> rfl
theorem sl_cells (t : Tp) : t.sl.cells = [t.sl] := by obtain ⟨k, l, h, a⟩ := t; cases k <;> rfl
theorem sl_fz (t : Tp) (n k : Nat) (H : List AObj) : fz n H k t.sl = some t.sl := fz_clean (pure_sl t)
attribute [simp] sl_len sl_one sl_known sl_cells sl_fz len_tpC
theorem adv_sl (t : Tp) (m : Nat) : (t.adv m).sl = t.sl := by simp [Tp.adv, Tp.sl]
theorem adv_at (t : Tp) (m : Nat) : (t.adv m).at_ = t.at_ + m := by simp [Tp.adv]
theorem adv_l (t : Tp) (m : Nat) : (t.adv m).l = t.l := by simp [Tp.adv]
attribute [simp] adv_sl adv_at adv_l
structure Nl where
  k : Option Bool
  l : List Int
  h : k = none → l = []
  b : l.length ≤ 9223372036854775807
def Nl.dv (x : Nl) : DV := slD x.k 1 x.l.length (x.l.flatMap inI)
theorem nl_pure (x : Nl) : pureD x.dv = true := pure_sl ⟨x.k, x.l, x.h, 0⟩
end Go.Proofs.YtjhakjeioppijaaDoor
set_option linter.unusedSimpArgs false
set_option linter.unusedVariables false
namespace Go.Proofs.YtjhakjeioppijaaDoor
open Go Go.Am
structure GS where
  k : Nat
  t : Tp
  l : List Dg
  d : Dg
structure GC where
  ns : List UInt8
  im : List UInt8
  want : Int
  least : Int
  down : Int
end Go.Proofs.YtjhakjeioppijaaDoor
set_option linter.unusedSimpArgs false
set_option linter.unusedVariables false
namespace Go.Proofs.YtjhakjeioppijaaDoor
open Go Go.Am
def cpD {α : Type} (id s : Nat) (x : Sl α) : DV := if x.l = [] then .nils else .ms id (x.l.length * s) 0 s x.l.length (x.l.length * s)
theorem cpD_nil {α : Type} {id s : Nat} {x : Sl α} (h : x.l = []) : cpD id s x = .nils := if_pos h
theorem cpD_ne {α : Type} {id s : Nat} {x : Sl α} (h : x.l ≠ []) : cpD id s x = .ms id (x.l.length * s) 0 s x.l.length (x.l.length * s) := if_neg h
theorem cpD_one {α : Type} {id s : Nat} {x : Sl α} : (cpD id s x).one = true := by unfold cpD; split <;> rfl
theorem cpD_cells {α : Type} {id s : Nat} {x : Sl α} : (cpD id s x).cells = [cpD id s x] := by unfold cpD; split <;> rfl
theorem cpD_known {α : Type} {id s : Nat} {x : Sl α} : (cpD id s x).known = true := by unfold cpD; split <;> rfl
theorem cpD_sh {α : Type} {n id s : Nat} {x : Sl α} : shD n (cpD id s x) = cpD (n + id) s x := by unfold cpD; split <;> rfl
attribute [simp] cpD_one cpD_cells cpD_known
def copyW (n : Nat) (c : Clu) : List DV := [cpD (n + 2) 6 c.g, cpD (n + (2 + (mutO c.g grC).length)) 37 c.i, .int .i64 c.next]
def copyK (n : Nat) (c : Clu) : List AObj := .cells (clC c) :: .cells (copyW n c) :: (mutO c.g grC ++ mutO c.i inC)
theorem build_3 {a b : DV} {n : Int} (h1 : a.known = true) (h2 : a.cells = [a]) (h3 : b.known = true) (h4 : b.cells = [b]) : buildD [.nils, .nils, .int .i64 0] [(0, 1, a), (1, 1, b), (2, 1, .int .i64 n)] = some (.agg [a, b, .int .i64 n]) := by
  have q1 : (DV.int .i64 n).cells = [.int .i64 n] := rfl
  have q2 : (DV.int .i64 n).known = true := rfl
  simp [buildD, fillD, splice, h1, h2, h3, h4, q1, q2]
theorem runs_refcopy (c : Clu) : RunsH tbl0 a76 [.agg (clC c)] [] (.agg (copyW 0 c)) (copyK 0 c) := by
  refine ⟨?_⟩
  have hbg := c.g.b
  have hbi := c.i.b
  have v1 := fun H => visY_dv (h := H) (x := c.g) len_grC
  have v2 := fun H => visY_dv (h := H) (x := c.i) len_inC
  have l1 := fm_len len_grC c.g.l
  have l2 := fm_len len_inC c.i.l
  by_cases hg : c.g.l = []
  · have e1 := fun id => cpD_nil (id := id) (s := 6) hg
    have e2 := mutO_nil (f := grC) hg
    have e3 : c.g.l.length = 0 := by rw [hg]; rfl
    have e4 : c.g.l.flatMap grC = [] := by rw [hg]; rfl
    rw [e3, e4] at v1
    by_cases hi : c.i.l = []
    · have f1 := fun id => cpD_nil (id := id) (s := 37) hi
      have f2 := mutO_nil (f := inC) hi
      have f3 : c.i.l.length = 0 := by rw [hi]; rfl
      have f4 : c.i.l.flatMap inC = [] := by rw [hi]; rfl
      rw [f3, f4] at v2
      simp (disch := first | omega | (simp [-List.map_take, -List.map_drop, -List.map_set, -List.map_append, -List.drop_one] <;> omega) | fail) [-List.map_take, -List.map_drop, -List.map_set, -List.map_append, -List.drop_one, a76, copyW, copyK, v1, v2, e1, e2, f1, f2, build_3]
    · have f1 := fun id => cpD_ne (id := id) (s := 37) hi
      have f2 := mutO_ne (f := inC) hi
      have f3 : 0 < c.i.l.length := List.length_pos_iff.2 hi
      simp (disch := first | omega | (simp [-List.map_take, -List.map_drop, -List.map_set, -List.map_append, -List.drop_one] <;> omega) | fail) [-List.map_take, -List.map_drop, -List.map_set, -List.map_append, -List.drop_one, a76, copyW, copyK, v1, v2, e1, e2, f1, f2, f3, l2, build_3]
  · have e1 := fun id => cpD_ne (id := id) (s := 6) hg
    have e2 := mutO_ne (f := grC) hg
    have e3 : 0 < c.g.l.length := List.length_pos_iff.2 hg
    by_cases hi : c.i.l = []
    · have f1 := fun id => cpD_nil (id := id) (s := 37) hi
      have f2 := mutO_nil (f := inC) hi
      have f3 : c.i.l.length = 0 := by rw [hi]; rfl
      have f4 : c.i.l.flatMap inC = [] := by rw [hi]; rfl
      rw [f3, f4] at v2
      simp (disch := first | omega | (simp [-List.map_take, -List.map_drop, -List.map_set, -List.map_append, -List.drop_one] <;> omega) | fail) [-List.map_take, -List.map_drop, -List.map_set, -List.map_append, -List.drop_one, a76, copyW, copyK, v1, v2, e1, e2, e3, l1, f1, f2, build_3]
    · have f1 := fun id => cpD_ne (id := id) (s := 37) hi
      have f2 := mutO_ne (f := inC) hi
      have f3 : 0 < c.i.l.length := List.length_pos_iff.2 hi
      simp (disch := first | omega | (simp [-List.map_take, -List.map_drop, -List.map_set, -List.map_append, -List.drop_one] <;> omega) | fail) [-List.map_take, -List.map_drop, -List.map_set, -List.map_append, -List.drop_one, a76, copyW, copyK, v1, v2, e1, e2, e3, l1, f1, f2, f3, l2, build_3]
def copyW0 (c : Clu) : List DV := [cpD 2 6 c.g, cpD (2 + (mutO c.g grC).length) 37 c.i, .int .i64 c.next]
def copyK0 (c : Clu) : List AObj := .cells (clC c) :: .cells (copyW0 c) :: (mutO c.g grC ++ mutO c.i inC)
theorem runs_refcopy' (c : Clu) : RunsH tbl0 a76 [.agg (clC c)] [] (.agg (copyW0 c)) (copyK0 c) := by
  have := runs_refcopy c
  simpa [copyW, copyK, copyW0, copyK0] using this
noncomputable def cNCp : List DV → Nat → Option (DV × List AObj) := conN (fun _ => True) (fun c : Clu => [.agg (clC c)]) (fun c => (.agg (copyW0 c), copyK0 c))
theorem cNCp_eq {c : Clu} {n : Nat} : cNCp [.agg (clC c)] n = some (.agg (copyW n c), copyK n c) := by
  have := conN_eq (A := fun _ => True) (f := fun x : Clu => [.agg (clC x)]) (g := fun c => (.agg (copyW0 c), copyK0 c)) (fun a b e => by
    simp only [List.cons.injEq, DV.agg.injEq, and_true] at e
    rw [clC_inj e]) c trivial n
  simp only [copyW0, copyK0, shD_agg, shL_cons, shL_nil, cpD_sh, shD_int, List.map_cons, List.map_append, shO_cells, shO_mut pure_grC, shO_mut pure_inC, Nat.zero_add, shL_pure _ _ (pure_clC c)] at this
  exact this
noncomputable def T170 : Tbl := addT 21 (.pure (cC1 validCB)) (addT 19 (.pure (cG1 validGB)) (addT 23 (.pure (cCSS grpD)) (addT 76 (.new cNCp) (addT 25 (.pure (cCi fun c i => .int .i64 (findIx c.i.l i))) (addT 77 (.pure cTm) tbl0)))))
theorem T170_v : T170 21 = .pure (cC1 validCB) := by simp [T170]
theorem T170_vg : T170 19 = .pure (cG1 validGB) := by simp [T170]
theorem T170_g : T170 23 = .pure (cCSS grpD) := by simp [T170]
theorem T170_c : T170 76 = .new cNCp := by simp [T170]
theorem T170_f : T170 25 = .pure (cCi fun c i => .int .i64 (findIx c.i.l i)) := by simp [T170]
theorem T170_t : T170 77 = .pure cTm := by simp [T170]
theorem T170_sound : T170.Sound P := addT_sound (con_sound fun x _ => sem_runs mix T121_sound Tryd.func21 a21_ok (runs_refvalid x)) (addT_sound (con_sound fun x _ => sem_runs mix T120_sound Tryd.func19 a19_ok (runs_refvalidgroup x)) (addT_sound (con_sound fun x _ => sem_runs mix tbl0_sound Tryd.func23 a23_ok (runs_refgroup x.1 x.2.1 x.2.2)) (addT_sound (conN_sound (fun x _ => by simp) fun x _ => calls_runs mix tbl0_sound Tryd.func76 a76_ok (runs_refcopy' x)) (addT_sound (con_sound fun x _ => sem_runs mix tbl0_sound Tryd.func25 a25_ok (runs_reffind x.1 x.2)) (addT_sound (cTm_sound fun t => sem_runs mix tbl0_sound Tryd.func77 a77_ok (runs_instant t)) tbl0_sound)))))
noncomputable def deployRB (c : Clu) (g : Grp) : DV := .tup [.agg (clC (deployR c g).1), .int .i64 (deployR c g).2]
theorem copy_dv_nil {α : Type} {x : Sl α} {s : Nat} {f : α → List DV} (h : x.l = []) : x.copy.dv s f = .nils := by simp [Sl.copy, Sl.dv, slD, h]
theorem copy_dv_ne {α : Type} {x : Sl α} {s : Nat} {f : α → List DV} (h : x.l ≠ []) : x.copy.dv s f = .sl false s x.l.length (x.l.flatMap f) := by simp [Sl.copy, Sl.dv, slD, h]
set_option maxHeartbeats 4000000 in
theorem runs_refdeploy (c : Clu) (g : Grp) : Runs T170 a36 [.agg (clC c), .agg (grC g)] (deployRB c g) := by
  refine ⟨?_⟩
  by_cases hv : ValidC c
  case neg =>
    have hd : deployR c g = (clu0, 1) := by rw [deployR, if_pos (.inl hv)]
    simp (disch := first | omega | (simp [-List.map_take, -List.map_drop, -List.map_set, -List.map_append, -List.drop_one] <;> omega) | fail) [-List.map_take, -List.map_drop, -List.map_set, -List.map_append, -List.drop_one, a36, T170_v, cC1_eq, validCB, tv_false hv, deployRB, hd, clC_clu0]
  by_cases hvg : ValidG g
  case neg =>
    have hd : deployR c g = (clu0, 1) := by rw [deployR, if_pos (.inr hvg)]
    simp (disch := first | omega | (simp [-List.map_take, -List.map_drop, -List.map_set, -List.map_append, -List.drop_one] <;> omega) | fail) [-List.map_take, -List.map_drop, -List.map_set, -List.map_append, -List.drop_one, a36, T170_v, cC1_eq, validCB, tv_true hv, T170_vg, cG1_eq, validGB, tv_false hvg, deployRB, hd, clC_clu0]
  have hnn : ¬ (¬ ValidC c ∨ ¬ ValidG g) := fun h => h.elim (fun h => h hv) (fun h => h hvg)
  have hng := hv.ng
  have ha : ∀ l : List Grp, (l.flatMap grC).length = l.length * 6 := fm_len len_grC
  have hb : ∀ l : List Ins, (l.flatMap inC).length = l.length * 37 := fm_len len_inC
  by_cases hx : grpIx c.g.l g.ns g.im < 0
  · have hx' : ¬ (0 : Int) ≤ grpIx c.g.l g.ns g.im := by omega
    by_cases hl : 16 ≤ c.g.l.length
    · have hl' : (16 : Int) ≤ c.g.l.length := by omega
      have hd : deployR c g = (clu0, 3) := by rw [deployR, if_neg hnn, if_pos hx, if_pos hl]
      have hg : c.g.l ≠ [] := by intro e; rw [e] at hl; simp at hl
      have e2 := mutO_ne (f := grC) hg
      have e3 := fun id => cpD_ne (id := id) (s := 6) hg
      by_cases hi : c.i.l = []
      · have f1 := fun id => cpD_nil (id := id) (s := 37) hi
        have f2 := mutO_nil (f := inC) hi
        have f3 := copy_dv_nil (s := 37) (f := inC) hi
        simp (disch := first | omega | (simp [-List.map_take, -List.map_drop, -List.map_set, -List.map_append, -List.drop_one] <;> omega) | fail) [-List.map_take, -List.map_drop, -List.map_set, -List.map_append, -List.drop_one, a36, T170_v, cC1_eq, validCB, tv_true hv, T170_vg, cG1_eq, validGB, tv_true hvg, T170_g, cCSS_eq, grpD, T170_c, cNCp_eq, copyW, copyK, storeO_one, bsl_g, deployRB, hd, clC_mk, hx, hx', hl', hl, e2, e3, clC_clu0, f1, f2, f3]
      · have f1 := fun id => cpD_ne (id := id) (s := 37) hi
        have f2 := mutO_ne (f := inC) hi
        have f3 := copy_dv_ne (s := 37) (f := inC) hi
        have f4 := take_ins (l := c.i.l) (Nat.le_refl _)
        simp (disch := first | omega | (simp [-List.map_take, -List.map_drop, -List.map_set, -List.map_append, -List.drop_one] <;> omega) | fail) [-List.map_take, -List.map_drop, -List.map_set, -List.map_append, -List.drop_one, a36, T170_v, cC1_eq, validCB, tv_true hv, T170_vg, cG1_eq, validGB, tv_true hvg, T170_g, cCSS_eq, grpD, T170_c, cNCp_eq, copyW, copyK, storeO_one, bsl_g, deployRB, hd, clC_mk, hx, hx', hl', hl, e2, e3, clC_clu0, f1, f2, f3, f4, hb]
    · have hl' : ¬ (16 : Int) ≤ c.g.l.length := by omega
      have hd : deployR c g = (⟨own (c.g.l ++ [g]), c.i.copy, c.next⟩, 0) := by rw [deployR, if_neg hnn, if_pos hx, if_neg hl]
      have ho := own_dv (l := c.g.l ++ [g]) (s := 6) (f := grC) (by simp; omega)
      by_cases hg : c.g.l = []
      · have e2 := mutO_nil (f := grC) hg
        have e3 := fun id => cpD_nil (id := id) (s := 6) hg
        have ho : (own (c.g.l ++ [g])).dv 6 grC = .sl false 6 1 (grC g) := by rw [ho, hg]; simp
        by_cases hi : c.i.l = []
        · have f1 := fun id => cpD_nil (id := id) (s := 37) hi
          have f2 := mutO_nil (f := inC) hi
          have f3 := copy_dv_nil (s := 37) (f := inC) hi
          simp (disch := first | omega | (simp [-List.map_take, -List.map_drop, -List.map_set, -List.map_append, -List.drop_one] <;> omega) | fail) [-List.map_take, -List.map_drop, -List.map_set, -List.map_append, -List.drop_one, a36, T170_v, cC1_eq, validCB, tv_true hv, T170_vg, cG1_eq, validGB, tv_true hvg, T170_g, cCSS_eq, grpD, T170_c, cNCp_eq, copyW, copyK, storeO_one, bsl_g, deployRB, hd, clC_mk, hx, hx', hl', hl, ho, e2, e3, f1, f2, f3]
        · have f1 := fun id => cpD_ne (id := id) (s := 37) hi
          have f2 := mutO_ne (f := inC) hi
          have f3 := copy_dv_ne (s := 37) (f := inC) hi
          have f4 := take_ins (l := c.i.l) (Nat.le_refl _)
          simp (disch := first | omega | (simp [-List.map_take, -List.map_drop, -List.map_set, -List.map_append, -List.drop_one] <;> omega) | fail) [-List.map_take, -List.map_drop, -List.map_set, -List.map_append, -List.drop_one, a36, T170_v, cC1_eq, validCB, tv_true hv, T170_vg, cG1_eq, validGB, tv_true hvg, T170_g, cCSS_eq, grpD, T170_c, cNCp_eq, copyW, copyK, storeO_one, bsl_g, deployRB, hd, clC_mk, hx, hx', hl', hl, ho, e2, e3, f1, f2, f3, f4, hb]
      · have e2 := mutO_ne (f := grC) hg
        have e3 := fun id => cpD_ne (id := id) (s := 6) hg
        have e7 : (c.g.l.flatMap grC ++ grC g).take ((c.g.l.length + 1) * 6) = c.g.l.flatMap grC ++ grC g := List.take_of_length_le (by rw [List.length_append, ha, len_grC]; omega)
        have e11 : ∀ H k, snapL H k (c.g.l.flatMap grC ++ grC g) = some (c.g.l.flatMap grC ++ grC g) := fun H k => snapL_clean (pureL_append (fm_pure pure_grC _) (pure_grC _))
        have e6 : (c.g.l.length + 1) * 6 = c.g.l.length * 6 + 6 := by omega
        by_cases hi : c.i.l = []
        · have f1 := fun id => cpD_nil (id := id) (s := 37) hi
          have f2 := mutO_nil (f := inC) hi
          have f3 := copy_dv_nil (s := 37) (f := inC) hi
          simp (disch := first | omega | (simp [-List.map_take, -List.map_drop, -List.map_set, -List.map_append, -List.drop_one] <;> omega) | fail) [-List.map_take, -List.map_drop, -List.map_set, -List.map_append, -List.drop_one, a36, T170_v, cC1_eq, validCB, tv_true hv, T170_vg, cG1_eq, validGB, tv_true hvg, T170_g, cCSS_eq, grpD, T170_c, cNCp_eq, copyW, copyK, storeO_one, bsl_g, deployRB, hd, clC_mk, hx, hx', hl', hl, ho, e2, e3, e7, e11, ha, f1, f2, f3]
        · have f1 := fun id => cpD_ne (id := id) (s := 37) hi
          have f2 := mutO_ne (f := inC) hi
          have f3 := copy_dv_ne (s := 37) (f := inC) hi
          have f4 := take_ins (l := c.i.l) (Nat.le_refl _)
          simp (disch := first | omega | (simp [-List.map_take, -List.map_drop, -List.map_set, -List.map_append, -List.drop_one] <;> omega) | fail) [-List.map_take, -List.map_drop, -List.map_set, -List.map_append, -List.drop_one, a36, T170_v, cC1_eq, validCB, tv_true hv, T170_vg, cG1_eq, validGB, tv_true hvg, T170_g, cCSS_eq, grpD, T170_c, cNCp_eq, copyW, copyK, storeO_one, bsl_g, deployRB, hd, clC_mk, hx, hx', hl', hl, ho, e2, e3, e7, e11, ha, f1, f2, f3, f4, hb]
  · obtain ⟨k, hk, hke, hkf, _⟩ := ixI_pos (show 0 ≤ grpIx c.g.l g.ns g.im by omega)
    have hke : grpIx c.g.l g.ns g.im = k := hke
    have hd : deployR c g = (⟨own (c.g.l.set k g), c.i.copy, c.next⟩, 0) := by rw [deployR, if_neg hnn, if_neg hx, hke]; rfl
    have ho := own_dv (l := c.g.l.set k g) (s := 6) (f := grC) (by simp; omega)
    have hg : c.g.l ≠ [] := by intro e; rw [e] at hk; simp at hk
    have e2 := mutO_ne (f := grC) hg
    have e3 := fun id => cpD_ne (id := id) (s := 6) hg
    have hx' : (0 : Int) ≤ k := by omega
    have hk' : (k : Int) < c.g.l.length := by omega
    have e8 : splice (c.g.l.flatMap grC) (k * 6) (grC g) = (c.g.l.set k g).flatMap grC := fm_set len_grC hk _
    have e9 := take_grs (l := c.g.l.set k g) (n := c.g.l.length) (by simp)
    have e10 : ∀ H id, storeO H id 6 (k * 6) (.agg (grC g)) (some (c.g.l.flatMap grC)) = some (.junk, H.set id (.cells ((c.g.l.set k g).flatMap grC))) := fun H id => by
      rw [storeO_grs (by rw [ha]; omega), e8]
    by_cases hi : c.i.l = []
    · have f1 := fun id => cpD_nil (id := id) (s := 37) hi
      have f2 := mutO_nil (f := inC) hi
      have f3 := copy_dv_nil (s := 37) (f := inC) hi
      simp (disch := first | omega | (simp [-List.map_take, -List.map_drop, -List.map_set, -List.map_append, -List.drop_one] <;> omega) | fail) [-List.map_take, -List.map_drop, -List.map_set, -List.map_append, -List.drop_one, a36, T170_v, cC1_eq, validCB, tv_true hv, T170_vg, cG1_eq, validGB, tv_true hvg, T170_g, cCSS_eq, grpD, T170_c, cNCp_eq, copyW, copyK, storeO_one, bsl_g, deployRB, hd, clC_mk, hke, hx', hk', hk, ho, e2, e3, e9, e10, ha, f1, f2, f3]
    · have f1 := fun id => cpD_ne (id := id) (s := 37) hi
      have f2 := mutO_ne (f := inC) hi
      have f3 := copy_dv_ne (s := 37) (f := inC) hi
      have f4 := take_ins (l := c.i.l) (Nat.le_refl _)
      simp (disch := first | omega | (simp [-List.map_take, -List.map_drop, -List.map_set, -List.map_append, -List.drop_one] <;> omega) | fail) [-List.map_take, -List.map_drop, -List.map_set, -List.map_append, -List.drop_one, a36, T170_v, cC1_eq, validCB, tv_true hv, T170_vg, cG1_eq, validGB, tv_true hvg, T170_g, cCSS_eq, grpD, T170_c, cNCp_eq, copyW, copyK, storeO_one, bsl_g, deployRB, hd, clC_mk, hke, hx', hk', hk, ho, e2, e3, e9, e10, ha, f1, f2, f3, f4, hb]
end Go.Proofs.YtjhakjeioppijaaDoor
set_option linter.unusedSimpArgs false
set_option linter.unusedVariables false
namespace Go.Proofs.YtjhakjeioppijaaDoor
open Go Go.Am
def nilI : Sl Ins := ⟨none, [], fun _ => rfl, by simp⟩
structure DS where
  k : Nat
  c : Clu
  t : Tp
structure IS where
  k : Nat
  l : List Ins
  n : Int
  t : Tp
  x : Ins
end Go.Proofs.YtjhakjeioppijaaDoor
set_option linter.unusedSimpArgs false
set_option linter.unusedVariables false
namespace Go.Proofs.YtjhakjeioppijaaDoor
open Go Go.Am
structure UG (l : List Grp) : Prop where
  n : l.length ≤ 16
  g : ∀ i (h : i < l.length), ValidG l[i] ∧ grpIx l l[i].ns l[i].im = i
structure CG (c : Clu) : Prop where
  u : UG c.g.l
  i : c.i = nilI
  n0 : 1 ≤ c.next
  n1 : c.next ≤ 4
structure IG (ng : Nat) (l : List Ins) (n : Int) : Prop where
  s : ∀ x ∈ l, SoundI ng n x
  o : l.Pairwise fun a b => a.id < b.id
end Go.Proofs.YtjhakjeioppijaaDoor
set_option linter.unusedSimpArgs false
set_option linter.unusedVariables false
namespace Go.Proofs.YtjhakjeioppijaaDoor
open Go Go.Am
section
variable {α β : Type} {lt : α → α → Bool}
end
def selL (l : List Ins) (k : Int) (p : Ins → Bool) : List Ins := l.filter fun x => decide (x.grp = k) && p x
def sGoodR (g : Grp) (x : Ins) : Bool := (decide (x.state = 1) || decide (x.state = 2)) && (decide (x.den = -1) && decide (x.art ∈ g.ch.l))
def refSpare (g : Grp) (l : List Ins) (k : Int) : List Ins := selL l k (fun x => decide (x.state = 2) && sGoodR g x)
structure GoodI (l : List Ins) : Prop where
  s : ∀ x ∈ l, 1 ≤ x.state ∧ x.state ≤ 3 ∧ -1 ≤ x.den
  d : l.Pairwise (fun x y => x.id < y.id)
end Go.Proofs.YtjhakjeioppijaaDoor
set_option linter.unusedSimpArgs false
set_option linter.unusedVariables false
namespace Go.Proofs.YtjhakjeioppijaaDoor
open Go Go.Am
structure VicFacts (g : Grp) (l : List Ins) (k : Int) (v : List Int) : Prop where
  one : ∀ x ∈ l, x.grp = k → x.state = 2 → sGoodR g x = false → v.count x.id = 1
  le : ∀ x ∈ l, x.grp = k → x.state = 2 → sGoodR g x = true → v.count x.id ≤ 1
  sum : ((refSpare g l k).map fun x => v.count x.id).sum = min ((selL l k (sGoodR g)).length - g.want).toNat (refSpare g l k).length
  len : v.length = (selL l k fun x => decide (x.state = 2) && !sGoodR g x).length + ((refSpare g l k).map fun x => v.count x.id).sum
end Go.Proofs.YtjhakjeioppijaaDoor
set_option linter.unusedSimpArgs false
set_option linter.unusedVariables false
namespace Go.Proofs.YtjhakjeioppijaaDoor
open Go Go.Am
def runB (k : Int) (x : Ins) : Bool := decide (x.grp = k) && decide (x.state = 2)
def stopI (x : Ins) : Ins := (x.st 3).si 50
def stopL (k : Int) : List Ins → Nat → List Ins
  | [], _ => []
  | x :: r, 0 => x :: r
  | x :: r, n + 1 => if runB k x = true then stopI x :: stopL k r n else x :: stopL k r (n + 1)
def lim3 (g : Grp) : Int × Int × Int := (g.want, g.least, g.down)
structure Stp (c d : Clu) (k : Int) (n : Nat) : Prop where
  v : ValidC d
  i : d.i.l = stopL k c.i.l n
  n : d.next = c.next
  g : d.g.l.map lim3 = c.g.l.map lim3
end Go.Proofs.YtjhakjeioppijaaDoor
set_option linter.unusedSimpArgs false
set_option linter.unusedVariables false
namespace Go.Proofs.YtjhakjeioppijaaDoor
open Go Go.Am
end Go.Proofs.YtjhakjeioppijaaDoor
set_option linter.unusedSimpArgs false
set_option linter.unusedVariables false
namespace Go.Proofs.YtjhakjeioppijaaDoor
open Go Go.Am
end Go.Proofs.YtjhakjeioppijaaDoor
set_option linter.unusedSimpArgs false
set_option linter.unusedVariables false
namespace Go.Proofs.YtjhakjeioppijaaDoor
open Go Go.Am
inductive W5 where
  | live | good | den | rep | spare
def W5.fid : W5 → Nat
  | .live => 84
  | .good => 86
  | .den => 88
  | .rep => 95
  | .spare => 96
theorem W5.inj {a b : W5} (h : a.fid = b.fid) : a = b := by cases a <;> cases b <;> first | rfl | (simp [W5.fid] at h)
end Go.Proofs.YtjhakjeioppijaaDoor
set_option linter.unusedSimpArgs false
set_option linter.unusedVariables false
namespace Go.Proofs.YtjhakjeioppijaaDoor
open Go Go.Am
structure DSi where
  i : Nat
  l : List Ins
end Go.Proofs.YtjhakjeioppijaaDoor
set_option linter.unusedSimpArgs false
set_option linter.unusedVariables false
namespace Go.Proofs.YtjhakjeioppijaaDoor
open Go Go.Am
def liV (l : List Int) : DV := if l = [] then .nils else .sl false 1 l.length (l.flatMap inI)
theorem liV_pure (l : List Int) : pureD (liV l) = true := by
  unfold liV; split
  · rfl
  · show pureL _ = true; exact fm_pure pure_inI l
theorem liV_len (H : List AObj) (l : List Int) : lenD H (liV l) = some (.int .i64 l.length) := by
  unfold liV; split
  · rename_i h; subst h; rfl
  · rfl
theorem liV_one (l : List Int) : (liV l).one = true := by unfold liV; split <;> rfl
theorem liV_known (l : List Int) : (liV l).known = true := by unfold liV; split <;> rfl
theorem liV_cells (l : List Int) : (liV l).cells = [liV l] := by unfold liV; split <;> rfl
theorem liV_fz (n k : Nat) (H : List AObj) (l : List Int) : fz n H k (liV l) = some (liV l) := fz_clean (liV_pure l)
theorem liV_snap (k : Nat) (H : List AObj) (l : List Int) : snap H k (liV l) = some (liV l) := snap_clean (liV_pure l)
theorem liV_below (n : Nat) (l : List Int) : Am.below n (liV l) = true := below_pure n _ (liV_pure l)
attribute [simp] liV_pure liV_len liV_one liV_known liV_cells liV_fz liV_snap liV_below
def LimOK (g : Grp) : Prop := (-1000000000 ≤ g.want ∧ g.want ≤ 1000000000) ∧ (-1000000000 ≤ g.least ∧ g.least ≤ 1000000000) ∧ -1000000000 ≤ g.down ∧ g.down ≤ 1000000000
end Go.Proofs.YtjhakjeioppijaaDoor
set_option linter.unusedSimpArgs false
set_option linter.unusedVariables false
namespace Go.Proofs.YtjhakjeioppijaaDoor
open Go Go.Am
end Go.Proofs.YtjhakjeioppijaaDoor
set_option linter.unusedSimpArgs false
set_option linter.unusedVariables false
namespace Go.Proofs.YtjhakjeioppijaaDoor
open Go Go.Am
theorem set_pre0 {pre l : List AObj} {o : AObj} : (pre ++ l).set pre.length o = pre ++ l.set 0 o := by rw [List.set_append_right _ _ (by omega)]; simp
structure IP where
  A : List Int
  B : List Int
end Go.Proofs.YtjhakjeioppijaaDoor
set_option linter.unusedSimpArgs false
set_option linter.unusedVariables false
namespace Go.Proofs.YtjhakjeioppijaaDoor
open Go Go.RowKit Go.Am
end Go.Proofs.YtjhakjeioppijaaDoor
set_option linter.unusedSimpArgs false
set_option linter.unusedVariables false
namespace Go.Proofs.YtjhakjeioppijaaDoor
open Go Go.Am
structure SrtOK (a : Clu × List AObj × List Int) : Prop where
  h : ∀ X, objV (a.2.1 ++ X) 0 3 = some (clC a.1)
  l : ∀ x ∈ a.2.2, 0 ≤ findIx a.1.i.l x
  b : a.2.2.length ≤ 19
theorem SrtOK.c {a b : Clu × List AObj × List Int} (h1 : SrtOK a) (h2 : SrtOK b) (e : a.2.1 = b.2.1) : a.1 = b.1 := by
  have q1 := h1.h []
  have q2 := h2.h []
  rw [e, q2] at q1
  exact clC_inj (Option.some.inj q1).symm
end Go.Proofs.YtjhakjeioppijaaDoor
set_option linter.unusedSimpArgs false
set_option linter.unusedVariables false
namespace Go.Proofs.YtjhakjeioppijaaDoor
open Go Go.Am
structure RS where
  i : Nat
  j : Nat
  L : List Int
structure RInv (l : List Int) (n : Nat) (a : RS) : Prop where
  s : a.i + a.j + 1 = n
  ln : a.L.length = n
  g : ∀ k, k < n → a.L[k]? = if k < a.i ∨ a.j < k then l[n - 1 - k]? else l[k]?
end Go.Proofs.YtjhakjeioppijaaDoor
set_option linter.unusedSimpArgs false
set_option linter.unusedVariables false
namespace Go.Proofs.YtjhakjeioppijaaDoor
open Go Go.Am
structure VisL (h : List AObj) (x : DV) (l : List Int) : Prop where
  len : ∀ X, lenD (h ++ X) x = some (.int .i64 l.length)
  vis : ∀ X, visY (h ++ X) x = some (l.length, l.map (.int .i64))
  one : x.one = true
structure CA where
  h : List AObj
  x : DV
  y : DV
  z : DV
  lx : List Int
  ly : List Int
  lz : List Int
structure CAOK (a : CA) : Prop where
  x : VisL a.h a.x a.lx
  y : VisL a.h a.y a.ly
  z : VisL a.h a.z a.lz
  b : a.lx.length + a.ly.length + a.lz.length ≤ 1000000
end Go.Proofs.YtjhakjeioppijaaDoor
set_option linter.unusedSimpArgs false
set_option linter.unusedVariables false
namespace Go.Proofs.YtjhakjeioppijaaDoor
open Go Go.Am
structure VicOK (c : Clu) : Prop where
  n : c.i.l.length ≤ 19
  l : ∀ g ∈ c.g.l, LimOK g
end Go.Proofs.YtjhakjeioppijaaDoor
set_option linter.unusedSimpArgs false
set_option linter.unusedVariables false
namespace Go.Proofs.YtjhakjeioppijaaDoor
open Go Go.Am
theorem nl_len (H : List AObj) (x : Nl) : lenD H x.dv = some (.int .i64 x.l.length) := sl_len ⟨x.k, x.l, x.h, 0⟩ H
theorem nl_one (x : Nl) : x.dv.one = true := sl_one ⟨x.k, x.l, x.h, 0⟩
theorem nl_known (x : Nl) : x.dv.known = true := sl_known ⟨x.k, x.l, x.h, 0⟩
theorem nl_cells (x : Nl) : x.dv.cells = [x.dv] := sl_cells ⟨x.k, x.l, x.h, 0⟩
theorem below_nl {n : Nat} {x : Nl} : Am.below n x.dv = true := below_pure n _ (nl_pure x)
attribute [simp] below_nl nl_len nl_one nl_known nl_cells nl_pure
def okT (t : Int) : Prop := -2199023255552 ≤ t ∧ t ≤ 2199023255552
def ok64 (n : Int) : Prop := -9223372036854775808 ≤ n ∧ n ≤ 9223372036854775807
structure OvOK (a : Clu × Nl × Int) : Prop where
  d : ∀ x ∈ a.1.i.l, okT x.den
  g : ∀ n ∈ a.2.1.l, ok64 n
  t : okT a.2.2
structure OS where
  i : Nat
  L : List Int
  x : Ins
end Go.Proofs.YtjhakjeioppijaaDoor
set_option linter.unusedSimpArgs false
set_option linter.unusedVariables false
namespace Go.Proofs.YtjhakjeioppijaaDoor
open Go Go.Am
end Go.Proofs.YtjhakjeioppijaaDoor
set_option linter.unusedSimpArgs false
set_option linter.unusedVariables false
namespace Go.Proofs.YtjhakjeioppijaaDoor
open Go Go.Am
end Go.Proofs.YtjhakjeioppijaaDoor
set_option linter.unusedSimpArgs false
set_option linter.unusedVariables false
namespace Go.Proofs.YtjhakjeioppijaaDoor
open Go Go.Am
end Go.Proofs.YtjhakjeioppijaaDoor
set_option linter.unusedSimpArgs false
set_option linter.unusedVariables false
namespace Go.Proofs.YtjhakjeioppijaaDoor
open Go Go.Am
end Go.Proofs.YtjhakjeioppijaaDoor
set_option linter.unusedSimpArgs false
set_option linter.unusedVariables false
namespace Go.Proofs.YtjhakjeioppijaaDoor
open Go Go.Am
end Go.Proofs.YtjhakjeioppijaaDoor
set_option linter.unusedSimpArgs false
set_option linter.unusedVariables false
namespace Go.Proofs.YtjhakjeioppijaaDoor
open Go Go.Am
end Go.Proofs.YtjhakjeioppijaaDoor
set_option linter.unusedSimpArgs false
set_option linter.unusedVariables false
namespace Go.Proofs.YtjhakjeioppijaaDoor
open Go Go.Am
end Go.Proofs.YtjhakjeioppijaaDoor
set_option linter.unusedSimpArgs false
set_option linter.unusedVariables false
namespace Go.Proofs.YtjhakjeioppijaaDoor
open Go Go.Am
end Go.Proofs.YtjhakjeioppijaaDoor
set_option linter.unusedSimpArgs false
set_option linter.unusedVariables false
namespace Go.Proofs.YtjhakjeioppijaaDoor
open Go Go.Am
end Go.Proofs.YtjhakjeioppijaaDoor
set_option linter.unusedSimpArgs false
set_option linter.unusedVariables false
namespace Go.Proofs.YtjhakjeioppijaaDoor
open Go Go.Am
structure OvR (a : Clu × Nl × Int) : Prop where
  o : OvOK a
  s : ∀ x ∈ a.1.i.l, 1 ≤ x.state ∧ x.state ≤ 3
end Go.Proofs.YtjhakjeioppijaaDoor
set_option linter.unusedSimpArgs false
set_option linter.unusedVariables false
namespace Go.Proofs.YtjhakjeioppijaaDoor
open Go Go.Am
end Go.Proofs.YtjhakjeioppijaaDoor
set_option linter.unusedSimpArgs false
set_option linter.unusedVariables false
namespace Go.Proofs.YtjhakjeioppijaaDoor
open Go Go.Am
def deV (D : List Ins) : DV := if D = [] then .nils else .sl false 37 D.length (D.flatMap inC)
def inV (p : Nat) (D : List Ins) : DV := if D = [] then .nils else .ms p (D.length * 37) 0 37 D.length (D.length * 37)
def inH (pre : List AObj) (D : List Ins) : List AObj := if D = [] then pre else pre ++ [.cells (D.flatMap inC)]
theorem inV_ne {p : Nat} {D : List Ins} (h : D ≠ []) : inV p D = .ms p (D.length * 37) 0 37 D.length (D.length * 37) := if_neg h
theorem inH_ne {pre : List AObj} {D : List Ins} (h : D ≠ []) : inH pre D = pre ++ [.cells (D.flatMap inC)] := if_neg h
theorem all_in (D : List Ins) : (D.flatMap inC).all DV.one = true := by
  have h1 : ∀ x : Ins, (inC x).all DV.one = true := fun x => by
    have hd : (dgC x.art).all DV.one = true := by simp [dgC, DV.one, w8]
    simp only [inC, List.all_cons, List.all_append, hd, List.all_nil, Bool.and_true, DV.one]
  rw [List.all_flatMap, List.all_eq_true]
  exact fun x _ => h1 x
theorem appX_in {pre : List AObj} {L M : List Ins} (hb : L.length + M.length ≤ 1000000) : appX (inH pre L) 37 72 (inV pre.length L) M.length (M.flatMap inC) = some (inV pre.length (L ++ M), inH pre (L ++ M)) := by
  by_cases hL : L = []
  · subst hL
    rw [List.nil_append]
    by_cases hM : M = []
    · subst hM; exact appX_nils0 (by decide) (by decide)
    · show appX pre 37 72 .nils _ _ = _
      rw [appX_nils (by decide) (by decide) (by rw [fm_len len_inC]) (by cases M with | nil => exact absurd rfl hM | cons a l => simp) (by simp at hb; omega), inV_ne hM, inH_ne hM, fm_len len_inC]
  · have hne : L ++ M ≠ [] := by simp [hL]
    rw [inV_ne hL, inH_ne hL, inV_ne hne, inH_ne hne, appX_own rfl (by decide) (by decide) (by rw [fm_len len_inC]) (by omega) (all_in M), objV_last, if_pos (fm_len len_inC L), Option.map_some, set_pre0, List.flatMap_append, List.length_append, fm_len len_inC, Nat.add_mul]
    rfl
structure VS where
  i : Nat
  D : List Ins
  O : List Int
  z : Ins
end Go.Proofs.YtjhakjeioppijaaDoor
set_option linter.unusedSimpArgs false
set_option linter.unusedVariables false
namespace Go.Proofs.YtjhakjeioppijaaDoor
open Go Go.Am
def PureH (H : List AObj) : Prop := ∀ o ∈ H, ∃ cs, o = .cells cs ∧ pureL cs = true
theorem PureH.app {A B : List AObj} (h1 : PureH A) (h2 : PureH B) : PureH (A ++ B) := fun o ho => (List.mem_append.1 ho).elim (h1 o) (h2 o)
theorem PureH.one {cs : List DV} (h : pureL cs = true) : PureH [.cells cs] := fun o ho => ⟨cs, by simpa using ho, h⟩
structure InsF (H : List AObj) (x : Ins) (D : List Ins) (q : Nat) (v1 v2 : DV) : Prop where
  s1 : ∀ K, slcSD K 37 (deV D) none (some (.int .i64 q)) none = some v1
  y1 : ∀ K, visY K v1 = some (q, (D.take q).flatMap inC)
  s2 : ∀ K, slcSD K 37 (deV D) (some (.int .i64 q)) none none = some v2
  y2 : ∀ K, visY K v2 = some (D.length - q, (D.drop q).flatMap inC)
  a1 : appX (H ++ [.cells (inC x)]) 37 72 .nils q ((D.take q).flatMap inC) = some (inV (H.length + 1) (D.take q), inH (H ++ [.cells (inC x)]) (D.take q))
  ox : objV (inH (H ++ [.cells (inC x)]) (D.take q)) H.length 37 = some (inC x)
  a2 : appX (inH (H ++ [.cells (inC x)]) (D.take q)) 37 72 (inV (H.length + 1) (D.take q)) 1 (inC x) = some (inV (H.length + 1) (D.take q ++ [x]), inH (H ++ [.cells (inC x)]) (D.take q ++ [x]))
  a3 : appX (inH (H ++ [.cells (inC x)]) (D.take q ++ [x])) 37 72 (inV (H.length + 1) (D.take q ++ [x])) (D.length - q) ((D.drop q).flatMap inC) = some (inV (H.length + 1) (D.take q ++ x :: D.drop q), inH (H ++ [.cells (inC x)]) (D.take q ++ x :: D.drop q))
  p1 : apartD (.mp H.length 37 0) (inV (H.length + 1) (D.take q)) = true
structure VR where
  m : Nat
  pre : List AObj
  L : List Int
  M : Int
structure VRI (c : Clu) (g : Grp) (k : Nat) (base : List Int) (M0 : Int) (a : VR) : Prop where
  m : a.m ≤ c.i.l.length
  f : ∃ X, a.pre = [.cells (clC c)] ++ X
  p : PureH a.pre
  l : a.L = base ++ (refSpare g (c.i.l.drop a.m) k).reverse.map Ins.id
  M : a.M = M0 - (refSpare g (c.i.l.drop a.m) k).length
  n : (refSpare g (c.i.l.drop a.m) k).length ≤ M0.toNat
end Go.Proofs.YtjhakjeioppijaaDoor
set_option linter.unusedSimpArgs false
set_option linter.unusedVariables false
namespace Go.Proofs.YtjhakjeioppijaaDoor
open Go Go.Am
def a72 : AFn where
  code := (.seq (.region false [⟨none, (some 6), .mov (.k .nils)⟩])
  (.seq (.region false [⟨none, (some 8), .mov (.t 0)⟩,
    ⟨none, (some 9), .mov (.t 1)⟩,
    ⟨none, (some 10), .mov (.t 2)⟩,
    ⟨none, (some 11), .mov (.t 0)⟩,
    ⟨none, (some 12), .len (.t 11)⟩,
    ⟨none, (some 13), .slcS 37 (.t 8) (some (.t 9)) (some (.t 10)) (some (.t 12))⟩])
  (.seq (.seq (.region false [⟨none, (some 14), .mov (.t 1)⟩,
    ⟨none, (some 15), .mov (.t 2)⟩,
    ⟨none, (some 16), .bin .eql (.t 14) (.t 15)⟩])
  (.cond (.t 16) (.seq (.region false [⟨none, (some 17), .mov (.t 0)⟩,
    ⟨none, (some 6), .mov (.t 17)⟩])
  .ret)
  .skip))
  (.seq (.region false [⟨none, (some 18), .mov (.t 0)⟩,
    ⟨none, (some 19), .len (.t 18)⟩,
    ⟨none, (some 7), .mov (.t 19)⟩])
  (.seq (.region true [⟨none, (some 20), .mov (.t 0)⟩,
    ⟨none, (some 21), .mov (.t 1)⟩,
    ⟨none, (some 22), .slcS 37 (.t 20) none (some (.t 21)) none⟩,
    ⟨none, (some 23), .mov (.t 0)⟩,
    ⟨none, (some 24), .mov (.t 2)⟩,
    ⟨none, (some 25), .slcS 37 (.t 23) (some (.t 24)) none none⟩,
    ⟨none, (some 26), .app 37 72 (.t 22) (.t 25)⟩,
    ⟨none, (some 0), .mov (.t 26)⟩])
  (.seq (.region false [⟨none, (some 27), .mov (.t 0)⟩,
    ⟨none, (some 28), .mov (.t 0)⟩,
    ⟨none, (some 29), .len (.t 28)⟩,
    ⟨none, (some 30), .mov (.t 7)⟩,
    ⟨none, (some 31), .slcS 37 (.t 27) (some (.t 29)) (some (.t 30)) none⟩,
    ⟨none, none, .clr 37 [(.int .i64 0), (.int .i64 0), (w8 0#8), (w8 0#8), (w8 0#8), (w8 0#8), (w8 0#8), (w8 0#8), (w8 0#8), (w8 0#8), (w8 0#8), (w8 0#8), (w8 0#8), (w8 0#8), (w8 0#8), (w8 0#8), (w8 0#8), (w8 0#8), (w8 0#8), (w8 0#8), (w8 0#8), (w8 0#8), (w8 0#8), (w8 0#8), (w8 0#8), (w8 0#8), (w8 0#8), (w8 0#8), (w8 0#8), (w8 0#8), (w8 0#8), (w8 0#8), (w8 0#8), (w8 0#8), (.int .i64 0), (.int .i64 0), (.int .i64 0)] (.t 31)⟩])
  (.seq (.region false [⟨none, (some 32), .mov (.t 0)⟩,
    ⟨none, (some 6), .mov (.t 32)⟩])
  .ret)))))))
  ntmps := 33
  res := [.tmp 6]
theorem a72_ok : compileFn P Tryd.f72 = some a72 := by kernel_rfl
def a31 : AFn where
  code := (.seq (.region false [⟨none, (some 2), .box (.t 0)⟩,
    ⟨none, (some 4), .alloc [.nils, .nils, (.int .i64 0)]⟩,
    ⟨none, (some 5), .mov (.k (.int .i64 0))⟩])
  (.seq (.seq (.region false [⟨none, (some 7), .load 3 true (.t 2)⟩,
    ⟨none, (some 8), .call (.k (.fn (.func 20) [] [])) [(.t 7)]⟩,
    ⟨none, (some 9), .un .not (.t 8)⟩])
  (.cond (.t 9) (.seq (.region false [⟨none, (some 10), .build [.nils, .nils, (.int .i64 0)] []⟩,
    ⟨none, none, .store 3 (.t 4) (.t 10)⟩,
    ⟨none, (some 5), .mov (.k (.int .i64 1))⟩])
  .ret)
  .skip))
  (.seq (.region false [⟨none, (some 11), .load 3 true (.t 2)⟩,
    ⟨none, (some 12), .mov (.t 1)⟩,
    ⟨none, (some 13), .call (.k (.fn (.func 24) [] [])) [(.t 11), (.t 12)]⟩,
    ⟨none, (some 6), .mov (.t 13)⟩])
  (.seq (.seq (.region false [⟨none, (some 14), .mov (.t 6)⟩,
    ⟨none, (some 15), .bin .lss (.t 14) (.k (.int .i64 0))⟩])
  (.cond (.t 15) (.seq (.region false [⟨none, (some 16), .build [.nils, .nils, (.int .i64 0)] []⟩,
    ⟨none, none, .store 3 (.t 4) (.t 16)⟩,
    ⟨none, (some 5), .mov (.k (.int .i64 4))⟩])
  .ret)
  .skip))
  (.seq (.region false [⟨none, (some 17), .load 3 true (.t 2)⟩,
    ⟨none, (some 18), .call (.k (.fn (.func 71) [] [])) [(.t 17)]⟩,
    ⟨none, none, .store 3 (.t 2) (.t 18)⟩])
  (.seq (.region false [⟨none, (some 19), .fld 1 (.t 2)⟩,
    ⟨none, (some 20), .load 1 false (.t 19)⟩,
    ⟨none, (some 21), .mov (.t 6)⟩,
    ⟨none, (some 22), .mov (.t 6)⟩,
    ⟨none, (some 23), .bin .add (.t 22) (.k (.int .i64 1))⟩,
    ⟨none, (some 24), .call (.k (.fn (.func 72) [] [])) [(.t 20), (.t 21), (.t 23)]⟩,
    ⟨none, (some 25), .fld 1 (.t 2)⟩,
    ⟨none, none, .store 1 (.t 25) (.t 24)⟩])
  (.seq (.region false [⟨none, (some 26), .load 3 true (.t 2)⟩,
    ⟨none, none, .store 3 (.t 4) (.t 26)⟩,
    ⟨none, (some 5), .mov (.k (.int .i64 0))⟩])
  .ret)))))))
  ntmps := 27
  res := [.cell 4 3 true, .tmp 5]
theorem a31_ok : compileFn P Tryd.f31 = some a31 := by kernel_rfl
def a30L0 : ACode :=
  (.seq (.region false [⟨none, (some 26), .bin .lss (.t 25) (.t 24)⟩])
  (.seq (.cond (.t 26) .skip
  (.exit 0))
  (.seq (.block 1 (.seq (.region false [⟨none, (some 27), .mov (.t 25)⟩,
    ⟨none, (some 7), .mov (.t 27)⟩])
  (.seq (.region false [⟨none, (some 28), .fld 1 (.t 3)⟩,
    ⟨none, (some 29), .load 1 false (.t 28)⟩,
    ⟨none, (some 30), .mov (.t 7)⟩,
    ⟨none, (some 31), .idxS 37 (.t 29) (.t 30)⟩,
    ⟨none, (some 8), .mov (.t 31)⟩])
  (.seq (.region false [⟨none, (some 32), .mov (.t 7)⟩,
    ⟨none, (some 33), .mov (.t 1)⟩,
    ⟨none, (some 34), .len (.t 33)⟩,
    ⟨none, (some 35), .bin .lss (.t 32) (.t 34)⟩,
    ⟨none, (some 36), .mov (.t 35)⟩,
    ⟨(some (36, true)), (some 37), .mov (.t 1)⟩,
    ⟨(some (36, true)), (some 38), .mov (.t 7)⟩,
    ⟨(some (36, true)), (some 39), .idxS 1 (.t 37) (.t 38)⟩,
    ⟨(some (36, true)), (some 40), .load 1 false (.t 39)⟩,
    ⟨none, (some 41), .pick (.t 36) (.t 40) (.k (.bool false))⟩,
    ⟨none, (some 9), .mov (.t 41)⟩])
  (.block 2 (.seq (.region false [⟨none, (some 43), .mov (.t 9)⟩,
    ⟨none, (some 44), .un .not (.t 43)⟩,
    ⟨none, (some 42), .mov (.t 44)⟩])
  (.cond (.t 42) (.region false [⟨none, (some 45), .mov (.t 8)⟩,
    ⟨none, (some 46), .nilc (.t 45)⟩,
    ⟨none, (some 47), .fld 36 (.t 46)⟩,
    ⟨none, none, .store 1 (.t 47) (.k (.int .i64 (-1)))⟩])
  (.seq (.region false [⟨none, (some 49), .mov (.t 8)⟩,
    ⟨none, (some 50), .nilc (.t 49)⟩,
    ⟨none, (some 51), .fld 36 (.t 50)⟩,
    ⟨none, (some 52), .load 1 false (.t 51)⟩,
    ⟨none, (some 53), .bin .eql (.t 52) (.k (.int .i64 (-1)))⟩,
    ⟨none, (some 48), .mov (.t 53)⟩])
  (.cond (.t 48) (.region false [⟨none, (some 54), .mov (.t 8)⟩,
    ⟨none, (some 55), .mov (.t 2)⟩,
    ⟨none, (some 56), .nilc (.t 54)⟩,
    ⟨none, (some 57), .fld 36 (.t 56)⟩,
    ⟨none, none, .store 1 (.t 57) (.t 55)⟩])
  .skip)))))))))
  (.region false [⟨none, (some 58), .bin .add (.t 25) (.k (.int .i64 1))⟩,
    ⟨none, (some 25), .mov (.t 58)⟩]))))
def a30S0 (x1 x2 x3 x6 x24 x25 : DV) (h : List AObj) : St := ⟨[.junk, x1, x2, x3, .junk, .junk, x6] ++ js 17 ++ [x24, x25] ++ js 34, h⟩
def a30 : AFn where
  code := (.seq (.region false [⟨none, (some 3), .box (.t 0)⟩,
    ⟨none, (some 6), .alloc [.nils, .nils, (.int .i64 0)]⟩])
  (.seq (.seq (.region false [⟨none, (some 10), .load 3 true (.t 3)⟩,
    ⟨none, (some 11), .call (.k (.fn (.func 20) [] [])) [(.t 10)]⟩,
    ⟨none, (some 12), .un .not (.t 11)⟩,
    ⟨none, (some 13), .mov (.t 12)⟩,
    ⟨(some (13, false)), (some 14), .mov (.t 2)⟩,
    ⟨(some (13, false)), (some 15), .call (.k (.fn (.func 70) [] [])) [(.t 14)]⟩,
    ⟨(some (13, false)), (some 16), .un .not (.t 15)⟩,
    ⟨none, (some 17), .pick (.t 13) (.k (.bool true)) (.t 16)⟩])
  (.cond (.t 17) (.seq (.region false [⟨none, (some 18), .load 3 true (.t 3)⟩,
    ⟨none, (some 19), .call (.k (.fn (.func 71) [] [])) [(.t 18)]⟩,
    ⟨none, none, .store 3 (.t 6) (.t 19)⟩])
  .ret)
  .skip))
  (.seq (.region false [⟨none, (some 20), .load 3 true (.t 3)⟩,
    ⟨none, (some 21), .call (.k (.fn (.func 71) [] [])) [(.t 20)]⟩,
    ⟨none, none, .store 3 (.t 3) (.t 21)⟩])
  (.seq (.seq (.region false [⟨none, (some 22), .fld 1 (.t 3)⟩,
    ⟨none, (some 23), .load 1 false (.t 22)⟩,
    ⟨none, (some 24), .len (.t 23)⟩,
    ⟨none, (some 25), .mov (.k (.int .i64 0))⟩])
  (.block 0 (.loop a30L0)))
  (.seq (.region false [⟨none, (some 59), .load 3 true (.t 3)⟩,
    ⟨none, none, .store 3 (.t 6) (.t 59)⟩])
  .ret)))))
  ntmps := 60
  res := [.cell 6 3 true]
theorem a30_ok : compileFn P Tryd.f30 = some a30 := by kernel_rfl
end Go.Proofs.YtjhakjeioppijaaDoor
set_option linter.unusedSimpArgs false
set_option linter.unusedVariables false
namespace Go.Proofs.YtjhakjeioppijaaDoor
open Go Go.Am
theorem runs_may1 (s : Int) : Runs tbl0 a79 [.int .i64 s] (.bool (decide (s = 1))) := by
  refine ⟨?_⟩
  simp (disch := first | omega | (simp [-List.map_take, -List.map_drop, -List.map_set, -List.map_append, -List.drop_one] <;> omega) | fail) [-List.map_take, -List.map_drop, -List.map_set, -List.map_append, -List.drop_one, a79]
theorem runs_may2 (s : Int) : Runs tbl0 a81 [.int .i64 s] (.bool (decide (s ≠ 3))) := by
  refine ⟨?_⟩
  simp (disch := first | omega | (simp [-List.map_take, -List.map_drop, -List.map_set, -List.map_append, -List.drop_one] <;> omega) | fail) [-List.map_take, -List.map_drop, -List.map_set, -List.map_append, -List.drop_one, a81]
def cIb (g : Int → Bool) : List DV → Option DV
  | [.int .i64 s] => some (.bool (g s)) | _ => none
theorem cIb_eq {g : Int → Bool} {s : Int} : cIb g [.int .i64 s] = some (.bool (g s)) := rfl
theorem cIb_sound {f : Nat} {g : Int → Bool} (h : ∀ s, Am.Sem P f [.int .i64 s] (.bool (g s))) : (Con.pure (cIb g)).Sound P f := by
  intro args v e
  unfold cIb at e
  split at e
  · simp at e; subst e; exact h _
  · simp at e
noncomputable def T113 : Tbl := addT 79 (.pure (cIb fun s => decide (s = 1))) (addT 81 (.pure (cIb fun s => decide (s ≠ 3))) T112)
theorem T113_1 : T113 79 = .pure (cIb fun s => decide (s = 1)) := by simp [T113]
theorem T113_2 : T113 81 = .pure (cIb fun s => decide (s ≠ 3)) := by simp [T113]
theorem T113_v : T113 20 = .pure (cC1 validCB) := by simp [T113, T112]
theorem T113_c : T113 71 = .new cNC := by simp [T113, T112]
theorem T113_t : T113 70 = .pure cTm := by simp [T113, T112]
theorem T113_f : T113 24 = .pure (cCi fun c i => .int .i64 (findIx c.i.l i)) := by simp [T113, T112]
theorem T113_sound : T113.Sound P := addT_sound (cIb_sound fun s => sem_runs mix tbl0_sound Tryd.func79 a79_ok (runs_may1 s)) (addT_sound (cIb_sound fun s => sem_runs mix tbl0_sound Tryd.func81 a81_ok (runs_may2 s)) T112_sound)
noncomputable def changeB (c : Clu) (id t to : Int) : DV := .tup [.agg (clC (changeP c id t to).1), .int .i64 (changeP c id t to).2]
theorem valid_gne {c : Clu} (hv : ValidC c) {k : Nat} (hk : k < c.i.l.length) : c.g.l ≠ [] := by
  intro e
  have h1 := (hv.i k hk).1.g0
  have h2 := (hv.i k hk).1.g1
  rw [e] at h2; simp at h2; omega
set_option maxHeartbeats 4000000 in
theorem runs_change1 (c : Clu) (id t : Int) : Runs T113 a78 [.agg (clC c), .int .i64 id, .int .i64 t, .int .i64 2, .fn (.func 79) [] []] (changeB c id t 2) := by
  refine ⟨?_⟩
  by_cases hv : ValidC c
  case neg =>
    have hd : changeP c id t 2 = (clu0, 1) := by rw [changeP, if_pos (.inl hv)]
    simp (disch := first | omega | (simp [-List.map_take, -List.map_drop, -List.map_set, -List.map_append, -List.drop_one] <;> omega) | fail) [-List.map_take, -List.map_drop, -List.map_set, -List.map_append, -List.drop_one, a78, T113_v, cC1_eq, validCB, T113_t, cTm_eq, T113_f, cCi_eq, changeB, tv_false hv, hd, clC_clu0]
  by_cases ht : timeOK t
  case neg =>
    have hd : changeP c id t 2 = (clu0, 1) := by rw [changeP, if_pos (.inr ht)]
    simp (disch := first | omega | (simp [-List.map_take, -List.map_drop, -List.map_set, -List.map_append, -List.drop_one] <;> omega) | fail) [-List.map_take, -List.map_drop, -List.map_set, -List.map_append, -List.drop_one, a78, T113_v, cC1_eq, validCB, T113_t, cTm_eq, T113_f, cCi_eq, changeB, tv_true hv, tv_false ht, hd, clC_clu0]
  have hnn : ¬ (¬ ValidC c ∨ ¬ timeOK t) := fun h => h.elim (fun h => h hv) (fun h => h ht)
  by_cases hx : findIx c.i.l id < 0
  · have hd : changeP c id t 2 = (clu0, 4) := by rw [changeP, if_neg hnn, if_pos hx]
    simp (disch := first | omega | (simp [-List.map_take, -List.map_drop, -List.map_set, -List.map_append, -List.drop_one] <;> omega) | fail) [-List.map_take, -List.map_drop, -List.map_set, -List.map_append, -List.drop_one, a78, T113_v, cC1_eq, validCB, T113_t, cTm_eq, T113_f, cCi_eq, changeB, tv_true hv, tv_true ht, hx, hd, clC_clu0]
  obtain ⟨k, hk, hke, _, _⟩ := ixI_pos (show 0 ≤ findIx c.i.l id by omega)
  have hke : findIx c.i.l id = k := hke
  have hx' : ¬ (k : Int) < 0 := by omega
  have hk' : (k : Int) < c.i.l.length := by omega
  obtain ⟨x, hxe⟩ : ∃ x, c.i.l[k] = x := ⟨_, rfl⟩
  have hgx : ∀ H, idxSD H 37 (c.i.dv 37 inC) k = some (.ref (inC x)) := fun H => by rw [idxSD_dv len_inC hk, hxe]
  have hopt : c.i.l[k]? = some x := by rw [List.getElem?_eq_getElem hk, hxe]
  by_cases hm : x.state = 1
  case neg =>
    have hd : changeP c id t 2 = (clu0, 30) := by rw [changeP, if_neg hnn, if_neg hx, hke]; simp [hopt, may]; simpa using hm
    have hm' : ¬ x.state = 1 := by simpa using hm
    simp (disch := first | omega | (simp [-List.map_take, -List.map_drop, -List.map_set, -List.map_append, -List.drop_one] <;> omega) | fail) [-List.map_take, -List.map_drop, -List.map_set, -List.map_append, -List.drop_one, a78, T113_v, cC1_eq, validCB, T113_t, cTm_eq, T113_f, cCi_eq, changeB, tv_true hv, tv_true ht, hke, hx', hk', hk, hgx, T113_1, cIb_eq, hm', hd, clC_clu0]
  have hd : changeP c id t 2 = (⟨c.clone.g, own (c.i.l.set k ((x.st 2).si t)), c.next⟩, 0) := by
    rw [changeP, if_neg hnn, if_neg hx, hke, if_pos (by simp [hopt, may]; simpa using hm)]
    simp only [Int.toNat_natCast, setI, hopt]
  have hm' : x.state = 1 := by simpa using hm
  have ho := own_dv (l := c.i.l.set k ((x.st 2).si t)) (s := 37) (f := inC) (by rw [List.length_set]; exact c.i.b)
  have ha : ∀ l : List Grp, (l.flatMap grC).length = l.length * 6 := fm_len len_grC
  have hb : ∀ l : List Ins, (l.flatMap inC).length = l.length * 37 := fm_len len_inC
  have hg := valid_gne hv hk
  have hi : c.i.l ≠ [] := by intro e; rw [e] at hk; simp at hk
  have e2 := mutO_ne (f := grC) hg
  have e3 := mutD_ne (id := 4) (s := 6) (f := grC) (clone_gne hg)
  have e4 := mutO_ne (f := grC) (clone_gne hg)
  have e6 := clone_g_ne hg
  have e7 := take_grs (l := c.g.l.map Grp.clone) (n := c.g.l.length) (by simp)
  have f1 := mutD_ne (id := 5) (s := 37) (f := inC) hi
  have f2 := mutO_ne (f := inC) hi
  have s1 : ∀ H id, storeO H id 1 (k * 37 + 34) (.int .i64 2) (some (c.i.l.flatMap inC)) = some (.junk, H.set id (.cells ((c.i.l.set k (x.st 2)).flatMap inC))) := fun H id => by rw [store_st hk, hxe]
  have s2 : ∀ H id, storeO H id 1 (k * 37 + 35) (.int .i64 t) (some ((c.i.l.set k (x.st 2)).flatMap inC)) = some (.junk, H.set id (.cells ((c.i.l.set k ((x.st 2).si t)).flatMap inC))) := fun H id => by
    rw [store_si (by rw [List.length_set]; exact hk), List.getElem_set_self, List.set_set]
  have e8 := take_ins (l := c.i.l.set k ((x.st 2).si t)) (n := c.i.l.length) (by rw [List.length_set]; exact Nat.le_refl _)
  simp (disch := first | omega | (simp [-List.map_take, -List.map_drop, -List.map_set, -List.map_append, -List.drop_one] <;> omega) | fail) [-List.map_take, -List.map_drop, -List.map_set, -List.map_append, -List.drop_one, a78, T113_v, cC1_eq, validCB, T113_t, cTm_eq, T113_f, cCi_eq, changeB, tv_true hv, tv_true ht, hke, hx', hk', hk, hgx, T113_1, cIb_eq, hm', T113_c, cNC_eq, clW, e2, e3, e4, e6, e7, e8, f1, f2, ha, hb, clone_gl, storeO_one, s1, s2, hd, clC_mk, ho]
set_option maxHeartbeats 4000000 in
theorem runs_change2 (c : Clu) (id t : Int) : Runs T113 a78 [.agg (clC c), .int .i64 id, .int .i64 t, .int .i64 3, .fn (.func 81) [] []] (changeB c id t 3) := by
  refine ⟨?_⟩
  by_cases hv : ValidC c
  case neg =>
    have hd : changeP c id t 3 = (clu0, 1) := by rw [changeP, if_pos (.inl hv)]
    simp (disch := first | omega | (simp [-List.map_take, -List.map_drop, -List.map_set, -List.map_append, -List.drop_one] <;> omega) | fail) [-List.map_take, -List.map_drop, -List.map_set, -List.map_append, -List.drop_one, a78, T113_v, cC1_eq, validCB, T113_t, cTm_eq, T113_f, cCi_eq, changeB, tv_false hv, hd, clC_clu0]
  by_cases ht : timeOK t
  case neg =>
    have hd : changeP c id t 3 = (clu0, 1) := by rw [changeP, if_pos (.inr ht)]
    simp (disch := first | omega | (simp [-List.map_take, -List.map_drop, -List.map_set, -List.map_append, -List.drop_one] <;> omega) | fail) [-List.map_take, -List.map_drop, -List.map_set, -List.map_append, -List.drop_one, a78, T113_v, cC1_eq, validCB, T113_t, cTm_eq, T113_f, cCi_eq, changeB, tv_true hv, tv_false ht, hd, clC_clu0]
  have hnn : ¬ (¬ ValidC c ∨ ¬ timeOK t) := fun h => h.elim (fun h => h hv) (fun h => h ht)
  by_cases hx : findIx c.i.l id < 0
  · have hd : changeP c id t 3 = (clu0, 4) := by rw [changeP, if_neg hnn, if_pos hx]
    simp (disch := first | omega | (simp [-List.map_take, -List.map_drop, -List.map_set, -List.map_append, -List.drop_one] <;> omega) | fail) [-List.map_take, -List.map_drop, -List.map_set, -List.map_append, -List.drop_one, a78, T113_v, cC1_eq, validCB, T113_t, cTm_eq, T113_f, cCi_eq, changeB, tv_true hv, tv_true ht, hx, hd, clC_clu0]
  obtain ⟨k, hk, hke, _, _⟩ := ixI_pos (show 0 ≤ findIx c.i.l id by omega)
  have hke : findIx c.i.l id = k := hke
  have hx' : ¬ (k : Int) < 0 := by omega
  have hk' : (k : Int) < c.i.l.length := by omega
  obtain ⟨x, hxe⟩ : ∃ x, c.i.l[k] = x := ⟨_, rfl⟩
  have hgx : ∀ H, idxSD H 37 (c.i.dv 37 inC) k = some (.ref (inC x)) := fun H => by rw [idxSD_dv len_inC hk, hxe]
  have hopt : c.i.l[k]? = some x := by rw [List.getElem?_eq_getElem hk, hxe]
  by_cases hm : x.state ≠ 3
  case neg =>
    have hd : changeP c id t 3 = (clu0, 30) := by rw [changeP, if_neg hnn, if_neg hx, hke]; simp [hopt, may]; simpa using hm
    have hm' : x.state = 3 := by simpa using hm
    simp (disch := first | omega | (simp [-List.map_take, -List.map_drop, -List.map_set, -List.map_append, -List.drop_one] <;> omega) | fail) [-List.map_take, -List.map_drop, -List.map_set, -List.map_append, -List.drop_one, a78, T113_v, cC1_eq, validCB, T113_t, cTm_eq, T113_f, cCi_eq, changeB, tv_true hv, tv_true ht, hke, hx', hk', hk, hgx, T113_2, cIb_eq, hm', hd, clC_clu0]
  have hd : changeP c id t 3 = (⟨c.clone.g, own (c.i.l.set k ((x.st 3).si t)), c.next⟩, 0) := by
    rw [changeP, if_neg hnn, if_neg hx, hke, if_pos (by simp [hopt, may]; simpa using hm)]
    simp only [Int.toNat_natCast, setI, hopt]
  have hm' : ¬ x.state = 3 := by simpa using hm
  have ho := own_dv (l := c.i.l.set k ((x.st 3).si t)) (s := 37) (f := inC) (by rw [List.length_set]; exact c.i.b)
  have ha : ∀ l : List Grp, (l.flatMap grC).length = l.length * 6 := fm_len len_grC
  have hb : ∀ l : List Ins, (l.flatMap inC).length = l.length * 37 := fm_len len_inC
  have hg := valid_gne hv hk
  have hi : c.i.l ≠ [] := by intro e; rw [e] at hk; simp at hk
  have e2 := mutO_ne (f := grC) hg
  have e3 := mutD_ne (id := 4) (s := 6) (f := grC) (clone_gne hg)
  have e4 := mutO_ne (f := grC) (clone_gne hg)
  have e6 := clone_g_ne hg
  have e7 := take_grs (l := c.g.l.map Grp.clone) (n := c.g.l.length) (by simp)
  have f1 := mutD_ne (id := 5) (s := 37) (f := inC) hi
  have f2 := mutO_ne (f := inC) hi
  have s1 : ∀ H id, storeO H id 1 (k * 37 + 34) (.int .i64 3) (some (c.i.l.flatMap inC)) = some (.junk, H.set id (.cells ((c.i.l.set k (x.st 3)).flatMap inC))) := fun H id => by rw [store_st hk, hxe]
  have s2 : ∀ H id, storeO H id 1 (k * 37 + 35) (.int .i64 t) (some ((c.i.l.set k (x.st 3)).flatMap inC)) = some (.junk, H.set id (.cells ((c.i.l.set k ((x.st 3).si t)).flatMap inC))) := fun H id => by
    rw [store_si (by rw [List.length_set]; exact hk), List.getElem_set_self, List.set_set]
  have e8 := take_ins (l := c.i.l.set k ((x.st 3).si t)) (n := c.i.l.length) (by rw [List.length_set]; exact Nat.le_refl _)
  simp (disch := first | omega | (simp [-List.map_take, -List.map_drop, -List.map_set, -List.map_append, -List.drop_one] <;> omega) | fail) [-List.map_take, -List.map_drop, -List.map_set, -List.map_append, -List.drop_one, a78, T113_v, cC1_eq, validCB, T113_t, cTm_eq, T113_f, cCi_eq, changeB, tv_true hv, tv_true ht, hke, hx', hk', hk, hgx, T113_2, cIb_eq, hm', T113_c, cNC_eq, clW, e2, e3, e4, e6, e7, e8, f1, f2, ha, hb, clone_gl, storeO_one, s1, s2, hd, clC_mk, ho]
noncomputable def cChg (M : Nat) (to : Int) : List DV → Option DV := con (fun _ => True) (fun p : Clu × Int × Int => [.agg (clC p.1), .int .i64 p.2.1, .int .i64 p.2.2, .int .i64 to, .fn (.func M) [] []]) (fun p => changeB p.1 p.2.1 p.2.2 to)
theorem cChg_eq {M : Nat} {to : Int} {c : Clu} {id t : Int} : cChg M to [.agg (clC c), .int .i64 id, .int .i64 t, .int .i64 to, .fn (.func M) [] []] = some (changeB c id t to) :=
  con_inj (f := fun p : Clu × Int × Int => [.agg (clC p.1), .int .i64 p.2.1, .int .i64 p.2.2, .int .i64 to, .fn (.func M) [] []]) (by
    rintro ⟨a, b, c⟩ ⟨a', b', c'⟩ e
    simp only [List.cons.injEq, DV.agg.injEq, DV.int.injEq, and_true, true_and] at e
    rw [clC_inj e.1, e.2.1, e.2.2]) (c, id, t)
noncomputable def T114 : Tbl := addT 78 (.pure (cChg 79 2)) tbl0
theorem T114_c : T114 78 = .pure (cChg 79 2) := by simp [T114]
theorem T114_sound : T114.Sound P := addT_sound (con_sound fun p _ => sem_runs mix T113_sound Tryd.func78 a78_ok (runs_change1 p.1 p.2.1 p.2.2)) tbl0_sound
noncomputable def T115 : Tbl := addT 78 (.pure (cChg 81 3)) tbl0
theorem T115_c : T115 78 = .pure (cChg 81 3) := by simp [T115]
theorem T115_sound : T115.Sound P := addT_sound (con_sound fun p _ => sem_runs mix T113_sound Tryd.func78 a78_ok (runs_change2 p.1 p.2.1 p.2.2)) tbl0_sound
theorem runs_started (c : Clu) (id t : Int) : Runs T114 a38 [.agg (clC c), .int .i64 id, .int .i64 t] (changeB c id t 2) := by
  refine ⟨?_⟩
  simp (disch := first | omega | (simp [-List.map_take, -List.map_drop, -List.map_set, -List.map_append, -List.drop_one] <;> omega) | fail) [-List.map_take, -List.map_drop, -List.map_set, -List.map_append, -List.drop_one, a38, T114_c, cChg_eq, changeB]
theorem runs_stop (c : Clu) (id t : Int) : Runs T115 a40 [.agg (clC c), .int .i64 id, .int .i64 t] (changeB c id t 3) := by
  refine ⟨?_⟩
  simp (disch := first | omega | (simp [-List.map_take, -List.map_drop, -List.map_set, -List.map_append, -List.drop_one] <;> omega) | fail) [-List.map_take, -List.map_drop, -List.map_set, -List.map_append, -List.drop_one, a40, T115_c, cChg_eq, changeB]
end Go.Proofs.YtjhakjeioppijaaDoor
set_option linter.unusedSimpArgs false
set_option linter.unusedVariables false
namespace Go.Proofs.YtjhakjeioppijaaDoor
open Go Go.Am
def inB (b : Bool) : List DV := [.bool b]
theorem len_inB (b : Bool) : (inB b).length = 1 := rfl
theorem pure_inB (b : Bool) : pureL (inB b) = true := rfl
def markI (den : List Bool) (t : Int) (i : Nat) (x : Ins) : Ins := if den.getD i false = true then (if x.den = -1 then x.de t else x) else x.de (-1)
def markL (den : List Bool) (t : Int) (l : List Ins) : List Ins := l.mapIdx (markI den t)
theorem markL_len {den : List Bool} {t : Int} {l : List Ins} : (markL den t l).length = l.length := by simp [markL]
theorem markL_nil {den : List Bool} {t : Int} {l : List Ins} : markL den t l = [] ↔ l = [] := by simp [markL]
theorem markL_get {den : List Bool} {t : Int} {l : List Ins} {i : Nat} (h : i < l.length) (h' : i < (markL den t l).length) : (markL den t l)[i] = markI den t i l[i] := by simp [markL]
def mkI (den : List Bool) (t : Int) (l : List Ins) (i : Nat) : List Ins := (markL den t l).take i ++ l.drop i
theorem mkI_zero {den : List Bool} {t : Int} {l : List Ins} : mkI den t l 0 = l := rfl
theorem mkI_all {den : List Bool} {t : Int} {l : List Ins} {i : Nat} (h : l.length ≤ i) : mkI den t l i = markL den t l := by
  rw [mkI, List.take_of_length_le (by rw [markL_len]; exact h), List.drop_of_length_le h, List.append_nil]
theorem mkI_len {den : List Bool} {t : Int} {l : List Ins} {i : Nat} : (mkI den t l i).length = l.length := by simp [mkI, markL_len]; omega
theorem mkI_get {den : List Bool} {t : Int} {l : List Ins} {i : Nat} (h : i < l.length) (h' : i < (mkI den t l i).length) : (mkI den t l i)[i] = l[i] := by
  simp only [mkI]
  rw [List.getElem_append_right (by simp; omega)]
  simp [markL_len, Nat.min_eq_left (Nat.le_of_lt h)]
theorem mkI_set {den : List Bool} {t : Int} {l : List Ins} {i : Nat} (h : i < l.length) : (mkI den t l i).set i (markI den t i l[i]) = mkI den t l (i + 1) := by
  have hl : ((markL den t l).take i).length = i := by rw [List.length_take, markL_len]; omega
  have hm : i < (markL den t l).length := by rw [markL_len]; exact h
  simp only [mkI]
  rw [List.set_append_right _ _ (by omega), hl, Nat.sub_self, take_snoc hm, List.drop_eq_getElem_cons h, List.set_cons_zero, List.append_assoc, markL_get h hm]
  rfl
theorem mkI_same {den : List Bool} {t : Int} {l : List Ins} {i : Nat} (h : i < l.length) (he : markI den t i l[i] = l[i]) : mkI den t l i = mkI den t l (i + 1) := by
  rw [← mkI_set h, he]
  have h' : i < (mkI den t l i).length := by rw [mkI_len]; exact h
  have := mkI_get (den := den) (t := t) h h'
  rw [← this, List.set_getElem_self]
def markSl (den : List Bool) (t : Int) (x : Sl Ins) : Sl Ins := ⟨x.clone.k, markL den t x.l, fun e => markL_nil.2 (x.clone.h e), by rw [markL_len]; exact x.b⟩
open Classical in
noncomputable def markP (c : Clu) (den : List Bool) (t : Int) : Clu := if ¬ ValidC c ∨ ¬ timeOK t then c.clone else ⟨c.clone.g, markSl den t c.i, c.next⟩
theorem one_den {l : List Ins} {i : Nat} (h : i < l.length) : one 1 false ((l.flatMap inC).drop (i * 37 + 36)) = some (.int .i64 l[i].den) := by
  rw [← List.drop_drop, fm_drop len_inC, List.drop_eq_getElem_cons h, List.flatMap_cons, List.drop_append_of_le_length (by rw [len_inC]; omega), inC_drop36]
  rfl
def S190 (c : Clu) (den : Sl Bool) (t : Int) (id : Nat) (gd : DV) (gO : List AObj) (i : Nat) : St :=
  a30S0 (den.dv 1 inB) (.int .i64 t) (.mp 0 3 0) (.mp 1 3 0) (.int .i64 c.i.l.length) (.int .i64 i) (.cells [gd, .ms id (c.i.l.length * 37) 0 37 c.i.l.length (c.i.l.length * 37), .int .i64 c.next] :: .cells [.nils, .nils, .int .i64 0] :: .cells [gd, .ms id (c.i.l.length * 37) 0 37 c.i.l.length (c.i.l.length * 37), .int .i64 c.next] :: .cells [gd, .ms id (c.i.l.length * 37) 0 37 c.i.l.length (c.i.l.length * 37), .int .i64 c.next] :: (gO ++ [.cells ((mkI den.l t c.i.l i).flatMap inC)]))
def S191 (c : Clu) (den : Sl Bool) (t : Int) (gd idv : DV) (gO : List AObj) : St :=
  a30S0 (den.dv 1 inB) (.int .i64 t) (.mp 0 3 0) (.mp 1 3 0) (.int .i64 0) (.int .i64 0) (.cells [gd, idv, .int .i64 c.next] :: .cells [.nils, .nils, .int .i64 0] :: .cells [gd, idv, .int .i64 c.next] :: .cells [gd, idv, .int .i64 c.next] :: gO)
theorem markSl_nil {den : List Bool} {t : Int} {x : Sl Ins} (h : x.l = []) : (markSl den t x).dv 37 inC = x.clone.dv 37 inC := by
  have h1 : markL den t x.l = x.clone.l := by rw [show x.clone.l = x.l from rfl, h]; rfl
  simp only [markSl, Sl.dv, h1]
theorem markSl_ne {den : List Bool} {t : Int} {x : Sl Ins} (h : x.l ≠ []) : (markSl den t x).dv 37 inC = .sl false 37 x.l.length ((markL den t x.l).flatMap inC) := by
  simp [markSl, Sl.dv, Sl.clone, h, slD, markL_len]
theorem take_mk {den : List Bool} {t : Int} {l : List Ins} {i : Nat} : ((mkI den t l i).flatMap inC).take (l.length * 37) = (mkI den t l i).flatMap inC := take_ins (by rw [mkI_len]; exact Nat.le_refl _)
set_option maxHeartbeats 4000000 in
theorem runs_mark (c : Clu) (den : Sl Bool) (t : Int) : Runs T112 a30 [.agg (clC c), den.dv 1 inB, .int .i64 t] (.agg (clC (markP c den.l t))) := by
  refine ⟨?_⟩
  have hbd := den.b
  have ha : ∀ l : List Grp, (l.flatMap grC).length = l.length * 6 := fm_len len_grC
  have hb : ∀ l : List Ins, (l.flatMap inC).length = l.length * 37 := fm_len len_inC
  have e7 := take_grs (l := c.g.l.map Grp.clone) (n := c.g.l.length) (by simp)
  have e9 := take_ins (l := c.i.l) (n := c.i.l.length) (Nat.le_refl _)
  have hpd : pureD (den.dv 1 inB) = true := dv_pure pure_inB den
  have q3 : clC c.clone = [c.clone.g.dv 6 grC, c.i.clone.dv 37 inC, .int .i64 c.next] := rfl
  by_cases hvt : ValidC c ∧ timeOK t
  case neg =>
    have hd : markP c den.l t = c.clone := by
      rw [markP, if_pos]
      by_cases h1 : ValidC c
      · exact .inr fun h2 => hvt ⟨h1, h2⟩
      · exact .inl h1
    have hc : tv (ValidC c) = false ∨ (tv (ValidC c) = true ∧ tv (timeOK t) = false) := by
      by_cases h1 : ValidC c
      · exact .inr ⟨tv_true h1, tv_false fun h2 => hvt ⟨h1, h2⟩⟩
      · exact .inl (tv_false h1)
    by_cases hg : c.g.l = []
    · skip
      have e2 := mutO_nil (f := grC) hg
      have e3 := fun id => mutD_nil (id := id) (s := 6) (f := grC) (clone_gnil hg)
      have e4 := mutO_nil (f := grC) (clone_gnil hg)
      have e8 : c.clone.g.dv 6 grC = c.g.clone.dv 6 grC := by simp [Clu.clone, Sl.dv, Sl.clone, hg]
      have e5 := clone_dvnil hg
      by_cases hi : c.i.l = []
      · skip
        have f1 := fun id => mutD_nil (id := id) (s := 37) (f := inC) hi
        have f2 := mutO_nil (f := inC) hi
        have f3 := f1 0
        rcases hc with h1 | ⟨h1, h2⟩
        · simp (disch := first | omega | (simp [-List.map_take, -List.map_drop, -List.map_set, -List.map_append, -List.drop_one] <;> omega) | fail) [-List.map_take, -List.map_drop, -List.map_set, -List.map_append, -List.drop_one, a30, T112_v, cC1_eq, validCB, T112_t, cTm_eq, T112_c, cNC_eq, clW, hd, q3, ha, hb, e7, e9, hpd, e8, h1, e2, e3, e4, e5, f1, f2, f3, clone_gl]
        · simp (disch := first | omega | (simp [-List.map_take, -List.map_drop, -List.map_set, -List.map_append, -List.drop_one] <;> omega) | fail) [-List.map_take, -List.map_drop, -List.map_set, -List.map_append, -List.drop_one, a30, T112_v, cC1_eq, validCB, T112_t, cTm_eq, T112_c, cNC_eq, clW, hd, q3, ha, hb, e7, e9, hpd, e8, h1, h2, e2, e3, e4, e5, f1, f2, f3, clone_gl]
      · skip
        have f1 := fun id => mutD_ne (id := id) (s := 37) (f := inC) hi
        have f2 := mutO_ne (f := inC) hi
        have f3 := clone_dv_ne (s := 37) (f := inC) hi
        rcases hc with h1 | ⟨h1, h2⟩
        · simp (disch := first | omega | (simp [-List.map_take, -List.map_drop, -List.map_set, -List.map_append, -List.drop_one] <;> omega) | fail) [-List.map_take, -List.map_drop, -List.map_set, -List.map_append, -List.drop_one, a30, T112_v, cC1_eq, validCB, T112_t, cTm_eq, T112_c, cNC_eq, clW, hd, q3, ha, hb, e7, e9, hpd, e8, h1, e2, e3, e4, e5, f1, f2, f3, clone_gl]
        · simp (disch := first | omega | (simp [-List.map_take, -List.map_drop, -List.map_set, -List.map_append, -List.drop_one] <;> omega) | fail) [-List.map_take, -List.map_drop, -List.map_set, -List.map_append, -List.drop_one, a30, T112_v, cC1_eq, validCB, T112_t, cTm_eq, T112_c, cNC_eq, clW, hd, q3, ha, hb, e7, e9, hpd, e8, h1, h2, e2, e3, e4, e5, f1, f2, f3, clone_gl]
    · skip
      have e2 := mutO_ne (f := grC) hg
      have e3 := fun id => mutD_ne (id := id) (s := 6) (f := grC) (clone_gne hg)
      have e4 := mutO_ne (f := grC) (clone_gne hg)
      have e5 := clone_g_ne hg
      by_cases hi : c.i.l = []
      · skip
        have f1 := fun id => mutD_nil (id := id) (s := 37) (f := inC) hi
        have f2 := mutO_nil (f := inC) hi
        have f3 := f1 0
        rcases hc with h1 | ⟨h1, h2⟩
        · simp (disch := first | omega | (simp [-List.map_take, -List.map_drop, -List.map_set, -List.map_append, -List.drop_one] <;> omega) | fail) [-List.map_take, -List.map_drop, -List.map_set, -List.map_append, -List.drop_one, a30, T112_v, cC1_eq, validCB, T112_t, cTm_eq, T112_c, cNC_eq, clW, hd, q3, ha, hb, e7, e9, hpd, h1, e2, e3, e4, e5, f1, f2, f3, clone_gl]
        · simp (disch := first | omega | (simp [-List.map_take, -List.map_drop, -List.map_set, -List.map_append, -List.drop_one] <;> omega) | fail) [-List.map_take, -List.map_drop, -List.map_set, -List.map_append, -List.drop_one, a30, T112_v, cC1_eq, validCB, T112_t, cTm_eq, T112_c, cNC_eq, clW, hd, q3, ha, hb, e7, e9, hpd, h1, h2, e2, e3, e4, e5, f1, f2, f3, clone_gl]
      · skip
        have f1 := fun id => mutD_ne (id := id) (s := 37) (f := inC) hi
        have f2 := mutO_ne (f := inC) hi
        have f3 := clone_dv_ne (s := 37) (f := inC) hi
        rcases hc with h1 | ⟨h1, h2⟩
        · simp (disch := first | omega | (simp [-List.map_take, -List.map_drop, -List.map_set, -List.map_append, -List.drop_one] <;> omega) | fail) [-List.map_take, -List.map_drop, -List.map_set, -List.map_append, -List.drop_one, a30, T112_v, cC1_eq, validCB, T112_t, cTm_eq, T112_c, cNC_eq, clW, hd, q3, ha, hb, e7, e9, hpd, h1, e2, e3, e4, e5, f1, f2, f3, clone_gl]
        · simp (disch := first | omega | (simp [-List.map_take, -List.map_drop, -List.map_set, -List.map_append, -List.drop_one] <;> omega) | fail) [-List.map_take, -List.map_drop, -List.map_set, -List.map_append, -List.drop_one, a30, T112_v, cC1_eq, validCB, T112_t, cTm_eq, T112_c, cNC_eq, clW, hd, q3, ha, hb, e7, e9, hpd, h1, h2, e2, e3, e4, e5, f1, f2, f3, clone_gl]
  obtain ⟨hv, ht⟩ := hvt
  have hd : markP c den.l t = ⟨c.clone.g, markSl den.l t c.i, c.next⟩ := by rw [markP, if_neg fun h => h.elim (fun h => h hv) (fun h => h ht)]
  have h1 := tv_true hv
  have h2 := tv_true ht
  by_cases hi : c.i.l = []
  · have f1 := fun id => mutD_nil (id := id) (s := 37) (f := inC) hi
    have f2 := mutO_nil (f := inC) hi
    have f3 := markSl_nil (den := den.l) (t := t) hi
    have f4 : c.i.clone.l.length = 0 := by rw [show c.i.clone.l = c.i.l from rfl, hi]; rfl
    by_cases hg : c.g.l = []
    · skip
      have e2 := mutO_nil (f := grC) hg
      have e3 := fun id => mutD_nil (id := id) (s := 6) (f := grC) (clone_gnil hg)
      have e4 := mutO_nil (f := grC) (clone_gnil hg)
      have e8 : c.clone.g.dv 6 grC = c.g.clone.dv 6 grC := by simp [Clu.clone, Sl.dv, Sl.clone, hg]
      have e5 := clone_dvnil hg
      simp (disch := first | omega | (simp [-List.map_take, -List.map_drop, -List.map_set, -List.map_append, -List.drop_one] <;> omega) | fail) [-List.map_take, -List.map_drop, -List.map_set, -List.map_append, -List.drop_one, a30, T112_v, cC1_eq, validCB, T112_t, cTm_eq, T112_c, cNC_eq, clW, hd, q3, ha, hb, e7, e9, hpd, h1, h2, e2, e3, e4, e5, f1, f2, f4, clone_gl]
      refine W_loop (fun _ : Nat => S191 c den t (c.clone.g.dv 6 grC) (c.i.clone.dv 37 inC) []) (fun _ => 0) (fun _ => True) 0 (weak_same (by simp (disch := first | omega | (simp [-List.map_take, -List.map_drop, -List.map_set, -List.map_append, -List.drop_one] <;> omega) | fail) [-List.map_take, -List.map_drop, -List.map_set, -List.map_append, -List.drop_one, S191, a30S0]) (by simp (disch := first | omega | (simp [-List.map_take, -List.map_drop, -List.map_set, -List.map_append, -List.drop_one] <;> omega) | fail) [-List.map_take, -List.map_drop, -List.map_set, -List.map_append, -List.drop_one, S191, e8])) trivial (fun _ _ => ?_)
      simp (disch := first | omega | (simp [-List.map_take, -List.map_drop, -List.map_set, -List.map_append, -List.drop_one] <;> omega) | fail) [-List.map_take, -List.map_drop, -List.map_set, -List.map_append, -List.drop_one, a30L0, a30S0, S191, clC_mk, f3, e5, e8]
    · skip
      have e2 := mutO_ne (f := grC) hg
      have e3 := fun id => mutD_ne (id := id) (s := 6) (f := grC) (clone_gne hg)
      have e4 := mutO_ne (f := grC) (clone_gne hg)
      have e5 := clone_g_ne hg
      simp (disch := first | omega | (simp [-List.map_take, -List.map_drop, -List.map_set, -List.map_append, -List.drop_one] <;> omega) | fail) [-List.map_take, -List.map_drop, -List.map_set, -List.map_append, -List.drop_one, a30, T112_v, cC1_eq, validCB, T112_t, cTm_eq, T112_c, cNC_eq, clW, hd, q3, ha, hb, e7, e9, hpd, h1, h2, e2, e3, e4, e5, f1, f2, f4, clone_gl]
      refine W_loop (fun _ : Nat => S191 c den t (.ms 4 (c.g.l.length * 6) 0 6 c.g.l.length (c.g.l.length * 6)) (c.i.clone.dv 37 inC) [.cells ((c.g.l.map Grp.clone).flatMap grC)]) (fun _ => 0) (fun _ => True) 0 (weak_same (by simp (disch := first | omega | (simp [-List.map_take, -List.map_drop, -List.map_set, -List.map_append, -List.drop_one] <;> omega) | fail) [-List.map_take, -List.map_drop, -List.map_set, -List.map_append, -List.drop_one, S191, a30S0]) (by simp (disch := first | omega | (simp [-List.map_take, -List.map_drop, -List.map_set, -List.map_append, -List.drop_one] <;> omega) | fail) [-List.map_take, -List.map_drop, -List.map_set, -List.map_append, -List.drop_one, S191])) trivial (fun _ _ => ?_)
      simp (disch := first | omega | (simp [-List.map_take, -List.map_drop, -List.map_set, -List.map_append, -List.drop_one] <;> omega) | fail) [-List.map_take, -List.map_drop, -List.map_set, -List.map_append, -List.drop_one, a30L0, a30S0, S191, clC_mk, f3, e5, e7, ha, hb]
  · have hg := valid_gne hv (List.length_pos_iff.2 hi)
    have f1 := fun id => mutD_ne (id := id) (s := 37) (f := inC) hi
    have f2 := mutO_ne (f := inC) hi
    have f3 := markSl_ne (den := den.l) (t := t) hi
    have e2 := mutO_ne (f := grC) hg
    have e3 := fun id => mutD_ne (id := id) (s := 6) (f := grC) (clone_gne hg)
    have e4 := mutO_ne (f := grC) (clone_gne hg)
    have e5 := clone_g_ne hg
    have hib := c.i.b
    simp (disch := first | omega | (simp [-List.map_take, -List.map_drop, -List.map_set, -List.map_append, -List.drop_one] <;> omega) | fail) [-List.map_take, -List.map_drop, -List.map_set, -List.map_append, -List.drop_one, a30, T112_v, cC1_eq, validCB, T112_t, cTm_eq, T112_c, cNC_eq, clW, hd, q3, ha, hb, e7, e9, hpd, h1, h2, e2, e3, e4, e5, f1, f2, clone_gl]
    refine W_loop (S190 c den t 5 (.ms 4 (c.g.l.length * 6) 0 6 c.g.l.length (c.g.l.length * 6)) [.cells ((c.g.l.map Grp.clone).flatMap grC)]) (fun i => c.i.l.length - i) (fun i => i ≤ c.i.l.length) 0 (weak_same (by simp (disch := first | omega | (simp [-List.map_take, -List.map_drop, -List.map_set, -List.map_append, -List.drop_one] <;> omega) | fail) [-List.map_take, -List.map_drop, -List.map_set, -List.map_append, -List.drop_one, a30S0]) (by simp (disch := first | omega | (simp [-List.map_take, -List.map_drop, -List.map_set, -List.map_append, -List.drop_one] <;> omega) | fail) [-List.map_take, -List.map_drop, -List.map_set, -List.map_append, -List.drop_one, mkI_zero])) (by omega) (fun i hile => ?_)
    have hml := mkI_len (den := den.l) (t := t) (l := c.i.l) (i := i)
    have hmf := hb (mkI den.l t c.i.l i)
    rw [hml] at hmf
    simp (disch := first | omega | (simp [-List.map_take, -List.map_drop, -List.map_set, -List.map_append, -List.drop_one] <;> omega) | fail) [-List.map_take, -List.map_drop, -List.map_set, -List.map_append, -List.drop_one, a30L0, a30S0, S190]
    by_cases h : i < c.i.l.length
    · have h' : (i : Int) < c.i.l.length := by omega
      have hi2 : i < (mkI den.l t c.i.l i).length := by omega
      have k1 := fun H id v => store_de (H := H) (id := id) (v := v) hi2
      have k2 := one_den hi2
      rw [mkI_get h hi2] at k1 k2
      have fin : ∀ x, markI den.l t i c.i.l[i] = x → (mkI den.l t c.i.l i).set i x = mkI den.l t c.i.l (i + 1) := fun x e => by rw [← e]; exact mkI_set h
      by_cases hdl : i < den.l.length
      · have hdl' : (i : Int) < den.l.length := by omega
        have hgd : ∀ H, idxSD H 1 (den.dv 1 inB) i = some (.ref (inB den.l[i])) := fun H => idxSD_dv len_inB hdl
        have hob : ∀ b, one 1 false (inB b) = some (.bool b) := fun b => rfl
        have hgb : den.l.getD i false = den.l[i] := by rw [List.getD_eq_getElem?_getD, List.getElem?_eq_getElem hdl]; rfl
        cases hbv : den.l[i] with
        | false =>
          have hm : markI den.l t i c.i.l[i] = c.i.l[i].de (-1) := by rw [markI, hgb, hbv]; rfl
          have := fin _ hm
          simp (disch := first | omega | (simp [-List.map_take, -List.map_drop, -List.map_set, -List.map_append, -List.drop_one] <;> omega) | fail) [-List.map_take, -List.map_drop, -List.map_set, -List.map_append, -List.drop_one, h', h, hdl, hdl', hgd, hob, hbv, hmf, k1, k2, this]
          exact ⟨i + 1, weak_same (by simp (disch := first | omega | (simp [-List.map_take, -List.map_drop, -List.map_set, -List.map_append, -List.drop_one] <;> omega) | fail) [-List.map_take, -List.map_drop, -List.map_set, -List.map_append, -List.drop_one]) (by simp (disch := first | omega | (simp [-List.map_take, -List.map_drop, -List.map_set, -List.map_append, -List.drop_one] <;> omega) | fail) [-List.map_take, -List.map_drop, -List.map_set, -List.map_append, -List.drop_one]), by omega, by omega⟩
        | true =>
          by_cases hx : c.i.l[i].den = -1
          · have hm : markI den.l t i c.i.l[i] = c.i.l[i].de t := by rw [markI, hgb, hbv, if_pos rfl, if_pos hx]
            have := fin _ hm
            simp (disch := first | omega | (simp [-List.map_take, -List.map_drop, -List.map_set, -List.map_append, -List.drop_one] <;> omega) | fail) [-List.map_take, -List.map_drop, -List.map_set, -List.map_append, -List.drop_one, h', h, hdl, hdl', hgd, hob, hbv, hmf, k1, k2, hx, this]
            exact ⟨i + 1, weak_same (by simp (disch := first | omega | (simp [-List.map_take, -List.map_drop, -List.map_set, -List.map_append, -List.drop_one] <;> omega) | fail) [-List.map_take, -List.map_drop, -List.map_set, -List.map_append, -List.drop_one]) (by simp (disch := first | omega | (simp [-List.map_take, -List.map_drop, -List.map_set, -List.map_append, -List.drop_one] <;> omega) | fail) [-List.map_take, -List.map_drop, -List.map_set, -List.map_append, -List.drop_one]), by omega, by omega⟩
          · have hm : markI den.l t i c.i.l[i] = c.i.l[i] := by rw [markI, hgb, hbv, if_pos rfl, if_neg hx]
            have := mkI_same h hm
            simp (disch := first | omega | (simp [-List.map_take, -List.map_drop, -List.map_set, -List.map_append, -List.drop_one] <;> omega) | fail) [-List.map_take, -List.map_drop, -List.map_set, -List.map_append, -List.drop_one, h', h, hdl, hdl', hgd, hob, hbv, hmf, k1, k2, hx]
            exact ⟨i + 1, weak_same (by simp (disch := first | omega | (simp [-List.map_take, -List.map_drop, -List.map_set, -List.map_append, -List.drop_one] <;> omega) | fail) [-List.map_take, -List.map_drop, -List.map_set, -List.map_append, -List.drop_one]) (by simp (disch := first | omega | (simp [-List.map_take, -List.map_drop, -List.map_set, -List.map_append, -List.drop_one] <;> omega) | fail) [-List.map_take, -List.map_drop, -List.map_set, -List.map_append, -List.drop_one, this]), by omega, by omega⟩
      · have hdl' : ¬ (i : Int) < den.l.length := by omega
        have hgb : den.l.getD i false = false := by rw [List.getD_eq_getElem?_getD, List.getElem?_eq_none (by omega)]; rfl
        have hm : markI den.l t i c.i.l[i] = c.i.l[i].de (-1) := by rw [markI, hgb]; rfl
        have := fin _ hm
        simp (disch := first | omega | (simp [-List.map_take, -List.map_drop, -List.map_set, -List.map_append, -List.drop_one] <;> omega) | fail) [-List.map_take, -List.map_drop, -List.map_set, -List.map_append, -List.drop_one, h', h, hdl, hdl', hmf, k1, k2, this]
        exact ⟨i + 1, weak_same (by simp (disch := first | omega | (simp [-List.map_take, -List.map_drop, -List.map_set, -List.map_append, -List.drop_one] <;> omega) | fail) [-List.map_take, -List.map_drop, -List.map_set, -List.map_append, -List.drop_one]) (by simp (disch := first | omega | (simp [-List.map_take, -List.map_drop, -List.map_set, -List.map_append, -List.drop_one] <;> omega) | fail) [-List.map_take, -List.map_drop, -List.map_set, -List.map_append, -List.drop_one]), by omega, by omega⟩
    · have h' : ¬ (i : Int) < c.i.l.length := by omega
      have hma := mkI_all (den := den.l) (t := t) (l := c.i.l) (i := i) (by omega)
      have htk := take_mk (den := den.l) (t := t) (l := c.i.l) (i := i)
      have hmb := hmf
      rw [hma] at htk hmb
      simp (disch := first | omega | (simp [-List.map_take, -List.map_drop, -List.map_set, -List.map_append, -List.drop_one] <;> omega) | fail) [-List.map_take, -List.map_drop, -List.map_set, -List.map_append, -List.drop_one, h, h', hma, htk, hmb, clC_mk, f3, e5, e7, ha, hb]
end Go.Proofs.YtjhakjeioppijaaDoor
set_option linter.unusedSimpArgs false
set_option linter.unusedVariables false
namespace Go.Proofs.YtjhakjeioppijaaDoor
open Go Go.Am
theorem objV_preD {pre l : List AObj} {ver : Nat} : objV (pre ++ l) pre.length ver = objV l 0 ver := by
  unfold objV objAt; rw [List.getElem?_append_right (by omega), Nat.sub_self]
theorem set_preD {pre l : List AObj} {o : AObj} : (pre ++ l).set pre.length o = pre ++ l.set 0 o := by rw [List.set_append_right _ _ (by omega)]; simp
def inz : Ins := ⟨0, 0, dg0, 0, 0, 0⟩
theorem all_inD (D : List Ins) : (D.flatMap inC).all DV.one = true := by
  have h1 : ∀ x : Ins, (inC x).all DV.one = true := fun x => by
    have hd : (dgC x.art).all DV.one = true := by simp [dgC, DV.one, w8]
    simp only [inC, List.all_cons, List.all_append, hd, List.all_nil, Bool.and_true, DV.one]
  rw [List.all_flatMap, List.all_eq_true]
  exact fun x _ => h1 x
structure DelF (pre : List AObj) (l : List Ins) (i n : Nat) : Prop where
  s1 : slcSD (pre ++ [.cells (l.flatMap inC)]) 37 (.ms pre.length (n * 37) 0 37 n (n * 37)) (some (.int .i64 i)) (some (.int .i64 ((i : Int) + 1))) (some (.int .i64 n)) = some .junk
  s2 : slcSD (pre ++ [.cells (l.flatMap inC)]) 37 (.ms pre.length (n * 37) 0 37 n (n * 37)) none (some (.int .i64 i)) none = some (.ms pre.length (n * 37) 0 37 i (n * 37))
  s3 : slcSD (pre ++ [.cells (l.flatMap inC)]) 37 (.ms pre.length (n * 37) 0 37 n (n * 37)) (some (.int .i64 ((i : Int) + 1))) none none = some (.ms pre.length (n * 37) ((i + 1) * 37) 37 (n - (i + 1)) (n * 37))
  y : visY (pre ++ [.cells (l.flatMap inC)]) (.ms pre.length (n * 37) ((i + 1) * 37) 37 (n - (i + 1)) (n * 37)) = some (n - (i + 1), (l.drop (i + 1)).flatMap inC)
  a : appX (pre ++ [.cells (l.flatMap inC)]) 37 72 (.ms pre.length (n * 37) 0 37 i (n * 37)) (n - (i + 1)) ((l.drop (i + 1)).flatMap inC) = some (.ms pre.length (n * 37) 0 37 (n - 1) (n * 37), pre ++ [.cells ((l.eraseIdx i ++ l.drop (n - 1)).flatMap inC)])
  ln : lenD (pre ++ [.cells ((l.eraseIdx i ++ l.drop (n - 1)).flatMap inC)]) (.ms pre.length (n * 37) 0 37 (n - 1) (n * 37)) = some (.int .i64 ((n : Int) - 1))
  s4 : slcSD (pre ++ [.cells ((l.eraseIdx i ++ l.drop (n - 1)).flatMap inC)]) 37 (.ms pre.length (n * 37) 0 37 (n - 1) (n * 37)) (some (.int .i64 ((n : Int) - 1))) (some (.int .i64 n)) none = some (.ms pre.length (n * 37) ((n - 1) * 37) 37 1 (n * 37))
  c : clrD (pre ++ [.cells ((l.eraseIdx i ++ l.drop (n - 1)).flatMap inC)]) 37 (inC inz) (.ms pre.length (n * 37) ((n - 1) * 37) 37 1 (n * 37)) = some (.tup [], pre ++ [.cells ((l.eraseIdx i ++ [inz]).flatMap inC)])
theorem splice_in2 {A B C D : List Ins} (h : B.length = D.length) : splice ((A ++ (B ++ C)).flatMap inC) (A.length * 37) (D.flatMap inC) = (A ++ (D ++ C)).flatMap inC := by
  have hl : (D.flatMap inC).length = D.length * 37 := fm_len len_inC D
  unfold splice
  rw [fm_take len_inC, hl, ← Nat.add_mul, fm_drop len_inC, List.take_left' rfl, ← h, ← List.drop_drop, List.drop_left' rfl, List.drop_left' rfl]
  simp
theorem delF {pre : List AObj} {l : List Ins} {i n : Nat} (hn : l.length = n) (hi : i < n) (hb : n ≤ 1000000) : DelF pre l i n := by
  have hfl : (l.flatMap inC).length = n * 37 := by rw [fm_len len_inC, hn]
  have ho : objV (pre ++ [.cells (l.flatMap inC)]) pre.length (n * 37) = some (l.flatMap inC) := by rw [objV_preD, objV_zero, if_pos hfl]
  have hel : (l.eraseIdx i).length = n - 1 := by rw [List.length_eraseIdx, if_pos (by omega), hn]
  have hl2 : ((l.eraseIdx i ++ l.drop (n - 1)).flatMap inC).length = n * 37 := by rw [fm_len len_inC, List.length_append, hel, List.length_drop, hn]; congr 1; omega
  have ho2 : objV (pre ++ [.cells ((l.eraseIdx i ++ l.drop (n - 1)).flatMap inC)]) pre.length (n * 37) = some ((l.eraseIdx i ++ l.drop (n - 1)).flatMap inC) := by rw [objV_preD, objV_zero, if_pos hl2]
  have b1 : boundsD n (some (.int .i64 i)) (some (.int .i64 ((i : Int) + 1))) = some (i, i + 1) := by
    rw [boundsD_lh (by omega) (by omega) (by omega)]; simp
  have b2 : boundsD n none (some (.int .i64 i)) = some (0, i) := by rw [boundsD_h (by omega) (by omega)]; simp
  have b3 : boundsD n (some (.int .i64 ((i : Int) + 1))) none = some (i + 1, n) := by rw [boundsD_l (by omega) (by omega)]; simp
  have her : l.eraseIdx i = l.take i ++ l.drop (i + 1) := List.eraseIdx_eq_take_drop_succ l i
  refine ⟨?_, ?_, ?_, ?_, ?_, ?_, ?_, ?_⟩
  · rw [slcSD_ms3 b1 (by omega) (Nat.le_refl _) rfl, ho]; rfl
  · rw [slcSD_ms b2, ho]; simp
  · rw [slcSD_ms b3, ho]; simp
  · rw [visY_ms, ho, Option.map_some, fm_drop len_inC, List.take_of_length_le (by rw [fm_len len_inC, List.length_drop, hn]; exact Nat.le_refl _)]
  · have hoa : objAt (pre ++ [.cells (l.flatMap inC)]) pre.length = some (l.flatMap inC) := by simp [objAt]
    have hal := all_inD (l.drop (i + 1))
    have hdl : ((l.drop (i + 1)).flatMap inC).length = (n - (i + 1)) * 37 := by rw [fm_len len_inC, List.length_drop, hn]
    unfold appX
    rw [if_neg (by omega)]
    simp only [hoa, Option.bind_some, hfl, hal, and_true, if_true, Nat.zero_add]
    by_cases hm : n - (i + 1) = 0
    · have h1 : i = n - 1 := by omega
      have h2 : l.drop (i + 1) = [] := List.drop_of_length_le (by omega)
      have h3 : l.eraseIdx i ++ l.drop (n - 1) = l := by rw [her, h2, List.append_nil, h1, List.take_append_drop]
      rw [if_pos hm, h3, ← h1]
    · rw [if_neg hm, if_pos ⟨Nat.mul_le_mul_right 37 (by omega), Nat.le_refl _⟩, set_preD]
      have h5 : l.drop i = (l.drop i).take (n - (i + 1)) ++ l.drop (n - 1) := by
        have := (List.take_append_drop (n - (i + 1)) (l.drop i)).symm
        rw [List.drop_drop, show i + (n - (i + 1)) = n - 1 by omega] at this
        exact this
      have h6 : l = l.take i ++ ((l.drop i).take (n - (i + 1)) ++ l.drop (n - 1)) := by rw [← h5, List.take_append_drop]
      have h7 := splice_in2 (A := l.take i) (B := (l.drop i).take (n - (i + 1))) (C := l.drop (n - 1)) (D := l.drop (i + 1)) (by simp [hn]; omega)
      rw [← h6, List.length_take, Nat.min_eq_left (by omega)] at h7
      simp only [List.set_cons_zero, h7, her, List.append_assoc, show i + (n - (i + 1)) = n - 1 by omega]
  · rw [lenD_ms, ho2, Option.map_some]; congr 2; omega
  · have hb0 : boundsD (n - 1) (some (.int .i64 ((n : Int) - 1))) (some (.int .i64 n)) = none := by
      simp only [boundsD, iD, Option.bind_some]
      rw [if_neg (by omega)]
    have hoa : objAt (pre ++ [.cells ((l.eraseIdx i ++ l.drop (n - 1)).flatMap inC)]) pre.length = some ((l.eraseIdx i ++ l.drop (n - 1)).flatMap inC) := by simp [objAt]
    rw [slcSD_ms2, hb0, orB_none]
    simp only [beyond, Bool.false_eq_true, if_false, Option.bind_some, iD, hoa, hl2]
    rw [if_pos ⟨trivial, by omega, by omega, by decide, by omega, Nat.le_refl _⟩, if_pos trivial]
    congr 2 <;> omega
  · rw [clrD_ms (by simp) (by decide) (by have := all_inD [inz]; rwa [List.flatMap_cons, List.flatMap_nil, List.append_nil] at this) (by omega), ho2, Option.map_some, set_preD]
    have h8 := splice_in2 (A := l.eraseIdx i) (B := l.drop (n - 1)) (C := []) (D := [inz]) (by simp [hn]; omega)
    rw [List.append_nil, hel] at h8
    have h9 : reps 1 (inC inz) = [inz].flatMap inC := by simp [reps]
    rw [h9, h8]
    rfl
theorem runs_delete {pre : List AObj} {l : List Ins} {i n : Nat} (hn : l.length = n) (hi : i < n) (hb : n ≤ 1000000) : RunsH tbl0 a72 [.ms pre.length (n * 37) 0 37 n (n * 37), .int .i64 i, .int .i64 ((i : Int) + 1)] (pre ++ [.cells (l.flatMap inC)]) (.ms pre.length (n * 37) 0 37 (n - 1) (n * 37)) (pre ++ [.cells ((l.eraseIdx i ++ [inz]).flatMap inC)]) := by
  refine ⟨?_⟩
  obtain ⟨s1, s2, s3, y, a, ln, s4, c⟩ := delF (pre := pre) hn hi hb
  have hne : ¬ (i : Int) = (i : Int) + 1 := by omega
  have hfl : (l.flatMap inC).length = n * 37 := by rw [fm_len len_inC, hn]
  have ho : objV (pre ++ [.cells (l.flatMap inC)]) pre.length (n * 37) = some (l.flatMap inC) := by rw [objV_preD, objV_zero, if_pos hfl]
  have hln : lenD (pre ++ [.cells (l.flatMap inC)]) (.ms pre.length (n * 37) 0 37 n (n * 37)) = some (.int .i64 n) := by rw [lenD_ms, ho]; rfl
  have hz : (inC inz) = [.int .i64 0, .int .i64 0, w8 0#8, w8 0#8, w8 0#8, w8 0#8, w8 0#8, w8 0#8, w8 0#8, w8 0#8, w8 0#8, w8 0#8, w8 0#8, w8 0#8, w8 0#8, w8 0#8, w8 0#8, w8 0#8, w8 0#8, w8 0#8, w8 0#8, w8 0#8, w8 0#8, w8 0#8, w8 0#8, w8 0#8, w8 0#8, w8 0#8, w8 0#8, w8 0#8, w8 0#8, w8 0#8, w8 0#8, w8 0#8, .int .i64 0, .int .i64 0, .int .i64 0] := rfl
  rw [hz] at c
  obtain ⟨H1, h1⟩ : ∃ H, pre ++ [AObj.cells (l.flatMap inC)] = H := ⟨_, rfl⟩
  obtain ⟨H2, h2⟩ : ∃ H, pre ++ [AObj.cells ((l.eraseIdx i ++ l.drop (n - 1)).flatMap inC)] = H := ⟨_, rfl⟩
  obtain ⟨H3, h3⟩ : ∃ H, pre ++ [AObj.cells ((l.eraseIdx i ++ [inz]).flatMap inC)] = H := ⟨_, rfl⟩
  rw [h1] at s1 s2 s3 y a hln
  rw [h2] at a ln s4 c
  rw [h3] at c
  rw [h1, h3]
  obtain ⟨V1, v1⟩ : ∃ V, DV.ms pre.length (n * 37) 0 37 n (n * 37) = V := ⟨_, rfl⟩
  obtain ⟨V2, v2⟩ : ∃ V, DV.ms pre.length (n * 37) 0 37 i (n * 37) = V := ⟨_, rfl⟩
  obtain ⟨V3, v3⟩ : ∃ V, DV.ms pre.length (n * 37) ((i + 1) * 37) 37 (n - (i + 1)) (n * 37) = V := ⟨_, rfl⟩
  obtain ⟨V4, v4⟩ : ∃ V, DV.ms pre.length (n * 37) 0 37 (n - 1) (n * 37) = V := ⟨_, rfl⟩
  obtain ⟨V5, v5⟩ : ∃ V, DV.ms pre.length (n * 37) ((n - 1) * 37) 37 1 (n * 37) = V := ⟨_, rfl⟩
  rw [v1] at s1 s2 s3 hln
  rw [v2] at s2 a
  rw [v3] at s3 y
  rw [v4] at a ln s4
  rw [v5] at s4 c
  rw [v1, v4]
  simp (disch := first | omega | (simp [-List.map_take, -List.map_drop, -List.map_set, -List.map_append, -List.drop_one] <;> omega) | fail) [-List.map_take, -List.map_drop, -List.map_set, -List.map_append, -List.drop_one, a72, hln, s1, s2, s3, y, a, ln, s4, c, hne]
noncomputable def cDel : List DV → List AObj → Option (DV × List AObj) := conH (fun a : List AObj × List Ins × Nat => a.2.2 < a.2.1.length ∧ a.2.1.length ≤ 1000000) (fun a => ([DV.ms a.1.length (a.2.1.length * 37) 0 37 a.2.1.length (a.2.1.length * 37), .int .i64 a.2.2, .int .i64 ((a.2.2 : Int) + 1)], a.1 ++ [AObj.cells (a.2.1.flatMap inC)])) (fun a => (DV.ms a.1.length (a.2.1.length * 37) 0 37 (a.2.1.length - 1) (a.2.1.length * 37), a.1 ++ [AObj.cells ((a.2.1.eraseIdx a.2.2 ++ [inz]).flatMap inC)]))
theorem cDel_eq {pre : List AObj} {l : List Ins} {i : Nat} (h1 : i < l.length) (h2 : l.length ≤ 1000000) : cDel [.ms pre.length (l.length * 37) 0 37 l.length (l.length * 37), .int .i64 i, .int .i64 ((i : Int) + 1)] (pre ++ [.cells (l.flatMap inC)]) = some (.ms pre.length (l.length * 37) 0 37 (l.length - 1) (l.length * 37), pre ++ [.cells ((l.eraseIdx i ++ [inz]).flatMap inC)]) :=
  conH_eq (A := fun a : List AObj × List Ins × Nat => a.2.2 < a.2.1.length ∧ a.2.1.length ≤ 1000000) (f := fun a => ([DV.ms a.1.length (a.2.1.length * 37) 0 37 a.2.1.length (a.2.1.length * 37), .int .i64 a.2.2, .int .i64 ((a.2.2 : Int) + 1)], a.1 ++ [AObj.cells (a.2.1.flatMap inC)])) (g := fun a => (DV.ms a.1.length (a.2.1.length * 37) 0 37 (a.2.1.length - 1) (a.2.1.length * 37), a.1 ++ [AObj.cells ((a.2.1.eraseIdx a.2.2 ++ [inz]).flatMap inC)])) (by
    rintro ⟨p, l, i⟩ ⟨p', l', i'⟩ e
    simp only [Prod.mk.injEq, List.cons.injEq, DV.int.injEq, and_true, true_and, Int.natCast_inj] at e
    obtain ⟨⟨-, e1, -⟩, e2⟩ := e
    have h := List.append_inj' e2 rfl
    obtain ⟨h1, h2⟩ := h
    simp only [List.cons.injEq, AObj.cells.injEq, and_true] at h2
    have h3 := fmap_inj len_inC (by decide) (fun _ _ => inC_inj) h2
    simp only [h1, h3, e1]) (pre, l, i) ⟨h1, h2⟩
theorem del_sound : (Con.heap cDel).Sound P 72 := conH_sound fun a h => calls_runs mix tbl0_sound Tryd.func72 a72_ok (runs_delete rfl h.1 h.2)
end Go.Proofs.YtjhakjeioppijaaDoor
set_option linter.unusedSimpArgs false
set_option linter.unusedVariables false
namespace Go.Proofs.YtjhakjeioppijaaDoor
open Go Go.Am
open Classical in
noncomputable def removeP (c : Clu) (id : Int) : Clu × Int :=
  if ¬ ValidC c then (clu0, 1)
  else if findIx c.i.l id < 0 then (clu0, 4)
  else (⟨c.clone.g, own (c.i.l.eraseIdx (findIx c.i.l id).toNat), c.next⟩, 0)
noncomputable def removeB (c : Clu) (id : Int) : DV := .tup [.agg (clC (removeP c id).1), .int .i64 (removeP c id).2]
noncomputable def T400 : Tbl := addT 72 (.heap cDel) T112
theorem T400_d : T400 72 = .heap cDel := by simp [T400]
theorem T400_v : T400 20 = .pure (cC1 validCB) := by simp [T400, T112]
theorem T400_c : T400 71 = .new cNC := by simp [T400, T112]
theorem T400_f : T400 24 = .pure (cCi fun c i => .int .i64 (findIx c.i.l i)) := by simp [T400, T112]
theorem T400_sound : T400.Sound P := addT_sound del_sound T112_sound
set_option maxRecDepth 20000 in
set_option maxHeartbeats 4000000 in
theorem runs_remove (c : Clu) (id : Int) : Runs T400 a31 [.agg (clC c), .int .i64 id] (removeB c id) := by
  refine ⟨?_⟩
  by_cases hv : ValidC c
  case neg =>
    have hd : removeP c id = (clu0, 1) := by rw [removeP, if_pos hv]
    simp (disch := first | omega | (simp [-List.map_take, -List.map_drop, -List.map_set, -List.map_append, -List.drop_one] <;> omega) | fail) [-List.map_take, -List.map_drop, -List.map_set, -List.map_append, -List.drop_one, a31, T400_v, cC1_eq, validCB, removeB, tv_false hv, hd, clC_clu0]
  by_cases hf : findIx c.i.l id < 0
  · have hd : removeP c id = (clu0, 4) := by rw [removeP, if_neg (fun h => h hv), if_pos hf]
    simp (disch := first | omega | (simp [-List.map_take, -List.map_drop, -List.map_set, -List.map_append, -List.drop_one] <;> omega) | fail) [-List.map_take, -List.map_drop, -List.map_set, -List.map_append, -List.drop_one, a31, T400_v, T400_f, cC1_eq, cCi_eq, validCB, removeB, tv_true hv, hf, hd, clC_clu0]
  obtain ⟨k, hk, hke, -, -⟩ := ixI_pos (p := fun x => decide (x.id = id)) (l := c.i.l) (by show 0 ≤ findIx c.i.l id; omega)
  have hke' : findIx c.i.l id = k := hke
  have hd : removeP c id = (⟨c.clone.g, own (c.i.l.eraseIdx k), c.next⟩, 0) := by rw [removeP, if_neg (fun h => h hv), if_neg hf, hke', Int.toNat_natCast]
  have hni := hv.ni
  have hel : (c.i.l.eraseIdx k).length = c.i.l.length - 1 := by rw [List.length_eraseIdx, if_pos hk]
  have ho := own_dv (l := c.i.l.eraseIdx k) (s := 37) (f := inC) (by omega)
  have hg := valid_gne hv hk
  have hi : c.i.l ≠ [] := fun e => by rw [e] at hk; simp at hk
  have ha : ∀ l : List Grp, (l.flatMap grC).length = l.length * 6 := fm_len len_grC
  have hb : ∀ l : List Ins, (l.flatMap inC).length = l.length * 37 := fm_len len_inC
  have e2 := mutO_ne (f := grC) hg
  have e4 := mutO_ne (f := grC) (clone_gne hg)
  have e6 := clone_g_ne hg
  have e7 := take_grs (l := c.g.l.map Grp.clone) (n := c.g.l.length) (by simp)
  have f1 := fun id => mutD_ne (id := id) (s := 37) (f := inC) hi
  have f2 := mutO_ne (f := inC) hi
  have e3 := fun id => mutD_ne (id := id) (s := 6) (f := grC) (clone_gne hg)
  have hk' : ¬ (k : Int) < 0 := by omega
  have hdel := fun a b c' d e => cDel_eq (pre := [a, b, c', d, e]) (l := c.i.l) (i := k) hk (by omega)
  simp only [List.length_cons, List.length_nil, List.cons_append, List.nil_append, Nat.zero_add, Nat.reduceAdd] at hdel
  have hpos : 0 < c.i.l.length := by omega
  obtain ⟨L, hL⟩ : ∃ L, c.i.l.eraseIdx k = L := ⟨_, rfl⟩
  obtain ⟨C, hC⟩ : ∃ C, (L ++ [inz]).flatMap inC = C := ⟨_, rfl⟩
  rw [hL] at hel
  have hCl : C.length = c.i.l.length * 37 := by rw [← hC, hb, List.length_append, hel]; simp; omega
  have hCt : C.take ((c.i.l.length - 1) * 37) = L.flatMap inC := by rw [← hC, fm_take len_inC, ← hel, List.take_left' rfl]
  have hsn : ∀ H k, snapL H k (L.flatMap inC) = some (L.flatMap inC) := fun H k => snapL_clean (fm_pure pure_inC _)
  rw [hL, hel] at ho
  simp only [hL, hC] at hdel
  rw [hL] at hd
  simp (disch := first | omega | (simp [-List.map_take, -List.map_drop, -List.map_set, -List.map_append, -List.drop_one] <;> omega) | fail) [-List.map_take, -List.map_drop, -List.map_set, -List.map_append, -List.drop_one, a31, T400_v, T400_f, T400_c, T400_d, cC1_eq, cCi_eq, validCB, removeB, tv_true hv, hke', hk', cNC_eq, clW, storeO_one, e2, e3, e4, e6, f1, f2, ha, hb, clone_gl, hdel, hCl, hCt, hsn, hd, clC_mk, ho, e7]
end Go.Proofs.YtjhakjeioppijaaDoor
set_option linter.unusedSimpArgs false
set_option linter.unusedVariables false
namespace Go.Proofs.YtjhakjeioppijaaDoor
open Go Go.Am
def a37 : AFn where
  code := (.seq (.region false [⟨none, (some 4), .box (.t 0)⟩,
    ⟨none, (some 6), .box (.t 2)⟩,
    ⟨none, (some 8), .alloc [.nils, .nils, (.int .i64 0)]⟩,
    ⟨none, (some 9), .mov (.k (.int .i64 0))⟩,
    ⟨none, (some 10), .mov (.k (.int .i64 0))⟩])
  (.seq (.seq (.region false [⟨none, (some 12), .load 3 true (.t 4)⟩,
    ⟨none, (some 13), .call (.k (.fn (.func 21) [] [])) [(.t 12)]⟩,
    ⟨none, (some 14), .un .not (.t 13)⟩,
    ⟨none, (some 15), .mov (.t 14)⟩,
    ⟨(some (15, false)), (some 16), .load 32 true (.t 6)⟩,
    ⟨(some (15, false)), (some 17), .build (rep 32 (w8 0#8)) []⟩,
    ⟨(some (15, false)), (some 18), .eqa false [(32, 0)] (.t 16) (.t 17)⟩,
    ⟨none, (some 19), .pick (.t 15) (.k (.bool true)) (.t 18)⟩,
    ⟨none, (some 20), .mov (.t 19)⟩,
    ⟨(some (20, false)), (some 21), .mov (.t 3)⟩,
    ⟨(some (20, false)), (some 22), .call (.k (.fn (.func 77) [] [])) [(.t 21)]⟩,
    ⟨(some (20, false)), (some 23), .un .not (.t 22)⟩,
    ⟨none, (some 24), .pick (.t 20) (.k (.bool true)) (.t 23)⟩])
  (.cond (.t 24) (.seq (.region false [⟨none, (some 25), .build [.nils, .nils, (.int .i64 0)] []⟩,
    ⟨none, none, .store 3 (.t 8) (.t 25)⟩,
    ⟨none, (some 9), .mov (.k (.int .i64 0))⟩,
    ⟨none, (some 10), .mov (.k (.int .i64 1))⟩])
  .ret)
  .skip))
  (.seq (.seq (.region false [⟨none, (some 26), .mov (.t 1)⟩,
    ⟨none, (some 27), .bin .lss (.t 26) (.k (.int .i64 0))⟩,
    ⟨none, (some 28), .mov (.t 27)⟩,
    ⟨(some (28, false)), (some 29), .mov (.t 1)⟩,
    ⟨(some (28, false)), (some 30), .fld 0 (.t 4)⟩,
    ⟨(some (28, false)), (some 31), .load 1 false (.t 30)⟩,
    ⟨(some (28, false)), (some 32), .len (.t 31)⟩,
    ⟨(some (28, false)), (some 33), .bin .geq (.t 29) (.t 32)⟩,
    ⟨none, (some 34), .pick (.t 28) (.k (.bool true)) (.t 33)⟩])
  (.cond (.t 34) (.seq (.region false [⟨none, (some 35), .build [.nils, .nils, (.int .i64 0)] []⟩,
    ⟨none, none, .store 3 (.t 8) (.t 35)⟩,
    ⟨none, (some 9), .mov (.k (.int .i64 0))⟩,
    ⟨none, (some 10), .mov (.k (.int .i64 4))⟩])
  .ret)
  .skip))
  (.seq (.seq (.region false [⟨none, (some 36), .fld 1 (.t 4)⟩,
    ⟨none, (some 37), .load 1 false (.t 36)⟩,
    ⟨none, (some 38), .len (.t 37)⟩,
    ⟨none, (some 39), .bin .geq (.t 38) (.k (.int .i64 200))⟩,
    ⟨none, (some 40), .mov (.t 39)⟩,
    ⟨(some (40, false)), (some 41), .fld 2 (.t 4)⟩,
    ⟨(some (40, false)), (some 42), .load 1 false (.t 41)⟩,
    ⟨(some (40, false)), (some 43), .bin .eql (.t 42) (.k (.int .i64 1099511627776))⟩,
    ⟨none, (some 44), .pick (.t 40) (.k (.bool true)) (.t 43)⟩])
  (.cond (.t 44) (.seq (.region false [⟨none, (some 45), .build [.nils, .nils, (.int .i64 0)] []⟩,
    ⟨none, none, .store 3 (.t 8) (.t 45)⟩,
    ⟨none, (some 9), .mov (.k (.int .i64 0))⟩,
    ⟨none, (some 10), .mov (.k (.int .i64 3))⟩])
  .ret)
  .skip))
  (.seq (.region false [⟨none, (some 46), .load 3 true (.t 4)⟩,
    ⟨none, (some 47), .call (.k (.fn (.func 76) [] [])) [(.t 46)]⟩,
    ⟨none, (some 11), .alloc [.nils, .nils, (.int .i64 0)]⟩,
    ⟨none, none, .store 3 (.t 11) (.t 47)⟩])
  (.seq (.region false [⟨none, (some 48), .fld 1 (.t 11)⟩,
    ⟨none, (some 49), .load 1 false (.t 48)⟩,
    ⟨none, (some 50), .fld 2 (.t 4)⟩,
    ⟨none, (some 51), .load 1 false (.t 50)⟩,
    ⟨none, (some 52), .mov (.t 1)⟩,
    ⟨none, (some 53), .load 32 true (.t 6)⟩,
    ⟨none, (some 54), .mov (.t 3)⟩,
    ⟨none, (some 55), .build [(.int .i64 0), (.int .i64 0), (w8 0#8), (w8 0#8), (w8 0#8), (w8 0#8), (w8 0#8), (w8 0#8), (w8 0#8), (w8 0#8), (w8 0#8), (w8 0#8), (w8 0#8), (w8 0#8), (w8 0#8), (w8 0#8), (w8 0#8), (w8 0#8), (w8 0#8), (w8 0#8), (w8 0#8), (w8 0#8), (w8 0#8), (w8 0#8), (w8 0#8), (w8 0#8), (w8 0#8), (w8 0#8), (w8 0#8), (w8 0#8), (w8 0#8), (w8 0#8), (w8 0#8), (w8 0#8), (.int .i64 0), (.int .i64 0), (.int .i64 0)] [(0, 1, (.t 51)), (1, 1, (.t 52)), (2, 32, (.t 53)), (34, 1, (.k (.int .i64 1))), (35, 1, (.t 54)), (36, 1, (.k (.int .i64 (-1))))]⟩,
    ⟨none, (some 56), .bsl 37 1 [(.int .i64 0), (.int .i64 0), (w8 0#8), (w8 0#8), (w8 0#8), (w8 0#8), (w8 0#8), (w8 0#8), (w8 0#8), (w8 0#8), (w8 0#8), (w8 0#8), (w8 0#8), (w8 0#8), (w8 0#8), (w8 0#8), (w8 0#8), (w8 0#8), (w8 0#8), (w8 0#8), (w8 0#8), (w8 0#8), (w8 0#8), (w8 0#8), (w8 0#8), (w8 0#8), (w8 0#8), (w8 0#8), (w8 0#8), (w8 0#8), (w8 0#8), (w8 0#8), (w8 0#8), (w8 0#8), (.int .i64 0), (.int .i64 0), (.int .i64 0)] [(0, 37, (.t 55))]⟩,
    ⟨none, (some 57), .app 37 72 (.t 49) (.t 56)⟩,
    ⟨none, (some 58), .fld 1 (.t 11)⟩,
    ⟨none, none, .store 1 (.t 58) (.t 57)⟩])
  (.seq (.region false [⟨none, (some 59), .fld 2 (.t 11)⟩,
    ⟨none, (some 60), .load 1 false (.t 59)⟩,
    ⟨none, (some 61), .bin .add (.t 60) (.k (.int .i64 1))⟩,
    ⟨none, (some 62), .fld 2 (.t 11)⟩,
    ⟨none, none, .store 1 (.t 62) (.t 61)⟩])
  (.seq (.region true [⟨none, (some 63), .load 3 true (.t 11)⟩,
    ⟨none, (some 64), .fld 2 (.t 4)⟩,
    ⟨none, (some 65), .load 1 false (.t 64)⟩,
    ⟨none, none, .store 3 (.t 8) (.t 63)⟩,
    ⟨none, (some 9), .mov (.t 65)⟩,
    ⟨none, (some 10), .mov (.k (.int .i64 0))⟩,
    ⟨none, none, .apart (.t 4) (.t 8)⟩,
    ⟨none, none, .apart (.t 64) (.t 8)⟩])
  .ret))))))))
  ntmps := 66
  res := [.cell 8 3 true, .tmp 9, .tmp 10]
theorem a37_ok : compileFn P Tryd.f37 = some a37 := by kernel_rfl
def a80 : AFn where
  code := (.seq (.region false [⟨none, (some 6), .box (.t 0)⟩,
    ⟨none, (some 12), .alloc [.nils, .nils, (.int .i64 0)]⟩,
    ⟨none, (some 13), .mov (.k (.int .i64 0))⟩])
  (.seq (.seq (.region false [⟨none, (some 17), .load 3 true (.t 6)⟩,
    ⟨none, (some 18), .call (.k (.fn (.func 21) [] [])) [(.t 17)]⟩,
    ⟨none, (some 19), .un .not (.t 18)⟩,
    ⟨none, (some 20), .mov (.t 19)⟩,
    ⟨(some (20, false)), (some 21), .mov (.t 2)⟩,
    ⟨(some (20, false)), (some 22), .call (.k (.fn (.func 77) [] [])) [(.t 21)]⟩,
    ⟨(some (20, false)), (some 23), .un .not (.t 22)⟩,
    ⟨none, (some 24), .pick (.t 20) (.k (.bool true)) (.t 23)⟩])
  (.cond (.t 24) (.seq (.region false [⟨none, (some 25), .build [.nils, .nils, (.int .i64 0)] []⟩,
    ⟨none, none, .store 3 (.t 12) (.t 25)⟩,
    ⟨none, (some 13), .mov (.k (.int .i64 1))⟩])
  .ret)
  .skip))
  (.seq (.region false [⟨none, (some 26), .load 3 true (.t 6)⟩,
    ⟨none, (some 27), .mov (.t 1)⟩,
    ⟨none, (some 28), .call (.k (.fn (.func 25) [] [])) [(.t 26), (.t 27)]⟩,
    ⟨none, (some 14), .mov (.t 28)⟩])
  (.seq (.seq (.region false [⟨none, (some 29), .mov (.t 14)⟩,
    ⟨none, (some 30), .bin .lss (.t 29) (.k (.int .i64 0))⟩])
  (.cond (.t 30) (.seq (.region false [⟨none, (some 31), .build [.nils, .nils, (.int .i64 0)] []⟩,
    ⟨none, none, .store 3 (.t 12) (.t 31)⟩,
    ⟨none, (some 13), .mov (.k (.int .i64 4))⟩])
  .ret)
  .skip))
  (.seq (.seq (.region false [⟨none, (some 32), .fld 1 (.t 6)⟩,
    ⟨none, (some 33), .load 1 false (.t 32)⟩,
    ⟨none, (some 34), .mov (.t 14)⟩,
    ⟨none, (some 35), .idxS 37 (.t 33) (.t 34)⟩,
    ⟨none, (some 36), .fld 34 (.t 35)⟩,
    ⟨none, (some 37), .load 1 false (.t 36)⟩,
    ⟨none, (some 15), .mov (.t 37)⟩])
  (.seq (.region false [⟨none, (some 38), .mov (.t 15)⟩,
    ⟨none, (some 39), .mov (.t 3)⟩,
    ⟨none, (some 40), .bin .neq (.t 38) (.t 39)⟩,
    ⟨none, (some 41), .mov (.t 40)⟩,
    ⟨(some (41, true)), (some 42), .mov (.t 15)⟩,
    ⟨(some (41, true)), (some 43), .mov (.t 4)⟩,
    ⟨(some (41, true)), (some 44), .bin .neq (.t 42) (.t 43)⟩,
    ⟨none, (some 45), .pick (.t 41) (.t 44) (.k (.bool false))⟩])
  (.cond (.t 45) (.seq (.region false [⟨none, (some 46), .build [.nils, .nils, (.int .i64 0)] []⟩,
    ⟨none, none, .store 3 (.t 12) (.t 46)⟩,
    ⟨none, (some 13), .mov (.k (.int .i64 30))⟩])
  .ret)
  .skip)))
  (.seq (.region false [⟨none, (some 47), .load 3 true (.t 6)⟩,
    ⟨none, (some 48), .call (.k (.fn (.func 76) [] [])) [(.t 47)]⟩,
    ⟨none, (some 16), .alloc [.nils, .nils, (.int .i64 0)]⟩,
    ⟨none, none, .store 3 (.t 16) (.t 48)⟩])
  (.seq (.region true [⟨none, (some 49), .fld 1 (.t 16)⟩,
    ⟨none, (some 50), .load 1 false (.t 49)⟩,
    ⟨none, (some 51), .mov (.t 14)⟩,
    ⟨none, (some 52), .fld 1 (.t 16)⟩,
    ⟨none, (some 53), .load 1 false (.t 52)⟩,
    ⟨none, (some 54), .mov (.t 14)⟩,
    ⟨none, (some 55), .mov (.t 5)⟩,
    ⟨none, (some 56), .mov (.t 2)⟩,
    ⟨none, (some 57), .idxS 37 (.t 50) (.t 51)⟩,
    ⟨none, (some 58), .fld 34 (.t 57)⟩,
    ⟨none, none, .store 1 (.t 58) (.t 55)⟩,
    ⟨none, (some 59), .idxS 37 (.t 53) (.t 54)⟩,
    ⟨none, (some 60), .fld 35 (.t 59)⟩,
    ⟨none, none, .store 1 (.t 60) (.t 56)⟩,
    ⟨none, none, .apart (.t 16) (.t 58)⟩,
    ⟨none, none, .apart (.t 52) (.t 58)⟩])
  (.seq (.region false [⟨none, (some 61), .load 3 true (.t 16)⟩,
    ⟨none, none, .store 3 (.t 12) (.t 61)⟩,
    ⟨none, (some 13), .mov (.k (.int .i64 0))⟩])
  .ret))))))))
  ntmps := 62
  res := [.cell 12 3 true, .tmp 13]
theorem a80_ok : compileFn P Tryd.f80 = some a80 := by kernel_rfl
def a41 : AFn where
  code := (.seq (.region false [⟨none, (some 3), .box (.t 0)⟩,
    ⟨none, (some 6), .alloc [.nils, .nils, (.int .i64 0)]⟩,
    ⟨none, (some 7), .mov (.k (.int .i64 0))⟩])
  (.seq (.region false [⟨none, (some 8), .load 3 true (.t 3)⟩,
    ⟨none, (some 9), .mov (.t 1)⟩,
    ⟨none, (some 10), .mov (.t 2)⟩,
    ⟨none, (some 11), .call (.k (.fn (.func 80) [] [])) [(.t 8), (.t 9), (.t 10), (.k (.int .i64 1)), (.k (.int .i64 2)), (.k (.int .i64 3))]⟩,
    ⟨none, (some 12), .ext (.t 11) 0⟩,
    ⟨none, (some 13), .ext (.t 11) 1⟩,
    ⟨none, none, .store 3 (.t 6) (.t 12)⟩,
    ⟨none, (some 7), .mov (.t 13)⟩])
  .ret))
  ntmps := 14
  res := [.cell 6 3 true, .tmp 7]
theorem a41_ok : compileFn P Tryd.f41 = some a41 := by kernel_rfl
def a42 : AFn where
  code := (.seq (.region false [⟨none, (some 2), .box (.t 0)⟩,
    ⟨none, (some 4), .alloc [.nils, .nils, (.int .i64 0)]⟩,
    ⟨none, (some 5), .mov (.k (.int .i64 0))⟩])
  (.seq (.seq (.region false [⟨none, (some 8), .load 3 true (.t 2)⟩,
    ⟨none, (some 9), .call (.k (.fn (.func 21) [] [])) [(.t 8)]⟩,
    ⟨none, (some 10), .un .not (.t 9)⟩])
  (.cond (.t 10) (.seq (.region false [⟨none, (some 11), .build [.nils, .nils, (.int .i64 0)] []⟩,
    ⟨none, none, .store 3 (.t 4) (.t 11)⟩,
    ⟨none, (some 5), .mov (.k (.int .i64 1))⟩])
  .ret)
  .skip))
  (.seq (.region false [⟨none, (some 12), .load 3 true (.t 2)⟩,
    ⟨none, (some 13), .mov (.t 1)⟩,
    ⟨none, (some 14), .call (.k (.fn (.func 25) [] [])) [(.t 12), (.t 13)]⟩,
    ⟨none, (some 6), .mov (.t 14)⟩])
  (.seq (.seq (.region false [⟨none, (some 15), .mov (.t 6)⟩,
    ⟨none, (some 16), .bin .lss (.t 15) (.k (.int .i64 0))⟩])
  (.cond (.t 16) (.seq (.region false [⟨none, (some 17), .build [.nils, .nils, (.int .i64 0)] []⟩,
    ⟨none, none, .store 3 (.t 4) (.t 17)⟩,
    ⟨none, (some 5), .mov (.k (.int .i64 4))⟩])
  .ret)
  .skip))
  (.seq (.region false [⟨none, (some 18), .load 3 true (.t 2)⟩,
    ⟨none, (some 19), .call (.k (.fn (.func 76) [] [])) [(.t 18)]⟩,
    ⟨none, (some 7), .alloc [.nils, .nils, (.int .i64 0)]⟩,
    ⟨none, none, .store 3 (.t 7) (.t 19)⟩])
  (.seq (.region true [⟨none, (some 20), .fld 1 (.t 2)⟩,
    ⟨none, (some 21), .load 1 false (.t 20)⟩,
    ⟨none, (some 22), .mov (.t 6)⟩,
    ⟨none, (some 23), .slcS 37 (.t 21) none (some (.t 22)) none⟩,
    ⟨none, (some 24), .app 37 72 (.k .nils) (.t 23)⟩,
    ⟨none, (some 25), .fld 1 (.t 2)⟩,
    ⟨none, (some 26), .load 1 false (.t 25)⟩,
    ⟨none, (some 27), .mov (.t 6)⟩,
    ⟨none, (some 28), .bin .add (.t 27) (.k (.int .i64 1))⟩,
    ⟨none, (some 29), .slcS 37 (.t 26) (some (.t 28)) none none⟩,
    ⟨none, (some 30), .app 37 72 (.t 24) (.t 29)⟩,
    ⟨none, (some 31), .fld 1 (.t 7)⟩,
    ⟨none, none, .store 1 (.t 31) (.t 30)⟩,
    ⟨none, none, .apart (.t 2) (.t 24)⟩,
    ⟨none, none, .apart (.t 25) (.t 24)⟩,
    ⟨none, none, .apart (.t 26) (.t 24)⟩])
  (.seq (.region false [⟨none, (some 32), .load 3 true (.t 7)⟩,
    ⟨none, none, .store 3 (.t 4) (.t 32)⟩,
    ⟨none, (some 5), .mov (.k (.int .i64 0))⟩])
  .ret)))))))
  ntmps := 33
  res := [.cell 4 3 true, .tmp 5]
theorem a42_ok : compileFn P Tryd.f42 = some a42 := by kernel_rfl
def a43L0 : ACode :=
  (.seq (.seq (.region false [⟨none, (some 20), .mov (.t 8)⟩,
    ⟨none, (some 21), .fld 1 (.t 7)⟩,
    ⟨none, (some 22), .load 1 false (.t 21)⟩,
    ⟨none, (some 23), .len (.t 22)⟩,
    ⟨none, (some 24), .bin .lss (.t 20) (.t 23)⟩])
  (.cond (.t 24) .skip
  (.exit 0)))
  (.seq (.block 1 (.seq (.region false [⟨none, (some 27), .mov (.t 8)⟩,
    ⟨none, (some 28), .mov (.t 1)⟩,
    ⟨none, (some 29), .len (.t 28)⟩,
    ⟨none, (some 30), .bin .geq (.t 27) (.t 29)⟩,
    ⟨none, (some 31), .mov (.t 30)⟩,
    ⟨(some (31, false)), (some 32), .mov (.t 1)⟩,
    ⟨(some (31, false)), (some 33), .mov (.t 8)⟩,
    ⟨(some (31, false)), (some 34), .idxS 1 (.t 32) (.t 33)⟩,
    ⟨(some (31, false)), (some 35), .load 1 false (.t 34)⟩,
    ⟨(some (31, false)), (some 36), .un .not (.t 35)⟩,
    ⟨none, (some 37), .pick (.t 31) (.k (.bool true)) (.t 36)⟩])
  (.cond (.t 37) (.region false [⟨none, (some 38), .fld 1 (.t 7)⟩,
    ⟨none, (some 39), .load 1 false (.t 38)⟩,
    ⟨none, (some 40), .mov (.t 8)⟩,
    ⟨none, (some 41), .idxS 37 (.t 39) (.t 40)⟩,
    ⟨none, (some 42), .fld 36 (.t 41)⟩,
    ⟨none, none, .store 1 (.t 42) (.k (.int .i64 (-1)))⟩])
  (.seq (.region false [⟨none, (some 43), .fld 1 (.t 7)⟩,
    ⟨none, (some 44), .load 1 false (.t 43)⟩,
    ⟨none, (some 45), .mov (.t 8)⟩,
    ⟨none, (some 46), .idxS 37 (.t 44) (.t 45)⟩,
    ⟨none, (some 47), .fld 36 (.t 46)⟩,
    ⟨none, (some 48), .load 1 false (.t 47)⟩,
    ⟨none, (some 49), .bin .eql (.t 48) (.k (.int .i64 (-1)))⟩])
  (.cond (.t 49) (.region false [⟨none, (some 50), .fld 1 (.t 7)⟩,
    ⟨none, (some 51), .load 1 false (.t 50)⟩,
    ⟨none, (some 52), .mov (.t 8)⟩,
    ⟨none, (some 53), .mov (.t 2)⟩,
    ⟨none, (some 54), .idxS 37 (.t 51) (.t 52)⟩,
    ⟨none, (some 55), .fld 36 (.t 54)⟩,
    ⟨none, none, .store 1 (.t 55) (.t 53)⟩])
  .skip)))))
  (.region false [⟨none, (some 25), .mov (.t 8)⟩,
    ⟨none, (some 26), .bin .add (.t 25) (.k (.int .i64 1))⟩,
    ⟨none, (some 8), .mov (.t 26)⟩])))
def a43S0 (x1 x2 x6 x7 x8 : DV) (h : List AObj) : St := ⟨[.junk, x1, x2, .junk, .junk, .junk, x6, x7, x8] ++ js 48, h⟩
def a43 : AFn where
  code := (.seq (.region false [⟨none, (some 3), .box (.t 0)⟩,
    ⟨none, (some 6), .alloc [.nils, .nils, (.int .i64 0)]⟩])
  (.seq (.seq (.region false [⟨none, (some 9), .load 3 true (.t 3)⟩,
    ⟨none, (some 10), .call (.k (.fn (.func 21) [] [])) [(.t 9)]⟩,
    ⟨none, (some 11), .un .not (.t 10)⟩,
    ⟨none, (some 12), .mov (.t 11)⟩,
    ⟨(some (12, false)), (some 13), .mov (.t 2)⟩,
    ⟨(some (12, false)), (some 14), .call (.k (.fn (.func 77) [] [])) [(.t 13)]⟩,
    ⟨(some (12, false)), (some 15), .un .not (.t 14)⟩,
    ⟨none, (some 16), .pick (.t 12) (.k (.bool true)) (.t 15)⟩])
  (.cond (.t 16) (.seq (.region false [⟨none, (some 17), .load 3 true (.t 3)⟩,
    ⟨none, none, .store 3 (.t 6) (.t 17)⟩])
  .ret)
  .skip))
  (.seq (.region false [⟨none, (some 18), .load 3 true (.t 3)⟩,
    ⟨none, (some 19), .call (.k (.fn (.func 76) [] [])) [(.t 18)]⟩,
    ⟨none, (some 7), .alloc [.nils, .nils, (.int .i64 0)]⟩,
    ⟨none, none, .store 3 (.t 7) (.t 19)⟩])
  (.seq (.seq (.region false [⟨none, (some 8), .mov (.k (.int .i64 0))⟩])
  (.block 0 (.loop a43L0)))
  (.seq (.region false [⟨none, (some 56), .load 3 true (.t 7)⟩,
    ⟨none, none, .store 3 (.t 6) (.t 56)⟩])
  .ret)))))
  ntmps := 57
  res := [.cell 6 3 true]
theorem a43_ok : compileFn P Tryd.f43 = some a43 := by kernel_rfl
def a82 : AFn where
  code := (.seq (.region false [⟨none, (some 2), .box (.t 0)⟩,
    ⟨none, (some 3), .box (.t 1)⟩,
    ⟨none, (some 4), .mov (.k (.bool false))⟩])
  (.seq (.region false [⟨none, (some 5), .fld 0 (.t 2)⟩,
    ⟨none, (some 6), .load 1 false (.t 5)⟩,
    ⟨none, (some 7), .fld 0 (.t 3)⟩,
    ⟨none, (some 8), .load 1 false (.t 7)⟩,
    ⟨none, (some 9), .bin .eql (.t 6) (.t 8)⟩,
    ⟨none, (some 10), .mov (.t 9)⟩,
    ⟨(some (10, true)), (some 11), .fld 1 (.t 2)⟩,
    ⟨(some (10, true)), (some 12), .load 1 false (.t 11)⟩,
    ⟨(some (10, true)), (some 13), .fld 1 (.t 3)⟩,
    ⟨(some (10, true)), (some 14), .load 1 false (.t 13)⟩,
    ⟨(some (10, true)), (some 15), .bin .eql (.t 12) (.t 14)⟩,
    ⟨none, (some 16), .pick (.t 10) (.t 15) (.k (.bool false))⟩,
    ⟨none, (some 17), .mov (.t 16)⟩,
    ⟨(some (17, true)), (some 18), .fld 2 (.t 2)⟩,
    ⟨(some (17, true)), (some 19), .load 1 false (.t 18)⟩,
    ⟨(some (17, true)), (some 20), .fld 2 (.t 3)⟩,
    ⟨(some (17, true)), (some 21), .load 1 false (.t 20)⟩,
    ⟨(some (17, true)), (some 22), .bin .eql (.t 19) (.t 21)⟩,
    ⟨none, (some 23), .pick (.t 17) (.t 22) (.k (.bool false))⟩,
    ⟨none, (some 24), .mov (.t 23)⟩,
    ⟨(some (24, true)), (some 25), .fld 3 (.t 2)⟩,
    ⟨(some (24, true)), (some 26), .load 1 false (.t 25)⟩,
    ⟨(some (24, true)), (some 27), .fld 3 (.t 3)⟩,
    ⟨(some (24, true)), (some 28), .load 1 false (.t 27)⟩,
    ⟨(some (24, true)), (some 29), .bin .eql (.t 26) (.t 28)⟩,
    ⟨none, (some 30), .pick (.t 24) (.t 29) (.k (.bool false))⟩,
    ⟨none, (some 31), .mov (.t 30)⟩,
    ⟨(some (31, true)), (some 32), .fld 4 (.t 2)⟩,
    ⟨(some (31, true)), (some 33), .load 1 false (.t 32)⟩,
    ⟨(some (31, true)), (some 34), .fld 4 (.t 3)⟩,
    ⟨(some (31, true)), (some 35), .load 1 false (.t 34)⟩,
    ⟨(some (31, true)), (some 36), .bin .eql (.t 33) (.t 35)⟩,
    ⟨none, (some 37), .pick (.t 31) (.t 36) (.k (.bool false))⟩,
    ⟨none, (some 38), .mov (.t 37)⟩,
    ⟨(some (38, true)), (some 39), .fld 5 (.t 2)⟩,
    ⟨(some (38, true)), (some 40), .load 1 false (.t 39)⟩,
    ⟨(some (38, true)), (some 41), .fld 5 (.t 3)⟩,
    ⟨(some (38, true)), (some 42), .load 1 false (.t 41)⟩,
    ⟨(some (38, true)), (some 43), .call (.k (.fn (.func 107) [] [])) [(.t 40), (.t 42)]⟩,
    ⟨none, (some 44), .pick (.t 38) (.t 43) (.k (.bool false))⟩,
    ⟨none, (some 4), .mov (.t 44)⟩])
  .ret))
  ntmps := 45
  res := [.tmp 4]
theorem a82_ok : compileFn P Tryd.f82 = some a82 := by kernel_rfl
def a44L0 : ACode :=
  (.seq (.seq (.region false [⟨none, (some 30), .mov (.t 5)⟩,
    ⟨none, (some 31), .fld 0 (.t 2)⟩,
    ⟨none, (some 32), .load 1 false (.t 31)⟩,
    ⟨none, (some 33), .len (.t 32)⟩,
    ⟨none, (some 34), .bin .lss (.t 30) (.t 33)⟩])
  (.cond (.t 34) .skip
  (.exit 0)))
  (.seq (.block 1 (.seq (.region true [⟨none, (some 37), .fld 0 (.t 2)⟩,
    ⟨none, (some 38), .load 1 false (.t 37)⟩,
    ⟨none, (some 39), .mov (.t 5)⟩,
    ⟨none, (some 40), .idxS 6 (.t 38) (.t 39)⟩,
    ⟨none, (some 41), .load 6 true (.t 40)⟩,
    ⟨none, (some 42), .fld 0 (.t 3)⟩,
    ⟨none, (some 43), .load 1 false (.t 42)⟩,
    ⟨none, (some 44), .mov (.t 5)⟩,
    ⟨none, (some 45), .idxS 6 (.t 43) (.t 44)⟩,
    ⟨none, (some 46), .load 6 true (.t 45)⟩,
    ⟨none, (some 47), .callN (.k (.fn (.func 82) [] [])) [(.t 41), (.t 46)]⟩,
    ⟨none, (some 48), .un .not (.t 47)⟩])
  (.cond (.t 48) (.seq (.region false [⟨none, (some 4), .mov (.k (.bool false))⟩])
  .ret)
  .skip)))
  (.region false [⟨none, (some 35), .mov (.t 5)⟩,
    ⟨none, (some 36), .bin .add (.t 35) (.k (.int .i64 1))⟩,
    ⟨none, (some 5), .mov (.t 36)⟩])))
def a44S0 (x2 x3 x5 : DV) (h : List AObj) : St := ⟨[.junk, .junk, x2, x3, .junk, x5] ++ js 61, h⟩
def a44L1 : ACode :=
  (.seq (.seq (.region false [⟨none, (some 49), .mov (.t 6)⟩,
    ⟨none, (some 50), .fld 1 (.t 2)⟩,
    ⟨none, (some 51), .load 1 false (.t 50)⟩,
    ⟨none, (some 52), .len (.t 51)⟩,
    ⟨none, (some 53), .bin .lss (.t 49) (.t 52)⟩])
  (.cond (.t 53) .skip
  (.exit 2)))
  (.seq (.block 3 (.seq (.region true [⟨none, (some 56), .fld 1 (.t 2)⟩,
    ⟨none, (some 57), .load 1 false (.t 56)⟩,
    ⟨none, (some 58), .mov (.t 6)⟩,
    ⟨none, (some 59), .idxS 37 (.t 57) (.t 58)⟩,
    ⟨none, (some 60), .load 37 true (.t 59)⟩,
    ⟨none, (some 61), .fld 1 (.t 3)⟩,
    ⟨none, (some 62), .load 1 false (.t 61)⟩,
    ⟨none, (some 63), .mov (.t 6)⟩,
    ⟨none, (some 64), .idxS 37 (.t 62) (.t 63)⟩,
    ⟨none, (some 65), .load 37 true (.t 64)⟩,
    ⟨none, (some 66), .eqa true [(37, 0)] (.t 60) (.t 65)⟩])
  (.cond (.t 66) (.seq (.region false [⟨none, (some 4), .mov (.k (.bool false))⟩])
  .ret)
  .skip)))
  (.region false [⟨none, (some 54), .mov (.t 6)⟩,
    ⟨none, (some 55), .bin .add (.t 54) (.k (.int .i64 1))⟩,
    ⟨none, (some 6), .mov (.t 55)⟩])))
def a44S1 (x2 x3 x6 : DV) (h : List AObj) : St := ⟨[.junk, .junk, x2, x3, .junk, .junk, x6] ++ js 60, h⟩
def a44 : AFn where
  code := (.seq (.region false [⟨none, (some 2), .box (.t 0)⟩,
    ⟨none, (some 3), .box (.t 1)⟩,
    ⟨none, (some 4), .mov (.k (.bool false))⟩])
  (.seq (.seq (.region false [⟨none, (some 7), .fld 0 (.t 2)⟩,
    ⟨none, (some 8), .load 1 false (.t 7)⟩,
    ⟨none, (some 9), .len (.t 8)⟩,
    ⟨none, (some 10), .fld 0 (.t 3)⟩,
    ⟨none, (some 11), .load 1 false (.t 10)⟩,
    ⟨none, (some 12), .len (.t 11)⟩,
    ⟨none, (some 13), .bin .neq (.t 9) (.t 12)⟩,
    ⟨none, (some 14), .mov (.t 13)⟩,
    ⟨(some (14, false)), (some 15), .fld 1 (.t 2)⟩,
    ⟨(some (14, false)), (some 16), .load 1 false (.t 15)⟩,
    ⟨(some (14, false)), (some 17), .len (.t 16)⟩,
    ⟨(some (14, false)), (some 18), .fld 1 (.t 3)⟩,
    ⟨(some (14, false)), (some 19), .load 1 false (.t 18)⟩,
    ⟨(some (14, false)), (some 20), .len (.t 19)⟩,
    ⟨(some (14, false)), (some 21), .bin .neq (.t 17) (.t 20)⟩,
    ⟨none, (some 22), .pick (.t 14) (.k (.bool true)) (.t 21)⟩,
    ⟨none, (some 23), .mov (.t 22)⟩,
    ⟨(some (23, false)), (some 24), .fld 2 (.t 2)⟩,
    ⟨(some (23, false)), (some 25), .load 1 false (.t 24)⟩,
    ⟨(some (23, false)), (some 26), .fld 2 (.t 3)⟩,
    ⟨(some (23, false)), (some 27), .load 1 false (.t 26)⟩,
    ⟨(some (23, false)), (some 28), .bin .neq (.t 25) (.t 27)⟩,
    ⟨none, (some 29), .pick (.t 23) (.k (.bool true)) (.t 28)⟩])
  (.cond (.t 29) (.seq (.region false [⟨none, (some 4), .mov (.k (.bool false))⟩])
  .ret)
  .skip))
  (.seq (.seq (.region false [⟨none, (some 5), .mov (.k (.int .i64 0))⟩])
  (.block 0 (.loop a44L0)))
  (.seq (.seq (.region false [⟨none, (some 6), .mov (.k (.int .i64 0))⟩])
  (.block 2 (.loop a44L1)))
  (.seq (.region false [⟨none, (some 4), .mov (.k (.bool true))⟩])
  .ret)))))
  ntmps := 67
  res := [.tmp 4]
theorem a44_ok : compileFn P Tryd.f44 = some a44 := by kernel_rfl
end Go.Proofs.YtjhakjeioppijaaDoor
set_option linter.unusedSimpArgs false
set_option linter.unusedVariables false
namespace Go.Proofs.YtjhakjeioppijaaDoor
open Go Go.Am
noncomputable def startRB (c : Clu) (gr : Int) (d : Dg) (t : Int) : DV := .tup [.agg (clC (startR c gr d t).1), .int .i64 (startR c gr d t).2.1, .int .i64 (startR c gr d t).2.2]
set_option maxRecDepth 20000 in
set_option maxHeartbeats 4000000 in
theorem runs_refstart (c : Clu) (gr : Int) (d : Dg) (t : Int) : Runs T170 a37 [.agg (clC c), .int .i64 gr, .agg (dgC d), .int .i64 t] (startRB c gr d t) := by
  refine ⟨?_⟩
  by_cases hv : ValidC c
  case neg =>
    have hd : startR c gr d t = (clu0, 0, 1) := by rw [startR, if_pos (.inl hv)]
    simp (disch := first | omega | (simp [-List.map_take, -List.map_drop, -List.map_set, -List.map_append, -List.drop_one] <;> omega) | fail) [-List.map_take, -List.map_drop, -List.map_set, -List.map_append, -List.drop_one, a37, T170_v, cC1_eq, validCB, T170_t, cTm_eq, startRB, tv_false hv, hd, clC_clu0]
  by_cases hz : d = dg0
  · have hd : startR c gr dg0 t = (clu0, 0, 1) := by rw [startR, if_pos (.inr (.inl rfl))]
    subst hz
    simp (disch := first | omega | (simp [-List.map_take, -List.map_drop, -List.map_set, -List.map_append, -List.drop_one] <;> omega) | fail) [-List.map_take, -List.map_drop, -List.map_set, -List.map_append, -List.drop_one, a37, T170_v, cC1_eq, validCB, T170_t, cTm_eq, startRB, tv_true hv, hd, clC_clu0]
  by_cases ht : timeOK t
  case neg =>
    have hd : startR c gr d t = (clu0, 0, 1) := by rw [startR, if_pos (.inr (.inr ht))]
    simp (disch := first | omega | (simp [-List.map_take, -List.map_drop, -List.map_set, -List.map_append, -List.drop_one] <;> omega) | fail) [-List.map_take, -List.map_drop, -List.map_set, -List.map_append, -List.drop_one, a37, T170_v, cC1_eq, validCB, T170_t, cTm_eq, startRB, tv_true hv, hz, tv_false ht, hd, clC_clu0]
  have hnn : ¬ (¬ ValidC c ∨ d = dg0 ∨ ¬ timeOK t) := fun h => h.elim (fun h => h hv) (fun h => h.elim hz (fun h => h ht))
  have hni := hv.ni
  have hn0 := hv.n0
  have hn1 := hv.n1
  by_cases g0 : gr < 0
  · have hd : startR c gr d t = (clu0, 0, 4) := by rw [startR, if_neg hnn, if_pos (.inl g0)]
    simp (disch := first | omega | (simp [-List.map_take, -List.map_drop, -List.map_set, -List.map_append, -List.drop_one] <;> omega) | fail) [-List.map_take, -List.map_drop, -List.map_set, -List.map_append, -List.drop_one, a37, T170_v, cC1_eq, validCB, T170_t, cTm_eq, startRB, tv_true hv, hz, tv_true ht, g0, hd, clC_clu0]
  by_cases g1 : (c.g.l.length : Int) ≤ gr
  · have hd : startR c gr d t = (clu0, 0, 4) := by rw [startR, if_neg hnn, if_pos (.inr g1)]
    simp (disch := first | omega | (simp [-List.map_take, -List.map_drop, -List.map_set, -List.map_append, -List.drop_one] <;> omega) | fail) [-List.map_take, -List.map_drop, -List.map_set, -List.map_append, -List.drop_one, a37, T170_v, cC1_eq, validCB, T170_t, cTm_eq, startRB, tv_true hv, hz, tv_true ht, g0, g1, hd, clC_clu0]
  have hnn2 : ¬ (gr < 0 ∨ (c.g.l.length : Int) ≤ gr) := fun h => h.elim g0 g1
  by_cases l0 : 200 ≤ c.i.l.length
  · have l0' : (200 : Int) ≤ c.i.l.length := by omega
    have hd : startR c gr d t = (clu0, 0, 3) := by rw [startR, if_neg hnn, if_neg hnn2, if_pos (.inl l0)]
    simp (disch := first | omega | (simp [-List.map_take, -List.map_drop, -List.map_set, -List.map_append, -List.drop_one] <;> omega) | fail) [-List.map_take, -List.map_drop, -List.map_set, -List.map_append, -List.drop_one, a37, T170_v, cC1_eq, validCB, T170_t, cTm_eq, startRB, tv_true hv, hz, tv_true ht, g0, g1, l0', l0, hd, clC_clu0]
  have l0' : ¬ (200 : Int) ≤ c.i.l.length := by omega
  by_cases l1 : c.next = 1099511627776
  · have hd : startR c gr d t = (clu0, 0, 3) := by rw [startR, if_neg hnn, if_neg hnn2, if_pos (.inr (by omega))]
    simp (disch := first | omega | (simp [-List.map_take, -List.map_drop, -List.map_set, -List.map_append, -List.drop_one] <;> omega) | fail) [-List.map_take, -List.map_drop, -List.map_set, -List.map_append, -List.drop_one, a37, T170_v, cC1_eq, validCB, T170_t, cTm_eq, startRB, tv_true hv, hz, tv_true ht, g0, g1, l0', l0, l1, hd, clC_clu0]
  have hnn3 : ¬ (200 ≤ c.i.l.length ∨ 1099511627776 ≤ c.next) := fun h => h.elim l0 (fun h => l1 (by omega))
  have hd : startR c gr d t = (⟨c.g.copy, own (c.i.l ++ [newI c gr d t]), c.next + 1⟩, c.next, 0) := by rw [startR, if_neg hnn, if_neg hnn2, if_neg hnn3]
  have ho := own_dv (l := c.i.l ++ [newI c gr d t]) (s := 37) (f := inC) (by simp; omega)
  have ha : ∀ l : List Grp, (l.flatMap grC).length = l.length * 6 := fm_len len_grC
  have hb : ∀ l : List Ins, (l.flatMap inC).length = l.length * 37 := fm_len len_inC
  have e12 : DV.int .i64 c.next :: DV.int .i64 gr :: (dgC d ++ [DV.int .i64 1, DV.int .i64 t, DV.int .i64 (-1)]) = inC (newI c gr d t) := rfl
  have hg : c.g.l ≠ [] := by intro e; rw [e] at g1; simp at g1; omega
  have e2 := mutO_ne (f := grC) hg
  have e3 := fun id => cpD_ne (id := id) (s := 6) hg
  have e5 := copy_dv_ne (s := 6) (f := grC) hg
  have e7 := take_grs (l := c.g.l) (n := c.g.l.length) (Nat.le_refl _)
  by_cases hi : c.i.l = []
  · have f1 := fun id => cpD_nil (id := id) (s := 37) hi
    have f2 := mutO_nil (f := inC) hi
    have ho : (own (c.i.l ++ [newI c gr d t])).dv 37 inC = .sl false 37 1 (inC (newI c gr d t)) := by rw [ho, hi]; simp
    simp (disch := first | omega | (simp [-List.map_take, -List.map_drop, -List.map_set, -List.map_append, -List.drop_one] <;> omega) | fail) [-List.map_take, -List.map_drop, -List.map_set, -List.map_append, -List.drop_one, a37, T170_v, cC1_eq, validCB, T170_t, cTm_eq, startRB, tv_true hv, hz, tv_true ht, g0, g1, l0', l0, l1, T170_c, cNCp_eq, copyW, copyK, storeO_one, bsl_i, e12, hd, clC_mk, ho, e2, e3, e5, e7, f1, f2, ha, hb]
  · have f1 := fun id => cpD_ne (id := id) (s := 37) hi
    have f2 := mutO_ne (f := inC) hi
    have e8 : (c.i.l.flatMap inC ++ inC (newI c gr d t)).take ((c.i.l.length + 1) * 37) = c.i.l.flatMap inC ++ inC (newI c gr d t) := List.take_of_length_le (by rw [List.length_append, hb, len_inC]; omega)
    have e9 : ∀ H k, snapL H k (c.i.l.flatMap inC ++ inC (newI c gr d t)) = some (c.i.l.flatMap inC ++ inC (newI c gr d t)) := fun H k => snapL_clean (pureL_append (fm_pure pure_inC _) (pure_inC _))
    simp (disch := first | omega | (simp [-List.map_take, -List.map_drop, -List.map_set, -List.map_append, -List.drop_one] <;> omega) | fail) [-List.map_take, -List.map_drop, -List.map_set, -List.map_append, -List.drop_one, a37, T170_v, cC1_eq, validCB, T170_t, cTm_eq, startRB, tv_true hv, hz, tv_true ht, g0, g1, l0', l0, l1, T170_c, cNCp_eq, copyW, copyK, storeO_one, bsl_i, e12, hd, clC_mk, ho, e2, e3, e5, e7, e8, e9, f1, f2, ha, hb]
def mayR (a b s : Int) : Bool := decide (s = a) || decide (s = b)
open Classical in
noncomputable def chgR (c : Clu) (id t a b to : Int) : Clu × Int :=
  if ¬ ValidC c ∨ ¬ timeOK t then (clu0, 1)
  else if findIx c.i.l id < 0 then (clu0, 4)
  else if ((c.i.l[(findIx c.i.l id).toNat]?).map fun x => mayR a b x.state) = some true then (⟨c.g.copy, own (setI c.i.l (findIx c.i.l id).toNat to t), c.next⟩, 0)
  else (clu0, 30)
noncomputable def chgRB (c : Clu) (id t a b to : Int) : DV := .tup [.agg (clC (chgR c id t a b to).1), .int .i64 (chgR c id t a b to).2]
set_option maxRecDepth 20000 in
set_option maxHeartbeats 4000000 in
theorem runs_refchange (c : Clu) (id t a b to : Int) : Runs T170 a80 [.agg (clC c), .int .i64 id, .int .i64 t, .int .i64 a, .int .i64 b, .int .i64 to] (chgRB c id t a b to) := by
  refine ⟨?_⟩
  by_cases hv : ValidC c
  case neg =>
    have hd : chgR c id t a b to = (clu0, 1) := by rw [chgR, if_pos (.inl hv)]
    simp (disch := first | omega | (simp [-List.map_take, -List.map_drop, -List.map_set, -List.map_append, -List.drop_one] <;> omega) | fail) [-List.map_take, -List.map_drop, -List.map_set, -List.map_append, -List.drop_one, a80, T170_v, cC1_eq, validCB, T170_t, cTm_eq, T170_f, cCi_eq, chgRB, tv_false hv, hd, clC_clu0]
  by_cases ht : timeOK t
  case neg =>
    have hd : chgR c id t a b to = (clu0, 1) := by rw [chgR, if_pos (.inr ht)]
    simp (disch := first | omega | (simp [-List.map_take, -List.map_drop, -List.map_set, -List.map_append, -List.drop_one] <;> omega) | fail) [-List.map_take, -List.map_drop, -List.map_set, -List.map_append, -List.drop_one, a80, T170_v, cC1_eq, validCB, T170_t, cTm_eq, T170_f, cCi_eq, chgRB, tv_true hv, tv_false ht, hd, clC_clu0]
  have hnn : ¬ (¬ ValidC c ∨ ¬ timeOK t) := fun h => h.elim (fun h => h hv) (fun h => h ht)
  by_cases hx : findIx c.i.l id < 0
  · have hd : chgR c id t a b to = (clu0, 4) := by rw [chgR, if_neg hnn, if_pos hx]
    simp (disch := first | omega | (simp [-List.map_take, -List.map_drop, -List.map_set, -List.map_append, -List.drop_one] <;> omega) | fail) [-List.map_take, -List.map_drop, -List.map_set, -List.map_append, -List.drop_one, a80, T170_v, cC1_eq, validCB, T170_t, cTm_eq, T170_f, cCi_eq, chgRB, tv_true hv, tv_true ht, hx, hd, clC_clu0]
  obtain ⟨k, hk, hke, _, _⟩ := ixI_pos (show 0 ≤ findIx c.i.l id by omega)
  have hke : findIx c.i.l id = k := hke
  have hx' : ¬ (k : Int) < 0 := by omega
  have hk' : (k : Int) < c.i.l.length := by omega
  obtain ⟨x, hxe⟩ : ∃ x, c.i.l[k] = x := ⟨_, rfl⟩
  have hgx : ∀ H, idxSD H 37 (c.i.dv 37 inC) k = some (.ref (inC x)) := fun H => by rw [idxSD_dv len_inC hk, hxe]
  have hopt : c.i.l[k]? = some x := by rw [List.getElem?_eq_getElem hk, hxe]
  by_cases hm : mayR a b x.state = true
  case neg =>
    have hm2 : mayR a b x.state = false := by simpa using hm
    have hd : chgR c id t a b to = (clu0, 30) := by rw [chgR, if_neg hnn, if_neg hx, hke]; simp [hopt, hm2]
    have h1 : ¬ x.state = a := fun e => by simp [mayR, e] at hm2
    have h2 : ¬ x.state = b := fun e => by simp [mayR, e] at hm2
    simp (disch := first | omega | (simp [-List.map_take, -List.map_drop, -List.map_set, -List.map_append, -List.drop_one] <;> omega) | fail) [-List.map_take, -List.map_drop, -List.map_set, -List.map_append, -List.drop_one, a80, T170_v, cC1_eq, validCB, T170_t, cTm_eq, T170_f, cCi_eq, chgRB, tv_true hv, tv_true ht, hke, hx', hk', hk, hgx, h1, h2, hd, clC_clu0]
  have hd : chgR c id t a b to = (⟨c.g.copy, own (c.i.l.set k ((x.st to).si t)), c.next⟩, 0) := by
    rw [chgR, if_neg hnn, if_neg hx, hke, if_pos (by simp [hopt, hm])]
    simp only [Int.toNat_natCast, setI, hopt]
  have ho := own_dv (l := c.i.l.set k ((x.st to).si t)) (s := 37) (f := inC) (by rw [List.length_set]; exact c.i.b)
  have ha : ∀ l : List Grp, (l.flatMap grC).length = l.length * 6 := fm_len len_grC
  have hb : ∀ l : List Ins, (l.flatMap inC).length = l.length * 37 := fm_len len_inC
  have hg := valid_gne hv hk
  have hi : c.i.l ≠ [] := by intro e; rw [e] at hk; simp at hk
  have e2 := mutO_ne (f := grC) hg
  have e3 := fun id => cpD_ne (id := id) (s := 6) hg
  have e5 := copy_dv_ne (s := 6) (f := grC) hg
  have e7 := take_grs (l := c.g.l) (n := c.g.l.length) (Nat.le_refl _)
  have f1 := fun id => cpD_ne (id := id) (s := 37) hi
  have f2 := mutO_ne (f := inC) hi
  have s1 : ∀ H id, storeO H id 1 (k * 37 + 34) (.int .i64 to) (some (c.i.l.flatMap inC)) = some (.junk, H.set id (.cells ((c.i.l.set k (x.st to)).flatMap inC))) := fun H id => by rw [store_st hk, hxe]
  have s2 : ∀ H id, storeO H id 1 (k * 37 + 35) (.int .i64 t) (some ((c.i.l.set k (x.st to)).flatMap inC)) = some (.junk, H.set id (.cells ((c.i.l.set k ((x.st to).si t)).flatMap inC))) := fun H id => by
    rw [store_si (by rw [List.length_set]; exact hk), List.getElem_set_self, List.set_set]
  have e8 := take_ins (l := c.i.l.set k ((x.st to).si t)) (n := c.i.l.length) (by rw [List.length_set]; exact Nat.le_refl _)
  by_cases h1 : x.state = a
  · simp (disch := first | omega | (simp [-List.map_take, -List.map_drop, -List.map_set, -List.map_append, -List.drop_one] <;> omega) | fail) [-List.map_take, -List.map_drop, -List.map_set, -List.map_append, -List.drop_one, a80, T170_v, cC1_eq, validCB, T170_t, cTm_eq, T170_f, cCi_eq, chgRB, tv_true hv, tv_true ht, hke, hx', hk', hk, hgx, h1, T170_c, cNCp_eq, copyW, copyK, e2, e3, e5, e7, e8, f1, f2, ha, hb, storeO_one, s1, s2, hd, clC_mk, ho]
  · have h2 : x.state = b := by simpa [mayR, h1] using hm
    have h3 : ¬ b = a := fun e => h1 (h2.trans e)
    simp (disch := first | omega | (simp [-List.map_take, -List.map_drop, -List.map_set, -List.map_append, -List.drop_one] <;> omega) | fail) [-List.map_take, -List.map_drop, -List.map_set, -List.map_append, -List.drop_one, a80, T170_v, cC1_eq, validCB, T170_t, cTm_eq, T170_f, cCi_eq, chgRB, tv_true hv, tv_true ht, hke, hx', hk', hk, hgx, h3, h2, T170_c, cNCp_eq, copyW, copyK, e2, e3, e5, e7, e8, f1, f2, ha, hb, storeO_one, s1, s2, hd, clC_mk, ho]
end Go.Proofs.YtjhakjeioppijaaDoor
set_option linter.unusedSimpArgs false
set_option linter.unusedVariables false
namespace Go.Proofs.YtjhakjeioppijaaDoor
open Go Go.Am
noncomputable def cChR : List DV → Option DV := con (fun _ => True) (fun p : Clu × Int × Int × Int × Int × Int => [.agg (clC p.1), .int .i64 p.2.1, .int .i64 p.2.2.1, .int .i64 p.2.2.2.1, .int .i64 p.2.2.2.2.1, .int .i64 p.2.2.2.2.2]) (fun p => chgRB p.1 p.2.1 p.2.2.1 p.2.2.2.1 p.2.2.2.2.1 p.2.2.2.2.2)
theorem cChR_eq {c : Clu} {id t a b to : Int} : cChR [.agg (clC c), .int .i64 id, .int .i64 t, .int .i64 a, .int .i64 b, .int .i64 to] = some (chgRB c id t a b to) :=
  con_inj (f := fun p : Clu × Int × Int × Int × Int × Int => [.agg (clC p.1), .int .i64 p.2.1, .int .i64 p.2.2.1, .int .i64 p.2.2.2.1, .int .i64 p.2.2.2.2.1, .int .i64 p.2.2.2.2.2]) (by
    rintro ⟨a, b, c, d, e, f⟩ ⟨a', b', c', d', e', f'⟩ e
    simp only [List.cons.injEq, DV.agg.injEq, DV.int.injEq, and_true, true_and] at e
    obtain ⟨e1, e2, e3, e4, e5, e6⟩ := e
    rw [clC_inj e1, e2, e3, e4, e5, e6]) (c, id, t, a, b, to)
noncomputable def T415 : Tbl := addT 80 (.pure cChR) tbl0
theorem T415_c : T415 80 = .pure cChR := by simp [T415]
theorem T415_sound : T415.Sound P := addT_sound (con_sound fun p _ => sem_runs mix T170_sound Tryd.func80 a80_ok (runs_refchange p.1 p.2.1 p.2.2.1 p.2.2.2.1 p.2.2.2.2.1 p.2.2.2.2.2)) tbl0_sound
theorem runs_refstop (c : Clu) (id t : Int) : Runs T415 a41 [.agg (clC c), .int .i64 id, .int .i64 t] (chgRB c id t 1 2 3) := by
  refine ⟨?_⟩
  simp (disch := first | omega | (simp [-List.map_take, -List.map_drop, -List.map_set, -List.map_append, -List.drop_one] <;> omega) | fail) [-List.map_take, -List.map_drop, -List.map_set, -List.map_append, -List.drop_one, a41, T415_c, cChR_eq, chgRB]
open Classical in
noncomputable def removeR (c : Clu) (id : Int) : Clu × Int :=
  if ¬ ValidC c then (clu0, 1)
  else if findIx c.i.l id < 0 then (clu0, 4)
  else (⟨c.g.copy, (own (c.i.l.eraseIdx (findIx c.i.l id).toNat)).copy, c.next⟩, 0)
noncomputable def removeRB (c : Clu) (id : Int) : DV := .tup [.agg (clC (removeR c id).1), .int .i64 (removeR c id).2]
theorem own_copy_nil {α : Type} {s : Nat} {f : α → List DV} {l : List α} (h : l = []) : ((own l).copy).dv s f = .nils := by
  rw [copy_dv_nil]; rw [own_l (by rw [h]; simp), h]
theorem own_copy_ne {α : Type} {s : Nat} {f : α → List DV} {l : List α} (hb : l.length ≤ 4294967296) (h : l ≠ []) : ((own l).copy).dv s f = .sl false s l.length (l.flatMap f) := by
  rw [copy_dv_ne (by rw [own_l hb]; exact h), own_l hb]
theorem apart_dv {α : Type} {x : Sl α} {s : Nat} {f : α → List DV} {b : DV} : apartD (x.dv s f) b = b.known := by
  obtain ⟨k, l, h, hb⟩ := x
  cases k with
  | none => exact apart_nils
  | some c => exact apart_sl
set_option maxRecDepth 20000 in
set_option maxHeartbeats 4000000 in
theorem runs_refremove (c : Clu) (id : Int) : Runs T170 a42 [.agg (clC c), .int .i64 id] (removeRB c id) := by
  refine ⟨?_⟩
  by_cases hv : ValidC c
  case neg =>
    have hd : removeR c id = (clu0, 1) := by rw [removeR, if_pos hv]
    simp (disch := first | omega | (simp [-List.map_take, -List.map_drop, -List.map_set, -List.map_append, -List.drop_one] <;> omega) | fail) [-List.map_take, -List.map_drop, -List.map_set, -List.map_append, -List.drop_one, a42, T170_v, cC1_eq, validCB, removeRB, tv_false hv, hd, clC_clu0]
  by_cases hf : findIx c.i.l id < 0
  · have hd : removeR c id = (clu0, 4) := by rw [removeR, if_neg (fun h => h hv), if_pos hf]
    simp (disch := first | omega | (simp [-List.map_take, -List.map_drop, -List.map_set, -List.map_append, -List.drop_one] <;> omega) | fail) [-List.map_take, -List.map_drop, -List.map_set, -List.map_append, -List.drop_one, a42, T170_v, T170_f, cC1_eq, cCi_eq, validCB, removeRB, tv_true hv, hf, hd, clC_clu0]
  obtain ⟨k, hk, hke, -, -⟩ := ixI_pos (p := fun x => decide (x.id = id)) (l := c.i.l) (by show 0 ≤ findIx c.i.l id; omega)
  have hke' : findIx c.i.l id = k := hke
  have hd : removeR c id = (⟨c.g.copy, (own (c.i.l.eraseIdx k)).copy, c.next⟩, 0) := by rw [removeR, if_neg (fun h => h hv), if_neg hf, hke', Int.toNat_natCast]
  have hni := hv.ni
  have hel : (c.i.l.eraseIdx k).length = c.i.l.length - 1 := by rw [List.length_eraseIdx, if_pos hk]
  have hee : c.i.l.eraseIdx k = c.i.l.take k ++ c.i.l.drop (k + 1) := List.eraseIdx_eq_take_drop_succ _ _
  have hg := valid_gne hv hk
  have hi : c.i.l ≠ [] := fun e => by rw [e] at hk; simp at hk
  have ha : ∀ l : List Grp, (l.flatMap grC).length = l.length * 6 := fm_len len_grC
  have hb : ∀ l : List Ins, (l.flatMap inC).length = l.length * 37 := fm_len len_inC
  have hk' : ¬ (k : Int) < 0 := by omega
  have hpos : 0 < c.i.l.length := by omega
  have e2 := mutO_ne (f := grC) hg
  have e3 := fun id => cpD_ne (id := id) (s := 6) hg
  have e5 := copy_dv_ne (s := 6) (f := grC) hg
  have e7 := take_grs (l := c.g.l) (n := c.g.l.length) (Nat.le_refl _)
  have f1 := fun id => cpD_ne (id := id) (s := 37) hi
  have f2 := mutO_ne (f := inC) hi
  have v1 : ∀ H, slcSD H 37 (c.i.dv 37 inC) none (some (.int .i64 k)) none = some ((c.i.part 0 k (k == c.i.l.length)).dv 37 inC) := fun H => slcSD_dv len_inC (boundsD_h (by omega) (by omega)) (by omega)
  have v2 : ∀ H, slcSD H 37 (c.i.dv 37 inC) (some (.int .i64 ((k : Int) + 1))) none none = some ((c.i.part (k + 1) c.i.l.length true).dv 37 inC) := fun H => by
    have := slcSD_dv (h := H) (x := c.i) (f := inC) len_inC (boundsD_l (k := .i64) (a := (k : Int) + 1) (n := c.i.l.length) (by omega) (by omega)) (Nat.le_refl _)
    have e1 : ((k : Int) + 1).toNat = k + 1 := by omega
    rw [e1, beq_self_eq_true] at this
    exact this
  obtain ⟨p1, hp1⟩ : ∃ x, c.i.part 0 k (k == c.i.l.length) = x := ⟨_, rfl⟩
  obtain ⟨p2, hp2⟩ : ∃ x, c.i.part (k + 1) c.i.l.length true = x := ⟨_, rfl⟩
  have pl1 : p1.l = c.i.l.take k := by rw [← hp1]; simp [Sl.part]
  have pl2 : p2.l = c.i.l.drop (k + 1) := by rw [← hp2]; exact List.take_of_length_le (by simp)
  obtain ⟨A, hA⟩ : ∃ x, c.i.l.take k = x := ⟨_, rfl⟩
  obtain ⟨B, hB⟩ : ∃ x, c.i.l.drop (k + 1) = x := ⟨_, rfl⟩
  have y1 := fun K => visY_dv (h := K) (x := p1) len_inC
  have y2 := fun K => visY_dv (h := K) (x := p2) len_inC
  rw [pl1, hA] at y1
  rw [pl2, hB] at y2
  rw [hp1] at v1
  rw [hp2] at v2
  rw [hA, hB] at hee
  rw [hee] at hel hd
  have hab : A.length + B.length = c.i.l.length - 1 := by rw [← hel, List.length_append]
  have ap := fun a b c d e f g => appX_in (pre := [a, b, c, d, e, f, g]) (L := []) (M := A) (by simp; omega)
  have aq := fun a b c d e f g => appX_in (pre := [a, b, c, d, e, f, g]) (L := A) (M := B) (by omega)
  simp only [List.length_cons, List.length_nil, Nat.zero_add, Nat.reduceAdd, List.nil_append] at ap aq
  have n1 : inV 7 [] = .nils := rfl
  have n2 : ∀ pre, inH pre [] = pre := fun _ => rfl
  rw [n1] at ap
  simp only [n2] at ap
  have hap : ∀ b, apartD (c.i.dv 37 inC) b = b.known := fun b => apart_dv
  by_cases hAe : A = []
  · subst hAe
    simp only [n1, n2, List.nil_append] at ap aq hd hel
    by_cases hBe : B = []
    · subst hBe
      have ho := own_copy_nil (s := 37) (f := inC) (l := ([] : List Ins)) rfl
      simp only [n1, n2] at aq
      simp (disch := first | omega | (simp [-List.map_take, -List.map_drop, -List.map_set, -List.map_append, -List.drop_one] <;> omega) | fail) [-List.map_take, -List.map_drop, -List.map_set, -List.map_append, -List.drop_one, a42, T170_v, T170_f, cC1_eq, cCi_eq, validCB, removeRB, tv_true hv, hke', hk', T170_c, cNCp_eq, copyW, copyK, e2, e3, e5, e7, f1, f2, ha, hb, v1, v2, y1, y2, ap, aq, hap, hd, clC_mk, ho]
    · have ho := own_copy_ne (s := 37) (f := inC) (l := B) (by omega) hBe
      have e8 := take_ins (l := B) (n := B.length) (Nat.le_refl _)
      simp only [inV_ne hBe, inH_ne hBe, List.cons_append, List.nil_append] at aq
      simp (disch := first | omega | (simp [-List.map_take, -List.map_drop, -List.map_set, -List.map_append, -List.drop_one] <;> omega) | fail) [-List.map_take, -List.map_drop, -List.map_set, -List.map_append, -List.drop_one, a42, T170_v, T170_f, cC1_eq, cCi_eq, validCB, removeRB, tv_true hv, hke', hk', T170_c, cNCp_eq, copyW, copyK, e2, e3, e5, e7, e8, f1, f2, ha, hb, v1, v2, y1, y2, ap, aq, hap, hd, clC_mk, ho]
  · have hne : A ++ B ≠ [] := by simp [hAe]
    simp only [inV_ne hAe, inH_ne hAe, List.cons_append, List.nil_append] at ap
    simp only [inV_ne hAe, inH_ne hAe, inV_ne hne, inH_ne hne, List.cons_append, List.nil_append] at aq
    obtain ⟨L, hL⟩ : ∃ x, A ++ B = x := ⟨_, rfl⟩
    rw [hL] at hne hd hel
    simp only [hL] at aq
    have ho := own_copy_ne (s := 37) (f := inC) (l := L) (by omega) hne
    have e8 := take_ins (l := L) (n := L.length) (Nat.le_refl _)
    simp (disch := first | omega | (simp [-List.map_take, -List.map_drop, -List.map_set, -List.map_append, -List.drop_one] <;> omega) | fail) [-List.map_take, -List.map_drop, -List.map_set, -List.map_append, -List.drop_one, a42, T170_v, T170_f, cC1_eq, cCi_eq, validCB, removeRB, tv_true hv, hke', hk', T170_c, cNCp_eq, copyW, copyK, e2, e3, e5, e7, e8, f1, f2, ha, hb, v1, v2, y1, y2, ap, aq, hap, hd, clC_mk, ho]
end Go.Proofs.YtjhakjeioppijaaDoor
set_option linter.unusedSimpArgs false
set_option linter.unusedVariables false
namespace Go.Proofs.YtjhakjeioppijaaDoor
open Go Go.Am
def markSc (den : List Bool) (t : Int) (x : Sl Ins) : Sl Ins := ⟨x.copy.k, markL den t x.l, fun e => markL_nil.2 (x.copy.h e), by rw [markL_len]; exact x.b⟩
open Classical in
noncomputable def markR (c : Clu) (den : List Bool) (t : Int) : Clu := if ¬ ValidC c ∨ ¬ timeOK t then c else ⟨c.g.copy, markSc den t c.i, c.next⟩
theorem markSc_nil {den : List Bool} {t : Int} {x : Sl Ins} (h : x.l = []) : (markSc den t x).dv 37 inC = .nils := by
  have h1 : markL den t x.l = [] := markL_nil.2 h
  simp [markSc, Sl.dv, Sl.copy, slD, h, h1]
theorem markSc_ne {den : List Bool} {t : Int} {x : Sl Ins} (h : x.l ≠ []) : (markSc den t x).dv 37 inC = .sl false 37 x.l.length ((markL den t x.l).flatMap inC) := by
  simp [markSc, Sl.dv, Sl.copy, h, slD, markL_len]
def S192 (c : Clu) (den : Sl Bool) (t : Int) (gd : DV) (gO : List AObj) (i : Nat) : St :=
  a43S0 (den.dv 1 inB) (.int .i64 t) (.mp 1 3 0) (.mp 6 3 0) (.int .i64 i) ([.cells (clC c), .cells [.nils, .nils, .int .i64 0], .cells (clC c), .cells [gd, .ms 5 (c.i.l.length * 37) 0 37 c.i.l.length (c.i.l.length * 37), .int .i64 c.next]] ++ gO ++ [.cells ((mkI den.l t c.i.l i).flatMap inC), .cells [gd, .ms 5 (c.i.l.length * 37) 0 37 c.i.l.length (c.i.l.length * 37), .int .i64 c.next]])
def S193 (c : Clu) (den : Sl Bool) (t : Int) (p : Nat) (gd : DV) (gO : List AObj) : St :=
  a43S0 (den.dv 1 inB) (.int .i64 t) (.mp 1 3 0) (.mp p 3 0) (.int .i64 0) ([.cells (clC c), .cells [.nils, .nils, .int .i64 0], .cells (clC c), .cells [gd, .nils, .int .i64 c.next]] ++ gO ++ [.cells [gd, .nils, .int .i64 c.next]])
set_option maxRecDepth 20000 in
set_option maxHeartbeats 4000000 in
theorem runs_refmark (c : Clu) (den : Sl Bool) (t : Int) : Runs T170 a43 [.agg (clC c), den.dv 1 inB, .int .i64 t] (.agg (clC (markR c den.l t))) := by
  refine ⟨?_⟩
  have hbd := den.b
  have ha : ∀ l : List Grp, (l.flatMap grC).length = l.length * 6 := fm_len len_grC
  have hb : ∀ l : List Ins, (l.flatMap inC).length = l.length * 37 := fm_len len_inC
  have hpd : pureD (den.dv 1 inB) = true := dv_pure pure_inB den
  by_cases hv : ValidC c
  case neg =>
    have hd : markR c den.l t = c := by rw [markR, if_pos (.inl hv)]
    simp (disch := first | omega | (simp [-List.map_take, -List.map_drop, -List.map_set, -List.map_append, -List.drop_one] <;> omega) | fail) [-List.map_take, -List.map_drop, -List.map_set, -List.map_append, -List.drop_one, a43, T170_v, cC1_eq, validCB, tv_false hv, hd]
  by_cases ht : timeOK t
  case neg =>
    have hd : markR c den.l t = c := by rw [markR, if_pos (.inr ht)]
    simp (disch := first | omega | (simp [-List.map_take, -List.map_drop, -List.map_set, -List.map_append, -List.drop_one] <;> omega) | fail) [-List.map_take, -List.map_drop, -List.map_set, -List.map_append, -List.drop_one, a43, T170_v, cC1_eq, validCB, T170_t, cTm_eq, tv_true hv, tv_false ht, hd]
  have hd : markR c den.l t = ⟨c.g.copy, markSc den.l t c.i, c.next⟩ := by rw [markR, if_neg fun h => h.elim (fun h => h hv) (fun h => h ht)]
  have h1 := tv_true hv
  have h2 := tv_true ht
  by_cases hi : c.i.l = []
  · have f1 := fun id => cpD_nil (id := id) (s := 37) hi
    have f2 := mutO_nil (f := inC) hi
    have f3 := markSc_nil (den := den.l) (t := t) hi
    by_cases hg : c.g.l = []
    · have e2 := mutO_nil (f := grC) hg
      have e3 := fun id => cpD_nil (id := id) (s := 6) hg
      have e5 := copy_dv_nil (s := 6) (f := grC) hg
      simp (disch := first | omega | (simp [-List.map_take, -List.map_drop, -List.map_set, -List.map_append, -List.drop_one] <;> omega) | fail) [-List.map_take, -List.map_drop, -List.map_set, -List.map_append, -List.drop_one, a43, T170_v, cC1_eq, validCB, T170_t, cTm_eq, h1, h2, T170_c, cNCp_eq, copyW, copyK, e2, e3, f1, f2]
      refine W_loop (fun _ : Nat => S193 c den t 4 .nils []) (fun _ => 0) (fun _ => True) 0 (weak_same (by simp (disch := first | omega | (simp [-List.map_take, -List.map_drop, -List.map_set, -List.map_append, -List.drop_one] <;> omega) | fail) [-List.map_take, -List.map_drop, -List.map_set, -List.map_append, -List.drop_one, S193, a43S0]) (by simp (disch := first | omega | (simp [-List.map_take, -List.map_drop, -List.map_set, -List.map_append, -List.drop_one] <;> omega) | fail) [-List.map_take, -List.map_drop, -List.map_set, -List.map_append, -List.drop_one, S193])) trivial (fun _ _ => ?_)
      simp (disch := first | omega | (simp [-List.map_take, -List.map_drop, -List.map_set, -List.map_append, -List.drop_one] <;> omega) | fail) [-List.map_take, -List.map_drop, -List.map_set, -List.map_append, -List.drop_one, a43L0, a43S0, S193, hd, clC_mk, f3, e5]
    · have e2 := mutO_ne (f := grC) hg
      have e3 := fun id => cpD_ne (id := id) (s := 6) hg
      have e5 := copy_dv_ne (s := 6) (f := grC) hg
      have e7 := take_grs (l := c.g.l) (n := c.g.l.length) (Nat.le_refl _)
      simp (disch := first | omega | (simp [-List.map_take, -List.map_drop, -List.map_set, -List.map_append, -List.drop_one] <;> omega) | fail) [-List.map_take, -List.map_drop, -List.map_set, -List.map_append, -List.drop_one, a43, T170_v, cC1_eq, validCB, T170_t, cTm_eq, h1, h2, T170_c, cNCp_eq, copyW, copyK, e2, e3, f1, f2]
      refine W_loop (fun _ : Nat => S193 c den t 5 (.ms 4 (c.g.l.length * 6) 0 6 c.g.l.length (c.g.l.length * 6)) [.cells (c.g.l.flatMap grC)]) (fun _ => 0) (fun _ => True) 0 (weak_same (by simp (disch := first | omega | (simp [-List.map_take, -List.map_drop, -List.map_set, -List.map_append, -List.drop_one] <;> omega) | fail) [-List.map_take, -List.map_drop, -List.map_set, -List.map_append, -List.drop_one, S193, a43S0]) (by simp (disch := first | omega | (simp [-List.map_take, -List.map_drop, -List.map_set, -List.map_append, -List.drop_one] <;> omega) | fail) [-List.map_take, -List.map_drop, -List.map_set, -List.map_append, -List.drop_one, S193])) trivial (fun _ _ => ?_)
      simp (disch := first | omega | (simp [-List.map_take, -List.map_drop, -List.map_set, -List.map_append, -List.drop_one] <;> omega) | fail) [-List.map_take, -List.map_drop, -List.map_set, -List.map_append, -List.drop_one, a43L0, a43S0, S193, hd, clC_mk, f3, e5, e7, ha]
  · have hg := valid_gne hv (List.length_pos_iff.2 hi)
    have f1 := fun id => cpD_ne (id := id) (s := 37) hi
    have f2 := mutO_ne (f := inC) hi
    have f3 := markSc_ne (den := den.l) (t := t) hi
    have e2 := mutO_ne (f := grC) hg
    have e3 := fun id => cpD_ne (id := id) (s := 6) hg
    have e5 := copy_dv_ne (s := 6) (f := grC) hg
    have e7 := take_grs (l := c.g.l) (n := c.g.l.length) (Nat.le_refl _)
    have hib := c.i.b
    simp (disch := first | omega | (simp [-List.map_take, -List.map_drop, -List.map_set, -List.map_append, -List.drop_one] <;> omega) | fail) [-List.map_take, -List.map_drop, -List.map_set, -List.map_append, -List.drop_one, a43, T170_v, cC1_eq, validCB, T170_t, cTm_eq, h1, h2, T170_c, cNCp_eq, copyW, copyK, e2, e3, f1, f2]
    refine W_loop (S192 c den t (.ms 4 (c.g.l.length * 6) 0 6 c.g.l.length (c.g.l.length * 6)) [.cells (c.g.l.flatMap grC)]) (fun i => c.i.l.length - i) (fun i => i ≤ c.i.l.length) 0 (weak_same (by simp (disch := first | omega | (simp [-List.map_take, -List.map_drop, -List.map_set, -List.map_append, -List.drop_one] <;> omega) | fail) [-List.map_take, -List.map_drop, -List.map_set, -List.map_append, -List.drop_one, S192, a43S0]) (by simp (disch := first | omega | (simp [-List.map_take, -List.map_drop, -List.map_set, -List.map_append, -List.drop_one] <;> omega) | fail) [-List.map_take, -List.map_drop, -List.map_set, -List.map_append, -List.drop_one, S192, mkI_zero])) (by omega) (fun i hile => ?_)
    have hml := mkI_len (den := den.l) (t := t) (l := c.i.l) (i := i)
    have hmf := hb (mkI den.l t c.i.l i)
    rw [hml] at hmf
    simp (disch := first | omega | (simp [-List.map_take, -List.map_drop, -List.map_set, -List.map_append, -List.drop_one] <;> omega) | fail) [-List.map_take, -List.map_drop, -List.map_set, -List.map_append, -List.drop_one, a43L0, a43S0, S192, hmf]
    by_cases h : i < c.i.l.length
    · have h' : (i : Int) < c.i.l.length := by omega
      have hi2 : i < (mkI den.l t c.i.l i).length := by omega
      have k1 := fun H id v => store_de (H := H) (id := id) (v := v) hi2
      have k2 := one_den hi2
      rw [mkI_get h hi2] at k1 k2
      have fin : ∀ x, markI den.l t i c.i.l[i] = x → (mkI den.l t c.i.l i).set i x = mkI den.l t c.i.l (i + 1) := fun x e => by rw [← e]; exact mkI_set h
      by_cases hdl : i < den.l.length
      · have hdl' : (i : Int) < den.l.length := by omega
        have hdl2 : ¬ (den.l.length : Int) ≤ i := by omega
        have hgd : ∀ H, idxSD H 1 (den.dv 1 inB) i = some (.ref (inB den.l[i])) := fun H => idxSD_dv len_inB hdl
        have hob : ∀ b, one 1 false (inB b) = some (.bool b) := fun b => rfl
        have hgb : den.l.getD i false = den.l[i] := by rw [List.getD_eq_getElem?_getD, List.getElem?_eq_getElem hdl]; rfl
        cases hbv : den.l[i] with
        | false =>
          have hm : markI den.l t i c.i.l[i] = c.i.l[i].de (-1) := by rw [markI, hgb, hbv]; rfl
          have := fin _ hm
          simp (disch := first | omega | (simp [-List.map_take, -List.map_drop, -List.map_set, -List.map_append, -List.drop_one] <;> omega) | fail) [-List.map_take, -List.map_drop, -List.map_set, -List.map_append, -List.drop_one, h', h, hdl, hdl', hdl2, hgd, hob, hbv, hmf, k1, k2, this]
          exact ⟨i + 1, weak_same (by simp (disch := first | omega | (simp [-List.map_take, -List.map_drop, -List.map_set, -List.map_append, -List.drop_one] <;> omega) | fail) [-List.map_take, -List.map_drop, -List.map_set, -List.map_append, -List.drop_one]) (by simp (disch := first | omega | (simp [-List.map_take, -List.map_drop, -List.map_set, -List.map_append, -List.drop_one] <;> omega) | fail) [-List.map_take, -List.map_drop, -List.map_set, -List.map_append, -List.drop_one]), by omega, by omega⟩
        | true =>
          by_cases hx : c.i.l[i].den = -1
          · have hm : markI den.l t i c.i.l[i] = c.i.l[i].de t := by rw [markI, hgb, hbv, if_pos rfl, if_pos hx]
            have := fin _ hm
            simp (disch := first | omega | (simp [-List.map_take, -List.map_drop, -List.map_set, -List.map_append, -List.drop_one] <;> omega) | fail) [-List.map_take, -List.map_drop, -List.map_set, -List.map_append, -List.drop_one, h', h, hdl, hdl', hdl2, hgd, hob, hbv, hmf, k1, k2, hx, this]
            exact ⟨i + 1, weak_same (by simp (disch := first | omega | (simp [-List.map_take, -List.map_drop, -List.map_set, -List.map_append, -List.drop_one] <;> omega) | fail) [-List.map_take, -List.map_drop, -List.map_set, -List.map_append, -List.drop_one]) (by simp (disch := first | omega | (simp [-List.map_take, -List.map_drop, -List.map_set, -List.map_append, -List.drop_one] <;> omega) | fail) [-List.map_take, -List.map_drop, -List.map_set, -List.map_append, -List.drop_one]), by omega, by omega⟩
          · have hm : markI den.l t i c.i.l[i] = c.i.l[i] := by rw [markI, hgb, hbv, if_pos rfl, if_neg hx]
            have := mkI_same h hm
            simp (disch := first | omega | (simp [-List.map_take, -List.map_drop, -List.map_set, -List.map_append, -List.drop_one] <;> omega) | fail) [-List.map_take, -List.map_drop, -List.map_set, -List.map_append, -List.drop_one, h', h, hdl, hdl', hdl2, hgd, hob, hbv, hmf, k1, k2, hx]
            exact ⟨i + 1, weak_same (by simp (disch := first | omega | (simp [-List.map_take, -List.map_drop, -List.map_set, -List.map_append, -List.drop_one] <;> omega) | fail) [-List.map_take, -List.map_drop, -List.map_set, -List.map_append, -List.drop_one]) (by simp (disch := first | omega | (simp [-List.map_take, -List.map_drop, -List.map_set, -List.map_append, -List.drop_one] <;> omega) | fail) [-List.map_take, -List.map_drop, -List.map_set, -List.map_append, -List.drop_one, this]), by omega, by omega⟩
      · have hdl' : ¬ (i : Int) < den.l.length := by omega
        have hdl2 : (den.l.length : Int) ≤ i := by omega
        have hgb : den.l.getD i false = false := by rw [List.getD_eq_getElem?_getD, List.getElem?_eq_none (by omega)]; rfl
        have hm : markI den.l t i c.i.l[i] = c.i.l[i].de (-1) := by rw [markI, hgb]; rfl
        have := fin _ hm
        simp (disch := first | omega | (simp [-List.map_take, -List.map_drop, -List.map_set, -List.map_append, -List.drop_one] <;> omega) | fail) [-List.map_take, -List.map_drop, -List.map_set, -List.map_append, -List.drop_one, h', h, hdl, hdl', hdl2, hmf, k1, k2, this]
        exact ⟨i + 1, weak_same (by simp (disch := first | omega | (simp [-List.map_take, -List.map_drop, -List.map_set, -List.map_append, -List.drop_one] <;> omega) | fail) [-List.map_take, -List.map_drop, -List.map_set, -List.map_append, -List.drop_one]) (by simp (disch := first | omega | (simp [-List.map_take, -List.map_drop, -List.map_set, -List.map_append, -List.drop_one] <;> omega) | fail) [-List.map_take, -List.map_drop, -List.map_set, -List.map_append, -List.drop_one]), by omega, by omega⟩
    · have h' : ¬ (i : Int) < c.i.l.length := by omega
      have hma := mkI_all (den := den.l) (t := t) (l := c.i.l) (i := i) (by omega)
      have htk := take_mk (den := den.l) (t := t) (l := c.i.l) (i := i)
      have hmb := hmf
      rw [hma] at htk hmb
      simp (disch := first | omega | (simp [-List.map_take, -List.map_drop, -List.map_set, -List.map_append, -List.drop_one] <;> omega) | fail) [-List.map_take, -List.map_drop, -List.map_set, -List.map_append, -List.drop_one, h, h', hma, htk, hmb, hd, clC_mk, f3, e5, e7, ha, hb]
end Go.Proofs.YtjhakjeioppijaaDoor
set_option linter.unusedSimpArgs false
set_option linter.unusedVariables false
namespace Go.Proofs.YtjhakjeioppijaaDoor
open Go Go.Am
noncomputable def cDD : List DV → Option DV := con (fun _ => True) (fun p : Sl Dg × Sl Dg => [p.1.dv 32 dgC, p.2.dv 32 dgC]) (fun p => .bool (tv (p.1.l = p.2.l)))
theorem cDD_eq {a b : Sl Dg} : cDD [a.dv 32 dgC, b.dv 32 dgC] = some (.bool (tv (a.l = b.l))) :=
  con_inj (f := fun p : Sl Dg × Sl Dg => [p.1.dv 32 dgC, p.2.dv 32 dgC]) (by
    rintro ⟨a, b⟩ ⟨a', b'⟩ e
    simp only [List.cons.injEq, and_true] at e
    rw [dv_inj len_dgC (by decide) (fun _ _ => dgC_inj) e.1, dv_inj len_dgC (by decide) (fun _ _ => dgC_inj) e.2]) (a, b)
def S390 (a b : Sl Dg) (i : Nat) : St := a107S0 (a.dv 32 dgC) (b.dv 32 dgC) (.int .i64 i) []
theorem runs_samedg (a b : Sl Dg) : Runs tbl0 a107 [a.dv 32 dgC, b.dv 32 dgC] (.bool (tv (a.l = b.l))) := by
  refine ⟨?_⟩
  have ha := a.b
  have hb := b.b
  by_cases hl : a.l.length = b.l.length
  · have hl' : (a.l.length : Int) = b.l.length := by omega
    simp (disch := first | omega | (simp [-List.map_take, -List.map_drop, -List.map_set, -List.map_append, -List.drop_one] <;> omega) | fail) [-List.map_take, -List.map_drop, -List.map_set, -List.map_append, -List.drop_one, a107, hl, hl']
    refine W_loop (S390 a b) (fun i => a.l.length - i) (fun i => i ≤ a.l.length ∧ a.l.take i = b.l.take i) 0 (weak_same (by simp (disch := first | omega | (simp [-List.map_take, -List.map_drop, -List.map_set, -List.map_append, -List.drop_one] <;> omega) | fail) [-List.map_take, -List.map_drop, -List.map_set, -List.map_append, -List.drop_one, S390, a107S0]) (by simp (disch := first | omega | (simp [-List.map_take, -List.map_drop, -List.map_set, -List.map_append, -List.drop_one] <;> omega) | fail) [-List.map_take, -List.map_drop, -List.map_set, -List.map_append, -List.drop_one, S390, a107S0])) ⟨by omega, by simp⟩ (fun i hi => ?_)
    obtain ⟨h1, h2⟩ := hi
    simp (disch := first | omega | (simp [-List.map_take, -List.map_drop, -List.map_set, -List.map_append, -List.drop_one] <;> omega) | fail) [-List.map_take, -List.map_drop, -List.map_set, -List.map_append, -List.drop_one, a107L0, a107S0, S390]
    by_cases h : i < a.l.length
    · have h' : (i : Int) < a.l.length := by omega
      have hx := fun H => idxSD_dv (x := a) (h := H) len_dgC h
      have hy := fun H => idxSD_dv (x := b) (h := H) len_dgC (i := i) (by omega)
      by_cases e : a.l[i] = b.l[i]
      · simp (disch := first | omega | (simp [-List.map_take, -List.map_drop, -List.map_set, -List.map_append, -List.drop_one] <;> omega) | fail) [-List.map_take, -List.map_drop, -List.map_set, -List.map_append, -List.drop_one, h, h', hx, hy, e]
        refine ⟨i + 1, weak_same (by simp (disch := first | omega | (simp [-List.map_take, -List.map_drop, -List.map_set, -List.map_append, -List.drop_one] <;> omega) | fail) [-List.map_take, -List.map_drop, -List.map_set, -List.map_append, -List.drop_one, S390, a107S0]) (by simp (disch := first | omega | (simp [-List.map_take, -List.map_drop, -List.map_set, -List.map_append, -List.drop_one] <;> omega) | fail) [-List.map_take, -List.map_drop, -List.map_set, -List.map_append, -List.drop_one, S390, a107S0]), by omega, by omega, ?_⟩
        rw [List.take_succ_eq_append_getElem h, List.take_succ_eq_append_getElem (by omega), h2, e]
      · have hr : tv (a.l = b.l) = false := tv_false fun q => e (by simp only [q])
        simp (disch := first | omega | (simp [-List.map_take, -List.map_drop, -List.map_set, -List.map_append, -List.drop_one] <;> omega) | fail) [-List.map_take, -List.map_drop, -List.map_set, -List.map_append, -List.drop_one, h, h', hx, hy, e, hr]
    · have h' : ¬ (i : Int) < a.l.length := by omega
      have hr : tv (a.l = b.l) = true := tv_true (by
        rw [List.take_of_length_le (by omega), List.take_of_length_le (by omega)] at h2
        exact h2)
      simp (disch := first | omega | (simp [-List.map_take, -List.map_drop, -List.map_set, -List.map_append, -List.drop_one] <;> omega) | fail) [-List.map_take, -List.map_drop, -List.map_set, -List.map_append, -List.drop_one, h, h', hr]
  · have hl' : ¬ (a.l.length : Int) = b.l.length := by omega
    have hr : tv (a.l = b.l) = false := tv_false fun q => hl (by rw [q])
    simp (disch := first | omega | (simp [-List.map_take, -List.map_drop, -List.map_set, -List.map_append, -List.drop_one] <;> omega) | fail) [-List.map_take, -List.map_drop, -List.map_set, -List.map_append, -List.drop_one, a107, hl, hl', hr]
noncomputable def T420 : Tbl := addT 107 (.pure cDD) tbl0
theorem T420_s : T420 107 = .pure cDD := by simp [T420]
theorem T420_sound : T420.Sound P := addT_sound (con_sound fun p _ => sem_runs mix tbl0_sound Tryd.func107 a107_ok (runs_samedg p.1 p.2)) tbl0_sound
theorem runs_samegroup (a b : Grp) : Runs T420 a82 [.agg (grC a), .agg (grC b)] (.bool (tv (gl a = gl b))) := by
  refine ⟨?_⟩
  by_cases h1 : a.ns = b.ns
  case neg =>
    have hr : tv (gl a = gl b) = false := tv_false fun q => h1 (by simp only [gl, Prod.mk.injEq] at q; exact q.1)
    simp (disch := first | omega | (simp [-List.map_take, -List.map_drop, -List.map_set, -List.map_append, -List.drop_one] <;> omega) | fail) [-List.map_take, -List.map_drop, -List.map_set, -List.map_append, -List.drop_one, a82, h1, hr]
  by_cases h2 : a.im = b.im
  case neg =>
    have hr : tv (gl a = gl b) = false := tv_false fun q => h2 (by simp only [gl, Prod.mk.injEq] at q; exact q.2.1)
    simp (disch := first | omega | (simp [-List.map_take, -List.map_drop, -List.map_set, -List.map_append, -List.drop_one] <;> omega) | fail) [-List.map_take, -List.map_drop, -List.map_set, -List.map_append, -List.drop_one, a82, h1, h2, hr]
  by_cases h3 : a.want = b.want
  case neg =>
    have hr : tv (gl a = gl b) = false := tv_false fun q => h3 (by simp only [gl, Prod.mk.injEq] at q; exact q.2.2.1)
    simp (disch := first | omega | (simp [-List.map_take, -List.map_drop, -List.map_set, -List.map_append, -List.drop_one] <;> omega) | fail) [-List.map_take, -List.map_drop, -List.map_set, -List.map_append, -List.drop_one, a82, h1, h2, h3, hr]
  by_cases h4 : a.least = b.least
  case neg =>
    have hr : tv (gl a = gl b) = false := tv_false fun q => h4 (by simp only [gl, Prod.mk.injEq] at q; exact q.2.2.2.1)
    simp (disch := first | omega | (simp [-List.map_take, -List.map_drop, -List.map_set, -List.map_append, -List.drop_one] <;> omega) | fail) [-List.map_take, -List.map_drop, -List.map_set, -List.map_append, -List.drop_one, a82, h1, h2, h3, h4, hr]
  by_cases h5 : a.down = b.down
  case neg =>
    have hr : tv (gl a = gl b) = false := tv_false fun q => h5 (by simp only [gl, Prod.mk.injEq] at q; exact q.2.2.2.2.1)
    simp (disch := first | omega | (simp [-List.map_take, -List.map_drop, -List.map_set, -List.map_append, -List.drop_one] <;> omega) | fail) [-List.map_take, -List.map_drop, -List.map_set, -List.map_append, -List.drop_one, a82, h1, h2, h3, h4, h5, hr]
  have hr : tv (gl a = gl b) = tv (a.ch.l = b.ch.l) := tv_iff (by simp only [gl, Prod.mk.injEq, h1, h2, h3, h4, h5, true_and])
  simp (disch := first | omega | (simp [-List.map_take, -List.map_drop, -List.map_set, -List.map_append, -List.drop_one] <;> omega) | fail) [-List.map_take, -List.map_drop, -List.map_set, -List.map_append, -List.drop_one, a82, h1, h2, h3, h4, h5, T420_s, cDD_eq, hr]
noncomputable def cGG : List DV → Option DV := con (fun _ => True) (fun p : Grp × Grp => [.agg (grC p.1), .agg (grC p.2)]) (fun p => .bool (tv (gl p.1 = gl p.2)))
theorem cGG_eq {a b : Grp} : cGG [.agg (grC a), .agg (grC b)] = some (.bool (tv (gl a = gl b))) :=
  con_inj (f := fun p : Grp × Grp => [.agg (grC p.1), .agg (grC p.2)]) (by
    rintro ⟨a, b⟩ ⟨a', b'⟩ e
    simp only [List.cons.injEq, DV.agg.injEq, and_true] at e
    rw [grC_inj e.1, grC_inj e.2]) (a, b)
noncomputable def T421 : Tbl := addT 82 (.pure cGG) tbl0
theorem T421_s : T421 82 = .pure cGG := by simp [T421]
theorem T421_sound : T421.Sound P := addT_sound (con_sound fun p _ => sem_runs mix T420_sound Tryd.func82 a82_ok (runs_samegroup p.1 p.2)) tbl0_sound
def S391 (a b : Clu) (i : Nat) : St := a44S0 (.mp 0 3 0) (.mp 1 3 0) (.int .i64 i) [.cells (clC a), .cells (clC b)]
def S392 (a b : Clu) (i : Nat) : St := a44S1 (.mp 0 3 0) (.mp 1 3 0) (.int .i64 i) [.cells (clC a), .cells (clC b)]
noncomputable def sameB (a b : Clu) : Bool := tv (SameC a b)
set_option maxRecDepth 20000 in
set_option maxHeartbeats 2000000 in
theorem runs_same (a b : Clu) : Runs T421 a44 [.agg (clC a), .agg (clC b)] (.bool (sameB a b)) := by
  refine ⟨?_⟩
  have ha1 := a.g.b
  have ha2 := a.i.b
  have hb1 := b.g.b
  have hb2 := b.i.b
  by_cases g1 : a.g.l.length = b.g.l.length
  case neg =>
    have g1' : ¬ (a.g.l.length : Int) = b.g.l.length := by omega
    have hr : sameB a b = false := tv_false fun q => g1 (by simpa using congrArg List.length q.g)
    simp (disch := first | omega | (simp [-List.map_take, -List.map_drop, -List.map_set, -List.map_append, -List.drop_one] <;> omega) | fail) [-List.map_take, -List.map_drop, -List.map_set, -List.map_append, -List.drop_one, a44, g1, g1', hr]
  have g1' : (a.g.l.length : Int) = b.g.l.length := by omega
  by_cases g2 : a.i.l.length = b.i.l.length
  case neg =>
    have g2' : ¬ (a.i.l.length : Int) = b.i.l.length := by omega
    have hr : sameB a b = false := tv_false fun q => g2 (by simpa using congrArg List.length q.i)
    simp (disch := first | omega | (simp [-List.map_take, -List.map_drop, -List.map_set, -List.map_append, -List.drop_one] <;> omega) | fail) [-List.map_take, -List.map_drop, -List.map_set, -List.map_append, -List.drop_one, a44, g1, g1', g2, g2', hr]
  have g2' : (a.i.l.length : Int) = b.i.l.length := by omega
  by_cases g3 : a.next = b.next
  case neg =>
    have hr : sameB a b = false := tv_false fun q => g3 q.n
    simp (disch := first | omega | (simp [-List.map_take, -List.map_drop, -List.map_set, -List.map_append, -List.drop_one] <;> omega) | fail) [-List.map_take, -List.map_drop, -List.map_set, -List.map_append, -List.drop_one, a44, g1, g1', g2, g2', g3, hr]
  simp (disch := first | omega | (simp [-List.map_take, -List.map_drop, -List.map_set, -List.map_append, -List.drop_one] <;> omega) | fail) [-List.map_take, -List.map_drop, -List.map_set, -List.map_append, -List.drop_one, a44, g1, g1', g2, g2', g3]
  refine W_loop (S391 a b) (fun i => a.g.l.length - i) (fun i => i ≤ a.g.l.length ∧ (a.g.l.take i).map gl = (b.g.l.take i).map gl) 0 (weak_same (by simp (disch := first | omega | (simp [-List.map_take, -List.map_drop, -List.map_set, -List.map_append, -List.drop_one] <;> omega) | fail) [-List.map_take, -List.map_drop, -List.map_set, -List.map_append, -List.drop_one, S391, a44S0]) (by simp (disch := first | omega | (simp [-List.map_take, -List.map_drop, -List.map_set, -List.map_append, -List.drop_one] <;> omega) | fail) [-List.map_take, -List.map_drop, -List.map_set, -List.map_append, -List.drop_one, S391, a44S0])) ⟨by omega, by simp⟩ (fun i hi => ?_)
  obtain ⟨h1, h2⟩ := hi
  simp (disch := first | omega | (simp [-List.map_take, -List.map_drop, -List.map_set, -List.map_append, -List.drop_one] <;> omega) | fail) [-List.map_take, -List.map_drop, -List.map_set, -List.map_append, -List.drop_one, a44L0, a44S0, S391]
  by_cases h : i < a.g.l.length
  · have h' : (i : Int) < a.g.l.length := by omega
    have hx := fun H => idxSD_dv (x := a.g) (h := H) len_grC h
    have hy := fun H => idxSD_dv (x := b.g) (h := H) len_grC (i := i) (by omega)
    by_cases e : gl a.g.l[i] = gl b.g.l[i]
    · simp (disch := first | omega | (simp [-List.map_take, -List.map_drop, -List.map_set, -List.map_append, -List.drop_one] <;> omega) | fail) [-List.map_take, -List.map_drop, -List.map_set, -List.map_append, -List.drop_one, h, h', hx, hy, T421_s, cGG_eq, tv_true e]
      refine ⟨i + 1, weak_same (by simp (disch := first | omega | (simp [-List.map_take, -List.map_drop, -List.map_set, -List.map_append, -List.drop_one] <;> omega) | fail) [-List.map_take, -List.map_drop, -List.map_set, -List.map_append, -List.drop_one, S391, a44S0]) (by simp (disch := first | omega | (simp [-List.map_take, -List.map_drop, -List.map_set, -List.map_append, -List.drop_one] <;> omega) | fail) [-List.map_take, -List.map_drop, -List.map_set, -List.map_append, -List.drop_one, S391, a44S0]), by omega, by omega, ?_⟩
      rw [List.take_succ_eq_append_getElem h, List.take_succ_eq_append_getElem (by omega), List.map_append, List.map_append, h2, List.map_cons, List.map_cons, e]
    · have hr : sameB a b = false := tv_false fun q => e (by
        have hq := q.g
        have e1 : (a.g.l.map gl)[i]? = (b.g.l.map gl)[i]? := by rw [hq]
        rw [List.getElem?_map, List.getElem?_map, List.getElem?_eq_getElem h, List.getElem?_eq_getElem (by omega)] at e1
        simpa using e1)
      simp (disch := first | omega | (simp [-List.map_take, -List.map_drop, -List.map_set, -List.map_append, -List.drop_one] <;> omega) | fail) [-List.map_take, -List.map_drop, -List.map_set, -List.map_append, -List.drop_one, h, h', hx, hy, T421_s, cGG_eq, tv_false e, hr]
  · have h' : ¬ (i : Int) < a.g.l.length := by omega
    have hgl : a.g.l.map gl = b.g.l.map gl := by
      rw [List.take_of_length_le (by omega), List.take_of_length_le (by omega)] at h2
      exact h2
    simp (disch := first | omega | (simp [-List.map_take, -List.map_drop, -List.map_set, -List.map_append, -List.drop_one] <;> omega) | fail) [-List.map_take, -List.map_drop, -List.map_set, -List.map_append, -List.drop_one, h, h']
    refine W_loop (S392 a b) (fun i => a.i.l.length - i) (fun i => i ≤ a.i.l.length ∧ a.i.l.take i = b.i.l.take i) 0 (weak_same (by simp (disch := first | omega | (simp [-List.map_take, -List.map_drop, -List.map_set, -List.map_append, -List.drop_one] <;> omega) | fail) [-List.map_take, -List.map_drop, -List.map_set, -List.map_append, -List.drop_one, S392, a44S1]) (by simp (disch := first | omega | (simp [-List.map_take, -List.map_drop, -List.map_set, -List.map_append, -List.drop_one] <;> omega) | fail) [-List.map_take, -List.map_drop, -List.map_set, -List.map_append, -List.drop_one, S392, a44S1])) ⟨by omega, by simp⟩ (fun j hj => ?_)
    obtain ⟨h3, h4⟩ := hj
    simp (disch := first | omega | (simp [-List.map_take, -List.map_drop, -List.map_set, -List.map_append, -List.drop_one] <;> omega) | fail) [-List.map_take, -List.map_drop, -List.map_set, -List.map_append, -List.drop_one, a44L1, a44S1, S392]
    by_cases q : j < a.i.l.length
    · have q' : (j : Int) < a.i.l.length := by omega
      have hx := fun H => idxSD_dv (x := a.i) (h := H) len_inC q
      have hy := fun H => idxSD_dv (x := b.i) (h := H) len_inC (i := j) (by omega)
      by_cases e : a.i.l[j] = b.i.l[j]
      · simp (disch := first | omega | (simp [-List.map_take, -List.map_drop, -List.map_set, -List.map_append, -List.drop_one] <;> omega) | fail) [-List.map_take, -List.map_drop, -List.map_set, -List.map_append, -List.drop_one, q, q', hx, hy, e]
        refine ⟨j + 1, weak_same (by simp (disch := first | omega | (simp [-List.map_take, -List.map_drop, -List.map_set, -List.map_append, -List.drop_one] <;> omega) | fail) [-List.map_take, -List.map_drop, -List.map_set, -List.map_append, -List.drop_one, S392, a44S1]) (by simp (disch := first | omega | (simp [-List.map_take, -List.map_drop, -List.map_set, -List.map_append, -List.drop_one] <;> omega) | fail) [-List.map_take, -List.map_drop, -List.map_set, -List.map_append, -List.drop_one, S392, a44S1]), by omega, by omega, ?_⟩
        rw [List.take_succ_eq_append_getElem q, List.take_succ_eq_append_getElem (by omega), h4, e]
      · have hr : sameB a b = false := tv_false fun z => e (by have := z.i; simp only [this])
        simp (disch := first | omega | (simp [-List.map_take, -List.map_drop, -List.map_set, -List.map_append, -List.drop_one] <;> omega) | fail) [-List.map_take, -List.map_drop, -List.map_set, -List.map_append, -List.drop_one, q, q', hx, hy, e, hr]
    · have q' : ¬ (j : Int) < a.i.l.length := by omega
      have hr : sameB a b = true := tv_true ⟨hgl, by
        rw [List.take_of_length_le (by omega), List.take_of_length_le (by omega)] at h4
        exact h4, g3⟩
      simp (disch := first | omega | (simp [-List.map_take, -List.map_drop, -List.map_set, -List.map_append, -List.drop_one] <;> omega) | fail) [-List.map_take, -List.map_drop, -List.map_set, -List.map_append, -List.drop_one, q, q', hr]
noncomputable def cCC : List DV → Option DV := con (fun _ => True) (fun p : Clu × Clu => [.agg (clC p.1), .agg (clC p.2)]) (fun p => .bool (sameB p.1 p.2))
theorem cCC_eq {a b : Clu} : cCC [.agg (clC a), .agg (clC b)] = some (.bool (sameB a b)) :=
  con_inj (f := fun p : Clu × Clu => [.agg (clC p.1), .agg (clC p.2)]) (by
    rintro ⟨a, b⟩ ⟨a', b'⟩ e
    simp only [List.cons.injEq, DV.agg.injEq, and_true] at e
    rw [clC_inj e.1, clC_inj e.2]) (a, b)
theorem same_sound : (Con.pure cCC).Sound P 44 := con_sound fun p _ => sem_runs mix T421_sound Tryd.func44 a44_ok (runs_same p.1 p.2)
end Go.Proofs.YtjhakjeioppijaaDoor
