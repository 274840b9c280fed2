/-
  41 texts of mine in one.
-/
import Derived.Lib.AppendZeros
import Derived.WalkKit
import Derived.Test.YtjhakjeioppijaaDoorC5f0ea989
import Derived.Test.YtjhakjeioppijaaDoorC950dc02d
import Derived.Test.YtjhakjeioppijaaDoorC0aefe577
import Derived.Test.YtjhakjeioppijaaDoorC05f1b330
set_option linter.unusedSimpArgs false
set_option linter.unusedVariables false
namespace Go.Proofs.YtjhakjeioppijaaDoor
open Go Go.Am
def clW (n : Nat) (c : Clu) : List DV := [mutD (n + 2) 6 c.clone.g grC, mutD (n + (2 + (mutO c.g grC).length)) 37 c.i inC, .int .i64 c.next]
theorem shD_mut' {α : Type} {n id s : Nat} {x : Sl α} {f : α → List DV} (hp : ∀ a, pureL (f a) = true) : shD n (mutD id s x f) = mutD (n + id) s x f := by
  by_cases h : x.l = []
  · rw [mutD_nil h, mutD_nil h]; exact shD_pure n _ (dv_pure hp _)
  · rw [mutD_ne h, mutD_ne h]; rfl
noncomputable def cNC : List DV → Nat → Option (DV × List AObj) := conN (fun _ => True) (fun c : Clu => [.agg (clC c)]) (fun c => (cloneV c, cloneK c))
theorem cNC_eq {c : Clu} {n : Nat} : cNC [.agg (clC c)] n = some (.agg (clW n c), .cells (clW n c) :: .cells (clW n c) :: (mutO c.clone.g grC ++ mutO c.i inC)) := by
  have := conN_eq (A := fun _ => True) (f := fun x : Clu => [.agg (clC x)]) (g := fun c => (cloneV c, cloneK c)) (fun a b e => by
    simp only [List.cons.injEq, DV.agg.injEq, and_true] at e
    rw [clC_inj e]) c trivial n
  simp only [cloneV, cloneK, I3, shD_agg, shL_cons, shL_nil, shD_mut' pure_grC, shD_mut' pure_inC, shD_int, List.map_cons, List.map_append, shO_cells, shO_mut pure_grC, shO_mut pure_inC] at this
  exact this
noncomputable def T112 : Tbl := addT 20 (.pure (cC1 validCB)) (addT 18 (.pure (cG1 validGB)) (addT 22 (.pure (cCSS grpD)) (addT 71 (.new cNC) (addT 75 (.pure cCD) (addT 70 (.pure cTm) (addT 24 (.pure (cCi fun c i => .int .i64 (findIx c.i.l i))) tbl0))))))
theorem T112_v : T112 20 = .pure (cC1 validCB) := by simp [T112]
theorem T112_vg : T112 18 = .pure (cG1 validGB) := by simp [T112]
theorem T112_g : T112 22 = .pure (cCSS grpD) := by simp [T112]
theorem T112_c : T112 71 = .new cNC := by simp [T112]
theorem T112_d : T112 75 = .pure cCD := by simp [T112]
theorem T112_t : T112 70 = .pure cTm := by simp [T112]
theorem T112_sound : T112.Sound P := addT_sound (con_sound fun x _ => sem_runs mix T107_sound Tryd.func20 a20_ok (runs_valid x)) (addT_sound (con_sound fun x _ => sem_runs mix T106_sound Tryd.func18 a18_ok (runs_validgroup x)) (addT_sound (con_sound fun x _ => sem_runs mix T102_sound Tryd.func22 a22_ok (runs_group x.1 x.2.1 x.2.2)) (addT_sound (conN_sound (fun x _ => by simp) fun x _ => calls_runs mix T110_sound Tryd.func71 a71_ok (runs_clone x)) (addT_sound (con_sound fun x _ => sem_cloneD x) (addT_sound (cTm_sound fun t => sem_runs mix tbl0_sound Tryd.func70 a70_ok (runs_timed t)) (addT_sound (con_sound fun x _ => sem_runs mix T104_sound Tryd.func24 a24_ok (runs_find x.1 x.2)) tbl0_sound))))))
theorem clC_mk {g : Sl Grp} {i : Sl Ins} {n : Int} : clC ⟨g, i, n⟩ = [g.dv 6 grC, i.dv 37 inC, .int .i64 n] := rfl
theorem clC_clu0 : clC clu0 = [.nils, .nils, .int .i64 0] := rfl
noncomputable def deployB (c : Clu) (g : Grp) : DV := .tup [.agg (clC (deployP c g).1), .int .i64 (deployP c g).2]
theorem splice_g5 {g : Grp} {y : Sl Dg} : splice (grC g) 5 [y.dv 32 dgC] = grC (g.withCh y) := rfl
theorem with_clone {g : Grp} : g.withCh g.ch.clone = g.clone := rfl
theorem appX_clone0 {α : Type} {x : Sl α} {s b m : Nat} {f : α → List DV} {h : List AObj} {cs : List DV} (hx : x.l = []) (hb : b ≤ 16384) (h0 : 0 < s) (hm : m * s = cs.length) (hm0 : 0 < m) (hbig : m ≤ 4294967296) :
    appX h s b (x.clone.dv s f) m cs = some (.ms h.length cs.length 0 s m cs.length, h ++ [.cells cs]) := by
  obtain ⟨k, l, hk, hl⟩ := x
  cases (show l = [] from hx)
  cases k with
  | none => exact appX_nils hb h0 hm hm0 hbig
  | some q =>
    have := appX_full (h := h) (s := s) (b := b) (n := 0) (m := m) (ds := []) (cs := cs) hb h0 hm hm0 (by omega)
    simp only [List.length_nil, Nat.zero_add, List.nil_append] at this
    exact this
theorem snapL_grs {h : List AObj} {k : Nat} {l : List Grp} : snapL h k (l.flatMap grC) = some (l.flatMap grC) := snapL_clean (fm_pure pure_grC l)
theorem snapL_ins {h : List AObj} {k : Nat} {l : List Ins} : snapL h k (l.flatMap inC) = some (l.flatMap inC) := snapL_clean (fm_pure pure_inC l)
theorem take_grs {l : List Grp} {n : Nat} (h : l.length ≤ n) : (l.flatMap grC).take (n * 6) = l.flatMap grC := by rw [fm_take len_grC, List.take_of_length_le h]
theorem take_ins {l : List Ins} {n : Nat} (h : l.length ≤ n) : (l.flatMap inC).take (n * 37) = l.flatMap inC := by rw [fm_take len_inC, List.take_of_length_le h]
theorem clone_dv_ne {α : Type} {x : Sl α} {s : Nat} {f : α → List DV} (h : x.l ≠ []) : x.clone.dv s f = .sl false s x.l.length (x.l.flatMap f) := by simp [Sl.clone, Sl.dv, slD, h]
theorem storeO_grs {h : List AObj} {id off : Nat} {x : Grp} {l : List DV} (hl : off + 6 ≤ l.length) : storeO h id 6 off (.agg (grC x)) (some l) = some (.junk, h.set id (.cells (splice l off (grC x)))) := by
  have e : (DV.agg (grC x)).cells = grC x := rfl
  simp only [storeO, e, all_grC, len_grC]
  rw [if_pos ⟨trivial, hl, trivial⟩]
theorem take_gr6 {g : Grp} : (grC g).take 6 = grC g := List.take_of_length_le (by simp)
theorem take_in37 {g : Ins} : (inC g).take 37 = inC g := List.take_of_length_le (by simp)
attribute [simp] take_gr6 take_in37 snapL_grs snapL_ins all_grC all_inC all_dgC
theorem bsl_g {z : List DV} {g : Grp} (hz : z.length = 6) : bslD 6 1 z [(0, 6, .agg (grC g))] = some (.sl true 6 1 (grC g)) := by
  rw [bslD_of (by simp [DV.known]) (by simp [seqD, hz, DV.cells])]; simp [seqD, DV.cells]
set_option maxHeartbeats 4000000 in
theorem runs_deploy (c : Clu) (g : Grp) : Runs T112 a35 [.agg (clC c), .agg (grC g)] (deployB c g) := by
  refine ⟨?_⟩
  by_cases hv : ValidC c
  case neg =>
    have hd : deployP c g = (clu0, 1) := by rw [deployP, if_pos (.inl hv)]
    simp (disch := first | omega | (simp [-List.map_take, -List.map_drop, -List.map_set, -List.map_append, -List.drop_one] <;> omega) | fail) [-List.map_take, -List.map_drop, -List.map_set, -List.map_append, -List.drop_one, a35, T112_v, cC1_eq, validCB, tv_false hv, deployB, hd, clC_clu0]
  by_cases hvg : ValidG g
  case neg =>
    have hd : deployP c g = (clu0, 1) := by rw [deployP, if_pos (.inr hvg)]
    simp (disch := first | omega | (simp [-List.map_take, -List.map_drop, -List.map_set, -List.map_append, -List.drop_one] <;> omega) | fail) [-List.map_take, -List.map_drop, -List.map_set, -List.map_append, -List.drop_one, a35, T112_v, cC1_eq, validCB, tv_true hv, T112_vg, cG1_eq, validGB, tv_false hvg, deployB, hd, clC_clu0]
  have hnn : ¬ (¬ ValidC c ∨ ¬ ValidG g) := fun h => h.elim (fun h => h hv) (fun h => h hvg)
  have hng := hv.ng
  by_cases hx : grpIx c.g.l g.ns g.im < 0
  · by_cases hl : 16 ≤ c.g.l.length
    · have hl' : (16 : Int) ≤ c.g.l.length := by omega
      have hd : deployP c g = (clu0, 3) := by rw [deployP, if_neg hnn, if_pos hx, if_pos hl]
      simp (disch := first | omega | (simp [-List.map_take, -List.map_drop, -List.map_set, -List.map_append, -List.drop_one] <;> omega) | fail) [-List.map_take, -List.map_drop, -List.map_set, -List.map_append, -List.drop_one, a35, T112_v, cC1_eq, validCB, tv_true hv, T112_vg, cG1_eq, validGB, tv_true hvg, T112_g, cCSS_eq, grpD, hx, hl', hl, deployB, hd, clC_clu0]
    · have hl' : ¬ (16 : Int) ≤ c.g.l.length := by omega
      have hd : deployP c g = (⟨own (c.g.l.map Grp.clone ++ [g.clone]), c.i.clone, c.next⟩, 0) := by rw [deployP, if_neg hnn, if_pos hx, if_neg hl]
      have ho := own_dv (l := c.g.l.map Grp.clone ++ [g.clone]) (s := 6) (f := grC) (by simp; omega)
      have ha : ∀ l : List Grp, (l.flatMap grC).length = l.length * 6 := fm_len len_grC
      have hb : ∀ l : List Ins, (l.flatMap inC).length = l.length * 37 := fm_len len_inC
      have hgl : c.clone.g.l.length = c.g.l.length := by simp [clone_gl]
      by_cases hg : c.g.l = []
      · have e2 := mutO_nil (f := grC) hg
        have e3 := mutD_nil (id := 5) (s := 6) (f := grC) (clone_gnil hg)
        have e4 := mutO_nil (f := grC) (clone_gnil hg)
        have e5 := fun h cs => appX_clone0 (x := c.clone.g) (s := 6) (b := 80) (m := 1) (f := grC) (h := h) (cs := grC cs) (clone_gnil hg) (by decide) (by decide) (by simp) (by decide) (by decide)
        have hm : c.g.l.map Grp.clone = [] := by rw [hg]; rfl
        have ho : (own (c.g.l.map Grp.clone ++ [g.clone])).dv 6 grC = .sl false 6 1 (grC g.clone) := by rw [ho, hm]; simp
        by_cases hi : c.i.l = []
        · have f1 := fun id => mutD_nil (id := id) (s := 37) (f := inC) hi
          have f2 := mutO_nil (f := inC) hi
          simp (disch := first | omega | (simp [-List.map_take, -List.map_drop, -List.map_set, -List.map_append, -List.drop_one] <;> omega) | fail) [-List.map_take, -List.map_drop, -List.map_set, -List.map_append, -List.drop_one, a35, T112_v, cC1_eq, validCB, tv_true hv, T112_vg, cG1_eq, validGB, tv_true hvg, T112_g, cCSS_eq, grpD, hx, hl', hl, T112_c, cNC_eq, T112_d, cCD_eq, clW, storeO_one, splice_g5, with_clone, bsl_g, deployB, hd, clC_mk, ho, e2, e3, e4, e5, f1, f2]
        · have f1 := fun id => mutD_ne (id := id) (s := 37) (f := inC) hi
          have f2 := mutO_ne (f := inC) hi
          have f3 := clone_dv_ne (s := 37) (f := inC) hi
          have f4 := take_ins (l := c.i.l) (Nat.le_refl _)
          simp (disch := first | omega | (simp [-List.map_take, -List.map_drop, -List.map_set, -List.map_append, -List.drop_one] <;> omega) | fail) [-List.map_take, -List.map_drop, -List.map_set, -List.map_append, -List.drop_one, a35, T112_v, cC1_eq, validCB, tv_true hv, T112_vg, cG1_eq, validGB, tv_true hvg, T112_g, cCSS_eq, grpD, hx, hl', hl, T112_c, cNC_eq, T112_d, cCD_eq, clW, storeO_one, splice_g5, with_clone, bsl_g, deployB, hd, clC_mk, ho, e2, e3, e4, e5, f1, f2, f3, f4, hb]
      · have e2 := mutO_ne (f := grC) hg
        have e3 := mutD_ne (id := 5) (s := 6) (f := grC) (clone_gne hg)
        have e4 := mutO_ne (f := grC) (clone_gne hg)
        have e6 : (c.g.l.length + 1) * 6 = c.g.l.length * 6 + 6 := by omega
        have e7 : ((c.g.l.map Grp.clone).flatMap grC ++ grC g.clone).take ((c.g.l.length + 1) * 6) = (c.g.l.map Grp.clone).flatMap grC ++ grC g.clone := List.take_of_length_le (by rw [List.length_append, ha, len_grC, List.length_map]; omega)
        have e11 : ∀ H k, snapL H k ((c.g.l.map Grp.clone).flatMap grC ++ grC g.clone) = some ((c.g.l.map Grp.clone).flatMap grC ++ grC g.clone) := fun H k => snapL_clean (pureL_append (fm_pure pure_grC _) (pure_grC _))
        by_cases hi : c.i.l = []
        · have f1 := fun id => mutD_nil (id := id) (s := 37) (f := inC) hi
          have f2 := mutO_nil (f := inC) hi
          simp (disch := first | omega | (simp [-List.map_take, -List.map_drop, -List.map_set, -List.map_append, -List.drop_one] <;> omega) | fail) [-List.map_take, -List.map_drop, -List.map_set, -List.map_append, -List.drop_one, a35, T112_v, cC1_eq, validCB, tv_true hv, T112_vg, cG1_eq, validGB, tv_true hvg, T112_g, cCSS_eq, grpD, hx, hl', hl, T112_c, cNC_eq, T112_d, cCD_eq, clW, storeO_one, splice_g5, with_clone, bsl_g, deployB, hd, clC_mk, ho, e2, e3, e4, e11, f1, f2, ha, hb, clone_gl, e7]
        · have f1 := fun id => mutD_ne (id := id) (s := 37) (f := inC) hi
          have f2 := mutO_ne (f := inC) hi
          have f3 := clone_dv_ne (s := 37) (f := inC) hi
          have f4 := take_ins (l := c.i.l) (Nat.le_refl _)
          simp (disch := first | omega | (simp [-List.map_take, -List.map_drop, -List.map_set, -List.map_append, -List.drop_one] <;> omega) | fail) [-List.map_take, -List.map_drop, -List.map_set, -List.map_append, -List.drop_one, a35, T112_v, cC1_eq, validCB, tv_true hv, T112_vg, cG1_eq, validGB, tv_true hvg, T112_g, cCSS_eq, grpD, hx, hl', hl, T112_c, cNC_eq, T112_d, cCD_eq, clW, storeO_one, splice_g5, with_clone, bsl_g, deployB, hd, clC_mk, ho, e2, e3, e4, e11, f1, f2, f3, f4, ha, hb, clone_gl, e7]
  · obtain ⟨k, hk, hke, hkf, _⟩ := ixI_pos (show 0 ≤ grpIx c.g.l g.ns g.im by omega)
    have hke : grpIx c.g.l g.ns g.im = k := hke
    have hd : deployP c g = (⟨own ((c.g.l.map Grp.clone).set k g.clone), c.i.clone, c.next⟩, 0) := by rw [deployP, if_neg hnn, if_neg hx, hke]; rfl
    have ho := own_dv (l := (c.g.l.map Grp.clone).set k g.clone) (s := 6) (f := grC) (by simp; omega)
    have ha : ∀ l : List Grp, (l.flatMap grC).length = l.length * 6 := fm_len len_grC
    have hb : ∀ l : List Ins, (l.flatMap inC).length = l.length * 37 := fm_len len_inC
    have hg : c.g.l ≠ [] := by intro e; rw [e] at hk; simp at hk
    have e2 := mutO_ne (f := grC) hg
    have e3 := mutD_ne (id := 5) (s := 6) (f := grC) (clone_gne hg)
    have e4 := mutO_ne (f := grC) (clone_gne hg)
    have hx' : ¬ (k : Int) < 0 := by omega
    have hk' : (k : Int) < c.g.l.length := by omega
    have e8 : splice ((c.g.l.map Grp.clone).flatMap grC) (k * 6) (grC g.clone) = ((c.g.l.map Grp.clone).set k g.clone).flatMap grC := fm_set len_grC (by simpa using hk) _
    have e9 := take_grs (l := (c.g.l.map Grp.clone).set k g.clone) (n := c.g.l.length) (by simp)
    have e10 : ∀ H id, storeO H id 6 (k * 6) (.agg (grC g.clone)) (some ((c.g.l.map Grp.clone).flatMap grC)) = some (.junk, H.set id (.cells (((c.g.l.map Grp.clone).set k g.clone).flatMap grC))) := fun H id => by
      rw [storeO_grs (by rw [ha, List.length_map]; omega), e8]
    by_cases hi : c.i.l = []
    · have f1 := fun id => mutD_nil (id := id) (s := 37) (f := inC) hi
      have f2 := mutO_nil (f := inC) hi
      simp (disch := first | omega | (simp [-List.map_take, -List.map_drop, -List.map_set, -List.map_append, -List.drop_one] <;> omega) | fail) [-List.map_take, -List.map_drop, -List.map_set, -List.map_append, -List.drop_one, a35, T112_v, cC1_eq, validCB, tv_true hv, T112_vg, cG1_eq, validGB, tv_true hvg, T112_g, cCSS_eq, grpD, hke, hx', hk', hk, T112_c, cNC_eq, T112_d, cCD_eq, clW, storeO_one, splice_g5, with_clone, deployB, hd, clC_mk, ho, e2, e3, e4, e9, e10, f1, f2, ha, hb, clone_gl]
    · have f1 := fun id => mutD_ne (id := id) (s := 37) (f := inC) hi
      have f2 := mutO_ne (f := inC) hi
      have f3 := clone_dv_ne (s := 37) (f := inC) hi
      have f4 := take_ins (l := c.i.l) (Nat.le_refl _)
      simp (disch := first | omega | (simp [-List.map_take, -List.map_drop, -List.map_set, -List.map_append, -List.drop_one] <;> omega) | fail) [-List.map_take, -List.map_drop, -List.map_set, -List.map_append, -List.drop_one, a35, T112_v, cC1_eq, validCB, tv_true hv, T112_vg, cG1_eq, validGB, tv_true hvg, T112_g, cCSS_eq, grpD, hke, hx', hk', hk, T112_c, cNC_eq, T112_d, cCD_eq, clW, storeO_one, splice_g5, with_clone, deployB, hd, clC_mk, ho, e2, e3, e4, e9, e10, f1, f2, f3, f4, ha, hb, clone_gl]
end Go.Proofs.YtjhakjeioppijaaDoor
set_option linter.unusedSimpArgs false
set_option linter.unusedVariables false
namespace Go.Proofs.YtjhakjeioppijaaDoor
open Go Go.Am
theorem clone_g_dv {c : Clu} : c.clone.g.clone.dv 6 grC = c.clone.g.dv 6 grC := by
  by_cases h : c.g.l = []
  · simp only [Sl.clone, Clu.clone, Sl.dv, h, List.map_nil, if_true]
    cases c.g.k <;> rfl
  · simp [Sl.clone, Clu.clone, Sl.dv, h]
theorem clone_g_ne {c : Clu} (h : c.g.l ≠ []) : c.clone.g.dv 6 grC = .sl false 6 c.g.l.length ((c.g.l.map Grp.clone).flatMap grC) := by
  rw [← clone_g_dv, clone_dv_ne (clone_gne h), clone_gl, List.length_map]
theorem bsl_i {z : List DV} {x : Ins} (hz : z.length = 37) : bslD 37 1 z [(0, 37, .agg (inC x))] = some (.sl true 37 1 (inC x)) := by
  rw [bslD_of (by simp [DV.known]) (by simp [seqD, hz, DV.cells])]; simp [seqD, DV.cells]
theorem build_i {z : List DV} {a b s i e : Int} {d : Dg} (hz : z.length = 37) : buildD z [(0, 1, .int .i64 a), (1, 1, .int .i64 b), (2, 32, .agg (dgC d)), (34, 1, .int .i64 s), (35, 1, .int .i64 i), (36, 1, .int .i64 e)] = some (.agg (inC ⟨a, b, d, s, i, e⟩)) := by
  rw [buildD_of (by simp [DV.known]) (by simp [seqD, hz, DV.cells])]; simp [seqD, DV.cells, inC]
noncomputable def startB (c : Clu) (g : Int) (d : Dg) (t : Int) : DV := .tup [.agg (clC (startP c g d t).1), .int .i64 (startP c g d t).2.1, .int .i64 (startP c g d t).2.2]
set_option maxHeartbeats 4000000 in
theorem runs_start (c : Clu) (gr : Int) (d : Dg) (t : Int) : Runs T112 a32 [.agg (clC c), .int .i64 gr, .agg (dgC d), .int .i64 t] (startB c gr d t) := by
  refine ⟨?_⟩
  by_cases hv : ValidC c
  case neg =>
    have hd : startP c gr d t = (clu0, 0, 1) := by rw [startP, if_pos (.inl hv)]
    simp (disch := first | omega | (simp [-List.map_take, -List.map_drop, -List.map_set, -List.map_append, -List.drop_one] <;> omega) | fail) [-List.map_take, -List.map_drop, -List.map_set, -List.map_append, -List.drop_one, a32, T112_v, cC1_eq, validCB, T112_t, cTm_eq, startB, tv_false hv, hd, clC_clu0]
  by_cases hz : d = dg0
  · have hd : startP c gr d t = (clu0, 0, 1) := by rw [startP, if_pos (.inr (.inl hz))]
    simp (disch := first | omega | (simp [-List.map_take, -List.map_drop, -List.map_set, -List.map_append, -List.drop_one] <;> omega) | fail) [-List.map_take, -List.map_drop, -List.map_set, -List.map_append, -List.drop_one, a32, T112_v, cC1_eq, validCB, T112_t, cTm_eq, startB, tv_true hv, hz, hd, clC_clu0]
    simp [← hz, hd, clC_clu0]
  by_cases ht : timeOK t
  case neg =>
    have hd : startP c gr d t = (clu0, 0, 1) := by rw [startP, if_pos (.inr (.inr ht))]
    simp (disch := first | omega | (simp [-List.map_take, -List.map_drop, -List.map_set, -List.map_append, -List.drop_one] <;> omega) | fail) [-List.map_take, -List.map_drop, -List.map_set, -List.map_append, -List.drop_one, a32, T112_v, cC1_eq, validCB, T112_t, cTm_eq, startB, tv_true hv, hz, tv_false ht, hd, clC_clu0]
  have hnn : ¬ (¬ ValidC c ∨ d = dg0 ∨ ¬ timeOK t) := fun h => h.elim (fun h => h hv) (fun h => h.elim hz (fun h => h ht))
  have hni := hv.ni
  have hn0 := hv.n0
  by_cases g0 : gr < 0
  · have hd : startP c gr d t = (clu0, 0, 4) := by rw [startP, if_neg hnn, if_pos (.inl g0)]
    simp (disch := first | omega | (simp [-List.map_take, -List.map_drop, -List.map_set, -List.map_append, -List.drop_one] <;> omega) | fail) [-List.map_take, -List.map_drop, -List.map_set, -List.map_append, -List.drop_one, a32, T112_v, cC1_eq, validCB, T112_t, cTm_eq, startB, tv_true hv, hz, tv_true ht, g0, hd, clC_clu0]
  by_cases g1 : (c.g.l.length : Int) ≤ gr
  · have hd : startP c gr d t = (clu0, 0, 4) := by rw [startP, if_neg hnn, if_pos (.inr g1)]
    simp (disch := first | omega | (simp [-List.map_take, -List.map_drop, -List.map_set, -List.map_append, -List.drop_one] <;> omega) | fail) [-List.map_take, -List.map_drop, -List.map_set, -List.map_append, -List.drop_one, a32, T112_v, cC1_eq, validCB, T112_t, cTm_eq, startB, tv_true hv, hz, tv_true ht, g0, g1, hd, clC_clu0]
  have hnn2 : ¬ (gr < 0 ∨ (c.g.l.length : Int) ≤ gr) := fun h => h.elim g0 g1
  by_cases l0 : 200 ≤ c.i.l.length
  · have l0' : (200 : Int) ≤ c.i.l.length := by omega
    have hd : startP c gr d t = (clu0, 0, 3) := by rw [startP, if_neg hnn, if_neg hnn2, if_pos (.inl l0)]
    simp (disch := first | omega | (simp [-List.map_take, -List.map_drop, -List.map_set, -List.map_append, -List.drop_one] <;> omega) | fail) [-List.map_take, -List.map_drop, -List.map_set, -List.map_append, -List.drop_one, a32, T112_v, cC1_eq, validCB, T112_t, cTm_eq, startB, tv_true hv, hz, tv_true ht, g0, g1, l0', l0, hd, clC_clu0]
  have l0' : ¬ (200 : Int) ≤ c.i.l.length := by omega
  by_cases l1 : 1099511627776 ≤ c.next
  · have hd : startP c gr d t = (clu0, 0, 3) := by rw [startP, if_neg hnn, if_neg hnn2, if_pos (.inr l1)]
    simp (disch := first | omega | (simp [-List.map_take, -List.map_drop, -List.map_set, -List.map_append, -List.drop_one] <;> omega) | fail) [-List.map_take, -List.map_drop, -List.map_set, -List.map_append, -List.drop_one, a32, T112_v, cC1_eq, validCB, T112_t, cTm_eq, startB, tv_true hv, hz, tv_true ht, g0, g1, l0', l0, l1, hd, clC_clu0]
  have hnn3 : ¬ (200 ≤ c.i.l.length ∨ 1099511627776 ≤ c.next) := fun h => h.elim l0 l1
  have hd : startP c gr d t = (⟨c.clone.g, own (c.i.l ++ [newI c gr d t]), c.next + 1⟩, c.next, 0) := by rw [startP, if_neg hnn, if_neg hnn2, if_neg hnn3]
  have ho := own_dv (l := c.i.l ++ [newI c gr d t]) (s := 37) (f := inC) (by simp; omega)
  have ha : ∀ l : List Grp, (l.flatMap grC).length = l.length * 6 := fm_len len_grC
  have hb : ∀ l : List Ins, (l.flatMap inC).length = l.length * 37 := fm_len len_inC
  have e12 : DV.int .i64 c.next :: DV.int .i64 gr :: (dgC d ++ [DV.int .i64 1, DV.int .i64 t, DV.int .i64 (-1)]) = inC (newI c gr d t) := rfl
  have hg : c.g.l ≠ [] := by intro e; rw [e] at g1; simp at g1; omega
  have e2 := mutO_ne (f := grC) hg
  have e3 := mutD_ne (id := 5) (s := 6) (f := grC) (clone_gne hg)
  have e4 := mutO_ne (f := grC) (clone_gne hg)
  have e6 := clone_g_ne hg
  have e7 := take_grs (l := c.g.l.map Grp.clone) (n := c.g.l.length) (by simp)
  by_cases hi : c.i.l = []
  · have f1 := fun id => mutD_nil (id := id) (s := 37) (f := inC) hi
    have f2 := mutO_nil (f := inC) hi
    have e5 := fun h cs => appX_clone0 (x := c.i) (s := 37) (b := 72) (m := 1) (f := inC) (h := h) (cs := inC cs) hi (by decide) (by decide) (by simp) (by decide) (by decide)
    have ho : (own (c.i.l ++ [newI c gr d t])).dv 37 inC = .sl false 37 1 (inC (newI c gr d t)) := by rw [ho, hi]; simp
    simp (disch := first | omega | (simp [-List.map_take, -List.map_drop, -List.map_set, -List.map_append, -List.drop_one] <;> omega) | fail) [-List.map_take, -List.map_drop, -List.map_set, -List.map_append, -List.drop_one, a32, T112_v, cC1_eq, validCB, T112_t, cTm_eq, startB, tv_true hv, hz, tv_true ht, g0, g1, l0', l0, l1, T112_c, cNC_eq, clW, storeO_one, bsl_i, e12, hd, clC_mk, ho, clone_gl, e2, e3, e4, e5, e6, e7, f1, f2, ha, hb]
  · have f1 := fun id => mutD_ne (id := id) (s := 37) (f := inC) hi
    have f2 := mutO_ne (f := inC) hi
    have e8 : (c.i.l.flatMap inC ++ inC (newI c gr d t)).take ((c.i.l.length + 1) * 37) = c.i.l.flatMap inC ++ inC (newI c gr d t) := List.take_of_length_le (by rw [List.length_append, hb, len_inC]; omega)
    have e9 : ∀ H k, snapL H k (c.i.l.flatMap inC ++ inC (newI c gr d t)) = some (c.i.l.flatMap inC ++ inC (newI c gr d t)) := fun H k => snapL_clean (pureL_append (fm_pure pure_inC _) (pure_inC _))
    simp (disch := first | omega | (simp [-List.map_take, -List.map_drop, -List.map_set, -List.map_append, -List.drop_one] <;> omega) | fail) [-List.map_take, -List.map_drop, -List.map_set, -List.map_append, -List.drop_one, a32, T112_v, cC1_eq, validCB, T112_t, cTm_eq, startB, tv_true hv, hz, tv_true ht, g0, g1, l0', l0, l1, T112_c, cNC_eq, clW, storeO_one, bsl_i, e12, hd, clC_mk, ho, clone_gl, e2, e3, e4, e6, e7, e8, e9, f1, f2, ha, hb]
theorem splice_in {l : List Ins} {k j : Nat} (h : k < l.length) (hj : j < 37) {v : DV} : splice (l.flatMap inC) (k * 37 + j) [v] = (l.take k).flatMap inC ++ (splice (inC l[k]) j [v] ++ (l.drop (k + 1)).flatMap inC) := by
  have hl := len_inC l[k]
  unfold splice
  rw [List.length_singleton, List.take_add, fm_take len_inC, fm_drop len_inC, Nat.add_assoc, ← List.drop_drop, fm_drop len_inC, List.drop_eq_getElem_cons h, List.flatMap_cons]
  rw [List.take_append_of_le_length (by omega), List.drop_append_of_le_length (by omega)]
  simp only [List.append_assoc]
theorem set_ins {l : List Ins} {k : Nat} (h : k < l.length) {y : Ins} : (l.set k y).flatMap inC = (l.take k).flatMap inC ++ (inC y ++ (l.drop (k + 1)).flatMap inC) := by
  rw [List.set_eq_take_append_cons_drop, if_pos h, List.flatMap_append, List.flatMap_cons]
theorem inC_split (x : Ins) : inC x = (DV.int .i64 x.id :: .int .i64 x.grp :: dgC x.art) ++ [.int .i64 x.state, .int .i64 x.since, .int .i64 x.den] := rfl
theorem len_pre (x : Ins) : (DV.int .i64 x.id :: .int .i64 x.grp :: dgC x.art).length = 34 := by simp
theorem splice_st (x : Ins) (v : Int) : splice (inC x) 34 [.int .i64 v] = inC (x.st v) := by
  have h := len_pre x
  rw [inC_split, inC_split]
  unfold splice
  rw [List.take_append_of_le_length (by omega), List.take_of_length_le (by omega), List.drop_append, List.drop_of_length_le (by simp), h]
  simp [Ins.st]
theorem splice_si (x : Ins) (v : Int) : splice (inC x) 35 [.int .i64 v] = inC (x.si v) := by
  have h := len_pre x
  rw [inC_split, inC_split]
  unfold splice
  rw [List.take_append, List.take_of_length_le (by omega), List.drop_append, List.drop_of_length_le (by simp), h]
  simp [Ins.si]
theorem splice_de (x : Ins) (v : Int) : splice (inC x) 36 [.int .i64 v] = inC (x.de v) := by
  have h := len_pre x
  rw [inC_split, inC_split]
  unfold splice
  rw [List.take_append, List.take_of_length_le (by omega), List.drop_append, List.drop_of_length_le (by simp), h]
  simp [Ins.de]
theorem store_st {H : List AObj} {id k : Nat} {l : List Ins} {v : Int} (h : k < l.length) : storeO H id 1 (k * 37 + 34) (.int .i64 v) (some (l.flatMap inC)) = some (.junk, H.set id (.cells ((l.set k (l[k].st v)).flatMap inC))) := by
  rw [storeO_one rfl rfl (by rw [fm_len len_inC]; omega), splice_in h (by decide), splice_st, set_ins h]
theorem store_si {H : List AObj} {id k : Nat} {l : List Ins} {v : Int} (h : k < l.length) : storeO H id 1 (k * 37 + 35) (.int .i64 v) (some (l.flatMap inC)) = some (.junk, H.set id (.cells ((l.set k (l[k].si v)).flatMap inC))) := by
  rw [storeO_one rfl rfl (by rw [fm_len len_inC]; omega), splice_in h (by decide), splice_si, set_ins h]
theorem store_de {H : List AObj} {id k : Nat} {l : List Ins} {v : Int} (h : k < l.length) : storeO H id 1 (k * 37 + 36) (.int .i64 v) (some (l.flatMap inC)) = some (.junk, H.set id (.cells ((l.set k (l[k].de v)).flatMap inC))) := by
  rw [storeO_one rfl rfl (by rw [fm_len len_inC]; omega), splice_in h (by decide), splice_de, set_ins h]
end Go.Proofs.YtjhakjeioppijaaDoor
set_option linter.unusedSimpArgs false
set_option linter.unusedVariables false
namespace Go.Proofs.YtjhakjeioppijaaDoor
open Go Go.Am
def S120 (x : Sl Dg) (d : Dg) (i : Nat) : St := a63S0 (x.dv 32 dgC) (.mp 0 32 0) (.int .i64 i) [.cells (dgC d)]
theorem runs_refhas (x : Sl Dg) (d : Dg) : Runs tbl0 a63 [x.dv 32 dgC, .agg (dgC d)] (hasB x d) := by
  refine ⟨?_⟩
  have hb := x.b
  simp (disch := first | omega | (simp [-List.map_take, -List.map_drop, -List.map_set, -List.map_append, -List.drop_one] <;> omega) | fail) [-List.map_take, -List.map_drop, -List.map_set, -List.map_append, -List.drop_one, a63]
  refine W_loop (S120 x d) (fun i => x.l.length - i) (fun i => i ≤ x.l.length ∧ ∀ j (hj : j < x.l.length), j < i → ¬ x.l[j] = d) 0 (weak_same (by simp (disch := first | omega | (simp [-List.map_take, -List.map_drop, -List.map_set, -List.map_append, -List.drop_one] <;> omega) | fail) [-List.map_take, -List.map_drop, -List.map_set, -List.map_append, -List.drop_one]) (by simp (disch := first | omega | (simp [-List.map_take, -List.map_drop, -List.map_set, -List.map_append, -List.drop_one] <;> omega) | fail) [-List.map_take, -List.map_drop, -List.map_set, -List.map_append, -List.drop_one])) ⟨by omega, fun j _ hj => by omega⟩ (fun i hi => ?_)
  obtain ⟨h1, h2⟩ := hi
  simp (disch := first | omega | (simp [-List.map_take, -List.map_drop, -List.map_set, -List.map_append, -List.drop_one] <;> omega) | fail) [-List.map_take, -List.map_drop, -List.map_set, -List.map_append, -List.drop_one, a63L0, a63S0, S120]
  by_cases h : i < x.l.length
  · have h' : (i : Int) < x.l.length := by omega
    have hg : ∀ H, idxSD H 32 (x.dv 32 dgC) i = some (.ref (dgC x.l[i])) := fun H => idxSD_dv len_dgC h
    by_cases e : x.l[i] = d
    · have hm : d ∈ x.l := e ▸ List.getElem_mem h
      simp (disch := first | omega | (simp [-List.map_take, -List.map_drop, -List.map_set, -List.map_append, -List.drop_one] <;> omega) | fail) [-List.map_take, -List.map_drop, -List.map_set, -List.map_append, -List.drop_one, h', h, hg, e, hasB, hm]
    · simp (disch := first | omega | (simp [-List.map_take, -List.map_drop, -List.map_set, -List.map_append, -List.drop_one] <;> omega) | fail) [-List.map_take, -List.map_drop, -List.map_set, -List.map_append, -List.drop_one, h', h, hg, e]
      refine ⟨i + 1, weak_same (by simp (disch := first | omega | (simp [-List.map_take, -List.map_drop, -List.map_set, -List.map_append, -List.drop_one] <;> omega) | fail) [-List.map_take, -List.map_drop, -List.map_set, -List.map_append, -List.drop_one]) (by simp (disch := first | omega | (simp [-List.map_take, -List.map_drop, -List.map_set, -List.map_append, -List.drop_one] <;> omega) | fail) [-List.map_take, -List.map_drop, -List.map_set, -List.map_append, -List.drop_one]), by omega, by omega, fun j hj hji => ?_⟩
      by_cases ej : j = i
      · subst ej; exact e
      · exact h2 j hj (by omega)
  · have h' : ¬ (i : Int) < x.l.length := by omega
    have hm : ¬ d ∈ x.l := fun hm => by
      obtain ⟨j, hj, e⟩ := List.getElem_of_mem hm
      exact h2 j hj (by omega) e
    simp (disch := first | omega | (simp [-List.map_take, -List.map_drop, -List.map_set, -List.map_append, -List.drop_one] <;> omega) | fail) [-List.map_take, -List.map_drop, -List.map_set, -List.map_append, -List.drop_one, h, h', hasB, hm]
theorem runs_instant (t : Int) : Runs tbl0 a77 [.int .i64 t] (.bool (tv (timeOK t))) := by
  refine ⟨?_⟩
  by_cases h0 : 0 ≤ t
  · by_cases h1 : t ≤ 1099511627776
    · simp (disch := first | omega | (simp [-List.map_take, -List.map_drop, -List.map_set, -List.map_append, -List.drop_one] <;> omega) | fail) [-List.map_take, -List.map_drop, -List.map_set, -List.map_append, -List.drop_one, a77, h0, h1, tv_true (show timeOK t from ⟨h0, h1⟩)]
    · simp (disch := first | omega | (simp [-List.map_take, -List.map_drop, -List.map_set, -List.map_append, -List.drop_one] <;> omega) | fail) [-List.map_take, -List.map_drop, -List.map_set, -List.map_append, -List.drop_one, a77, h0, h1, tv_false (show ¬ timeOK t from fun h => h1 h.2)]
  · simp (disch := first | omega | (simp [-List.map_take, -List.map_drop, -List.map_set, -List.map_append, -List.drop_one] <;> omega) | fail) [-List.map_take, -List.map_drop, -List.map_set, -List.map_append, -List.drop_one, a77, h0, tv_false (show ¬ timeOK t from fun h => h0 h.1)]
noncomputable def T120 : Tbl := addT 62 (.pure (cS pathB)) (addT 63 (.pure (cDgs hasB)) (addT 77 (.pure cTm) tbl0))
theorem T120_p : T120 62 = .pure (cS pathB) := by simp [T120]
theorem T120_h : T120 63 = .pure (cDgs hasB) := by simp [T120]
theorem T120_t : T120 77 = .pure cTm := by simp [T120]
theorem T120_sound : T120.Sound P := addT_sound (cS_sound fun s => sem_runs mix T73_sound Tryd.func62 a62_ok (runs_refpath s)) (addT_sound (con_sound fun p _ => sem_runs mix tbl0_sound Tryd.func63 a63_ok (runs_refhas p.1 p.2)) (addT_sound (cTm_sound fun t => sem_runs mix tbl0_sound Tryd.func77 a77_ok (runs_instant t)) tbl0_sound))
def S121 (c : Clu) (ns im : List UInt8) (i : Nat) : St := a23S0 (.str ns) (.str im) (.mp 0 3 0) (.int .i64 i) [.cells (clC c)]
theorem runs_refgroup (c : Clu) (ns im : List UInt8) : Runs tbl0 a23 [.agg (clC c), .str ns, .str im] (grpD c ns im) := by
  refine ⟨?_⟩
  have hb := c.g.b
  simp (disch := first | omega | (simp [-List.map_take, -List.map_drop, -List.map_set, -List.map_append, -List.drop_one] <;> omega) | fail) [-List.map_take, -List.map_drop, -List.map_set, -List.map_append, -List.drop_one, a23]
  refine W_loop (S121 c ns im) (fun i => c.g.l.length - i) (fun i => i ≤ c.g.l.length ∧ ∀ j (hj : j < c.g.l.length), j < i → fitG ns im c.g.l[j] = false) 0 (weak_same (by simp (disch := first | omega | (simp [-List.map_take, -List.map_drop, -List.map_set, -List.map_append, -List.drop_one] <;> omega) | fail) [-List.map_take, -List.map_drop, -List.map_set, -List.map_append, -List.drop_one]) (by simp (disch := first | omega | (simp [-List.map_take, -List.map_drop, -List.map_set, -List.map_append, -List.drop_one] <;> omega) | fail) [-List.map_take, -List.map_drop, -List.map_set, -List.map_append, -List.drop_one])) ⟨by omega, fun j _ hj => by omega⟩ (fun i hi => ?_)
  obtain ⟨h1, h2⟩ := hi
  simp (disch := first | omega | (simp [-List.map_take, -List.map_drop, -List.map_set, -List.map_append, -List.drop_one] <;> omega) | fail) [-List.map_take, -List.map_drop, -List.map_set, -List.map_append, -List.drop_one, a23L0, a23S0, S121]
  by_cases h : i < c.g.l.length
  · have h' : (i : Int) < c.g.l.length := by omega
    have hg : ∀ H, idxSD H 6 (c.g.dv 6 grC) i = some (.ref (grC c.g.l[i])) := fun H => idxSD_dv len_grC h
    by_cases e1 : c.g.l[i].ns = ns
    · by_cases e2 : c.g.l[i].im = im
      · have hr : grpIx c.g.l ns im = i := ixI_at h (by simp [fitG, e1, e2]) h2
        simp (disch := first | omega | (simp [-List.map_take, -List.map_drop, -List.map_set, -List.map_append, -List.drop_one] <;> omega) | fail) [-List.map_take, -List.map_drop, -List.map_set, -List.map_append, -List.drop_one, h', h, hg, e1, e2, grpD, hr]
      · simp (disch := first | omega | (simp [-List.map_take, -List.map_drop, -List.map_set, -List.map_append, -List.drop_one] <;> omega) | fail) [-List.map_take, -List.map_drop, -List.map_set, -List.map_append, -List.drop_one, h', h, hg, e1, e2]
        refine ⟨i + 1, weak_same (by simp (disch := first | omega | (simp [-List.map_take, -List.map_drop, -List.map_set, -List.map_append, -List.drop_one] <;> omega) | fail) [-List.map_take, -List.map_drop, -List.map_set, -List.map_append, -List.drop_one]) (by simp (disch := first | omega | (simp [-List.map_take, -List.map_drop, -List.map_set, -List.map_append, -List.drop_one] <;> omega) | fail) [-List.map_take, -List.map_drop, -List.map_set, -List.map_append, -List.drop_one]), by omega, by omega, fun j hj hji => ?_⟩
        by_cases ej : j = i
        · subst ej; simp [fitG, e2]
        · exact h2 j hj (by omega)
    · simp (disch := first | omega | (simp [-List.map_take, -List.map_drop, -List.map_set, -List.map_append, -List.drop_one] <;> omega) | fail) [-List.map_take, -List.map_drop, -List.map_set, -List.map_append, -List.drop_one, h', h, hg, e1]
      refine ⟨i + 1, weak_same (by simp (disch := first | omega | (simp [-List.map_take, -List.map_drop, -List.map_set, -List.map_append, -List.drop_one] <;> omega) | fail) [-List.map_take, -List.map_drop, -List.map_set, -List.map_append, -List.drop_one]) (by simp (disch := first | omega | (simp [-List.map_take, -List.map_drop, -List.map_set, -List.map_append, -List.drop_one] <;> omega) | fail) [-List.map_take, -List.map_drop, -List.map_set, -List.map_append, -List.drop_one]), by omega, by omega, fun j hj hji => ?_⟩
      by_cases ej : j = i
      · subst ej; simp [fitG, e1]
      · exact h2 j hj (by omega)
  · have h' : ¬ (i : Int) < c.g.l.length := by omega
    have hr : grpIx c.g.l ns im = -1 := ixI_none (fun j hj => h2 j hj (by omega))
    simp (disch := first | omega | (simp [-List.map_take, -List.map_drop, -List.map_set, -List.map_append, -List.drop_one] <;> omega) | fail) [-List.map_take, -List.map_drop, -List.map_set, -List.map_append, -List.drop_one, h, h', grpD, hr]
def S122 (c : Clu) (id : Int) (i : Nat) : St := a25S0 (.int .i64 id) (.mp 0 3 0) (.int .i64 i) [.cells (clC c)]
theorem runs_reffind (c : Clu) (id : Int) : Runs tbl0 a25 [.agg (clC c), .int .i64 id] (.int .i64 (findIx c.i.l id)) := by
  refine ⟨?_⟩
  have hb := c.i.b
  simp (disch := first | omega | (simp [-List.map_take, -List.map_drop, -List.map_set, -List.map_append, -List.drop_one] <;> omega) | fail) [-List.map_take, -List.map_drop, -List.map_set, -List.map_append, -List.drop_one, a25]
  refine W_loop (S122 c id) (fun i => c.i.l.length - i) (fun i => i ≤ c.i.l.length ∧ ∀ j (hj : j < c.i.l.length), j < i → decide (c.i.l[j].id = id) = false) 0 (weak_same (by simp (disch := first | omega | (simp [-List.map_take, -List.map_drop, -List.map_set, -List.map_append, -List.drop_one] <;> omega) | fail) [-List.map_take, -List.map_drop, -List.map_set, -List.map_append, -List.drop_one]) (by simp (disch := first | omega | (simp [-List.map_take, -List.map_drop, -List.map_set, -List.map_append, -List.drop_one] <;> omega) | fail) [-List.map_take, -List.map_drop, -List.map_set, -List.map_append, -List.drop_one])) ⟨by omega, fun j _ hj => by omega⟩ (fun i hi => ?_)
  obtain ⟨h1, h2⟩ := hi
  simp (disch := first | omega | (simp [-List.map_take, -List.map_drop, -List.map_set, -List.map_append, -List.drop_one] <;> omega) | fail) [-List.map_take, -List.map_drop, -List.map_set, -List.map_append, -List.drop_one, a25L0, a25S0, S122]
  by_cases h : i < c.i.l.length
  · have h' : (i : Int) < c.i.l.length := by omega
    have hg : ∀ H, idxSD H 37 (c.i.dv 37 inC) i = some (.ref (inC c.i.l[i])) := fun H => idxSD_dv len_inC h
    by_cases e : c.i.l[i].id = id
    · have hr : findIx c.i.l id = i := ixI_at h (by simp [e]) h2
      simp (disch := first | omega | (simp [-List.map_take, -List.map_drop, -List.map_set, -List.map_append, -List.drop_one] <;> omega) | fail) [-List.map_take, -List.map_drop, -List.map_set, -List.map_append, -List.drop_one, h', h, hg, e, hr]
    · simp (disch := first | omega | (simp [-List.map_take, -List.map_drop, -List.map_set, -List.map_append, -List.drop_one] <;> omega) | fail) [-List.map_take, -List.map_drop, -List.map_set, -List.map_append, -List.drop_one, h', h, hg, e]
      refine ⟨i + 1, weak_same (by simp (disch := first | omega | (simp [-List.map_take, -List.map_drop, -List.map_set, -List.map_append, -List.drop_one] <;> omega) | fail) [-List.map_take, -List.map_drop, -List.map_set, -List.map_append, -List.drop_one]) (by simp (disch := first | omega | (simp [-List.map_take, -List.map_drop, -List.map_set, -List.map_append, -List.drop_one] <;> omega) | fail) [-List.map_take, -List.map_drop, -List.map_set, -List.map_append, -List.drop_one]), by omega, by omega, fun j hj hji => ?_⟩
      by_cases ej : j = i
      · subst ej; exact e
      · simpa using h2 j hj (by omega)
  · have h' : ¬ (i : Int) < c.i.l.length := by omega
    have hr : findIx c.i.l id = -1 := ixI_none (fun j hj => h2 j hj (by omega))
    simp (disch := first | omega | (simp [-List.map_take, -List.map_drop, -List.map_set, -List.map_append, -List.drop_one] <;> omega) | fail) [-List.map_take, -List.map_drop, -List.map_set, -List.map_append, -List.drop_one, h, h', hr]
set_option maxHeartbeats 1000000 in
theorem runs_refinstance (c : Clu) (x : Ins) : Runs T120 a65 [.agg (clC c), .agg (inC x)] (soundB c x) := by
  refine ⟨?_⟩
  by_cases k0 : 1 ≤ x.id
  case neg =>
    have hn : ¬ SoundI c.g.l.length c.next x := fun h => k0 h.id0
    simp (disch := first | omega | (simp [-List.map_take, -List.map_drop, -List.map_set, -List.map_append, -List.drop_one] <;> omega) | fail) [-List.map_take, -List.map_drop, -List.map_set, -List.map_append, -List.drop_one, a65, T120_t, cTm_eq, soundB, tv_false hn, k0]
  by_cases k1 : x.id < c.next
  case neg =>
    have hn : ¬ SoundI c.g.l.length c.next x := fun h => k1 h.id1
    simp (disch := first | omega | (simp [-List.map_take, -List.map_drop, -List.map_set, -List.map_append, -List.drop_one] <;> omega) | fail) [-List.map_take, -List.map_drop, -List.map_set, -List.map_append, -List.drop_one, a65, T120_t, cTm_eq, soundB, tv_false hn, k0, k1]
  by_cases k2 : 0 ≤ x.grp
  case neg =>
    have hn : ¬ SoundI c.g.l.length c.next x := fun h => k2 h.g0
    simp (disch := first | omega | (simp [-List.map_take, -List.map_drop, -List.map_set, -List.map_append, -List.drop_one] <;> omega) | fail) [-List.map_take, -List.map_drop, -List.map_set, -List.map_append, -List.drop_one, a65, T120_t, cTm_eq, soundB, tv_false hn, k0, k1, k2]
  by_cases k3 : x.grp < c.g.l.length
  case neg =>
    have hn : ¬ SoundI c.g.l.length c.next x := fun h => k3 h.g1
    simp (disch := first | omega | (simp [-List.map_take, -List.map_drop, -List.map_set, -List.map_append, -List.drop_one] <;> omega) | fail) [-List.map_take, -List.map_drop, -List.map_set, -List.map_append, -List.drop_one, a65, T120_t, cTm_eq, soundB, tv_false hn, k0, k1, k2, k3]
  by_cases k4 : ¬ x.art = dg0
  case neg =>
    have k4 : x.art = dg0 := Classical.not_not.1 k4
    have hn : ¬ SoundI c.g.l.length c.next x := fun h => h.art k4
    simp (disch := first | omega | (simp [-List.map_take, -List.map_drop, -List.map_set, -List.map_append, -List.drop_one] <;> omega) | fail) [-List.map_take, -List.map_drop, -List.map_set, -List.map_append, -List.drop_one, a65, T120_t, cTm_eq, soundB, tv_false hn, k0, k1, k2, k3, k4]
  by_cases k5 : 1 ≤ x.state
  case neg =>
    have hn : ¬ SoundI c.g.l.length c.next x := fun h => k5 h.s0
    simp (disch := first | omega | (simp [-List.map_take, -List.map_drop, -List.map_set, -List.map_append, -List.drop_one] <;> omega) | fail) [-List.map_take, -List.map_drop, -List.map_set, -List.map_append, -List.drop_one, a65, T120_t, cTm_eq, soundB, tv_false hn, k0, k1, k2, k3, k4, k5]
  by_cases k6 : x.state ≤ 3
  case neg =>
    have hn : ¬ SoundI c.g.l.length c.next x := fun h => k6 h.s1
    simp (disch := first | omega | (simp [-List.map_take, -List.map_drop, -List.map_set, -List.map_append, -List.drop_one] <;> omega) | fail) [-List.map_take, -List.map_drop, -List.map_set, -List.map_append, -List.drop_one, a65, T120_t, cTm_eq, soundB, tv_false hn, k0, k1, k2, k3, k4, k5, k6]
  by_cases k7 : timeOK x.since
  case neg =>
    have hn : ¬ SoundI c.g.l.length c.next x := fun h => k7 h.si
    simp (disch := first | omega | (simp [-List.map_take, -List.map_drop, -List.map_set, -List.map_append, -List.drop_one] <;> omega) | fail) [-List.map_take, -List.map_drop, -List.map_set, -List.map_append, -List.drop_one, a65, T120_t, cTm_eq, soundB, tv_false hn, k0, k1, k2, k3, k4, k5, k6, tv_false k7]
  by_cases k8 : -1 ≤ x.den
  case neg =>
    have hn : ¬ SoundI c.g.l.length c.next x := fun h => by rcases h.de with h | h <;> omega
    simp (disch := first | omega | (simp [-List.map_take, -List.map_drop, -List.map_set, -List.map_append, -List.drop_one] <;> omega) | fail) [-List.map_take, -List.map_drop, -List.map_set, -List.map_append, -List.drop_one, a65, T120_t, cTm_eq, soundB, tv_false hn, k0, k1, k2, k3, k4, k5, k6, tv_true k7, k8]
  by_cases k9 : x.den ≤ 1099511627776
  · have hy : SoundI c.g.l.length c.next x := ⟨k0, k1, k2, k3, k4, k5, k6, k7, by
      by_cases h : x.den = -1
      · exact .inl h
      · exact .inr ⟨by omega, k9⟩⟩
    simp (disch := first | omega | (simp [-List.map_take, -List.map_drop, -List.map_set, -List.map_append, -List.drop_one] <;> omega) | fail) [-List.map_take, -List.map_drop, -List.map_set, -List.map_append, -List.drop_one, a65, T120_t, cTm_eq, soundB, tv_true hy, k0, k1, k2, k3, k4, k5, k6, tv_true k7, k8, k9]
  · have hn : ¬ SoundI c.g.l.length c.next x := fun h => by rcases h.de with h | h <;> omega
    simp (disch := first | omega | (simp [-List.map_take, -List.map_drop, -List.map_set, -List.map_append, -List.drop_one] <;> omega) | fail) [-List.map_take, -List.map_drop, -List.map_set, -List.map_append, -List.drop_one, a65, T120_t, cTm_eq, soundB, tv_false hn, k0, k1, k2, k3, k4, k5, k6, tv_true k7, k8, k9]
def S123 (g : Grp) (i : Nat) : St := a19S0 (.mp 0 6 0) (.int .i64 i) [.cells (grC g)]
set_option maxHeartbeats 1000000 in
theorem runs_refvalidgroup (g : Grp) : Runs T120 a19 [.agg (grC g)] (validGB g) := by
  refine ⟨?_⟩
  have hb := g.ch.b
  by_cases k0 : pathD g.ns = true
  case neg =>
    have hn : ¬ ValidG g := fun h => k0 h.ns
    have k0 : pathD g.ns = false := by simpa using k0
    simp (disch := first | omega | (simp [-List.map_take, -List.map_drop, -List.map_set, -List.map_append, -List.drop_one] <;> omega) | fail) [-List.map_take, -List.map_drop, -List.map_set, -List.map_append, -List.drop_one, a19, T120_p, cS_eq, pathB, validGB, tv_false hn, k0]
  by_cases k1 : pathD g.im = true
  case neg =>
    have hn : ¬ ValidG g := fun h => k1 h.im
    have k1 : pathD g.im = false := by simpa using k1
    simp (disch := first | omega | (simp [-List.map_take, -List.map_drop, -List.map_set, -List.map_append, -List.drop_one] <;> omega) | fail) [-List.map_take, -List.map_drop, -List.map_set, -List.map_append, -List.drop_one, a19, T120_p, cS_eq, pathB, validGB, tv_false hn, k0, k1]
  by_cases k2 : 0 ≤ g.want
  case neg =>
    have hn : ¬ ValidG g := fun h => k2 h.w0
    have k2' : g.want < 0 := by omega
    simp (disch := first | omega | (simp [-List.map_take, -List.map_drop, -List.map_set, -List.map_append, -List.drop_one] <;> omega) | fail) [-List.map_take, -List.map_drop, -List.map_set, -List.map_append, -List.drop_one, a19, T120_p, cS_eq, pathB, validGB, tv_false hn, k0, k1, k2, k2']
  have k2' : ¬ g.want < 0 := by omega
  by_cases k3 : g.want ≤ 8
  case neg =>
    have hn : ¬ ValidG g := fun h => k3 h.w1
    have k3' : 8 < g.want := by omega
    simp (disch := first | omega | (simp [-List.map_take, -List.map_drop, -List.map_set, -List.map_append, -List.drop_one] <;> omega) | fail) [-List.map_take, -List.map_drop, -List.map_set, -List.map_append, -List.drop_one, a19, T120_p, cS_eq, pathB, validGB, tv_false hn, k0, k1, k2, k2', k3, k3']
  have k3' : ¬ 8 < g.want := by omega
  by_cases k4 : 0 ≤ g.least
  case neg =>
    have hn : ¬ ValidG g := fun h => k4 h.l0
    have k4' : g.least < 0 := by omega
    simp (disch := first | omega | (simp [-List.map_take, -List.map_drop, -List.map_set, -List.map_append, -List.drop_one] <;> omega) | fail) [-List.map_take, -List.map_drop, -List.map_set, -List.map_append, -List.drop_one, a19, T120_p, cS_eq, pathB, validGB, tv_false hn, k0, k1, k2, k2', k3, k3', k4, k4']
  have k4' : ¬ g.least < 0 := by omega
  by_cases k5 : g.least ≤ g.want
  case neg =>
    have hn : ¬ ValidG g := fun h => k5 h.l1
    have k5' : g.want < g.least := by omega
    simp (disch := first | omega | (simp [-List.map_take, -List.map_drop, -List.map_set, -List.map_append, -List.drop_one] <;> omega) | fail) [-List.map_take, -List.map_drop, -List.map_set, -List.map_append, -List.drop_one, a19, T120_p, cS_eq, pathB, validGB, tv_false hn, k0, k1, k2, k2', k3, k3', k4, k4', k5, k5']
  have k5' : ¬ g.want < g.least := by omega
  by_cases k6 : 0 ≤ g.down
  case neg =>
    have hn : ¬ ValidG g := fun h => k6 h.d0
    have k6' : g.down < 0 := by omega
    simp (disch := first | omega | (simp [-List.map_take, -List.map_drop, -List.map_set, -List.map_append, -List.drop_one] <;> omega) | fail) [-List.map_take, -List.map_drop, -List.map_set, -List.map_append, -List.drop_one, a19, T120_p, cS_eq, pathB, validGB, tv_false hn, k0, k1, k2, k2', k3, k3', k4, k4', k5, k5', k6, k6']
  have k6' : ¬ g.down < 0 := by omega
  by_cases k7 : g.down ≤ g.want
  case neg =>
    have hn : ¬ ValidG g := fun h => k7 h.d1
    have k7' : g.want < g.down := by omega
    simp (disch := first | omega | (simp [-List.map_take, -List.map_drop, -List.map_set, -List.map_append, -List.drop_one] <;> omega) | fail) [-List.map_take, -List.map_drop, -List.map_set, -List.map_append, -List.drop_one, a19, T120_p, cS_eq, pathB, validGB, tv_false hn, k0, k1, k2, k2', k3, k3', k4, k4', k5, k5', k6, k6', k7, k7']
  have k7' : ¬ g.want < g.down := by omega
  by_cases k8 : g.ch.l.length ≤ 6
  case neg =>
    have hn : ¬ ValidG g := fun h => k8 h.n
    have k8' : ¬ (g.ch.l.length : Int) ≤ 6 := by omega
    have k8'' : (6 : Int) < g.ch.l.length := by omega
    simp (disch := first | omega | (simp [-List.map_take, -List.map_drop, -List.map_set, -List.map_append, -List.drop_one] <;> omega) | fail) [-List.map_take, -List.map_drop, -List.map_set, -List.map_append, -List.drop_one, a19, T120_p, cS_eq, pathB, validGB, tv_false hn, k0, k1, k2, k2', k3, k3', k4, k4', k5, k5', k6, k6', k7, k7', k8, k8', k8'']
  have k8' : (g.ch.l.length : Int) ≤ 6 := by omega
  have k8'' : ¬ (6 : Int) < g.ch.l.length := by omega
  simp (disch := first | omega | (simp [-List.map_take, -List.map_drop, -List.map_set, -List.map_append, -List.drop_one] <;> omega) | fail) [-List.map_take, -List.map_drop, -List.map_set, -List.map_append, -List.drop_one, a19, T120_p, cS_eq, pathB, k0, k1, k2, k2', k3, k3', k4, k4', k5, k5', k6, k6', k7, k7', k8, k8', k8'']
  refine W_loop (S123 g) (fun i => g.ch.l.length - i) (fun i => i ≤ g.ch.l.length ∧ ∀ j (hj : j < g.ch.l.length), j < i → g.ch.l[j] ≠ dg0 ∧ g.ch.l[j] ∉ g.ch.l.take j) 0 (weak_same (by simp (disch := first | omega | (simp [-List.map_take, -List.map_drop, -List.map_set, -List.map_append, -List.drop_one] <;> omega) | fail) [-List.map_take, -List.map_drop, -List.map_set, -List.map_append, -List.drop_one]) (by simp (disch := first | omega | (simp [-List.map_take, -List.map_drop, -List.map_set, -List.map_append, -List.drop_one] <;> omega) | fail) [-List.map_take, -List.map_drop, -List.map_set, -List.map_append, -List.drop_one])) ⟨by omega, fun j _ hj => by omega⟩ (fun i hi => ?_)
  obtain ⟨h1, h2⟩ := hi
  simp (disch := first | omega | (simp [-List.map_take, -List.map_drop, -List.map_set, -List.map_append, -List.drop_one] <;> omega) | fail) [-List.map_take, -List.map_drop, -List.map_set, -List.map_append, -List.drop_one, a19L0, a19S0, S123]
  by_cases h : i < g.ch.l.length
  · have h' : (i : Int) < g.ch.l.length := by omega
    have hg : ∀ H, idxSD H 32 (g.ch.dv 32 dgC) i = some (.ref (dgC g.ch.l[i])) := fun H => idxSD_dv len_dgC h
    have hsl : ∀ H, slcSD H 32 (g.ch.dv 32 dgC) none (some (.int .i64 i)) none = some ((g.ch.part 0 i (i == g.ch.l.length)).dv 32 dgC) := fun H => slc_dv len_dgC (by omega)
    by_cases e : g.ch.l[i] = dg0
    · have hn : ¬ ValidG g := fun hv => (hv.ch i h).1 e
      simp (disch := first | omega | (simp [-List.map_take, -List.map_drop, -List.map_set, -List.map_append, -List.drop_one] <;> omega) | fail) [-List.map_take, -List.map_drop, -List.map_set, -List.map_append, -List.drop_one, h', h, hg, e, validGB, tv_false hn]
    · by_cases e2 : g.ch.l[i] ∈ g.ch.l.take i
      · have hn : ¬ ValidG g := fun hv => (hv.ch i h).2 e2
        simp (disch := first | omega | (simp [-List.map_take, -List.map_drop, -List.map_set, -List.map_append, -List.drop_one] <;> omega) | fail) [-List.map_take, -List.map_drop, -List.map_set, -List.map_append, -List.drop_one, h', h, hg, hsl, e, T120_h, cDgs_eq, hasB, part_l, e2, validGB, tv_false hn]
      · simp (disch := first | omega | (simp [-List.map_take, -List.map_drop, -List.map_set, -List.map_append, -List.drop_one] <;> omega) | fail) [-List.map_take, -List.map_drop, -List.map_set, -List.map_append, -List.drop_one, h', h, hg, hsl, e, T120_h, cDgs_eq, hasB, part_l, e2]
        refine ⟨i + 1, weak_same (by simp (disch := first | omega | (simp [-List.map_take, -List.map_drop, -List.map_set, -List.map_append, -List.drop_one] <;> omega) | fail) [-List.map_take, -List.map_drop, -List.map_set, -List.map_append, -List.drop_one]) (by simp (disch := first | omega | (simp [-List.map_take, -List.map_drop, -List.map_set, -List.map_append, -List.drop_one] <;> omega) | fail) [-List.map_take, -List.map_drop, -List.map_set, -List.map_append, -List.drop_one]), by omega, by omega, fun j hj hji => ?_⟩
        by_cases ej : j = i
        · subst ej; exact ⟨e, e2⟩
        · exact h2 j hj (by omega)
  · have h' : ¬ (i : Int) < g.ch.l.length := by omega
    have hy : ValidG g := ⟨k0, k1, k2, k3, k4, k5, k6, k7, k8, fun j hj => h2 j hj (by omega)⟩
    simp (disch := first | omega | (simp [-List.map_take, -List.map_drop, -List.map_set, -List.map_append, -List.drop_one] <;> omega) | fail) [-List.map_take, -List.map_drop, -List.map_set, -List.map_append, -List.drop_one, h, h', validGB, tv_true hy]
noncomputable def T121 : Tbl := addT 19 (.pure (cG1 validGB)) (addT 23 (.pure (cCSS grpD)) (addT 65 (.pure (cCI soundB)) tbl0))
theorem T121_v : T121 19 = .pure (cG1 validGB) := by simp [T121]
theorem T121_g : T121 23 = .pure (cCSS grpD) := by simp [T121]
theorem T121_s : T121 65 = .pure (cCI soundB) := by simp [T121]
theorem T121_sound : T121.Sound P := addT_sound (con_sound fun x _ => sem_runs mix T120_sound Tryd.func19 a19_ok (runs_refvalidgroup x)) (addT_sound (con_sound fun x _ => sem_runs mix tbl0_sound Tryd.func23 a23_ok (runs_refgroup x.1 x.2.1 x.2.2)) (addT_sound (con_sound fun x _ => sem_runs mix T120_sound Tryd.func65 a65_ok (runs_refinstance x.1 x.2)) tbl0_sound))
def S124 (c : Clu) (i : Nat) : St := a21S0 (.mp 0 3 0) (.int .i64 i) [.cells (clC c)]
def S125 (c : Clu) (i : Nat) : St := a21S1 (.mp 0 3 0) (.int .i64 i) [.cells (clC c)]
set_option maxHeartbeats 2000000 in
theorem runs_refvalid (c : Clu) : Runs T121 a21 [.agg (clC c)] (validCB c) := by
  refine ⟨?_⟩
  have hbg := c.g.b
  have hbi := c.i.b
  by_cases k0 : (16 : Int) < c.g.l.length
  · have hn : ¬ ValidC c := fun h => by have := h.ng; omega
    simp (disch := first | omega | (simp [-List.map_take, -List.map_drop, -List.map_set, -List.map_append, -List.drop_one] <;> omega) | fail) [-List.map_take, -List.map_drop, -List.map_set, -List.map_append, -List.drop_one, a21, k0, validCB, tv_false hn]
  by_cases k1 : (200 : Int) < c.i.l.length
  · have hn : ¬ ValidC c := fun h => by have := h.ni; omega
    simp (disch := first | omega | (simp [-List.map_take, -List.map_drop, -List.map_set, -List.map_append, -List.drop_one] <;> omega) | fail) [-List.map_take, -List.map_drop, -List.map_set, -List.map_append, -List.drop_one, a21, k0, k1, validCB, tv_false hn]
  by_cases k2 : c.next < 1
  · have hn : ¬ ValidC c := fun h => by have := h.n0; omega
    simp (disch := first | omega | (simp [-List.map_take, -List.map_drop, -List.map_set, -List.map_append, -List.drop_one] <;> omega) | fail) [-List.map_take, -List.map_drop, -List.map_set, -List.map_append, -List.drop_one, a21, k0, k1, k2, validCB, tv_false hn]
  by_cases k3 : 1099511627776 < c.next
  · have hn : ¬ ValidC c := fun h => by have := h.n1; omega
    simp (disch := first | omega | (simp [-List.map_take, -List.map_drop, -List.map_set, -List.map_append, -List.drop_one] <;> omega) | fail) [-List.map_take, -List.map_drop, -List.map_set, -List.map_append, -List.drop_one, a21, k0, k1, k2, k3, validCB, tv_false hn]
  simp (disch := first | omega | (simp [-List.map_take, -List.map_drop, -List.map_set, -List.map_append, -List.drop_one] <;> omega) | fail) [-List.map_take, -List.map_drop, -List.map_set, -List.map_append, -List.drop_one, a21, k0, k1, k2, k3]
  refine W_loop (S124 c) (fun i => c.g.l.length - i) (fun i => i ≤ c.g.l.length ∧ ∀ j (hj : j < c.g.l.length), j < i → ValidG c.g.l[j] ∧ grpIx c.g.l c.g.l[j].ns c.g.l[j].im = j) 0 (weak_same (by simp (disch := first | omega | (simp [-List.map_take, -List.map_drop, -List.map_set, -List.map_append, -List.drop_one] <;> omega) | fail) [-List.map_take, -List.map_drop, -List.map_set, -List.map_append, -List.drop_one]) (by simp (disch := first | omega | (simp [-List.map_take, -List.map_drop, -List.map_set, -List.map_append, -List.drop_one] <;> omega) | fail) [-List.map_take, -List.map_drop, -List.map_set, -List.map_append, -List.drop_one])) ⟨by omega, fun j _ hj => by omega⟩ (fun i hi => ?_)
  obtain ⟨h1, h2⟩ := hi
  simp (disch := first | omega | (simp [-List.map_take, -List.map_drop, -List.map_set, -List.map_append, -List.drop_one] <;> omega) | fail) [-List.map_take, -List.map_drop, -List.map_set, -List.map_append, -List.drop_one, a21L0, a21S0, S124]
  by_cases h : i < c.g.l.length
  · have h' : (i : Int) < c.g.l.length := by omega
    have hg : ∀ H, idxSD H 6 (c.g.dv 6 grC) i = some (.ref (grC c.g.l[i])) := fun H => idxSD_dv len_grC h
    by_cases e : ValidG c.g.l[i]
    · by_cases e2 : grpIx c.g.l c.g.l[i].ns c.g.l[i].im = i
      · simp (disch := first | omega | (simp [-List.map_take, -List.map_drop, -List.map_set, -List.map_append, -List.drop_one] <;> omega) | fail) [-List.map_take, -List.map_drop, -List.map_set, -List.map_append, -List.drop_one, h', h, hg, T121_v, cG1_eq, validGB, tv_true e, T121_g, cCSS_eq, grpD, e2]
        refine ⟨i + 1, weak_same (by simp (disch := first | omega | (simp [-List.map_take, -List.map_drop, -List.map_set, -List.map_append, -List.drop_one] <;> omega) | fail) [-List.map_take, -List.map_drop, -List.map_set, -List.map_append, -List.drop_one]) (by simp (disch := first | omega | (simp [-List.map_take, -List.map_drop, -List.map_set, -List.map_append, -List.drop_one] <;> omega) | fail) [-List.map_take, -List.map_drop, -List.map_set, -List.map_append, -List.drop_one]), by omega, by omega, fun j hj hji => ?_⟩
        by_cases ej : j = i
        · subst ej; exact ⟨e, e2⟩
        · exact h2 j hj (by omega)
      · have hn : ¬ ValidC c := fun hv => e2 (hv.g i h).2
        simp (disch := first | omega | (simp [-List.map_take, -List.map_drop, -List.map_set, -List.map_append, -List.drop_one] <;> omega) | fail) [-List.map_take, -List.map_drop, -List.map_set, -List.map_append, -List.drop_one, h', h, hg, T121_v, cG1_eq, validGB, tv_true e, T121_g, cCSS_eq, grpD, e2, validCB, tv_false hn]
    · have hn : ¬ ValidC c := fun hv => e (hv.g i h).1
      simp (disch := first | omega | (simp [-List.map_take, -List.map_drop, -List.map_set, -List.map_append, -List.drop_one] <;> omega) | fail) [-List.map_take, -List.map_drop, -List.map_set, -List.map_append, -List.drop_one, h', h, hg, T121_v, cG1_eq, validGB, tv_false e, validCB, tv_false hn]
  have h' : ¬ (i : Int) < c.g.l.length := by omega
  have hG : ∀ j (hj : j < c.g.l.length), ValidG c.g.l[j] ∧ grpIx c.g.l c.g.l[j].ns c.g.l[j].im = j := fun j hj => h2 j hj (by omega)
  simp (disch := first | omega | (simp [-List.map_take, -List.map_drop, -List.map_set, -List.map_append, -List.drop_one] <;> omega) | fail) [-List.map_take, -List.map_drop, -List.map_set, -List.map_append, -List.drop_one, h, h']
  refine W_loop (S125 c) (fun i => c.i.l.length - i) (fun i => i ≤ c.i.l.length ∧ ∀ j (hj : j < c.i.l.length), j < i → SoundI c.g.l.length c.next c.i.l[j] ∧ (∀ h0 : 0 < j, c.i.l[j - 1].id < c.i.l[j].id)) 0 (weak_same (by simp (disch := first | omega | (simp [-List.map_take, -List.map_drop, -List.map_set, -List.map_append, -List.drop_one] <;> omega) | fail) [-List.map_take, -List.map_drop, -List.map_set, -List.map_append, -List.drop_one]) (by simp (disch := first | omega | (simp [-List.map_take, -List.map_drop, -List.map_set, -List.map_append, -List.drop_one] <;> omega) | fail) [-List.map_take, -List.map_drop, -List.map_set, -List.map_append, -List.drop_one])) ⟨by omega, fun j _ hj => by omega⟩ (fun i hi => ?_)
  obtain ⟨h1, h2⟩ := hi
  simp (disch := first | omega | (simp [-List.map_take, -List.map_drop, -List.map_set, -List.map_append, -List.drop_one] <;> omega) | fail) [-List.map_take, -List.map_drop, -List.map_set, -List.map_append, -List.drop_one, a21L1, a21S1, S125]
  by_cases h : i < c.i.l.length
  · have h' : (i : Int) < c.i.l.length := by omega
    have hg : ∀ H, idxSD H 37 (c.i.dv 37 inC) i = some (.ref (inC c.i.l[i])) := fun H => idxSD_dv len_inC h
    by_cases e : SoundI c.g.l.length c.next c.i.l[i]
    · by_cases e0 : i = 0
      · have e0' : ¬ (0 : Int) < i := by omega
        have e0'' : ¬ 0 < i := by omega
        simp (disch := first | omega | (simp [-List.map_take, -List.map_drop, -List.map_set, -List.map_append, -List.drop_one] <;> omega) | fail) [-List.map_take, -List.map_drop, -List.map_set, -List.map_append, -List.drop_one, h', h, hg, T121_s, cCI_eq, soundB, tv_true e, e0', e0'']
        refine ⟨i + 1, weak_same (by simp (disch := first | omega | (simp [-List.map_take, -List.map_drop, -List.map_set, -List.map_append, -List.drop_one] <;> omega) | fail) [-List.map_take, -List.map_drop, -List.map_set, -List.map_append, -List.drop_one]) (by simp (disch := first | omega | (simp [-List.map_take, -List.map_drop, -List.map_set, -List.map_append, -List.drop_one] <;> omega) | fail) [-List.map_take, -List.map_drop, -List.map_set, -List.map_append, -List.drop_one]), by omega, by omega, fun j hj hji => ?_⟩
        obtain rfl : j = i := by omega
        exact ⟨e, fun h0 => by omega⟩
      · have e0' : (0 : Int) < i := by omega
        have e0'' : 0 < i := by omega
        have em : (i : Int) - 1 = (i - 1 : Nat) := by omega
        have hg2 : ∀ H, idxSD H 37 (c.i.dv 37 inC) ((i - 1 : Nat) : Int) = some (.ref (inC c.i.l[i - 1])) := fun H => idxSD_dv len_inC (by omega)
        by_cases e2 : c.i.l[i].id ≤ c.i.l[i - 1].id
        · have hn : ¬ ValidC c := fun hv => by have := (hv.i i h).2 (by omega); omega
          simp (disch := first | omega | (simp [-List.map_take, -List.map_drop, -List.map_set, -List.map_append, -List.drop_one] <;> omega) | fail) [-List.map_take, -List.map_drop, -List.map_set, -List.map_append, -List.drop_one, h', h, hg, T121_s, cCI_eq, soundB, tv_true e, e0', e0'', em, hg2, e2, validCB, tv_false hn]
        · simp (disch := first | omega | (simp [-List.map_take, -List.map_drop, -List.map_set, -List.map_append, -List.drop_one] <;> omega) | fail) [-List.map_take, -List.map_drop, -List.map_set, -List.map_append, -List.drop_one, h', h, hg, T121_s, cCI_eq, soundB, tv_true e, e0', e0'', em, hg2, e2]
          refine ⟨i + 1, weak_same (by simp (disch := first | omega | (simp [-List.map_take, -List.map_drop, -List.map_set, -List.map_append, -List.drop_one] <;> omega) | fail) [-List.map_take, -List.map_drop, -List.map_set, -List.map_append, -List.drop_one]) (by simp (disch := first | omega | (simp [-List.map_take, -List.map_drop, -List.map_set, -List.map_append, -List.drop_one] <;> omega) | fail) [-List.map_take, -List.map_drop, -List.map_set, -List.map_append, -List.drop_one]), by omega, by omega, fun j hj hji => ?_⟩
          by_cases ej : j = i
          · subst ej; exact ⟨e, fun _ => by omega⟩
          · exact h2 j hj (by omega)
    · have hn : ¬ ValidC c := fun hv => e (hv.i i h).1
      simp (disch := first | omega | (simp [-List.map_take, -List.map_drop, -List.map_set, -List.map_append, -List.drop_one] <;> omega) | fail) [-List.map_take, -List.map_drop, -List.map_set, -List.map_append, -List.drop_one, h', h, hg, T121_s, cCI_eq, soundB, tv_false e, validCB, tv_false hn]
  · have h' : ¬ (i : Int) < c.i.l.length := by omega
    have hy : ValidC c := ⟨by omega, by omega, by omega, by omega, hG, fun j hj => h2 j hj (by omega)⟩
    simp (disch := first | omega | (simp [-List.map_take, -List.map_drop, -List.map_set, -List.map_append, -List.drop_one] <;> omega) | fail) [-List.map_take, -List.map_drop, -List.map_set, -List.map_append, -List.drop_one, h, h', validCB, tv_true hy]
end Go.Proofs.YtjhakjeioppijaaDoor
set_option linter.unusedSimpArgs false
set_option linter.unusedVariables false
namespace Go.Proofs.YtjhakjeioppijaaDoor
open Go Go.Am
def a28 : AFn where
  code := (.seq (.region false [⟨none, (some 4), .mov (.k (.int .i64 0))⟩])
  (.seq (.seq (.region false [⟨none, (some 6), .mov (.t 1)⟩,
    ⟨none, (some 7), .bin .lss (.t 6) (.k (.int .i64 1))⟩])
  (.cond (.t 7) (.seq (.region false [⟨none, (some 4), .mov (.k (.int .i64 0))⟩])
  .ret)
  .skip))
  (.seq (.region false [⟨none, (some 8), .mov (.t 0)⟩,
    ⟨none, (some 9), .nilc (.t 8)⟩,
    ⟨none, (some 10), .fld 1 (.t 9)⟩,
    ⟨none, (some 11), .load 1 false (.t 10)⟩,
    ⟨none, (some 12), .bin .mul (.t 11) (.k (.int .i64 7))⟩,
    ⟨none, (some 13), .bin .add (.t 12) (.k (.int .i64 3))⟩,
    ⟨none, (some 5), .mov (.t 13)⟩])
  (.seq (.seq (.region true [⟨none, (some 14), .mov (.t 0)⟩,
    ⟨none, (some 15), .nilc (.t 14)⟩,
    ⟨none, (some 16), .fld 1 (.t 15)⟩,
    ⟨none, (some 17), .load 1 false (.t 16)⟩,
    ⟨none, (some 18), .mov (.t 0)⟩,
    ⟨none, (some 19), .nilc (.t 18)⟩,
    ⟨none, (some 20), .fld 0 (.t 19)⟩,
    ⟨none, (some 21), .load 1 false (.t 20)⟩,
    ⟨none, (some 22), .len (.t 21)⟩,
    ⟨none, (some 23), .bin .lss (.t 17) (.t 22)⟩])
  (.cond (.t 23) (.region true [⟨none, (some 24), .mov (.t 0)⟩,
    ⟨none, (some 25), .nilc (.t 24)⟩,
    ⟨none, (some 26), .fld 0 (.t 25)⟩,
    ⟨none, (some 27), .load 1 false (.t 26)⟩,
    ⟨none, (some 28), .mov (.t 0)⟩,
    ⟨none, (some 29), .nilc (.t 28)⟩,
    ⟨none, (some 30), .fld 1 (.t 29)⟩,
    ⟨none, (some 31), .load 1 false (.t 30)⟩,
    ⟨none, (some 32), .idxS 1 (.t 27) (.t 31)⟩,
    ⟨none, (some 33), .load 1 false (.t 32)⟩,
    ⟨none, (some 5), .mov (.t 33)⟩])
  .skip))
  (.seq (.region false [⟨none, (some 34), .mov (.t 0)⟩,
    ⟨none, (some 35), .nilc (.t 34)⟩,
    ⟨none, (some 36), .fld 1 (.t 35)⟩,
    ⟨none, (some 37), .load 1 false (.t 36)⟩,
    ⟨none, (some 38), .bin .add (.t 37) (.k (.int .i64 1))⟩,
    ⟨none, (some 39), .nilc (.t 34)⟩,
    ⟨none, (some 40), .fld 1 (.t 39)⟩,
    ⟨none, none, .store 1 (.t 40) (.t 38)⟩])
  (.seq (.region false [⟨none, (some 41), .mov (.t 5)⟩,
    ⟨none, (some 42), .mov (.t 1)⟩,
    ⟨none, (some 43), .bin .rem (.t 41) (.t 42)⟩,
    ⟨none, (some 44), .mov (.t 1)⟩,
    ⟨none, (some 45), .bin .add (.t 43) (.t 44)⟩,
    ⟨none, (some 46), .mov (.t 1)⟩,
    ⟨none, (some 47), .bin .rem (.t 45) (.t 46)⟩,
    ⟨none, (some 4), .mov (.t 47)⟩])
  .ret))))))
  ntmps := 48
  res := [.tmp 4]
theorem a28_ok : compileFn P Tryd.f28 = some a28 := by kernel_rfl
def a73 : AFn where
  code := (.seq (.region false [⟨none, (some 4), .mov (.k (.str []))⟩])
  (.seq (.region false [⟨none, (some 5), .mov (.t 1)⟩,
    ⟨none, (some 6), .mov (.t 0)⟩,
    ⟨none, (some 7), .mov (.t 1)⟩,
    ⟨none, (some 8), .len (.t 7)⟩,
    ⟨none, (some 9), .call (.k (.fn (.func 28) [] [])) [(.t 6), (.t 8)]⟩,
    ⟨none, (some 10), .idxS 1 (.t 5) (.t 9)⟩,
    ⟨none, (some 11), .load 1 false (.t 10)⟩,
    ⟨none, (some 4), .mov (.t 11)⟩])
  .ret))
  ntmps := 12
  res := [.tmp 4]
theorem a73_ok : compileFn P Tryd.f73 = some a73 := by kernel_rfl
def a74 : AFn where
  code := (.seq (.region false [⟨none, (some 2), .alloc (rep 32 (w8 0#8))⟩])
  (.seq (.region false [⟨none, (some 3), .mov (.t 0)⟩,
    ⟨none, (some 4), .call (.k (.fn (.func 28) [] [])) [(.t 3), (.k (.int .i64 6))]⟩,
    ⟨none, (some 5), .bin .add (.k (.int .i64 1)) (.t 4)⟩,
    ⟨none, (some 6), .conv .u8 (.t 5)⟩,
    ⟨none, (some 7), .build (rep 32 (w8 0#8)) [(0, 1, (.t 6))]⟩,
    ⟨none, none, .store 32 (.t 2) (.t 7)⟩])
  .ret))
  ntmps := 8
  res := [.cell 2 32 true]
theorem a74_ok : compileFn P Tryd.f74 = some a74 := by kernel_rfl
def a26 : AFn where
  code := (.seq (.region false [⟨none, (some 4), .mov (.k .nilp)⟩])
  (.seq (.region false [⟨none, (some 5), .mov (.t 0)⟩,
    ⟨none, (some 6), .mov (.t 0)⟩,
    ⟨none, (some 7), .len (.t 6)⟩,
    ⟨none, (some 8), .mov (.t 1)⟩,
    ⟨none, (some 9), .mm false [(.t 7), (.t 8)]⟩,
    ⟨none, (some 10), .slcS 1 (.t 5) none (some (.t 9)) none⟩,
    ⟨none, (some 11), .build [.nils, (.int .i64 0)] [(0, 1, (.t 10))]⟩,
    ⟨none, (some 12), .box (.t 11)⟩,
    ⟨none, (some 4), .mov (.t 12)⟩])
  .ret))
  ntmps := 13
  res := [.tmp 4]
theorem a26_ok : compileFn P Tryd.f26 = some a26 := by kernel_rfl
def a34L0 : ACode :=
  (.seq (.seq (.region false [⟨none, (some 31), .mov (.t 6)⟩,
    ⟨none, (some 32), .bin .geq (.t 31) (.k (.int .i64 0))⟩])
  (.cond (.t 32) .skip
  (.exit 0)))
  (.seq (.block 1 (.seq (.region false [⟨none, (some 35), .mov (.t 0)⟩,
    ⟨none, (some 36), .call (.k (.fn (.func 74) [] [])) [(.t 35)]⟩,
    ⟨none, (some 7), .alloc (rep 32 (w8 0#8))⟩,
    ⟨none, none, .store 32 (.t 7) (.t 36)⟩])
  (.seq (.seq (.region false [⟨none, (some 37), .mov (.t 1)⟩,
    ⟨none, (some 38), .len (.t 37)⟩,
    ⟨none, (some 39), .bin .gtr (.t 38) (.k (.int .i64 0))⟩,
    ⟨none, (some 40), .mov (.t 39)⟩,
    ⟨(some (40, true)), (some 41), .mov (.t 0)⟩,
    ⟨(some (40, true)), (some 42), .call (.k (.fn (.func 28) [] [])) [(.t 41), (.k (.int .i64 6))]⟩,
    ⟨(some (40, true)), (some 43), .bin .gtr (.t 42) (.k (.int .i64 0))⟩,
    ⟨none, (some 44), .pick (.t 40) (.t 43) (.k (.bool false))⟩])
  (.cond (.t 44) (.region false [⟨none, (some 45), .mov (.t 1)⟩,
    ⟨none, (some 46), .mov (.t 0)⟩,
    ⟨none, (some 47), .mov (.t 1)⟩,
    ⟨none, (some 48), .len (.t 47)⟩,
    ⟨none, (some 49), .call (.k (.fn (.func 28) [] [])) [(.t 46), (.t 48)]⟩,
    ⟨none, (some 50), .idxS 32 (.t 45) (.t 49)⟩,
    ⟨none, (some 51), .load 32 true (.t 50)⟩,
    ⟨none, none, .store 32 (.t 7) (.t 51)⟩])
  .skip))
  (.seq (.region false [⟨none, (some 52), .fld 5 (.t 5)⟩,
    ⟨none, (some 53), .load 1 false (.t 52)⟩,
    ⟨none, (some 54), .load 32 true (.t 7)⟩,
    ⟨none, (some 55), .call (.k (.fn (.func 63) [] [])) [(.t 53), (.t 54)]⟩,
    ⟨none, (some 56), .un .not (.t 55)⟩])
  (.cond (.t 56) (.region false [⟨none, (some 57), .fld 5 (.t 5)⟩,
    ⟨none, (some 58), .load 1 false (.t 57)⟩,
    ⟨none, (some 59), .load 32 true (.t 7)⟩,
    ⟨none, (some 60), .bsl 32 1 (rep 32 (w8 0#8)) [(0, 32, (.t 59))]⟩,
    ⟨none, (some 61), .app 32 32 (.t 58) (.t 60)⟩,
    ⟨none, (some 62), .fld 5 (.t 5)⟩,
    ⟨none, none, .store 1 (.t 62) (.t 61)⟩])
  .skip)))))
  (.region false [⟨none, (some 33), .mov (.t 6)⟩,
    ⟨none, (some 34), .bin .sub (.t 33) (.k (.int .i64 1))⟩,
    ⟨none, (some 6), .mov (.t 34)⟩])))
def a34S0 (x0 x1 x4 x5 x6 : DV) (h : List AObj) : St := ⟨[x0, x1, .junk, .junk, x4, x5, x6] ++ js 57, h⟩
def a34 : AFn where
  code := (.seq (.region false [⟨none, (some 4), .alloc [(.str []), (.str []), (.int .i64 0), (.int .i64 0), (.int .i64 0), .nils]⟩])
  (.seq (.region false [⟨none, (some 8), .mov (.t 0)⟩,
    ⟨none, (some 9), .bsl 1 2 [(.str [])] [(0, 1, (.k (.str [112, 114, 111, 100]))), (1, 1, (.k (.str [116, 101, 115, 116])))]⟩,
    ⟨none, (some 10), .call (.k (.fn (.func 73) [] [])) [(.t 8), (.t 9)]⟩,
    ⟨none, (some 11), .mov (.t 0)⟩,
    ⟨none, (some 12), .bsl 1 2 [(.str [])] [(0, 1, (.k (.str [119, 101, 98]))), (1, 1, (.k (.str [100, 98])))]⟩,
    ⟨none, (some 13), .call (.k (.fn (.func 73) [] [])) [(.t 11), (.t 12)]⟩,
    ⟨none, (some 14), .mov (.t 0)⟩,
    ⟨none, (some 15), .call (.k (.fn (.func 28) [] [])) [(.t 14), (.k (.int .i64 4))]⟩,
    ⟨none, (some 16), .build [(.str []), (.str []), (.int .i64 0), (.int .i64 0), (.int .i64 0), .nils] [(0, 1, (.t 10)), (1, 1, (.t 13)), (2, 1, (.t 15))]⟩,
    ⟨none, (some 5), .alloc [(.str []), (.str []), (.int .i64 0), (.int .i64 0), (.int .i64 0), .nils]⟩,
    ⟨none, none, .store 6 (.t 5) (.t 16)⟩])
  (.seq (.region true [⟨none, (some 17), .mov (.t 0)⟩,
    ⟨none, (some 18), .fld 2 (.t 5)⟩,
    ⟨none, (some 19), .load 1 false (.t 18)⟩,
    ⟨none, (some 20), .bin .add (.t 19) (.k (.int .i64 1))⟩,
    ⟨none, (some 21), .callT (.k (.fn (.func 28) [] [])) [(.t 17), (.t 20)]⟩,
    ⟨none, (some 22), .mov (.t 0)⟩,
    ⟨none, (some 23), .fld 2 (.t 5)⟩,
    ⟨none, (some 24), .load 1 false (.t 23)⟩,
    ⟨none, (some 25), .bin .add (.t 24) (.k (.int .i64 1))⟩,
    ⟨none, (some 26), .callT (.k (.fn (.func 28) [] [])) [(.t 22), (.t 25)]⟩,
    ⟨none, (some 27), .fld 3 (.t 5)⟩,
    ⟨none, none, .store 1 (.t 27) (.t 21)⟩,
    ⟨none, (some 28), .fld 4 (.t 5)⟩,
    ⟨none, none, .store 1 (.t 28) (.t 26)⟩,
    ⟨none, none, .apart (.t 5) (.t 17)⟩,
    ⟨none, none, .apart (.t 23) (.t 17)⟩,
    ⟨none, none, .apart (.t 5) (.t 22)⟩])
  (.seq (.seq (.region false [⟨none, (some 29), .mov (.t 0)⟩,
    ⟨none, (some 30), .call (.k (.fn (.func 28) [] [])) [(.t 29), (.k (.int .i64 3))]⟩,
    ⟨none, (some 6), .mov (.t 30)⟩])
  (.block 0 (.loop a34L0)))
  (.seq (.region false [⟨none, (some 63), .load 6 true (.t 5)⟩,
    ⟨none, none, .store 6 (.t 4) (.t 63)⟩])
  .ret)))))
  ntmps := 64
  res := [.cell 4 6 true]
theorem a34_ok : compileFn P Tryd.f34 = some a34 := by kernel_rfl
def a27L0 : ACode :=
  (.seq (.seq (.region false [⟨none, (some 23), .mov (.t 7)⟩,
    ⟨none, (some 24), .bin .gtr (.t 23) (.k (.int .i64 0))⟩])
  (.cond (.t 24) .skip
  (.exit 0)))
  (.seq (.block 1 (.seq (.region true [⟨none, (some 28), .load 3 true (.t 6)⟩,
    ⟨none, (some 29), .mov (.t 0)⟩,
    ⟨none, (some 30), .mov (.t 5)⟩,
    ⟨none, (some 31), .callT (.k (.fn (.func 34) [] [])) [(.t 29), (.t 30)]⟩,
    ⟨none, (some 32), .callN (.k (.fn (.func 36) [] [])) [(.t 28), (.t 31)]⟩,
    ⟨none, (some 27), .mov (.t 32)⟩,
    ⟨none, (some 33), .ext (.t 27) 0⟩,
    ⟨none, (some 34), .ext (.t 27) 1⟩,
    ⟨none, (some 8), .alloc [.nils, .nils, (.int .i64 0)]⟩,
    ⟨none, none, .store 3 (.t 8) (.t 33)⟩,
    ⟨none, (some 9), .mov (.t 34)⟩,
    ⟨none, none, .apart (.t 6) (.t 29)⟩])
  (.seq (.region false [⟨none, (some 35), .mov (.t 9)⟩,
    ⟨none, (some 36), .bin .eql (.t 35) (.k (.int .i64 0))⟩])
  (.cond (.t 36) (.region false [⟨none, (some 37), .load 3 true (.t 8)⟩,
    ⟨none, none, .store 3 (.t 6) (.t 37)⟩])
  .skip))))
  (.region false [⟨none, (some 25), .mov (.t 7)⟩,
    ⟨none, (some 26), .bin .sub (.t 25) (.k (.int .i64 1))⟩,
    ⟨none, (some 7), .mov (.t 26)⟩])))
def a27S0 (x0 x1 x4 x5 x6 x7 : DV) (h : List AObj) : St := ⟨[x0, x1, .junk, .junk, x4, x5, x6, x7] ++ js 76, h⟩
def a27L1 : ACode :=
  (.seq (.seq (.region false [⟨none, (some 42), .mov (.t 10)⟩,
    ⟨none, (some 43), .bin .gtr (.t 42) (.k (.int .i64 0))⟩])
  (.cond (.t 43) .skip
  (.exit 2)))
  (.seq (.block 3 (.seq (.region true [⟨none, (some 46), .fld 2 (.t 6)⟩,
    ⟨none, (some 47), .load 1 false (.t 46)⟩,
    ⟨none, (some 48), .mov (.t 0)⟩,
    ⟨none, (some 49), .fld 0 (.t 6)⟩,
    ⟨none, (some 50), .load 1 false (.t 49)⟩,
    ⟨none, (some 51), .len (.t 50)⟩,
    ⟨none, (some 52), .callT (.k (.fn (.func 28) [] [])) [(.t 48), (.t 51)]⟩,
    ⟨none, (some 53), .mov (.t 5)⟩,
    ⟨none, (some 54), .mov (.t 0)⟩,
    ⟨none, (some 55), .callT (.k (.fn (.func 28) [] [])) [(.t 54), (.k (.int .i64 3))]⟩,
    ⟨none, (some 56), .idxS 32 (.t 53) (.t 55)⟩,
    ⟨none, (some 57), .load 32 true (.t 56)⟩,
    ⟨none, (some 58), .mov (.t 0)⟩,
    ⟨none, (some 59), .callT (.k (.fn (.func 28) [] [])) [(.t 58), (.k (.int .i64 3))]⟩,
    ⟨none, (some 60), .bin .add (.k (.int .i64 1)) (.t 59)⟩,
    ⟨none, (some 61), .mov (.t 0)⟩,
    ⟨none, (some 62), .callT (.k (.fn (.func 28) [] [])) [(.t 61), (.k (.int .i64 30))]⟩,
    ⟨none, (some 63), .build [(.int .i64 0), (.int .i64 0), (w8 0#8), (w8 0#8), (w8 0#8), (w8 0#8), (w8 0#8), (w8 0#8), (w8 0#8), (w8 0#8), (w8 0#8), (w8 0#8), (w8 0#8), (w8 0#8), (w8 0#8), (w8 0#8), (w8 0#8), (w8 0#8), (w8 0#8), (w8 0#8), (w8 0#8), (w8 0#8), (w8 0#8), (w8 0#8), (w8 0#8), (w8 0#8), (w8 0#8), (w8 0#8), (w8 0#8), (w8 0#8), (w8 0#8), (w8 0#8), (w8 0#8), (w8 0#8), (.int .i64 0), (.int .i64 0), (.int .i64 0)] [(0, 1, (.t 47)), (1, 1, (.t 52)), (2, 32, (.t 57)), (34, 1, (.t 60)), (35, 1, (.t 62)), (36, 1, (.k (.int .i64 (-1))))]⟩,
    ⟨none, (some 11), .alloc [(.int .i64 0), (.int .i64 0), (w8 0#8), (w8 0#8), (w8 0#8), (w8 0#8), (w8 0#8), (w8 0#8), (w8 0#8), (w8 0#8), (w8 0#8), (w8 0#8), (w8 0#8), (w8 0#8), (w8 0#8), (w8 0#8), (w8 0#8), (w8 0#8), (w8 0#8), (w8 0#8), (w8 0#8), (w8 0#8), (w8 0#8), (w8 0#8), (w8 0#8), (w8 0#8), (w8 0#8), (w8 0#8), (w8 0#8), (w8 0#8), (w8 0#8), (w8 0#8), (w8 0#8), (w8 0#8), (.int .i64 0), (.int .i64 0), (.int .i64 0)]⟩,
    ⟨none, none, .store 37 (.t 11) (.t 63)⟩,
    ⟨none, none, .apart (.t 6) (.t 48)⟩,
    ⟨none, none, .apart (.t 6) (.t 54)⟩,
    ⟨none, none, .apart (.t 6) (.t 58)⟩,
    ⟨none, none, .apart (.t 6) (.t 61)⟩,
    ⟨none, none, .apart (.t 46) (.t 48)⟩,
    ⟨none, none, .apart (.t 46) (.t 54)⟩,
    ⟨none, none, .apart (.t 46) (.t 58)⟩,
    ⟨none, none, .apart (.t 46) (.t 61)⟩,
    ⟨none, none, .apart (.t 53) (.t 58)⟩,
    ⟨none, none, .apart (.t 53) (.t 61)⟩,
    ⟨none, none, .apart (.t 56) (.t 58)⟩,
    ⟨none, none, .apart (.t 56) (.t 61)⟩])
  (.seq (.seq (.region false [⟨none, (some 64), .mov (.t 0)⟩,
    ⟨none, (some 65), .call (.k (.fn (.func 28) [] [])) [(.t 64), (.k (.int .i64 3))]⟩,
    ⟨none, (some 66), .bin .eql (.t 65) (.k (.int .i64 0))⟩])
  (.cond (.t 66) (.region false [⟨none, (some 67), .mov (.t 0)⟩,
    ⟨none, (some 68), .call (.k (.fn (.func 28) [] [])) [(.t 67), (.k (.int .i64 30))]⟩,
    ⟨none, (some 69), .fld 36 (.t 11)⟩,
    ⟨none, none, .store 1 (.t 69) (.t 68)⟩])
  .skip))
  (.seq (.region false [⟨none, (some 70), .fld 1 (.t 6)⟩,
    ⟨none, (some 71), .load 1 false (.t 70)⟩,
    ⟨none, (some 72), .load 37 true (.t 11)⟩,
    ⟨none, (some 73), .bsl 37 1 [(.int .i64 0), (.int .i64 0), (w8 0#8), (w8 0#8), (w8 0#8), (w8 0#8), (w8 0#8), (w8 0#8), (w8 0#8), (w8 0#8), (w8 0#8), (w8 0#8), (w8 0#8), (w8 0#8), (w8 0#8), (w8 0#8), (w8 0#8), (w8 0#8), (w8 0#8), (w8 0#8), (w8 0#8), (w8 0#8), (w8 0#8), (w8 0#8), (w8 0#8), (w8 0#8), (w8 0#8), (w8 0#8), (w8 0#8), (w8 0#8), (w8 0#8), (w8 0#8), (w8 0#8), (w8 0#8), (.int .i64 0), (.int .i64 0), (.int .i64 0)] [(0, 37, (.t 72))]⟩,
    ⟨none, (some 74), .app 37 72 (.t 71) (.t 73)⟩,
    ⟨none, (some 75), .fld 1 (.t 6)⟩,
    ⟨none, none, .store 1 (.t 75) (.t 74)⟩])
  (.region true [⟨none, (some 76), .fld 2 (.t 6)⟩,
    ⟨none, (some 77), .load 1 false (.t 76)⟩,
    ⟨none, (some 78), .mov (.t 0)⟩,
    ⟨none, (some 79), .callT (.k (.fn (.func 28) [] [])) [(.t 78), (.k (.int .i64 2))]⟩,
    ⟨none, (some 80), .bin .add (.k (.int .i64 1)) (.t 79)⟩,
    ⟨none, (some 81), .bin .add (.t 77) (.t 80)⟩,
    ⟨none, (some 82), .fld 2 (.t 6)⟩,
    ⟨none, none, .store 1 (.t 82) (.t 81)⟩,
    ⟨none, none, .apart (.t 6) (.t 78)⟩,
    ⟨none, none, .apart (.t 76) (.t 78)⟩])))))
  (.region false [⟨none, (some 44), .mov (.t 10)⟩,
    ⟨none, (some 45), .bin .sub (.t 44) (.k (.int .i64 1))⟩,
    ⟨none, (some 10), .mov (.t 45)⟩])))
def a27S1 (x0 x4 x5 x6 x10 : DV) (h : List AObj) : St := ⟨[x0, .junk, .junk, .junk, x4, x5, x6, .junk, .junk, .junk, x10] ++ js 73, h⟩
def a27 : AFn where
  code := (.seq (.region false [⟨none, (some 4), .alloc [.nils, .nils, (.int .i64 0)]⟩])
  (.seq (.region false [⟨none, (some 12), .build (rep 32 (w8 0#8)) [(0, 1, (.k (w8 1#8)))]⟩,
    ⟨none, (some 13), .build (rep 32 (w8 0#8)) [(0, 1, (.k (w8 2#8)))]⟩,
    ⟨none, (some 14), .build (rep 32 (w8 0#8)) [(0, 1, (.k (w8 3#8)))]⟩,
    ⟨none, (some 15), .bsl 32 3 (rep 32 (w8 0#8)) [(0, 32, (.t 12)), (32, 32, (.t 13)), (64, 32, (.t 14))]⟩,
    ⟨none, (some 5), .mov (.t 15)⟩])
  (.seq (.region false [⟨none, (some 16), .mov (.t 0)⟩,
    ⟨none, (some 17), .call (.k (.fn (.func 28) [] [])) [(.t 16), (.k (.int .i64 4))]⟩,
    ⟨none, (some 18), .bin .add (.k (.int .i64 1)) (.t 17)⟩,
    ⟨none, (some 19), .build [.nils, .nils, (.int .i64 0)] [(2, 1, (.t 18))]⟩,
    ⟨none, (some 6), .alloc [.nils, .nils, (.int .i64 0)]⟩,
    ⟨none, none, .store 3 (.t 6) (.t 19)⟩])
  (.seq (.seq (.region false [⟨none, (some 20), .mov (.t 0)⟩,
    ⟨none, (some 21), .call (.k (.fn (.func 28) [] [])) [(.t 20), (.k (.int .i64 2))]⟩,
    ⟨none, (some 22), .bin .add (.k (.int .i64 1)) (.t 21)⟩,
    ⟨none, (some 7), .mov (.t 22)⟩])
  (.block 0 (.loop a27L0)))
  (.seq (.seq (.region false [⟨none, (some 38), .mov (.t 0)⟩,
    ⟨none, (some 39), .mov (.t 1)⟩,
    ⟨none, (some 40), .bin .add (.t 39) (.k (.int .i64 1))⟩,
    ⟨none, (some 41), .call (.k (.fn (.func 28) [] [])) [(.t 38), (.t 40)]⟩,
    ⟨none, (some 10), .mov (.t 41)⟩])
  (.block 2 (.loop a27L1)))
  (.seq (.region false [⟨none, (some 83), .load 3 true (.t 6)⟩,
    ⟨none, none, .store 3 (.t 4) (.t 83)⟩])
  .ret))))))
  ntmps := 84
  res := [.cell 4 3 true]
theorem a27_ok : compileFn P Tryd.f27 = some a27 := by kernel_rfl
end Go.Proofs.YtjhakjeioppijaaDoor
set_option linter.unusedSimpArgs false
set_option linter.unusedVariables false
namespace Go.Proofs.YtjhakjeioppijaaDoor
open Go Go.Am
structure Tp where
  k : Option Bool
  l : List Int
  h : k = none → l = []
  at_ : Nat
def inI (n : Int) : List DV := [.int .i64 n]
def Tp.sl (t : Tp) : DV := slD t.k 1 t.l.length (t.l.flatMap inI)
def tpC (t : Tp) : List DV := [t.sl, .int .i64 t.at_]
def Tp.adv (t : Tp) (m : Nat) : Tp := { t with at_ := t.at_ + m }
theorem len_inI (n : Int) : (inI n).length = 1 := rfl
theorem pure_inI (n : Int) : pureL (inI n) = true := rfl
theorem pure_sl (t : Tp) : pureD t.sl = true := by
  obtain ⟨k, l, h, a⟩ := t
  cases k with
  | none => rfl
  | some b => show pureL _ = true; exact fm_pure pure_inI l
theorem pure_tpC (t : Tp) : pureL (tpC t) = true := by simp [tpC, pureL, pure_sl, pureD]
theorem len_tpC (t : Tp) : (tpC t).length = 2 := by simp [tpC]
theorem sl_len (t : Tp) (H : List AObj) : lenD H t.sl = some (.int .i64 t.l.length) := lenD_slD (fun e => by rw [t.h e]; rfl)
theorem sl_idx (t : Tp) (H : List AObj) {i : Nat} (hi : i < t.l.length) : idxSD H 1 t.sl i = some (.ref [.int .i64 t.l[i]]) := by
  obtain ⟨k, l, h, a⟩ := t
  cases k with
  | none => simp only at hi; rw [h rfl] at hi; simp at hi
  | some b =>
    simp only [Tp.sl, slD_some]
    rw [idxSD_sl (by omega) (by simp only at hi; omega), Int.toNat_natCast, fm_get len_inI hi]; rfl
theorem sl_one (t : Tp) : t.sl.one = true := by obtain ⟨k, l, h, a⟩ := t; cases k <;> rfl
theorem sl_known (t : Tp) : t.sl.known = true := by obtain ⟨k, l, h, a⟩ := t; cases k <;> rfl
theorem sl_cells (t : Tp) : t.sl.cells = [t.sl] := by obtain ⟨k, l, h, a⟩ := t; cases k <;> rfl
theorem sl_fz (t : Tp) (n k : Nat) (H : List AObj) : fz n H k t.sl = some t.sl := fz_clean (pure_sl t)
theorem inI_inj : ∀ {a b : List Int}, a.flatMap inI = b.flatMap inI → a = b
  | [], [], _ => rfl
  | [], y :: b, h => by simp [inI] at h
  | x :: a, [], h => by simp [inI] at h
  | x :: a, y :: b, h => by
    simp only [List.flatMap_cons, inI, List.singleton_append, List.cons.injEq, DV.int.injEq, true_and] at h
    rw [h.1, inI_inj h.2]
theorem tpC_inj {a b : Tp} (h : tpC a = tpC b) : a = b := by
  obtain ⟨k, l, h1, p⟩ := a
  obtain ⟨k', l', h2, p'⟩ := b
  simp only [tpC, Tp.sl, List.cons.injEq, DV.int.injEq, true_and, and_true, Int.natCast_inj] at h
  obtain ⟨h, rfl⟩ := h
  cases k with
  | none => cases k' with
    | none => rw [Tp.mk.injEq]; exact ⟨rfl, by rw [h1 rfl, h2 rfl], rfl⟩
    | some b => simp [slD] at h
  | some b => cases k' with
    | none => simp [slD] at h
    | some b' =>
      simp only [slD_some, DV.sl.injEq] at h
      obtain ⟨rfl, _, _, h⟩ := h
      rw [Tp.mk.injEq]; exact ⟨rfl, inI_inj h, rfl⟩
attribute [simp] sl_len sl_one sl_known sl_cells sl_fz len_tpC
def tpRaw (t : Tp) : Int := if h : t.at_ < t.l.length then t.l[t.at_] else t.at_ * 7 + 3
def tpN (t : Tp) (n : Int) : Int := if n < 1 then 0 else tpRaw t % n
def tpS (t : Tp) (n : Int) : Tp := if n < 1 then t else t.adv 1
theorem tpN_lo (t : Tp) (n : Int) : 0 ≤ tpN t n := by
  unfold tpN; split
  · omega
  · exact Int.emod_nonneg _ (by omega)
theorem tpN_hi (t : Tp) {n : Int} (h : 1 ≤ n) : tpN t n < n := by
  unfold tpN; rw [if_neg (by omega)]; exact Int.emod_lt_of_pos _ (by omega)
theorem tpS_at (t : Tp) (n : Int) : (tpS t n).at_ ≤ t.at_ + 1 := by
  unfold tpS; split
  · omega
  · exact Nat.le_refl _
theorem adv_sl (t : Tp) (m : Nat) : (t.adv m).sl = t.sl := by simp [Tp.adv, Tp.sl]
theorem adv_at (t : Tp) (m : Nat) : (t.adv m).at_ = t.at_ + m := by simp [Tp.adv]
theorem adv_l (t : Tp) (m : Nat) : (t.adv m).l = t.l := by simp [Tp.adv]
attribute [simp] adv_sl adv_at adv_l
theorem tmod_fact (x n : Int) (h : 1 ≤ n) (h2 : n ≤ 4294967296) : IntKind.i64.wrap (x.tmod n + n) = x.tmod n + n ∧ (x.tmod n + n).tmod n = x % n := by
  have h1 := Int.tmod_lt_of_pos x (show 0 < n by omega)
  have h3 : -n < x.tmod n := by
    have := Int.lt_tmod_of_pos x (show 0 < n by omega)
    omega
  refine ⟨wrap_i64 (by omega) (by omega), ?_⟩
  rw [Int.tmod_eq_emod_of_nonneg (by omega), Int.add_emod_right]
  rw [Int.tmod_eq_emod]
  split
  · simp
  · rw [Int.natAbs_of_nonneg (show 0 ≤ n by omega)]; simp
theorem runs_next (t : Tp) (n : Int) (ht : t.at_ < 4294967296) (hn : n ≤ 4294967296) : RunsF tbl0 a28 [.mp 0 2 0, .int .i64 n] [.cells (tpC t)] (.int .i64 (tpN t n)) [.cells (tpC (tpS t n))] := by
  refine ⟨?_⟩
  by_cases h : n < 1
  · have e1 : tpN t n = 0 := by rw [tpN, if_pos h]
    have e2 : tpS t n = t := by rw [tpS, if_pos h]
    rw [e1, e2]
    simp (disch := first | omega | (simp [-List.map_take, -List.map_drop, -List.map_set, -List.map_append, -List.drop_one] <;> omega) | fail) [-List.map_take, -List.map_drop, -List.map_set, -List.map_append, -List.drop_one, a28, tpC, h]
  have e2 : tpS t n = t.adv 1 := by rw [tpS, if_neg h]
  obtain ⟨f1, f2⟩ := tmod_fact (tpRaw t) n (by omega) hn
  have e3 : tpN t n = tpRaw t % n := by rw [tpN, if_neg h]
  rw [← e3] at f2
  rw [e2]
  have hn0 : n ≠ 0 := by omega
  by_cases hl : t.at_ < t.l.length
  · have hl' : (t.at_ : Int) < t.l.length := by omega
    have hr : t.l[t.at_] = tpRaw t := by rw [tpRaw, dif_pos hl]
    have hi := fun H => sl_idx t H hl
    simp (disch := first | omega | (simp [-List.map_take, -List.map_drop, -List.map_set, -List.map_append, -List.drop_one] <;> omega) | fail) [-List.map_take, -List.map_drop, -List.map_set, -List.map_append, -List.drop_one, a28, tpC, h, hl, hl', hi, hr, hn0, f1, f2, -Int.tmod_eq_emod_of_nonneg]
  · have hl' : ¬ (t.at_ : Int) < t.l.length := by omega
    have hr : (t.at_ : Int) * 7 + 3 = tpRaw t := by rw [tpRaw, dif_neg hl]
    have hw : (t.at_ : Int) * 7 < 9223372036854775808 := by omega
    simp (disch := first | omega | (simp [-List.map_take, -List.map_drop, -List.map_set, -List.map_append, -List.drop_one] <;> omega) | fail) [-List.map_take, -List.map_drop, -List.map_set, -List.map_append, -List.drop_one, a28, tpC, h, hl, hl', hr, hn0, f1, f2, -Int.tmod_eq_emod_of_nonneg]
theorem adv_adv (t : Tp) (a b : Nat) : (t.adv a).adv b = t.adv (a + b) := by simp [Tp.adv, Nat.add_assoc]
theorem tpS_pos {t : Tp} {n : Int} (h : 1 ≤ n) : tpS t n = t.adv 1 := by rw [tpS, if_neg (by omega)]
noncomputable def cNext : List DV → List DV → Option (DV × List DV) := conT (fun a : Tp × Int => a.1.at_ < 4294967296 ∧ a.2 ≤ 4294967296) (fun a => [.int .i64 a.2]) (fun a => tpC a.1) (fun a => (.int .i64 (tpN a.1 a.2), tpC (tpS a.1 a.2)))
theorem cNext_eq {t : Tp} {n : Int} (h1 : t.at_ < 4294967296) (h2 : n ≤ 4294967296) : cNext [.int .i64 n] (tpC t) = some (.int .i64 (tpN t n), tpC (tpS t n)) :=
  conT_eq (A := fun a : Tp × Int => a.1.at_ < 4294967296 ∧ a.2 ≤ 4294967296) (f := fun a => [.int .i64 a.2]) (s := fun a => tpC a.1) (by
    rintro ⟨a, n⟩ ⟨b, m⟩ e1 e2
    simp only [List.cons.injEq, DV.int.injEq, true_and, and_true] at e1
    rw [e1, tpC_inj e2]) (t, n) ⟨h1, h2⟩
theorem cNext_pos {t : Tp} {n : Int} (h1 : t.at_ < 4294967296) (h2 : n ≤ 4294967296) (h3 : 1 ≤ n) : cNext [.int .i64 n] (tpC t) = some (.int .i64 (tpN t n), tpC (t.adv 1)) := by rw [cNext_eq h1 h2, tpS_pos h3]
theorem next_sound : (Con.tch cNext).Sound P 28 :=
  conT_sound (fun a _ => ⟨rfl, pure_tpC _, rfl, pure_tpC _⟩) fun a h => calls_runsF mix tbl0_sound Tryd.func28 a28_ok (runs_next a.1 a.2 h.1 h.2) (Nat.le_refl _)
noncomputable def T150 : Tbl := addT 28 (.tch cNext) tbl0
theorem T150_n : T150 28 = .tch cNext := by simp [T150]
theorem T150_sound : T150.Sound P := addT_sound next_sound tbl0_sound
def pickV (t : Tp) (l : List (List UInt8)) : List UInt8 := l.getD (tpN t l.length).toNat []
theorem pickV_mem (t : Tp) {l : List (List UInt8)} (h : l ≠ []) : pickV t l ∈ l := by
  have h0 : 1 ≤ l.length := by cases l with | nil => exact absurd rfl h | cons _ _ => simp
  have h1 := tpN_lo t l.length
  have h2 := tpN_hi t (n := l.length) (by omega)
  have h3 : (tpN t l.length).toNat < l.length := by omega
  rw [pickV, List.getD_eq_getElem?_getD, List.getElem?_eq_getElem h3]
  exact List.getElem_mem h3
theorem runs_pick (t : Tp) (l : List (List UInt8)) (ht : t.at_ < 4000000000) (h0 : 1 ≤ l.length) (hl : l.length ≤ 4294967296) : RunsF T150 a73 [.mp 0 2 0, .sl true 1 l.length (l.map .str)] [.cells (tpC t)] (.str (pickV t l)) [.cells (tpC (t.adv 1))] := by
  refine ⟨?_⟩
  have h1 := tpN_lo t l.length
  have h2 := tpN_hi t (n := l.length) (by omega)
  obtain ⟨N, hN⟩ : ∃ N : Nat, tpN t l.length = N := ⟨_, (Int.toNat_of_nonneg h1).symm⟩
  have h3 : N < l.length := by omega
  have e : pickV t l = l[N] := by rw [pickV, hN, Int.toNat_natCast, List.getD_eq_getElem?_getD, List.getElem?_eq_getElem h3]; rfl
  have hd : ((l.map DV.str).drop N).take 1 = [.str l[N]] := by
    rw [← List.map_drop, List.drop_eq_getElem_cons h3]; rfl
  have hfz : fzL 1 [.cells (tpC (t.adv 1))] (tpC (t.adv 1)) (tpC (t.adv 1)) := fzL_clean (pure_tpC _)
  simp (disch := first | omega | (simp [-List.map_take, -List.map_drop, -List.map_set, -List.map_append, -List.drop_one] <;> omega) | fail) [-List.map_take, -List.map_drop, -List.map_set, -List.map_append, -List.drop_one, a73, T150_n, cNext_pos, hN, h3, e, hd, hfz, pureL]
noncomputable def cPick : List DV → List DV → Option (DV × List DV) := conT (fun a : Tp × List (List UInt8) => a.1.at_ < 4000000000 ∧ 1 ≤ a.2.length ∧ a.2.length ≤ 4294967296) (fun a => [.sl true 1 a.2.length (a.2.map .str)]) (fun a => tpC a.1) (fun a => (.str (pickV a.1 a.2), tpC (a.1.adv 1)))
theorem map_str_inj : ∀ {a b : List (List UInt8)}, a.map DV.str = b.map DV.str → a = b
  | [], [], _ => rfl
  | [], y :: b, h => by simp at h
  | x :: a, [], h => by simp at h
  | x :: a, y :: b, h => by
    simp only [List.map_cons, List.cons.injEq, DV.str.injEq] at h
    rw [h.1, map_str_inj h.2]
theorem cPick_eq {t : Tp} {l : List (List UInt8)} (h : t.at_ < 4000000000) (h1 : 1 ≤ l.length) (h2 : l.length ≤ 4294967296) : cPick [.sl true 1 l.length (l.map .str)] (tpC t) = some (.str (pickV t l), tpC (t.adv 1)) :=
  conT_eq (A := fun a : Tp × List (List UInt8) => a.1.at_ < 4000000000 ∧ 1 ≤ a.2.length ∧ a.2.length ≤ 4294967296) (f := fun a => [.sl true 1 a.2.length (a.2.map .str)]) (s := fun a => tpC a.1) (by
    rintro ⟨a, n⟩ ⟨b, m⟩ e1 e2
    simp only [List.cons.injEq, DV.sl.injEq, true_and, and_true] at e1
    rw [map_str_inj e1.2, tpC_inj e2]) (t, l) ⟨h, h1, h2⟩
theorem cPick2 {t : Tp} {a b : List UInt8} (h : t.at_ < 4000000000) : cPick [.sl true 1 2 [.str a, .str b]] (tpC t) = some (.str (pickV t [a, b]), tpC (t.adv 1)) := cPick_eq (l := [a, b]) h (by simp) (by simp)
theorem pick_sound : (Con.tch cPick).Sound P 73 :=
  conT_sound (fun a _ => ⟨by simp [pureL, pureD]; exact List.rec rfl (fun _ _ ih => by simpa [pureL, pureD] using ih) a.2, pure_tpC _, rfl, pure_tpC _⟩) fun a h => calls_runsF mix T150_sound Tryd.func73 a73_ok (runs_pick a.1 a.2 h.1 h.2.1 h.2.2) (Nat.le_refl _)
def dgW (b : BitVec 8) : Dg := ⟨b :: rep 31 0#8, by simp [rep]⟩
abbrev dgB (z : Int) : Dg := dgW (BitVec.ofInt 8 z)
theorem build_dg {b : BitVec 8} : buildD (dgC dg0) [(0, 1, w8 b)] = some (.agg (dgC (dgW b))) := rfl
def sumV (t : Tp) : Dg := dgB (1 + tpN t 6)
theorem dgB_ne {z : Int} (h0 : 1 ≤ z) (h1 : z ≤ 255) : dgB z ≠ dg0 := by
  intro e
  have := congrArg (fun d : Dg => d.1.head?) e
  simp [dgW, dg0, rep, List.replicate] at this
  have h2 := congrArg BitVec.toNat this
  simp at h2
  omega
theorem sumV_ne (t : Tp) : sumV t ≠ dg0 := by
  have h1 := tpN_lo t 6
  have h2 := tpN_hi t (n := 6) (by omega)
  exact dgB_ne (by omega) (by omega)
theorem runs_sum (t : Tp) (ht : t.at_ < 4000000000) : RunsF T150 a74 [.mp 0 2 0] [.cells (tpC t)] (.agg (dgC (sumV t))) [.cells (tpC (t.adv 1))] := by
  refine ⟨?_⟩
  have h1 := tpN_lo t 6
  have h2 := tpN_hi t (n := 6) (by omega)
  have hfz : ∀ k, fzL 1 k (tpC (t.adv 1)) (tpC (t.adv 1)) := fun k => fzL_clean (pure_tpC _)
  simp (disch := first | omega | (simp [-List.map_take, -List.map_drop, -List.map_set, -List.map_append, -List.drop_one] <;> omega) | fail) [-List.map_take, -List.map_drop, -List.map_set, -List.map_append, -List.drop_one, a74, T150_n, cNext_pos, hfz, build_dg, sumV, fzLo_clean (pure_dgC _)]
noncomputable def cSum : List DV → List DV → Option (DV × List DV) := conT (fun a : Tp => a.at_ < 4000000000) (fun a => []) tpC (fun a => (.agg (dgC (sumV a)), tpC (a.adv 1)))
theorem cSum_eq {t : Tp} (h : t.at_ < 4000000000) : cSum [] (tpC t) = some (.agg (dgC (sumV t)), tpC (t.adv 1)) :=
  conT_eq (A := fun a : Tp => a.at_ < 4000000000) (f := fun a => []) (s := tpC) (fun a b _ e => by rw [tpC_inj e]) t h
theorem sum_sound : (Con.tch cSum).Sound P 74 :=
  conT_sound (fun a _ => ⟨rfl, pure_tpC _, by simp [pureD], pure_tpC _⟩) fun a h => calls_runsF mix T150_sound Tryd.func74 a74_ok (runs_sum a h) (Nat.le_refl _)
structure Nl where
  k : Option Bool
  l : List Int
  h : k = none → l = []
  b : l.length ≤ 9223372036854775807
def Nl.dv (x : Nl) : DV := slD x.k 1 x.l.length (x.l.flatMap inI)
def tp0 (x : Nl) (n : Nat) : Tp := ⟨x.k.map fun b => b && (min x.l.length n == x.l.length), x.l.take n, fun e => by simp at e; rw [x.h e]; simp, 0⟩
theorem tp0_at (x : Nl) (n : Nat) : (tp0 x n).at_ = 0 := rfl
theorem nl_pure (x : Nl) : pureD x.dv = true := pure_sl ⟨x.k, x.l, x.h, 0⟩
theorem nl_inj {a b : Nl} (h : a.dv = b.dv) : a = b := by
  obtain ⟨k, l, h1, p⟩ := a
  obtain ⟨k', l', h2, p'⟩ := b
  have := tpC_inj (a := ⟨k, l, h1, 0⟩) (b := ⟨k', l', h2, 0⟩) (by simp only [tpC, Tp.sl]; simp only [Nl.dv] at h; rw [h])
  simp only [Tp.mk.injEq, and_true] at this
  rw [Nl.mk.injEq]; exact this
theorem build_tp {t : Tp} : buildD [.nils, .int .i64 0] [(0, 1, t.sl)] = some (.agg [t.sl, .int .i64 0]) := by simp [buildD, fillD, splice]
theorem runs_tape (x : Nl) (n : Nat) (hn : n ≤ 4294967296) : RunsF tbl0 a26 [x.dv, .int .i64 n] [] (.mp 0 2 0) [.cells (tpC (tp0 x n))] := by
  refine ⟨?_⟩
  have hb := x.b
  have hl : ∀ H, lenD H x.dv = some (.int .i64 x.l.length) := fun H => lenD_slD (fun e => by rw [x.h e]; rfl)
  have hm : min (x.l.length : Int) n = ((min x.l.length n : Nat) : Int) := by omega
  have hs : ∀ H, slcSD H 1 x.dv none (some (.int .i64 ((min x.l.length n : Nat) : Int))) none = some (tp0 x n).sl := fun H => by
    obtain ⟨k, l, h, b⟩ := x
    cases k with
    | none =>
      cases h rfl
      simp only [Nl.dv, slD_none, tp0, Tp.sl, Option.map_none, List.length_nil, Nat.zero_min]
      rw [slcSD_nils (p := (0, 0)) (by simp [boundsD, iD])]
    | some b =>
      simp only [Nl.dv, slD_some, tp0, Tp.sl, Option.map_some]
      rw [slcSD_sl (l := 0) (m := min l.length n) (by simp [boundsD, iD]; omega)]
      simp only [Nat.zero_mul, List.drop_zero, Nat.sub_zero, List.length_take, fm_take len_inI, Nat.min_comm n]
      congr 2
      rw [show List.take (min l.length n) l = List.take n l from by rw [Nat.min_comm, ← List.take_take, List.take_of_length_le (Nat.le_refl l.length)]]
  have hat := tp0_at x n
  have hfz : ∀ k, fzL 1 k (tpC (tp0 x n)) (tpC (tp0 x n)) := fun k => fzL_clean (pure_tpC _)
  have htp : tpC (tp0 x n) = [(tp0 x n).sl, .int .i64 0] := rfl
  rw [htp] at hfz ⊢
  simp (disch := first | omega | (simp [-List.map_take, -List.map_drop, -List.map_set, -List.map_append, -List.drop_one] <;> omega) | fail) [-List.map_take, -List.map_drop, -List.map_set, -List.map_append, -List.drop_one, a26, hl, hm, hs, hfz, build_tp, E_mm2, mm2_min]
noncomputable def cTape : List DV → Nat → Option (DV × List AObj) := conN (fun a : Nl × Nat => a.2 ≤ 4294967296) (fun a => [a.1.dv, .int .i64 a.2]) (fun a => (.mp 0 2 0, [.cells (tpC (tp0 a.1 a.2))]))
theorem cTape_eq {x : Nl} {n : Nat} (h : n ≤ 4294967296) (m : Nat) : cTape [x.dv, .int .i64 n] m = some (.mp m 2 0, [.cells (tpC (tp0 x n))]) := by
  have := conN_eq (A := fun a : Nl × Nat => a.2 ≤ 4294967296) (f := fun a => [a.1.dv, .int .i64 a.2]) (g := fun a => (.mp 0 2 0, [.cells (tpC (tp0 a.1 a.2))])) (fun a b e => by
    simp only [List.cons.injEq, DV.int.injEq, true_and, and_true, Int.natCast_inj] at e
    rw [nl_inj e.1, e.2]) (x, n) h m
  rw [cTape, this]
  simp only [shD_mp, List.map_cons, List.map_nil, shO_cells, shL_pure _ _ (pure_tpC _), Nat.add_zero]
theorem tape_sound : (Con.new cTape).Sound P 26 :=
  conN_sound (fun a _ => by simp [pureL, nl_pure, pureD]) fun a h => calls_runsF mix tbl0_sound Tryd.func26 a26_ok (runs_tape a.1 a.2 h) (by simp)
end Go.Proofs.YtjhakjeioppijaaDoor
set_option linter.unusedSimpArgs false
set_option linter.unusedVariables false
namespace Go.Proofs.YtjhakjeioppijaaDoor
open Go Go.Am
def gOne (x : Sl Dg) (t : Tp) : Dg × Tp := if 0 < tpN (t.adv 1) 6 then (x.l.getD (tpN (t.adv 2) x.l.length).toNat dg0, t.adv 3) else (sumV t, t.adv 2)
def gAdd (l : List Dg) (d : Dg) : List Dg := if d ∈ l then l else l ++ [d]
def gLoop (x : Sl Dg) : Nat → Tp → List Dg → List Dg × Tp
  | 0, t, l => (l, t)
  | k + 1, t, l => gLoop x k (gOne x t).2 (gAdd l (gOne x t).1)
def groupV (t : Tp) (x : Sl Dg) : Grp × Tp :=
  (⟨pickV t [[112, 114, 111, 100], [116, 101, 115, 116]], pickV (t.adv 1) [[119, 101, 98], [100, 98]], tpN (t.adv 2) 4, tpN (t.adv 3) (tpN (t.adv 2) 4 + 1), tpN (t.adv 4) (tpN (t.adv 2) 4 + 1),
    own (gLoop x ((tpN (t.adv 5) 3).toNat + 1) (t.adv 6) []).1⟩, (gLoop x ((tpN (t.adv 5) 3).toNat + 1) (t.adv 6) []).2)
theorem gOne_at (x : Sl Dg) (t : Tp) : (gOne x t).2.at_ ≤ t.at_ + 3 := by unfold gOne; split <;> simp
theorem gAdd_len (l : List Dg) (d : Dg) : (gAdd l d).length ≤ l.length + 1 := by unfold gAdd; split <;> simp
structure GS where
  k : Nat
  t : Tp
  l : List Dg
  d : Dg
structure GC where
  ns : List UInt8
  im : List UInt8
  want : Int
  least : Int
  down : Int
def gCells (g : GC) (ch : DV) : List DV := [.str g.ns, .str g.im, .int .i64 g.want, .int .i64 g.least, .int .i64 g.down, ch]
def gZero : List DV := [.str [], .str [], .int .i64 0, .int .i64 0, .int .i64 0, .nils]
def gH (g : GC) (a : GS) : List AObj := if a.l = [] then [.cells (tpC a.t), .cells gZero, .cells (gCells g .nils)] else
  [.cells (tpC a.t), .cells gZero, .cells (gCells g (.ms 4 (a.l.length * 32) 0 32 a.l.length (a.l.length * 32))), .cells (dgC a.d), .cells (a.l.flatMap dgC)]
def S160 (g : GC) (x : Sl Dg) (a : GS) : St := a34S0 (.mp 0 2 0) (x.dv 32 dgC) (.mp 1 6 0) (.mp 2 6 0) (.int .i64 ((a.k : Int) - 1)) (gH g a)
theorem gH_nil {g : GC} {a : GS} (h : a.l = []) : gH g a = [.cells (tpC a.t), .cells gZero, .cells (gCells g .nils)] := if_pos h
theorem gH_ne {g : GC} {a : GS} (h : a.l ≠ []) : gH g a = [.cells (tpC a.t), .cells gZero, .cells (gCells g (.ms 4 (a.l.length * 32) 0 32 a.l.length (a.l.length * 32))), .cells (dgC a.d), .cells (a.l.flatMap dgC)] := if_neg h
noncomputable def T160 : Tbl := addT 28 (.tch cNext) (addT 73 (.tch cPick) (addT 74 (.tch cSum) (addT 63 (.pure (cDgs hasB)) tbl0)))
theorem T160_n : T160 28 = .tch cNext := by simp [T160]
theorem T160_p : T160 73 = .tch cPick := by simp [T160]
theorem T160_s : T160 74 = .tch cSum := by simp [T160]
theorem T160_h : T160 63 = .pure (cDgs hasB) := by simp [T160]
theorem T160_sound : T160.Sound P := addT_sound next_sound (addT_sound pick_sound (addT_sound sum_sound (addT_sound (con_sound fun p _ => sem_runs mix tbl0_sound Tryd.func63 a63_ok (runs_refhas p.1 p.2)) tbl0_sound)))
theorem build_g3 {a b : List UInt8} {n : Int} : buildD [.str [], .str [], .int .i64 0, .int .i64 0, .int .i64 0, .nils] [(0, 1, .str a), (1, 1, .str b), (2, 1, .int .i64 n)] = some (.agg [.str a, .str b, .int .i64 n, .int .i64 0, .int .i64 0, .nils]) := rfl
theorem storeO_agg6 {h : List AObj} {id : Nat} {a b c d e f : DV} {l : List DV} (hl : l.length = 6) (h1 : a.one = true) (h2 : b.one = true) (h3 : c.one = true) (h4 : d.one = true) (h5 : e.one = true) (h6 : f.one = true) :
    storeO h id 6 0 (.agg [a, b, c, d, e, f]) (some l) = some (.junk, h.set id (.cells [a, b, c, d, e, f])) := storeO_agg rfl hl (by simp [h1, h2, h3, h4, h5, h6])
theorem one_agg6 {a b c d e f : DV} : one 6 true [a, b, c, d, e, f] = some (.agg [a, b, c, d, e, f]) := rfl
set_option maxHeartbeats 1000000 in
theorem runs_group_made (t : Tp) (x : Sl Dg) (ht : t.at_ < 3999999000) (hx : 1 ≤ x.l.length) : RunsF T160 a34 [.mp 0 2 0, x.dv 32 dgC] [.cells (tpC t)] (.agg (grC (groupV t x).1)) [.cells (tpC (groupV t x).2)] := by
  refine ⟨?_⟩
  have n1 := tpN_lo (t.adv 2) 4
  have n2 := tpN_hi (t.adv 2) (n := 4) (by omega)
  have n5 := tpN_lo (t.adv 5) 3
  have n6 := tpN_hi (t.adv 5) (n := 3) (by omega)
  unfold groupV
  obtain ⟨r, hr⟩ : ∃ r, gLoop x ((tpN (t.adv 5) 3).toNat + 1) (t.adv 6) [] = r := ⟨_, rfl⟩
  rw [hr]
  obtain ⟨w, hw⟩ : ∃ w, tpN (t.adv 2) 4 = w := ⟨_, rfl⟩
  rw [hw] at n1 n2 ⊢
  obtain ⟨N, hN⟩ : ∃ N : Nat, tpN (t.adv 5) 3 = N := ⟨_, (Int.toNat_of_nonneg n5).symm⟩
  rw [hN, Int.toNat_natCast] at hr
  rw [hN] at n6
  obtain ⟨le, hle⟩ : ∃ w', tpN (t.adv 3) (w + 1) = w' := ⟨_, rfl⟩
  obtain ⟨dn, hdn⟩ : ∃ w', tpN (t.adv 4) (w + 1) = w' := ⟨_, rfl⟩
  rw [hle, hdn]
  simp (disch := first | omega | (simp [-List.map_take, -List.map_drop, -List.map_set, -List.map_append, -List.drop_one] <;> omega) | fail) [-List.map_take, -List.map_drop, -List.map_set, -List.map_append, -List.drop_one, a34, T160_n, T160_p, cPick2, cNext_pos, hw, hN, adv_adv, hle, hdn, build_g3, storeO_agg6]
  refine W_loop (S160 ⟨pickV t [[112, 114, 111, 100], [116, 101, 115, 116]], pickV (t.adv 1) [[119, 101, 98], [100, 98]], w, le, dn⟩ x) (fun a => a.k) (fun a => gLoop x a.k a.t a.l = r ∧ a.t.at_ + 3 * a.k < 4000000000 ∧ a.l.length + a.k ≤ 4 ∧ (a.l = [] → 1 ≤ a.k)) ⟨N + 1, t.adv 6, [], dg0⟩ ?_ ?_ (fun a ha => ?_)
  · rw [S160, gH_nil rfl]
    exact weak_same (by simp (disch := first | omega | (simp [-List.map_take, -List.map_drop, -List.map_set, -List.map_append, -List.drop_one] <;> omega) | fail) [-List.map_take, -List.map_drop, -List.map_set, -List.map_append, -List.drop_one, a34S0]) (by simp (disch := first | omega | (simp [-List.map_take, -List.map_drop, -List.map_set, -List.map_append, -List.drop_one] <;> omega) | fail) [-List.map_take, -List.map_drop, -List.map_set, -List.map_append, -List.drop_one, gCells, gZero])
  · exact ⟨hr, by simp; omega, by simp; omega, fun _ => by simp⟩
  obtain ⟨k, u, l, d0⟩ := a
  obtain ⟨h1, h2, h3, h4⟩ := ha
  simp only at h1 h2 h3 h4
  cases k with
  | zero =>
    have hl : l ≠ [] := fun e => by have := h4 e; omega
    rw [S160, gH_ne hl]
    have e : r = (l, u) := h1.symm
    subst e
    have hlen := fm_len len_dgC l
    have hpl := fm_pure pure_dgC l
    have htk : (l.flatMap dgC).take (l.length * 32) = l.flatMap dgC := List.take_of_length_le (by omega)
    have hfz : ∀ k, fzL 1 k (tpC u) (tpC u) := fun k => fzL_clean (pure_tpC _)
    simp (disch := first | omega | (simp [-List.map_take, -List.map_drop, -List.map_set, -List.map_append, -List.drop_one] <;> omega) | fail) [-List.map_take, -List.map_drop, -List.map_set, -List.map_append, -List.drop_one, a34L0, a34S0, gCells, gZero, one_agg6, storeO_agg6, hlen, htk, hfz, own_dv, fzLo_clean hpl, grC]
  | succ k =>
  have m1 := tpN_lo (u.adv 2) x.l.length
  have m2 := tpN_hi (u.adv 2) (n := x.l.length) (by omega)
  obtain ⟨M, hM⟩ : ∃ M : Nat, tpN (u.adv 2) x.l.length = M := ⟨_, (Int.toNat_of_nonneg m1).symm⟩
  have hMl : M < x.l.length := by omega
  have hxb := x.b
  have hget : ∀ H, idxSD H 32 (x.dv 32 dgC) M = some (.ref (dgC x.l[M])) := fun H => idxSD_dv len_dgC hMl
  have hx0 : 0 < x.l.length := by omega
  have hx0' : (0 : Int) < x.l.length := by omega
  have hk1 : ((k + 1 : Nat) : Int) - 1 = k := by omega
  have h1' : gLoop x k (gOne x u).2 (gAdd l (gOne x u).1) = r := h1
  by_cases hl : l = []
  · rw [S160, gH_nil hl]
    subst hl
    have hh : ∀ d, cDgs hasB [.nils, .agg (dgC d)] = some (.bool false) := fun d => by
      have := cDgs_eq (g := hasB) (x := ⟨none, [], fun _ => rfl, by simp⟩) (d := d)
      exact this.trans (by simp [hasB])
    by_cases hb : 0 < tpN (u.adv 1) 6
    · have hone : gOne x u = (x.l[M], u.adv 3) := by rw [gOne, if_pos hb, hM, Int.toNat_natCast, List.getD_eq_getElem?_getD, List.getElem?_eq_getElem hMl]; rfl
      rw [hone] at h1'
      simp (disch := first | omega | (simp [-List.map_take, -List.map_drop, -List.map_set, -List.map_append, -List.drop_one] <;> omega) | fail) [-List.map_take, -List.map_drop, -List.map_set, -List.map_append, -List.drop_one, a34L0, a34S0, T160_s, T160_n, T160_h, cSum_eq, cNext_pos, adv_adv, hx0, hx0', hb, hM, hget, gCells, hh, storeO_one]
      refine ⟨⟨k, u.adv 3, [x.l[M]], x.l[M]⟩, ?_, by simp, by simpa [gAdd] using h1', by simp; omega, by simp; omega, fun e => by simp at e⟩
      rw [S160, gH_ne (by simp)]
      exact weak_same (by simp (disch := first | omega | (simp [-List.map_take, -List.map_drop, -List.map_set, -List.map_append, -List.drop_one] <;> omega) | fail) [-List.map_take, -List.map_drop, -List.map_set, -List.map_append, -List.drop_one, a34S0]) (by simp (disch := first | omega | (simp [-List.map_take, -List.map_drop, -List.map_set, -List.map_append, -List.drop_one] <;> omega) | fail) [-List.map_take, -List.map_drop, -List.map_set, -List.map_append, -List.drop_one, gCells])
    · have hone : gOne x u = ((sumV u), u.adv 2) := by rw [gOne, if_neg hb]
      rw [hone] at h1'
      simp (disch := first | omega | (simp [-List.map_take, -List.map_drop, -List.map_set, -List.map_append, -List.drop_one] <;> omega) | fail) [-List.map_take, -List.map_drop, -List.map_set, -List.map_append, -List.drop_one, a34L0, a34S0, T160_s, T160_n, T160_h, cSum_eq, cNext_pos, adv_adv, hx0, hx0', hb, hM, hget, gCells, hh, storeO_one]
      refine ⟨⟨k, u.adv 2, [(sumV u)], (sumV u)⟩, ?_, by simp, by simpa [gAdd] using h1', by simp; omega, by simp; omega, fun e => by simp at e⟩
      rw [S160, gH_ne (by simp)]
      exact weak_same (by simp (disch := first | omega | (simp [-List.map_take, -List.map_drop, -List.map_set, -List.map_append, -List.drop_one] <;> omega) | fail) [-List.map_take, -List.map_drop, -List.map_set, -List.map_append, -List.drop_one, a34S0]) (by simp (disch := first | omega | (simp [-List.map_take, -List.map_drop, -List.map_set, -List.map_append, -List.drop_one] <;> omega) | fail) [-List.map_take, -List.map_drop, -List.map_set, -List.map_append, -List.drop_one, gCells])
  · rw [S160, gH_ne hl]
    have hl32 : l.length ≤ 4294967296 := by omega
    have hlen := fm_len len_dgC l
    have hpl := fm_pure pure_dgC l
    have htk : (l.flatMap dgC).take (l.length * 32) = l.flatMap dgC := List.take_of_length_le (by omega)
    have hsn : ∀ H j, snapL H j (l.flatMap dgC) = some (l.flatMap dgC) := fun H j => snapL_clean hpl
    by_cases hb : 0 < tpN (u.adv 1) 6
    · have hone : gOne x u = (x.l[M], u.adv 3) := by rw [gOne, if_pos hb, hM, Int.toNat_natCast, List.getD_eq_getElem?_getD, List.getElem?_eq_getElem hMl]; rfl
      rw [hone] at h1'
      have hh : cDgs hasB [.sl false 32 l.length (l.flatMap dgC), .agg (dgC x.l[M])] = some (.bool (decide (x.l[M] ∈ l))) :=
        cDgs_eq (g := hasB) (x := ⟨some false, l, fun e => by simp at e, hl32⟩) (d := x.l[M])
      by_cases hm : x.l[M] ∈ l
      · simp (disch := first | omega | (simp [-List.map_take, -List.map_drop, -List.map_set, -List.map_append, -List.drop_one] <;> omega) | fail) [-List.map_take, -List.map_drop, -List.map_set, -List.map_append, -List.drop_one, a34L0, a34S0, T160_s, T160_n, T160_h, cSum_eq, cNext_pos, adv_adv, hx0, hx0', hb, hM, hget, gCells, hh, storeO_one, hlen, hpl, htk, hsn, hm]
        refine ⟨⟨k, u.adv 3, l, d0⟩, ?_, by simp, by simpa [gAdd, hm] using h1', by simp; omega, by simp; omega, fun e => absurd e hl⟩
        rw [S160, gH_ne hl]
        exact weak_drop (tail := [.cells (dgC x.l[M])]) (by simp (disch := first | omega | (simp [-List.map_take, -List.map_drop, -List.map_set, -List.map_append, -List.drop_one] <;> omega) | fail) [-List.map_take, -List.map_drop, -List.map_set, -List.map_append, -List.drop_one, a34S0]) (by simp (disch := first | omega | (simp [-List.map_take, -List.map_drop, -List.map_set, -List.map_append, -List.drop_one] <;> omega) | fail) [-List.map_take, -List.map_drop, -List.map_set, -List.map_append, -List.drop_one, gCells]) (by simp) (by simp [Am.belowL, Am.below]) (by simp [belowH, Am.belowL, Am.below, belowL_pure _ _ (pure_tpC _), belowL_pure _ _ hpl, belowL_pure _ _ (pureL_append hpl (pure_dgC _)), gZero, gCells])
      · simp (disch := first | omega | (simp [-List.map_take, -List.map_drop, -List.map_set, -List.map_append, -List.drop_one] <;> omega) | fail) [-List.map_take, -List.map_drop, -List.map_set, -List.map_append, -List.drop_one, a34L0, a34S0, T160_s, T160_n, T160_h, cSum_eq, cNext_pos, adv_adv, hx0, hx0', hb, hM, hget, gCells, hh, storeO_one, hlen, hpl, htk, hsn, hm]
        refine ⟨⟨k, u.adv 3, l ++ [x.l[M]], d0⟩, ?_, by simp, by simpa [gAdd, hm] using h1', by simp; omega, by simp; omega, fun e => by simp at e⟩
        rw [S160, gH_ne (by simp)]
        exact weak_drop (tail := [.cells (dgC x.l[M])]) (by simp (disch := first | omega | (simp [-List.map_take, -List.map_drop, -List.map_set, -List.map_append, -List.drop_one] <;> omega) | fail) [-List.map_take, -List.map_drop, -List.map_set, -List.map_append, -List.drop_one, a34S0]) (by simp (disch := first | omega | (simp [-List.map_take, -List.map_drop, -List.map_set, -List.map_append, -List.drop_one] <;> omega) | fail) [-List.map_take, -List.map_drop, -List.map_set, -List.map_append, -List.drop_one, gCells, Nat.add_mul]) (by simp) (by simp [Am.belowL, Am.below]) (by simp [belowH, Am.belowL, Am.below, belowL_pure _ _ (pure_tpC _), belowL_pure _ _ hpl, belowL_pure _ _ (pureL_append hpl (pure_dgC _)), gZero, gCells])
    · have hone : gOne x u = ((sumV u), u.adv 2) := by rw [gOne, if_neg hb]
      rw [hone] at h1'
      have hh : cDgs hasB [.sl false 32 l.length (l.flatMap dgC), .agg (dgC (sumV u))] = some (.bool (decide ((sumV u) ∈ l))) :=
        cDgs_eq (g := hasB) (x := ⟨some false, l, fun e => by simp at e, hl32⟩) (d := (sumV u))
      by_cases hm : (sumV u) ∈ l
      · simp (disch := first | omega | (simp [-List.map_take, -List.map_drop, -List.map_set, -List.map_append, -List.drop_one] <;> omega) | fail) [-List.map_take, -List.map_drop, -List.map_set, -List.map_append, -List.drop_one, a34L0, a34S0, T160_s, T160_n, T160_h, cSum_eq, cNext_pos, adv_adv, hx0, hx0', hb, hM, hget, gCells, hh, storeO_one, hlen, hpl, htk, hsn, hm]
        refine ⟨⟨k, u.adv 2, l, d0⟩, ?_, by simp, by simpa [gAdd, hm] using h1', by simp; omega, by simp; omega, fun e => absurd e hl⟩
        rw [S160, gH_ne hl]
        exact weak_drop (tail := [.cells (dgC (sumV u))]) (by simp (disch := first | omega | (simp [-List.map_take, -List.map_drop, -List.map_set, -List.map_append, -List.drop_one] <;> omega) | fail) [-List.map_take, -List.map_drop, -List.map_set, -List.map_append, -List.drop_one, a34S0]) (by simp (disch := first | omega | (simp [-List.map_take, -List.map_drop, -List.map_set, -List.map_append, -List.drop_one] <;> omega) | fail) [-List.map_take, -List.map_drop, -List.map_set, -List.map_append, -List.drop_one, gCells]) (by simp) (by simp [Am.belowL, Am.below]) (by simp [belowH, Am.belowL, Am.below, belowL_pure _ _ (pure_tpC _), belowL_pure _ _ hpl, belowL_pure _ _ (pureL_append hpl (pure_dgC _)), gZero, gCells])
      · simp (disch := first | omega | (simp [-List.map_take, -List.map_drop, -List.map_set, -List.map_append, -List.drop_one] <;> omega) | fail) [-List.map_take, -List.map_drop, -List.map_set, -List.map_append, -List.drop_one, a34L0, a34S0, T160_s, T160_n, T160_h, cSum_eq, cNext_pos, adv_adv, hx0, hx0', hb, hM, hget, gCells, hh, storeO_one, hlen, hpl, htk, hsn, hm]
        refine ⟨⟨k, u.adv 2, l ++ [(sumV u)], d0⟩, ?_, by simp, by simpa [gAdd, hm] using h1', by simp; omega, by simp; omega, fun e => by simp at e⟩
        rw [S160, gH_ne (by simp)]
        exact weak_drop (tail := [.cells (dgC (sumV u))]) (by simp (disch := first | omega | (simp [-List.map_take, -List.map_drop, -List.map_set, -List.map_append, -List.drop_one] <;> omega) | fail) [-List.map_take, -List.map_drop, -List.map_set, -List.map_append, -List.drop_one, a34S0]) (by simp (disch := first | omega | (simp [-List.map_take, -List.map_drop, -List.map_set, -List.map_append, -List.drop_one] <;> omega) | fail) [-List.map_take, -List.map_drop, -List.map_set, -List.map_append, -List.drop_one, gCells, Nat.add_mul]) (by simp) (by simp [Am.belowL, Am.below]) (by simp [belowH, Am.belowL, Am.below, belowL_pure _ _ (pure_tpC _), belowL_pure _ _ hpl, belowL_pure _ _ (pureL_append hpl (pure_dgC _)), gZero, gCells])
end Go.Proofs.YtjhakjeioppijaaDoor
set_option linter.unusedSimpArgs false
set_option linter.unusedVariables false
namespace Go.Proofs.YtjhakjeioppijaaDoor
open Go Go.Am
def cpD {α : Type} (id s : Nat) (x : Sl α) : DV := if x.l = [] then .nils else .ms id (x.l.length * s) 0 s x.l.length (x.l.length * s)
theorem cpD_nil {α : Type} {id s : Nat} {x : Sl α} (h : x.l = []) : cpD id s x = .nils := if_pos h
theorem cpD_ne {α : Type} {id s : Nat} {x : Sl α} (h : x.l ≠ []) : cpD id s x = .ms id (x.l.length * s) 0 s x.l.length (x.l.length * s) := if_neg h
theorem cpD_one {α : Type} {id s : Nat} {x : Sl α} : (cpD id s x).one = true := by unfold cpD; split <;> rfl
theorem cpD_cells {α : Type} {id s : Nat} {x : Sl α} : (cpD id s x).cells = [cpD id s x] := by unfold cpD; split <;> rfl
theorem cpD_known {α : Type} {id s : Nat} {x : Sl α} : (cpD id s x).known = true := by unfold cpD; split <;> rfl
theorem cpD_sh {α : Type} {n id s : Nat} {x : Sl α} : shD n (cpD id s x) = cpD (n + id) s x := by unfold cpD; split <;> rfl
attribute [simp] cpD_one cpD_cells cpD_known
def copyW (n : Nat) (c : Clu) : List DV := [cpD (n + 2) 6 c.g, cpD (n + (2 + (mutO c.g grC).length)) 37 c.i, .int .i64 c.next]
def copyK (n : Nat) (c : Clu) : List AObj := .cells (clC c) :: .cells (copyW n c) :: (mutO c.g grC ++ mutO c.i inC)
theorem build_3 {a b : DV} {n : Int} (h1 : a.known = true) (h2 : a.cells = [a]) (h3 : b.known = true) (h4 : b.cells = [b]) : buildD [.nils, .nils, .int .i64 0] [(0, 1, a), (1, 1, b), (2, 1, .int .i64 n)] = some (.agg [a, b, .int .i64 n]) := by
  have q1 : (DV.int .i64 n).cells = [.int .i64 n] := rfl
  have q2 : (DV.int .i64 n).known = true := rfl
  simp [buildD, fillD, splice, h1, h2, h3, h4, q1, q2]
theorem runs_refcopy (c : Clu) : RunsH tbl0 a76 [.agg (clC c)] [] (.agg (copyW 0 c)) (copyK 0 c) := by
  refine ⟨?_⟩
  have hbg := c.g.b
  have hbi := c.i.b
  have v1 := fun H => visY_dv (h := H) (x := c.g) len_grC
  have v2 := fun H => visY_dv (h := H) (x := c.i) len_inC
  have l1 := fm_len len_grC c.g.l
  have l2 := fm_len len_inC c.i.l
  by_cases hg : c.g.l = []
  · have e1 := fun id => cpD_nil (id := id) (s := 6) hg
    have e2 := mutO_nil (f := grC) hg
    have e3 : c.g.l.length = 0 := by rw [hg]; rfl
    have e4 : c.g.l.flatMap grC = [] := by rw [hg]; rfl
    rw [e3, e4] at v1
    by_cases hi : c.i.l = []
    · have f1 := fun id => cpD_nil (id := id) (s := 37) hi
      have f2 := mutO_nil (f := inC) hi
      have f3 : c.i.l.length = 0 := by rw [hi]; rfl
      have f4 : c.i.l.flatMap inC = [] := by rw [hi]; rfl
      rw [f3, f4] at v2
      simp (disch := first | omega | (simp [-List.map_take, -List.map_drop, -List.map_set, -List.map_append, -List.drop_one] <;> omega) | fail) [-List.map_take, -List.map_drop, -List.map_set, -List.map_append, -List.drop_one, a76, copyW, copyK, v1, v2, e1, e2, f1, f2, build_3]
    · have f1 := fun id => cpD_ne (id := id) (s := 37) hi
      have f2 := mutO_ne (f := inC) hi
      have f3 : 0 < c.i.l.length := List.length_pos_iff.2 hi
      simp (disch := first | omega | (simp [-List.map_take, -List.map_drop, -List.map_set, -List.map_append, -List.drop_one] <;> omega) | fail) [-List.map_take, -List.map_drop, -List.map_set, -List.map_append, -List.drop_one, a76, copyW, copyK, v1, v2, e1, e2, f1, f2, f3, l2, build_3]
  · have e1 := fun id => cpD_ne (id := id) (s := 6) hg
    have e2 := mutO_ne (f := grC) hg
    have e3 : 0 < c.g.l.length := List.length_pos_iff.2 hg
    by_cases hi : c.i.l = []
    · have f1 := fun id => cpD_nil (id := id) (s := 37) hi
      have f2 := mutO_nil (f := inC) hi
      have f3 : c.i.l.length = 0 := by rw [hi]; rfl
      have f4 : c.i.l.flatMap inC = [] := by rw [hi]; rfl
      rw [f3, f4] at v2
      simp (disch := first | omega | (simp [-List.map_take, -List.map_drop, -List.map_set, -List.map_append, -List.drop_one] <;> omega) | fail) [-List.map_take, -List.map_drop, -List.map_set, -List.map_append, -List.drop_one, a76, copyW, copyK, v1, v2, e1, e2, e3, l1, f1, f2, build_3]
    · have f1 := fun id => cpD_ne (id := id) (s := 37) hi
      have f2 := mutO_ne (f := inC) hi
      have f3 : 0 < c.i.l.length := List.length_pos_iff.2 hi
      simp (disch := first | omega | (simp [-List.map_take, -List.map_drop, -List.map_set, -List.map_append, -List.drop_one] <;> omega) | fail) [-List.map_take, -List.map_drop, -List.map_set, -List.map_append, -List.drop_one, a76, copyW, copyK, v1, v2, e1, e2, e3, l1, f1, f2, f3, l2, build_3]
def copyW0 (c : Clu) : List DV := [cpD 2 6 c.g, cpD (2 + (mutO c.g grC).length) 37 c.i, .int .i64 c.next]
def copyK0 (c : Clu) : List AObj := .cells (clC c) :: .cells (copyW0 c) :: (mutO c.g grC ++ mutO c.i inC)
theorem runs_refcopy' (c : Clu) : RunsH tbl0 a76 [.agg (clC c)] [] (.agg (copyW0 c)) (copyK0 c) := by
  have := runs_refcopy c
  simpa [copyW, copyK, copyW0, copyK0] using this
noncomputable def cNCp : List DV → Nat → Option (DV × List AObj) := conN (fun _ => True) (fun c : Clu => [.agg (clC c)]) (fun c => (.agg (copyW0 c), copyK0 c))
theorem cNCp_eq {c : Clu} {n : Nat} : cNCp [.agg (clC c)] n = some (.agg (copyW n c), copyK n c) := by
  have := conN_eq (A := fun _ => True) (f := fun x : Clu => [.agg (clC x)]) (g := fun c => (.agg (copyW0 c), copyK0 c)) (fun a b e => by
    simp only [List.cons.injEq, DV.agg.injEq, and_true] at e
    rw [clC_inj e]) c trivial n
  simp only [copyW0, copyK0, shD_agg, shL_cons, shL_nil, cpD_sh, shD_int, List.map_cons, List.map_append, shO_cells, shO_mut pure_grC, shO_mut pure_inC, Nat.zero_add, shL_pure _ _ (pure_clC c)] at this
  exact this
noncomputable def T170 : Tbl := addT 21 (.pure (cC1 validCB)) (addT 19 (.pure (cG1 validGB)) (addT 23 (.pure (cCSS grpD)) (addT 76 (.new cNCp) (addT 25 (.pure (cCi fun c i => .int .i64 (findIx c.i.l i))) (addT 77 (.pure cTm) tbl0)))))
theorem T170_v : T170 21 = .pure (cC1 validCB) := by simp [T170]
theorem T170_vg : T170 19 = .pure (cG1 validGB) := by simp [T170]
theorem T170_g : T170 23 = .pure (cCSS grpD) := by simp [T170]
theorem T170_c : T170 76 = .new cNCp := by simp [T170]
theorem T170_f : T170 25 = .pure (cCi fun c i => .int .i64 (findIx c.i.l i)) := by simp [T170]
theorem T170_t : T170 77 = .pure cTm := by simp [T170]
theorem T170_sound : T170.Sound P := addT_sound (con_sound fun x _ => sem_runs mix T121_sound Tryd.func21 a21_ok (runs_refvalid x)) (addT_sound (con_sound fun x _ => sem_runs mix T120_sound Tryd.func19 a19_ok (runs_refvalidgroup x)) (addT_sound (con_sound fun x _ => sem_runs mix tbl0_sound Tryd.func23 a23_ok (runs_refgroup x.1 x.2.1 x.2.2)) (addT_sound (conN_sound (fun x _ => by simp) fun x _ => calls_runs mix tbl0_sound Tryd.func76 a76_ok (runs_refcopy' x)) (addT_sound (con_sound fun x _ => sem_runs mix tbl0_sound Tryd.func25 a25_ok (runs_reffind x.1 x.2)) (addT_sound (cTm_sound fun t => sem_runs mix tbl0_sound Tryd.func77 a77_ok (runs_instant t)) tbl0_sound)))))
noncomputable def deployRB (c : Clu) (g : Grp) : DV := .tup [.agg (clC (deployR c g).1), .int .i64 (deployR c g).2]
theorem copy_dv_nil {α : Type} {x : Sl α} {s : Nat} {f : α → List DV} (h : x.l = []) : x.copy.dv s f = .nils := by simp [Sl.copy, Sl.dv, slD, h]
theorem copy_dv_ne {α : Type} {x : Sl α} {s : Nat} {f : α → List DV} (h : x.l ≠ []) : x.copy.dv s f = .sl false s x.l.length (x.l.flatMap f) := by simp [Sl.copy, Sl.dv, slD, h]
set_option maxHeartbeats 4000000 in
theorem runs_refdeploy (c : Clu) (g : Grp) : Runs T170 a36 [.agg (clC c), .agg (grC g)] (deployRB c g) := by
  refine ⟨?_⟩
  by_cases hv : ValidC c
  case neg =>
    have hd : deployR c g = (clu0, 1) := by rw [deployR, if_pos (.inl hv)]
    simp (disch := first | omega | (simp [-List.map_take, -List.map_drop, -List.map_set, -List.map_append, -List.drop_one] <;> omega) | fail) [-List.map_take, -List.map_drop, -List.map_set, -List.map_append, -List.drop_one, a36, T170_v, cC1_eq, validCB, tv_false hv, deployRB, hd, clC_clu0]
  by_cases hvg : ValidG g
  case neg =>
    have hd : deployR c g = (clu0, 1) := by rw [deployR, if_pos (.inr hvg)]
    simp (disch := first | omega | (simp [-List.map_take, -List.map_drop, -List.map_set, -List.map_append, -List.drop_one] <;> omega) | fail) [-List.map_take, -List.map_drop, -List.map_set, -List.map_append, -List.drop_one, a36, T170_v, cC1_eq, validCB, tv_true hv, T170_vg, cG1_eq, validGB, tv_false hvg, deployRB, hd, clC_clu0]
  have hnn : ¬ (¬ ValidC c ∨ ¬ ValidG g) := fun h => h.elim (fun h => h hv) (fun h => h hvg)
  have hng := hv.ng
  have ha : ∀ l : List Grp, (l.flatMap grC).length = l.length * 6 := fm_len len_grC
  have hb : ∀ l : List Ins, (l.flatMap inC).length = l.length * 37 := fm_len len_inC
  by_cases hx : grpIx c.g.l g.ns g.im < 0
  · have hx' : ¬ (0 : Int) ≤ grpIx c.g.l g.ns g.im := by omega
    by_cases hl : 16 ≤ c.g.l.length
    · have hl' : (16 : Int) ≤ c.g.l.length := by omega
      have hd : deployR c g = (clu0, 3) := by rw [deployR, if_neg hnn, if_pos hx, if_pos hl]
      have hg : c.g.l ≠ [] := by intro e; rw [e] at hl; simp at hl
      have e2 := mutO_ne (f := grC) hg
      have e3 := fun id => cpD_ne (id := id) (s := 6) hg
      by_cases hi : c.i.l = []
      · have f1 := fun id => cpD_nil (id := id) (s := 37) hi
        have f2 := mutO_nil (f := inC) hi
        have f3 := copy_dv_nil (s := 37) (f := inC) hi
        simp (disch := first | omega | (simp [-List.map_take, -List.map_drop, -List.map_set, -List.map_append, -List.drop_one] <;> omega) | fail) [-List.map_take, -List.map_drop, -List.map_set, -List.map_append, -List.drop_one, a36, T170_v, cC1_eq, validCB, tv_true hv, T170_vg, cG1_eq, validGB, tv_true hvg, T170_g, cCSS_eq, grpD, T170_c, cNCp_eq, copyW, copyK, storeO_one, bsl_g, deployRB, hd, clC_mk, hx, hx', hl', hl, e2, e3, clC_clu0, f1, f2, f3]
      · have f1 := fun id => cpD_ne (id := id) (s := 37) hi
        have f2 := mutO_ne (f := inC) hi
        have f3 := copy_dv_ne (s := 37) (f := inC) hi
        have f4 := take_ins (l := c.i.l) (Nat.le_refl _)
        simp (disch := first | omega | (simp [-List.map_take, -List.map_drop, -List.map_set, -List.map_append, -List.drop_one] <;> omega) | fail) [-List.map_take, -List.map_drop, -List.map_set, -List.map_append, -List.drop_one, a36, T170_v, cC1_eq, validCB, tv_true hv, T170_vg, cG1_eq, validGB, tv_true hvg, T170_g, cCSS_eq, grpD, T170_c, cNCp_eq, copyW, copyK, storeO_one, bsl_g, deployRB, hd, clC_mk, hx, hx', hl', hl, e2, e3, clC_clu0, f1, f2, f3, f4, hb]
    · have hl' : ¬ (16 : Int) ≤ c.g.l.length := by omega
      have hd : deployR c g = (⟨own (c.g.l ++ [g]), c.i.copy, c.next⟩, 0) := by rw [deployR, if_neg hnn, if_pos hx, if_neg hl]
      have ho := own_dv (l := c.g.l ++ [g]) (s := 6) (f := grC) (by simp; omega)
      by_cases hg : c.g.l = []
      · have e2 := mutO_nil (f := grC) hg
        have e3 := fun id => cpD_nil (id := id) (s := 6) hg
        have ho : (own (c.g.l ++ [g])).dv 6 grC = .sl false 6 1 (grC g) := by rw [ho, hg]; simp
        by_cases hi : c.i.l = []
        · have f1 := fun id => cpD_nil (id := id) (s := 37) hi
          have f2 := mutO_nil (f := inC) hi
          have f3 := copy_dv_nil (s := 37) (f := inC) hi
          simp (disch := first | omega | (simp [-List.map_take, -List.map_drop, -List.map_set, -List.map_append, -List.drop_one] <;> omega) | fail) [-List.map_take, -List.map_drop, -List.map_set, -List.map_append, -List.drop_one, a36, T170_v, cC1_eq, validCB, tv_true hv, T170_vg, cG1_eq, validGB, tv_true hvg, T170_g, cCSS_eq, grpD, T170_c, cNCp_eq, copyW, copyK, storeO_one, bsl_g, deployRB, hd, clC_mk, hx, hx', hl', hl, ho, e2, e3, f1, f2, f3]
        · have f1 := fun id => cpD_ne (id := id) (s := 37) hi
          have f2 := mutO_ne (f := inC) hi
          have f3 := copy_dv_ne (s := 37) (f := inC) hi
          have f4 := take_ins (l := c.i.l) (Nat.le_refl _)
          simp (disch := first | omega | (simp [-List.map_take, -List.map_drop, -List.map_set, -List.map_append, -List.drop_one] <;> omega) | fail) [-List.map_take, -List.map_drop, -List.map_set, -List.map_append, -List.drop_one, a36, T170_v, cC1_eq, validCB, tv_true hv, T170_vg, cG1_eq, validGB, tv_true hvg, T170_g, cCSS_eq, grpD, T170_c, cNCp_eq, copyW, copyK, storeO_one, bsl_g, deployRB, hd, clC_mk, hx, hx', hl', hl, ho, e2, e3, f1, f2, f3, f4, hb]
      · have e2 := mutO_ne (f := grC) hg
        have e3 := fun id => cpD_ne (id := id) (s := 6) hg
        have e7 : (c.g.l.flatMap grC ++ grC g).take ((c.g.l.length + 1) * 6) = c.g.l.flatMap grC ++ grC g := List.take_of_length_le (by rw [List.length_append, ha, len_grC]; omega)
        have e11 : ∀ H k, snapL H k (c.g.l.flatMap grC ++ grC g) = some (c.g.l.flatMap grC ++ grC g) := fun H k => snapL_clean (pureL_append (fm_pure pure_grC _) (pure_grC _))
        have e6 : (c.g.l.length + 1) * 6 = c.g.l.length * 6 + 6 := by omega
        by_cases hi : c.i.l = []
        · have f1 := fun id => cpD_nil (id := id) (s := 37) hi
          have f2 := mutO_nil (f := inC) hi
          have f3 := copy_dv_nil (s := 37) (f := inC) hi
          simp (disch := first | omega | (simp [-List.map_take, -List.map_drop, -List.map_set, -List.map_append, -List.drop_one] <;> omega) | fail) [-List.map_take, -List.map_drop, -List.map_set, -List.map_append, -List.drop_one, a36, T170_v, cC1_eq, validCB, tv_true hv, T170_vg, cG1_eq, validGB, tv_true hvg, T170_g, cCSS_eq, grpD, T170_c, cNCp_eq, copyW, copyK, storeO_one, bsl_g, deployRB, hd, clC_mk, hx, hx', hl', hl, ho, e2, e3, e7, e11, ha, f1, f2, f3]
        · have f1 := fun id => cpD_ne (id := id) (s := 37) hi
          have f2 := mutO_ne (f := inC) hi
          have f3 := copy_dv_ne (s := 37) (f := inC) hi
          have f4 := take_ins (l := c.i.l) (Nat.le_refl _)
          simp (disch := first | omega | (simp [-List.map_take, -List.map_drop, -List.map_set, -List.map_append, -List.drop_one] <;> omega) | fail) [-List.map_take, -List.map_drop, -List.map_set, -List.map_append, -List.drop_one, a36, T170_v, cC1_eq, validCB, tv_true hv, T170_vg, cG1_eq, validGB, tv_true hvg, T170_g, cCSS_eq, grpD, T170_c, cNCp_eq, copyW, copyK, storeO_one, bsl_g, deployRB, hd, clC_mk, hx, hx', hl', hl, ho, e2, e3, e7, e11, ha, f1, f2, f3, f4, hb]
  · obtain ⟨k, hk, hke, hkf, _⟩ := ixI_pos (show 0 ≤ grpIx c.g.l g.ns g.im by omega)
    have hke : grpIx c.g.l g.ns g.im = k := hke
    have hd : deployR c g = (⟨own (c.g.l.set k g), c.i.copy, c.next⟩, 0) := by rw [deployR, if_neg hnn, if_neg hx, hke]; rfl
    have ho := own_dv (l := c.g.l.set k g) (s := 6) (f := grC) (by simp; omega)
    have hg : c.g.l ≠ [] := by intro e; rw [e] at hk; simp at hk
    have e2 := mutO_ne (f := grC) hg
    have e3 := fun id => cpD_ne (id := id) (s := 6) hg
    have hx' : (0 : Int) ≤ k := by omega
    have hk' : (k : Int) < c.g.l.length := by omega
    have e8 : splice (c.g.l.flatMap grC) (k * 6) (grC g) = (c.g.l.set k g).flatMap grC := fm_set len_grC hk _
    have e9 := take_grs (l := c.g.l.set k g) (n := c.g.l.length) (by simp)
    have e10 : ∀ H id, storeO H id 6 (k * 6) (.agg (grC g)) (some (c.g.l.flatMap grC)) = some (.junk, H.set id (.cells ((c.g.l.set k g).flatMap grC))) := fun H id => by
      rw [storeO_grs (by rw [ha]; omega), e8]
    by_cases hi : c.i.l = []
    · have f1 := fun id => cpD_nil (id := id) (s := 37) hi
      have f2 := mutO_nil (f := inC) hi
      have f3 := copy_dv_nil (s := 37) (f := inC) hi
      simp (disch := first | omega | (simp [-List.map_take, -List.map_drop, -List.map_set, -List.map_append, -List.drop_one] <;> omega) | fail) [-List.map_take, -List.map_drop, -List.map_set, -List.map_append, -List.drop_one, a36, T170_v, cC1_eq, validCB, tv_true hv, T170_vg, cG1_eq, validGB, tv_true hvg, T170_g, cCSS_eq, grpD, T170_c, cNCp_eq, copyW, copyK, storeO_one, bsl_g, deployRB, hd, clC_mk, hke, hx', hk', hk, ho, e2, e3, e9, e10, ha, f1, f2, f3]
    · have f1 := fun id => cpD_ne (id := id) (s := 37) hi
      have f2 := mutO_ne (f := inC) hi
      have f3 := copy_dv_ne (s := 37) (f := inC) hi
      have f4 := take_ins (l := c.i.l) (Nat.le_refl _)
      simp (disch := first | omega | (simp [-List.map_take, -List.map_drop, -List.map_set, -List.map_append, -List.drop_one] <;> omega) | fail) [-List.map_take, -List.map_drop, -List.map_set, -List.map_append, -List.drop_one, a36, T170_v, cC1_eq, validCB, tv_true hv, T170_vg, cG1_eq, validGB, tv_true hvg, T170_g, cCSS_eq, grpD, T170_c, cNCp_eq, copyW, copyK, storeO_one, bsl_g, deployRB, hd, clC_mk, hke, hx', hk', hk, ho, e2, e3, e9, e10, ha, f1, f2, f3, f4, hb]
end Go.Proofs.YtjhakjeioppijaaDoor
set_option linter.unusedSimpArgs false
set_option linter.unusedVariables false
namespace Go.Proofs.YtjhakjeioppijaaDoor
open Go Go.Am
theorem gLoop_at (x : Sl Dg) : ∀ (k : Nat) (t : Tp) (l : List Dg), (gLoop x k t l).2.at_ ≤ t.at_ + 3 * k
  | 0, t, l => Nat.le_refl _
  | k + 1, t, l => by
    have h1 := gLoop_at x k (gOne x t).2 (gAdd l (gOne x t).1)
    have h2 := gOne_at x t
    show (gLoop x k (gOne x t).2 (gAdd l (gOne x t).1)).2.at_ ≤ _
    omega
theorem groupV_at (t : Tp) (x : Sl Dg) : (groupV t x).2.at_ ≤ t.at_ + 15 := by
  have n5 := tpN_lo (t.adv 5) 3
  have n6 := tpN_hi (t.adv 5) (n := 3) (by omega)
  have := gLoop_at x ((tpN (t.adv 5) 3).toNat + 1) (t.adv 6) []
  simp only [groupV, adv_at] at this ⊢
  omega
noncomputable def cGrp : List DV → List DV → Option (DV × List DV) := conT (fun a : Tp × Sl Dg => a.1.at_ < 3999999000 ∧ 1 ≤ a.2.l.length) (fun a => [a.2.dv 32 dgC]) (fun a => tpC a.1) (fun a => (.agg (grC (groupV a.1 a.2).1), tpC (groupV a.1 a.2).2))
theorem cGrp_eq {t : Tp} {x : Sl Dg} (h1 : t.at_ < 3999999000) (h2 : 1 ≤ x.l.length) : cGrp [x.dv 32 dgC] (tpC t) = some (.agg (grC (groupV t x).1), tpC (groupV t x).2) :=
  conT_eq (A := fun a : Tp × Sl Dg => a.1.at_ < 3999999000 ∧ 1 ≤ a.2.l.length) (f := fun a => [a.2.dv 32 dgC]) (s := fun a => tpC a.1) (by
    rintro ⟨a, n⟩ ⟨b, m⟩ e1 e2
    simp only [List.cons.injEq, and_true] at e1
    rw [dgs_inj e1, tpC_inj e2]) (t, x) ⟨h1, h2⟩
theorem grp_sound : (Con.tch cGrp).Sound P 34 :=
  conT_sound (fun a _ => ⟨by simp [pureL], pure_tpC _, by simp [pureD], pure_tpC _⟩) fun a h => calls_runsF mix T160_sound Tryd.func34 a34_ok (runs_group_made a.1 a.2 h.1 h.2) (Nat.le_refl _)
def arts3 : Sl Dg := ⟨some true, [dgW 1#8, dgW 2#8, dgW 3#8], by simp, by simp⟩
def nilI : Sl Ins := ⟨none, [], fun _ => rfl, by simp⟩
def nilG : Sl Grp := ⟨none, [], fun _ => rfl, by simp⟩
noncomputable def dOne (c : Clu) (t : Tp) : Clu := if (deployR c (groupV t arts3).1).2 = 0 then (deployR c (groupV t arts3).1).1 else c
noncomputable def dLoop : Nat → Clu → Tp → Clu × Tp
  | 0, c, t => (c, t)
  | k + 1, c, t => dLoop k (dOne c t) (groupV t arts3).2
def iIns (n : Nat) (next : Int) (t : Tp) : Ins := ⟨next, tpN t n, arts3.l.getD (tpN (tpS t n) 3).toNat dg0, 1 + tpN ((tpS t n).adv 1) 3, tpN ((tpS t n).adv 2) 30, if tpN ((tpS t n).adv 3) 3 = 0 then tpN ((tpS t n).adv 4) 30 else -1⟩
def iTp (n : Nat) (t : Tp) : Tp := if tpN ((tpS t n).adv 3) 3 = 0 then (tpS t n).adv 5 else (tpS t n).adv 4
def iLoop (n : Nat) : Nat → List Ins → Int → Tp → List Ins × Int × Tp
  | 0, l, next, t => (l, next, t)
  | k + 1, l, next, t => iLoop n k (l ++ [iIns n next t]) (next + (1 + tpN (iTp n t) 2)) ((iTp n t).adv 1)
def cl0 (t : Tp) : Clu := ⟨nilG, nilI, 1 + tpN t 4⟩
noncomputable def clD (t : Tp) : Clu × Tp := dLoop ((tpN (t.adv 1) 2).toNat + 1) (cl0 t) (t.adv 2)
noncomputable def clI (t : Tp) (m : Int) : List Ins × Int × Tp := iLoop (clD t).1.g.l.length (tpN (clD t).2 (m + 1)).toNat [] (clD t).1.next ((clD t).2.adv 1)
noncomputable def clusterV (t : Tp) (m : Int) : Clu × Tp := (⟨(clD t).1.g, if (clI t m).1 = [] then nilI else own (clI t m).1, (clI t m).2.1⟩, (clI t m).2.2)
theorem deployR_i {c : Clu} {g : Grp} (h : (deployR c g).2 = 0) (hi : c.i = nilI) : (deployR c g).1.i = nilI := by
  have hc : nilI.copy = nilI := rfl
  unfold deployR at h ⊢
  split at h <;> try (simp at h; done)
  rename_i h1
  rw [if_neg h1]
  split at h
  · rename_i h2
    rw [if_pos h2]
    split at h <;> try (simp at h; done)
    rename_i h3
    rw [if_neg h3, hi]; rfl
  · rename_i h2
    rw [if_neg h2, hi]; rfl
theorem dOne_i {c : Clu} {t : Tp} (hi : c.i = nilI) : (dOne c t).i = nilI := by
  unfold dOne; split
  · rename_i h; exact deployR_i h hi
  · exact hi
theorem dLoop_at : ∀ (k : Nat) (c : Clu) (t : Tp), (dLoop k c t).2.at_ ≤ t.at_ + 15 * k
  | 0, _, _ => Nat.le_refl _
  | k + 1, c, t => by
    have h1 := dLoop_at k (dOne c t) (groupV t arts3).2
    have h2 := groupV_at t arts3
    show (dLoop k (dOne c t) (groupV t arts3).2).2.at_ ≤ _
    omega
theorem iTp_at (n : Nat) (t : Tp) : (iTp n t).at_ ≤ t.at_ + 6 := by
  have := tpS_at t n
  unfold iTp; split <;> simp <;> omega
noncomputable def cDepR (g : Clu → Grp → DV) : List DV → Option DV := con (fun _ => True) (fun p : Clu × Grp => [.agg (clC p.1), .agg (grC p.2)]) (fun p => g p.1 p.2)
theorem cDepR_eq {f : Clu → Grp → DV} {c : Clu} {g : Grp} : cDepR f [.agg (clC c), .agg (grC g)] = some (f c g) :=
  con_inj (f := fun p : Clu × Grp => [.agg (clC p.1), .agg (grC p.2)]) (by
    rintro ⟨a, b⟩ ⟨a', b'⟩ e
    simp only [List.cons.injEq, DV.agg.injEq, and_true] at e
    rw [clC_inj e.1, grC_inj e.2]) (c, g)
noncomputable def T180 : Tbl := addT 28 (.tch cNext) (addT 34 (.tch cGrp) (addT 36 (.pure (cDepR deployRB)) tbl0))
theorem T180_n : T180 28 = .tch cNext := by simp [T180]
theorem T180_g : T180 34 = .tch cGrp := by simp [T180]
theorem T180_d : T180 36 = .pure (cDepR deployRB) := by simp [T180]
theorem T180_sound : T180.Sound P := addT_sound next_sound (addT_sound grp_sound (addT_sound (con_sound fun p _ => sem_runs mix T170_sound Tryd.func36 a36_ok (runs_refdeploy p.1 p.2)) tbl0_sound))
theorem arts_dv : arts3.dv 32 dgC = .sl true 32 3 (dgC (dgW 1#8) ++ (dgC (dgW 2#8) ++ dgC (dgW 3#8))) := by simp [arts3, Sl.dv, slD]
structure DS where
  k : Nat
  c : Clu
  t : Tp
def S180 (m : Int) (a : DS) : St := a27S0 (.mp 0 2 0) (.int .i64 m) (.mp 1 3 0) (arts3.dv 32 dgC) (.mp 2 3 0) (.int .i64 a.k) [.cells (tpC a.t), .cells [.nils, .nils, .int .i64 0], .cells (clC a.c)]
theorem bsl_arts : bslD 32 3 (dgC dg0) [(0, 32, .agg (dgC (dgW 1#8))), (32, 32, .agg (dgC (dgW 2#8))), (64, 32, .agg (dgC (dgW 3#8)))] = some (arts3.dv 32 dgC) := by
  rw [bslD_of (by simp [DV.known]) (by simp [seqD, DV.cells])]; simp [seqD, DV.cells, arts3, Sl.dv, slD]
theorem build_n {n : Int} : buildD [.nils, .nils, .int .i64 0] [(2, 1, .int .i64 n)] = some (.agg [.nils, .nils, .int .i64 n]) := rfl
theorem deployR_next {c : Clu} {g : Grp} (h : (deployR c g).2 = 0) : (deployR c g).1.next = c.next := by
  unfold deployR at h ⊢
  split at h <;> try (simp at h; done)
  rename_i h1
  rw [if_neg h1]
  split at h
  · rename_i h2
    rw [if_pos h2]
    split at h <;> try (simp at h; done)
    rename_i h3
    rw [if_neg h3]
  · rename_i h2
    rw [if_neg h2]
theorem dOne_next {c : Clu} {t : Tp} : (dOne c t).next = c.next := by
  unfold dOne; split
  · rename_i h; exact deployR_next h
  · rfl
structure IS where
  k : Nat
  l : List Ins
  n : Int
  t : Tp
  x : Ins
def iH (g : Sl Grp) (a : IS) : List AObj := if a.l = [] then [.cells (tpC a.t), .cells [.nils, .nils, .int .i64 0], .cells [g.dv 6 grC, .nils, .int .i64 a.n]] else
  [.cells (tpC a.t), .cells [.nils, .nils, .int .i64 0], .cells [g.dv 6 grC, .ms 4 (a.l.length * 37) 0 37 a.l.length (a.l.length * 37), .int .i64 a.n], .cells (inC a.x), .cells (a.l.flatMap inC)]
theorem iH_nil {g : Sl Grp} {a : IS} (h : a.l = []) : iH g a = [.cells (tpC a.t), .cells [.nils, .nils, .int .i64 0], .cells [g.dv 6 grC, .nils, .int .i64 a.n]] := if_pos h
theorem iH_ne {g : Sl Grp} {a : IS} (h : a.l ≠ []) : iH g a = [.cells (tpC a.t), .cells [.nils, .nils, .int .i64 0], .cells [g.dv 6 grC, .ms 4 (a.l.length * 37) 0 37 a.l.length (a.l.length * 37), .int .i64 a.n], .cells (inC a.x), .cells (a.l.flatMap inC)] := if_neg h
def S181 (g : Sl Grp) (a : IS) : St := a27S1 (.mp 0 2 0) (.mp 1 3 0) (arts3.dv 32 dgC) (.mp 2 3 0) (.int .i64 a.k) (iH g a)
def in0 : Ins := ⟨0, 0, dg0, 0, 0, 0⟩
theorem zero_in : [DV.int .i64 0, .int .i64 0, w8 0#8, w8 0#8, w8 0#8, w8 0#8, w8 0#8, w8 0#8, w8 0#8, w8 0#8, w8 0#8, w8 0#8, w8 0#8, w8 0#8, w8 0#8, w8 0#8, w8 0#8, w8 0#8, w8 0#8, w8 0#8, w8 0#8, w8 0#8, w8 0#8, w8 0#8, w8 0#8, w8 0#8, w8 0#8, w8 0#8, w8 0#8, w8 0#8, w8 0#8, w8 0#8, w8 0#8, w8 0#8, .int .i64 0, .int .i64 0, .int .i64 0] = inC in0 := rfl
theorem set_de (x : Ins) (v : Int) : (inC x).set 36 (.int .i64 v) = inC ⟨x.id, x.grp, x.art, x.state, x.since, v⟩ := by
  have h := len_pre x
  rw [inC_split, inC_split, List.set_append_right _ _ (by omega), h]
  rfl
set_option maxHeartbeats 2000000 in
theorem runs_cluster_made (t : Tp) (m : Int) (ht : t.at_ < 3990000000) (h0 : 0 ≤ m) (h1 : m ≤ 1000) : RunsF T180 a27 [.mp 0 2 0, .int .i64 m] [.cells (tpC t)] (.agg (clC (clusterV t m).1)) [.cells (tpC (clusterV t m).2)] := by
  refine ⟨?_⟩
  have n1 := tpN_lo t 4
  have n2 := tpN_hi t (n := 4) (by omega)
  have n3 := tpN_lo (t.adv 1) 2
  have n4 := tpN_hi (t.adv 1) (n := 2) (by omega)
  obtain ⟨N, hN⟩ : ∃ N : Nat, tpN (t.adv 1) 2 = N := ⟨_, (Int.toNat_of_nonneg n3).symm⟩
  simp (disch := first | omega | (simp [-List.map_take, -List.map_drop, -List.map_set, -List.map_append, -List.drop_one] <;> omega) | fail) [-List.map_take, -List.map_drop, -List.map_set, -List.map_append, -List.drop_one, a27, T180_n, cNext_pos, adv_adv, build_dg, bsl_arts, build_n, hN]
  refine W_loop (S180 m) (fun a => a.k) (fun a => dLoop a.k a.c a.t = clD t ∧ a.t.at_ + 100 * a.k < 3995000000 ∧ a.c.i = nilI ∧ a.c.next = 1 + tpN t 4) ⟨N + 1, cl0 t, t.adv 2⟩ ?_ ?_ (fun a ha => ?_)
  · exact weak_same (by simp (disch := first | omega | (simp [-List.map_take, -List.map_drop, -List.map_set, -List.map_append, -List.drop_one] <;> omega) | fail) [-List.map_take, -List.map_drop, -List.map_set, -List.map_append, -List.drop_one, S180, a27S0, arts_dv, show (1 + (N : Int)) = N + 1 from Int.add_comm _ _]) (by simp (disch := first | omega | (simp [-List.map_take, -List.map_drop, -List.map_set, -List.map_append, -List.drop_one] <;> omega) | fail) [-List.map_take, -List.map_drop, -List.map_set, -List.map_append, -List.drop_one, S180, cl0, clC_mk, nilG, nilI, Sl.dv, slD_none])
  · exact ⟨by simp [clD, hN], by simp; omega, rfl, rfl⟩
  obtain ⟨k, c, u⟩ := a
  obtain ⟨r1, r2, r3, r4⟩ := ha
  simp only at r1 r2 r3 r4
  simp (disch := first | omega | (simp [-List.map_take, -List.map_drop, -List.map_set, -List.map_append, -List.drop_one] <;> omega) | fail) [-List.map_take, -List.map_drop, -List.map_set, -List.map_append, -List.drop_one, a27L0, a27S0, S180]
  by_cases hk : 0 < k
  · obtain ⟨k, rfl⟩ : ∃ k', k = k' + 1 := ⟨k - 1, by omega⟩
    have hk' : (0 : Int) < ((k + 1 : Nat) : Int) := by omega
    have g1 := groupV_at u arts3
    have r1' : dLoop k (dOne c u) (groupV u arts3).2 = clD t := r1
    have ha3 : 1 ≤ arts3.l.length := by simp [arts3]
    have hdi := dOne_i (t := u) r3
    have hdn := dOne_next (c := c) (t := u)
    obtain ⟨G, hG⟩ : ∃ G, (groupV u arts3).1 = G := ⟨_, rfl⟩
    obtain ⟨V, hV⟩ : ∃ V, (groupV u arts3).2 = V := ⟨_, rfl⟩
    obtain ⟨E, hE⟩ : ∃ E, deployR c G = E := ⟨_, rfl⟩
    rw [hV] at g1 r1'
    by_cases he : E.2 = 0
    · have hd : dOne c u = E.1 := by rw [dOne, hG, hE, if_pos he]
      simp (disch := first | omega | (simp [-List.map_take, -List.map_drop, -List.map_set, -List.map_append, -List.drop_one] <;> omega) | fail) [-List.map_take, -List.map_drop, -List.map_set, -List.map_append, -List.drop_one, T180_g, T180_d, cGrp_eq, cDepR_eq, deployRB, hG, hV, hE, he, ha3]
      refine ⟨⟨k, E.1, V⟩, weak_drop (tail := [.cells (clC E.1)]) (by simp (disch := first | omega | (simp [-List.map_take, -List.map_drop, -List.map_set, -List.map_append, -List.drop_one] <;> omega) | fail) [-List.map_take, -List.map_drop, -List.map_set, -List.map_append, -List.drop_one, S180, a27S0]) (by simp (disch := first | omega | (simp [-List.map_take, -List.map_drop, -List.map_set, -List.map_append, -List.drop_one] <;> omega) | fail) [-List.map_take, -List.map_drop, -List.map_set, -List.map_append, -List.drop_one, S180]) (by simp [S180, a27S0]) (by simp [S180, a27S0, Am.belowL, Am.below]) (by simp [S180, a27S0, belowH, Am.belowL, Am.below, belowL_pure _ _ (pure_tpC _)]), by simp, by rw [← hd]; exact r1', by simp; omega, by rw [← hd]; exact hdi, by rw [← hd, hdn]; exact r4⟩
    · have hd : dOne c u = c := by rw [dOne, hG, hE, if_neg he]
      simp (disch := first | omega | (simp [-List.map_take, -List.map_drop, -List.map_set, -List.map_append, -List.drop_one] <;> omega) | fail) [-List.map_take, -List.map_drop, -List.map_set, -List.map_append, -List.drop_one, T180_g, T180_d, cGrp_eq, cDepR_eq, deployRB, hG, hV, hE, he, ha3]
      refine ⟨⟨k, c, V⟩, weak_drop (tail := [.cells (clC E.1)]) (by simp (disch := first | omega | (simp [-List.map_take, -List.map_drop, -List.map_set, -List.map_append, -List.drop_one] <;> omega) | fail) [-List.map_take, -List.map_drop, -List.map_set, -List.map_append, -List.drop_one, S180, a27S0]) (by simp (disch := first | omega | (simp [-List.map_take, -List.map_drop, -List.map_set, -List.map_append, -List.drop_one] <;> omega) | fail) [-List.map_take, -List.map_drop, -List.map_set, -List.map_append, -List.drop_one, S180]) (by simp [S180, a27S0]) (by simp [S180, a27S0, Am.belowL, Am.below]) (by simp [S180, a27S0, belowH, Am.belowL, Am.below, belowL_pure _ _ (pure_tpC _)]), by simp, by rw [hd] at r1'; exact r1', by simp; omega, r3, r4⟩
  obtain rfl : k = 0 := by omega
  have ec : clD t = (c, u) := r1.symm
  have m1 := tpN_lo u (m + 1)
  have m2 := tpN_hi u (n := m + 1) (by omega)
  obtain ⟨K, hK⟩ : ∃ K : Nat, tpN u (m + 1) = K := ⟨_, (Int.toNat_of_nonneg m1).symm⟩
  obtain ⟨g, ci, nx⟩ := c
  simp only at r3 r4
  subst r3
  have hI : clI t m = iLoop g.l.length K [] nx (u.adv 1) := by rw [clI, ec]; simp only [hK, Int.toNat_natCast]
  obtain ⟨r, hr⟩ : ∃ r, iLoop g.l.length K [] nx (u.adv 1) = r := ⟨_, rfl⟩
  have hcv : clusterV t m = (⟨g, if r.1 = [] then nilI else own r.1, r.2.1⟩, r.2.2) := by rw [clusterV, hI, hr, ec]
  rw [hcv]
  have hgb := g.b
  simp (disch := first | omega | (simp [-List.map_take, -List.map_drop, -List.map_set, -List.map_append, -List.drop_one] <;> omega) | fail) [-List.map_take, -List.map_drop, -List.map_set, -List.map_append, -List.drop_one, T180_n, cNext_pos, hK]
  refine W_loop (S181 g) (fun a => a.k) (fun a => iLoop g.l.length a.k a.l a.n a.t = r ∧ a.t.at_ + 100 * a.k < 3999999000 ∧ 0 ≤ a.n ∧ a.n + 2 * a.k ≤ 10000 ∧ a.l.length + a.k ≤ 2000) ⟨K, [], nx, u.adv 1, in0⟩ ?_ ?_ (fun a ha => ?_)
  · rw [S181, iH_nil rfl]
    exact weak_same (by simp (disch := first | omega | (simp [-List.map_take, -List.map_drop, -List.map_set, -List.map_append, -List.drop_one] <;> omega) | fail) [-List.map_take, -List.map_drop, -List.map_set, -List.map_append, -List.drop_one, a27S1]) (by simp (disch := first | omega | (simp [-List.map_take, -List.map_drop, -List.map_set, -List.map_append, -List.drop_one] <;> omega) | fail) [-List.map_take, -List.map_drop, -List.map_set, -List.map_append, -List.drop_one, clC_mk, nilI, Sl.dv, slD_none])
  · exact ⟨hr, by simp; omega, by simp; omega, by simp; omega, by simp; omega⟩
  clear r1 r2
  obtain ⟨k, l, n, v, x0⟩ := a
  obtain ⟨r1, r2, q1, q2, q3⟩ := ha
  simp only at r1 r2 q1 q2 q3
  by_cases hk : 0 < k
  · obtain ⟨k, rfl⟩ : ∃ k', k = k' + 1 := ⟨k - 1, by omega⟩
    have hk' : (0 : Int) < ((k + 1 : Nat) : Int) := by omega
    have hU := tpS_at v g.l.length
    obtain ⟨U, hUe⟩ : ∃ U, tpS v g.l.length = U := ⟨_, rfl⟩
    rw [hUe] at hU
    have p1 := tpN_lo U 3
    have p2 := tpN_hi U (n := 3) (by omega)
    obtain ⟨M, hM⟩ : ∃ M : Nat, tpN U 3 = M := ⟨_, (Int.toNat_of_nonneg p1).symm⟩
    have hM3 : M < arts3.l.length := by simp [arts3]; omega
    have hget : ∀ H, idxSD H 32 (arts3.dv 32 dgC) M = some (.ref (dgC arts3.l[M])) := fun H => idxSD_dv len_dgC hM3
    have hap : ∀ b, apartD (arts3.dv 32 dgC) b = b.known := fun b => apart_pure rfl
    have p3 := tpN_lo (U.adv 1) 3
    have p4 := tpN_hi (U.adv 1) (n := 3) (by omega)
    by_cases hz : tpN (U.adv 3) 3 = 0
    · skip
      have hj1 := tpN_lo (U.adv 5) 2
      have hj2 := tpN_hi (U.adv 5) (n := 2) (by omega)
      obtain ⟨J, hj⟩ : ∃ J, tpN (U.adv 5) 2 = J := ⟨_, rfl⟩
      rw [hj] at hj1 hj2
      have hx : iIns g.l.length n v = ⟨n, tpN v g.l.length, arts3.l[M], 1 + tpN (U.adv 1) 3, tpN (U.adv 2) 30, (tpN (U.adv 4) 30)⟩ := by
        simp only [iIns, hUe, hM, Int.toNat_natCast, List.getD_eq_getElem?_getD, List.getElem?_eq_getElem hM3, Option.getD_some, hz, if_true, if_false]
      have hT : iTp g.l.length v = (U.adv 5) := by simp only [iTp, hUe, hz, if_true, if_false]
      have r1' : iLoop g.l.length k (l ++ [iIns g.l.length n v]) (n + (1 + tpN (iTp g.l.length v) 2)) ((iTp g.l.length v).adv 1) = r := r1
      rw [hx, hT, hj, adv_adv] at r1'
      have hfold0 : (DV.int .i64 n :: DV.int .i64 (tpN v g.l.length) :: (dgC arts3.l[M] ++ [DV.int .i64 (1 + tpN (U.adv 1) 3), DV.int .i64 (tpN (U.adv 2) 30), DV.int .i64 (-1)])) = inC ⟨n, tpN v g.l.length, arts3.l[M], 1 + tpN (U.adv 1) 3, tpN (U.adv 2) 30, -1⟩ := rfl
      have hfold : (DV.int .i64 n :: DV.int .i64 (tpN v g.l.length) :: (dgC arts3.l[M] ++ [DV.int .i64 (1 + tpN (U.adv 1) 3), DV.int .i64 (tpN (U.adv 2) 30), DV.int .i64 (tpN (U.adv 4) 30)])) = inC ⟨n, tpN v g.l.length, arts3.l[M], 1 + tpN (U.adv 1) 3, tpN (U.adv 2) 30, tpN (U.adv 4) 30⟩ := rfl
      by_cases hl : l = []
      · skip
        subst hl
        rw [S181, iH_nil rfl]
        simp (disch := first | omega | (simp [-List.map_take, -List.map_drop, -List.map_set, -List.map_append, -List.drop_one] <;> omega) | fail) [-List.map_take, -List.map_drop, -List.map_set, -List.map_append, -List.drop_one, a27L1, a27S1, T180_n, cNext_pos, cNext_eq, adv_adv, hUe, hM, hget, storeO_one, zero_in, build_i, bsl_i, splice_de, hk', hz, hj, hap, hfold0, Ins.de, set_de, hfold]
        refine ⟨⟨k, [(⟨n, tpN v g.l.length, arts3.l[M], 1 + tpN (U.adv 1) 3, tpN (U.adv 2) 30, (tpN (U.adv 4) 30)⟩ : Ins)], n + (1 + J), (U.adv 6), (⟨n, tpN v g.l.length, arts3.l[M], 1 + tpN (U.adv 1) 3, tpN (U.adv 2) 30, (tpN (U.adv 4) 30)⟩ : Ins)⟩, ?_, by simp, by simpa using r1', by simp; omega, by simp; omega, by simp; omega, by simp at q3 ⊢; omega⟩
        rw [S181, iH_ne (by simp)]
        exact weak_same (by simp (disch := first | omega | (simp [-List.map_take, -List.map_drop, -List.map_set, -List.map_append, -List.drop_one] <;> omega) | fail) [-List.map_take, -List.map_drop, -List.map_set, -List.map_append, -List.drop_one, a27S1]) (by simp (disch := first | omega | (simp [-List.map_take, -List.map_drop, -List.map_set, -List.map_append, -List.drop_one] <;> omega) | fail) [-List.map_take, -List.map_drop, -List.map_set, -List.map_append, -List.drop_one, Ins.de])
      · have hlen := fm_len len_inC l
        have hpl := fm_pure pure_inC l
        rw [S181, iH_ne hl]
        simp (disch := first | omega | (simp [-List.map_take, -List.map_drop, -List.map_set, -List.map_append, -List.drop_one] <;> omega) | fail) [-List.map_take, -List.map_drop, -List.map_set, -List.map_append, -List.drop_one, a27L1, a27S1, T180_n, cNext_pos, cNext_eq, adv_adv, hUe, hM, hget, storeO_one, zero_in, build_i, bsl_i, splice_de, hk', hz, hj, hap, hfold0, Ins.de, set_de, hfold, hlen]
        refine ⟨⟨k, l ++ [(⟨n, tpN v g.l.length, arts3.l[M], 1 + tpN (U.adv 1) 3, tpN (U.adv 2) 30, (tpN (U.adv 4) 30)⟩ : Ins)], n + (1 + J), (U.adv 6), x0⟩, ?_, by simp, r1', by simp; omega, by simp; omega, by simp; omega, by simp at q3 ⊢; omega⟩
        rw [S181, iH_ne (by simp)]
        exact weak_drop (tail := [.cells (inC (⟨n, tpN v g.l.length, arts3.l[M], 1 + tpN (U.adv 1) 3, tpN (U.adv 2) 30, (tpN (U.adv 4) 30)⟩ : Ins))]) (by simp (disch := first | omega | (simp [-List.map_take, -List.map_drop, -List.map_set, -List.map_append, -List.drop_one] <;> omega) | fail) [-List.map_take, -List.map_drop, -List.map_set, -List.map_append, -List.drop_one, a27S1]) (by simp (disch := first | omega | (simp [-List.map_take, -List.map_drop, -List.map_set, -List.map_append, -List.drop_one] <;> omega) | fail) [-List.map_take, -List.map_drop, -List.map_set, -List.map_append, -List.drop_one, Nat.add_mul, Ins.de]) (by simp [a27S1]) (by simp [a27S1, Am.belowL, Am.below]) (by simp [a27S1, belowH, Am.belowL, Am.below, belowL_pure _ _ (pure_tpC _), belowL_pure _ _ (pureL_append hpl (pure_inC _))])
    · skip
      have hj1 := tpN_lo (U.adv 4) 2
      have hj2 := tpN_hi (U.adv 4) (n := 2) (by omega)
      obtain ⟨J, hj⟩ : ∃ J, tpN (U.adv 4) 2 = J := ⟨_, rfl⟩
      rw [hj] at hj1 hj2
      have hx : iIns g.l.length n v = ⟨n, tpN v g.l.length, arts3.l[M], 1 + tpN (U.adv 1) 3, tpN (U.adv 2) 30, (-1)⟩ := by
        simp only [iIns, hUe, hM, Int.toNat_natCast, List.getD_eq_getElem?_getD, List.getElem?_eq_getElem hM3, Option.getD_some, hz, if_true, if_false]
      have hT : iTp g.l.length v = (U.adv 4) := by simp only [iTp, hUe, hz, if_true, if_false]
      have r1' : iLoop g.l.length k (l ++ [iIns g.l.length n v]) (n + (1 + tpN (iTp g.l.length v) 2)) ((iTp g.l.length v).adv 1) = r := r1
      rw [hx, hT, hj, adv_adv] at r1'
      have hfold0 : (DV.int .i64 n :: DV.int .i64 (tpN v g.l.length) :: (dgC arts3.l[M] ++ [DV.int .i64 (1 + tpN (U.adv 1) 3), DV.int .i64 (tpN (U.adv 2) 30), DV.int .i64 (-1)])) = inC ⟨n, tpN v g.l.length, arts3.l[M], 1 + tpN (U.adv 1) 3, tpN (U.adv 2) 30, -1⟩ := rfl
      by_cases hl : l = []
      · skip
        subst hl
        rw [S181, iH_nil rfl]
        simp (disch := first | omega | (simp [-List.map_take, -List.map_drop, -List.map_set, -List.map_append, -List.drop_one] <;> omega) | fail) [-List.map_take, -List.map_drop, -List.map_set, -List.map_append, -List.drop_one, a27L1, a27S1, T180_n, cNext_pos, cNext_eq, adv_adv, hUe, hM, hget, storeO_one, zero_in, build_i, bsl_i, splice_de, hk', hz, hj, hap, hfold0, Ins.de, set_de]
        refine ⟨⟨k, [(⟨n, tpN v g.l.length, arts3.l[M], 1 + tpN (U.adv 1) 3, tpN (U.adv 2) 30, (-1)⟩ : Ins)], n + (1 + J), (U.adv 5), (⟨n, tpN v g.l.length, arts3.l[M], 1 + tpN (U.adv 1) 3, tpN (U.adv 2) 30, (-1)⟩ : Ins)⟩, ?_, by simp, by simpa using r1', by simp; omega, by simp; omega, by simp; omega, by simp at q3 ⊢; omega⟩
        rw [S181, iH_ne (by simp)]
        exact weak_same (by simp (disch := first | omega | (simp [-List.map_take, -List.map_drop, -List.map_set, -List.map_append, -List.drop_one] <;> omega) | fail) [-List.map_take, -List.map_drop, -List.map_set, -List.map_append, -List.drop_one, a27S1]) (by simp (disch := first | omega | (simp [-List.map_take, -List.map_drop, -List.map_set, -List.map_append, -List.drop_one] <;> omega) | fail) [-List.map_take, -List.map_drop, -List.map_set, -List.map_append, -List.drop_one, Ins.de])
      · have hlen := fm_len len_inC l
        have hpl := fm_pure pure_inC l
        rw [S181, iH_ne hl]
        simp (disch := first | omega | (simp [-List.map_take, -List.map_drop, -List.map_set, -List.map_append, -List.drop_one] <;> omega) | fail) [-List.map_take, -List.map_drop, -List.map_set, -List.map_append, -List.drop_one, a27L1, a27S1, T180_n, cNext_pos, cNext_eq, adv_adv, hUe, hM, hget, storeO_one, zero_in, build_i, bsl_i, splice_de, hk', hz, hj, hap, hfold0, Ins.de, set_de, hlen]
        refine ⟨⟨k, l ++ [(⟨n, tpN v g.l.length, arts3.l[M], 1 + tpN (U.adv 1) 3, tpN (U.adv 2) 30, (-1)⟩ : Ins)], n + (1 + J), (U.adv 5), x0⟩, ?_, by simp, r1', by simp; omega, by simp; omega, by simp; omega, by simp at q3 ⊢; omega⟩
        rw [S181, iH_ne (by simp)]
        exact weak_drop (tail := [.cells (inC (⟨n, tpN v g.l.length, arts3.l[M], 1 + tpN (U.adv 1) 3, tpN (U.adv 2) 30, (-1)⟩ : Ins))]) (by simp (disch := first | omega | (simp [-List.map_take, -List.map_drop, -List.map_set, -List.map_append, -List.drop_one] <;> omega) | fail) [-List.map_take, -List.map_drop, -List.map_set, -List.map_append, -List.drop_one, a27S1]) (by simp (disch := first | omega | (simp [-List.map_take, -List.map_drop, -List.map_set, -List.map_append, -List.drop_one] <;> omega) | fail) [-List.map_take, -List.map_drop, -List.map_set, -List.map_append, -List.drop_one, Nat.add_mul, Ins.de]) (by simp [a27S1]) (by simp [a27S1, Am.belowL, Am.below]) (by simp [a27S1, belowH, Am.belowL, Am.below, belowL_pure _ _ (pure_tpC _), belowL_pure _ _ (pureL_append hpl (pure_inC _))])
  · obtain rfl : k = 0 := by omega
    have er : r = (l, n, v) := r1.symm
    subst er
    have hfz : ∀ k, fzL 1 k (tpC v) (tpC v) := fun k => fzL_clean (pure_tpC _)
    have hfg : ∀ H k, fz 1 H k (g.dv 6 grC) = some (g.dv 6 grC) := fun H k => fz_clean (pure_dv6 g)
    have hni : nilI.dv 37 inC = .nils := rfl
    by_cases hl : l = []
    · subst hl
      rw [S181, iH_nil rfl]
      simp (disch := first | omega | (simp [-List.map_take, -List.map_drop, -List.map_set, -List.map_append, -List.drop_one] <;> omega) | fail) [-List.map_take, -List.map_drop, -List.map_set, -List.map_append, -List.drop_one, a27L1, a27S1, hfz, hfg, hni, clC_mk]
    · have hlen := fm_len len_inC l
      have hpl := fm_pure pure_inC l
      have htk := take_ins (l := l) (Nat.le_refl _)
      rw [S181, iH_ne hl]
      simp (disch := first | omega | (simp [-List.map_take, -List.map_drop, -List.map_set, -List.map_append, -List.drop_one] <;> omega) | fail) [-List.map_take, -List.map_drop, -List.map_set, -List.map_append, -List.drop_one, a27L1, a27S1, hfz, hfg, clC_mk, hlen, htk, hl, own_dv, fzLo_clean hpl]
noncomputable def cClu : List DV → List DV → Option (DV × List DV) := conT (fun a : Tp × Int => a.1.at_ < 3990000000 ∧ 0 ≤ a.2 ∧ a.2 ≤ 1000) (fun a => [.int .i64 a.2]) (fun a => tpC a.1) (fun a => (.agg (clC (clusterV a.1 a.2).1), tpC (clusterV a.1 a.2).2))
theorem cClu_eq {t : Tp} {m : Int} (h1 : t.at_ < 3990000000) (h2 : 0 ≤ m) (h3 : m ≤ 1000) : cClu [.int .i64 m] (tpC t) = some (.agg (clC (clusterV t m).1), tpC (clusterV t m).2) :=
  conT_eq (A := fun a : Tp × Int => a.1.at_ < 3990000000 ∧ 0 ≤ a.2 ∧ a.2 ≤ 1000) (f := fun a => [.int .i64 a.2]) (s := fun a => tpC a.1) (by
    rintro ⟨a, n⟩ ⟨b, m⟩ e1 e2
    simp only [List.cons.injEq, DV.int.injEq, true_and, and_true] at e1
    rw [e1, tpC_inj e2]) (t, m) ⟨h1, h2, h3⟩
theorem clu_sound : (Con.tch cClu).Sound P 27 :=
  conT_sound (fun a _ => ⟨rfl, pure_tpC _, by simp [pureD], pure_tpC _⟩) fun a h => calls_runsF mix T180_sound Tryd.func27 a27_ok (runs_cluster_made a.1 a.2 h.1 h.2.1 h.2.2) (Nat.le_refl _)
end Go.Proofs.YtjhakjeioppijaaDoor
set_option linter.unusedSimpArgs false
set_option linter.unusedVariables false
namespace Go.Proofs.YtjhakjeioppijaaDoor
open Go Go.Am
theorem gAdd_ok {l : List Dg} {d : Dg} (h1 : l.Nodup) (h2 : ∀ x ∈ l, x ≠ dg0) (hd : d ≠ dg0) : (gAdd l d).Nodup ∧ (∀ x ∈ gAdd l d, x ≠ dg0) := by
  unfold gAdd
  split
  · exact ⟨h1, h2⟩
  · rename_i hn
    refine ⟨List.nodup_append.2 ⟨h1, by simp, fun a ha b hb => ?_⟩, fun x hx => ?_⟩
    · simp at hb; subst hb; exact fun e => hn (e ▸ ha)
    · rcases List.mem_append.1 hx with h | h
      · exact h2 x h
      · simp at h; subst h; exact hd
theorem arts3_ne : ∀ x ∈ arts3.l, x ≠ dg0 := by
  intro x hx
  simp only [arts3, List.mem_cons, List.not_mem_nil, or_false] at hx
  rcases hx with rfl | rfl | rfl <;> decide
theorem gOne_ne {x : Sl Dg} (hx : ∀ d ∈ x.l, d ≠ dg0) (h0 : 1 ≤ x.l.length) (t : Tp) : (gOne x t).1 ≠ dg0 := by
  unfold gOne
  split
  · have h1 := tpN_lo (t.adv 2) x.l.length
    have h2 := tpN_hi (t.adv 2) (n := x.l.length) (by omega)
    have h3 : (tpN (t.adv 2) x.l.length).toNat < x.l.length := by omega
    simp only [List.getD_eq_getElem?_getD, List.getElem?_eq_getElem h3, Option.getD_some]
    exact hx _ (List.getElem_mem h3)
  · exact sumV_ne t
theorem gLoop_ok {x : Sl Dg} (hx : ∀ d ∈ x.l, d ≠ dg0) (h0 : 1 ≤ x.l.length) : ∀ (k : Nat) (t : Tp) (l : List Dg), l.Nodup → (∀ d ∈ l, d ≠ dg0) → (gLoop x k t l).1.Nodup ∧ (∀ d ∈ (gLoop x k t l).1, d ≠ dg0) ∧ (gLoop x k t l).1.length ≤ l.length + k
  | 0, t, l, h1, h2 => ⟨h1, h2, Nat.le_refl _⟩
  | k + 1, t, l, h1, h2 => by
    obtain ⟨g1, g2⟩ := gAdd_ok h1 h2 (gOne_ne hx h0 t)
    obtain ⟨k1, k2, k3⟩ := gLoop_ok hx h0 k (gOne x t).2 (gAdd l (gOne x t).1) g1 g2
    have := gAdd_len l (gOne x t).1
    exact ⟨k1, k2, by show (gLoop x k (gOne x t).2 (gAdd l (gOne x t).1)).1.length ≤ _; omega⟩
theorem okCh_of {l : List Dg} (h1 : l.Nodup) (h2 : ∀ d ∈ l, d ≠ dg0) : okCh l := by
  intro i hi
  refine ⟨h2 _ (List.getElem_mem hi), fun hm => ?_⟩
  obtain ⟨j, hj, e⟩ := List.getElem_of_mem hm
  simp at hj
  rw [List.getElem_take] at e
  have := (List.getElem_inj (xs := l) (i := j) (j := i) (h₀ := by omega) (h₁ := hi) h1).1 e
  omega
theorem pick2_path {t : Tp} {a b : List UInt8} (ha : pathD a = true) (hb : pathD b = true) : pathD (pickV t [a, b]) = true := by
  have := pickV_mem t (l := [a, b]) (by simp)
  simp only [List.mem_cons, List.not_mem_nil, or_false] at this
  rcases this with e | e <;> rw [e] <;> assumption
theorem groupV_ok (t : Tp) {x : Sl Dg} (hx : ∀ d ∈ x.l, d ≠ dg0) (h0 : 1 ≤ x.l.length) : ValidG (groupV t x).1 := by
  have n1 := tpN_lo (t.adv 2) 4
  have n2 := tpN_hi (t.adv 2) (n := 4) (by omega)
  have n3 := tpN_lo (t.adv 3) (tpN (t.adv 2) 4 + 1)
  have n4 := tpN_hi (t.adv 3) (n := tpN (t.adv 2) 4 + 1) (by omega)
  have n5 := tpN_lo (t.adv 4) (tpN (t.adv 2) 4 + 1)
  have n6 := tpN_hi (t.adv 4) (n := tpN (t.adv 2) 4 + 1) (by omega)
  have n7 := tpN_lo (t.adv 5) 3
  have n8 := tpN_hi (t.adv 5) (n := 3) (by omega)
  obtain ⟨k1, k2, k3⟩ := gLoop_ok hx h0 ((tpN (t.adv 5) 3).toNat + 1) (t.adv 6) [] (by simp) (by simp)
  simp only [List.length_nil] at k3
  have hl : (groupV t x).1.ch.l = (gLoop x ((tpN (t.adv 5) 3).toNat + 1) (t.adv 6) []).1 := own_l (by omega)
  refine ⟨pick2_path (by decide) (by decide), pick2_path (by decide) (by decide), n1, by show tpN (t.adv 2) 4 ≤ 8; omega, n3, by show tpN (t.adv 3) _ ≤ tpN (t.adv 2) 4; omega, n5, by show tpN (t.adv 4) _ ≤ tpN (t.adv 2) 4; omega, by rw [hl]; omega, by rw [hl]; exact okCh_of k1 k2⟩
theorem fitG_self (g : Grp) : fitG g.ns g.im g = true := by simp [fitG]
theorem fitG_eq {a b : Grp} (h1 : a.ns = b.ns) (h2 : a.im = b.im) (ns im : List UInt8) : fitG ns im a = fitG ns im b := by simp [fitG, h1, h2]
structure UG (l : List Grp) : Prop where
  n : l.length ≤ 16
  g : ∀ i (h : i < l.length), ValidG l[i] ∧ grpIx l l[i].ns l[i].im = i
theorem ug_app {l : List Grp} {g : Grp} (h : UG l) (hg : ValidG g) (hx : grpIx l g.ns g.im < 0) (hn : l.length < 16) : UG (l ++ [g]) := by
  refine ⟨by simp; omega, fun i hi => ?_⟩
  simp only [List.length_append, List.length_singleton] at hi
  by_cases hil : i < l.length
  · rw [List.getElem_append_left hil]
    obtain ⟨g1, g2⟩ := h.g i hil
    refine ⟨g1, ixI_at (by simp; omega) ?_ (fun j hj hji => ?_)⟩
    · rw [List.getElem_append_left hil]; exact fitG_self _
    · rw [List.getElem_append_left (by omega)]
      obtain ⟨k, hk, e1, e2, e3⟩ := ixI_pos (p := fitG l[i].ns l[i].im) (l := l) (by rw [show ixI (fitG l[i].ns l[i].im) l = (i : Int) from g2]; omega)
      have : k = i := by
        have : ixI (fitG l[i].ns l[i].im) l = (i : Int) := g2
        omega
      subst this
      exact e3 j (by omega) hji
  · have e : i = l.length := by omega
    subst e
    rw [List.getElem_append_right (Nat.le_refl _)]
    simp only [Nat.sub_self, List.getElem_cons_zero]
    refine ⟨hg, ixI_at (by simp) ?_ (fun j hj hji => ?_)⟩
    · rw [List.getElem_append_right (Nat.le_refl _)]; simp only [Nat.sub_self, List.getElem_cons_zero]; exact fitG_self _
    · rw [List.getElem_append_left hji]; exact ixI_neg hx j hji
theorem grpIx_names {l l' : List Grp} (hl : l.length = l'.length) (h : ∀ i (h1 : i < l.length) (h2 : i < l'.length), l[i].ns = l'[i].ns ∧ l[i].im = l'[i].im) (ns im : List UInt8) : grpIx l ns im = grpIx l' ns im := by
  by_cases hx : 0 ≤ grpIx l ns im
  · obtain ⟨k, hk, e1, e2, e3⟩ := ixI_pos hx
    have e1 : grpIx l ns im = k := e1
    rw [e1]
    refine (ixI_at (by omega) ?_ (fun j hj hji => ?_)).symm
    · rw [← fitG_eq (h k hk (by omega)).1 (h k hk (by omega)).2]; exact e2
    · rw [← fitG_eq (h j (by omega) hj).1 (h j (by omega) hj).2]; exact e3 j (by omega) hji
  · have h1 := ixI_ge (fitG ns im) l
    have h2 : grpIx l ns im = -1 := by have : grpIx l ns im = ixI (fitG ns im) l := rfl; omega
    rw [h2]
    refine (ixI_none fun j hj => ?_).symm
    rw [← fitG_eq (h j (by omega) hj).1 (h j (by omega) hj).2]
    exact ixI_neg (show ixI (fitG ns im) l < 0 by have : grpIx l ns im = ixI (fitG ns im) l := rfl; omega) j (by omega)
theorem ug_set {l : List Grp} {g : Grp} {k : Nat} (h : UG l) (hg : ValidG g) (hk : k < l.length) (hx : grpIx l g.ns g.im = k) : UG (l.set k g) := by
  have hf : fitG g.ns g.im l[k] = true := by
    obtain ⟨j, hj, e1, e2, e3⟩ := ixI_pos (p := fitG g.ns g.im) (l := l) (by rw [show ixI (fitG g.ns g.im) l = (k : Int) from hx]; omega)
    have : j = k := by have : ixI (fitG g.ns g.im) l = (k : Int) := hx; omega
    subst this; exact e2
  have hnm : l[k].ns = g.ns ∧ l[k].im = g.im := by simpa [fitG] using hf
  have hn : ∀ i (h1 : i < (l.set k g).length) (h2 : i < l.length), (l.set k g)[i].ns = l[i].ns ∧ (l.set k g)[i].im = l[i].im := fun i h1 h2 => by
    rw [List.getElem_set]
    split
    · rename_i e; subst e; exact ⟨hnm.1.symm, hnm.2.symm⟩
    · exact ⟨rfl, rfl⟩
  refine ⟨by simpa using h.n, fun i hi => ?_⟩
  have hi' : i < l.length := by simpa using hi
  obtain ⟨n1, n2⟩ := hn i hi hi'
  refine ⟨?_, ?_⟩
  · rw [List.getElem_set]
    split
    · exact hg
    · exact (h.g i hi').1
  · rw [n1, n2, grpIx_names (by simp) hn]; exact (h.g i hi').2
structure CG (c : Clu) : Prop where
  u : UG c.g.l
  i : c.i = nilI
  n0 : 1 ≤ c.next
  n1 : c.next ≤ 4
theorem CG.valid {c : Clu} (h : CG c) : ValidC c := ⟨h.u.n, by rw [h.i]; simp [nilI], h.n0, by have := h.n1; omega, h.u.g, fun i hi => by rw [h.i] at hi; simp [nilI] at hi⟩
theorem deployR_g {c : Clu} {g : Grp} (h : CG c) (hg : ValidG g) (he : (deployR c g).2 = 0) : CG (deployR c g).1 ∧ (deployR c g).1.g.l ≠ [] := by
  refine ⟨⟨?_, deployR_i he h.i, by rw [deployR_next he]; exact h.n0, by rw [deployR_next he]; exact h.n1⟩, ?_⟩ <;>
  · have hnn : ¬ (¬ ValidC c ∨ ¬ ValidG g) := fun q => q.elim (fun q => q h.valid) (fun q => q hg)
    have hn := h.u.n
    unfold deployR at he ⊢
    rw [if_neg hnn] at he ⊢
    split at he
    · rename_i hx
      rw [if_pos hx]
      split at he
      · simp at he
      · rename_i hl
        rw [if_neg hl]
        simp only
        rw [own_l (by simp; omega)]
        first
          | exact ug_app h.u hg hx (by omega)
          | simp
    · rename_i hx
      rw [if_neg hx]
      obtain ⟨k, hk, e1, e2, e3⟩ := ixI_pos (show 0 ≤ grpIx c.g.l g.ns g.im by omega)
      have e1 : grpIx c.g.l g.ns g.im = k := e1
      simp only
      rw [e1, Int.toNat_natCast, own_l (by simp; omega)]
      first
        | exact ug_set h.u hg hk e1
        | (intro e; have := congrArg List.length e; simp at this; rw [this] at hk; simp at hk)
theorem deployR_first {c : Clu} {g : Grp} (h : CG c) (hg : ValidG g) (h0 : c.g.l = []) : (deployR c g).2 = 0 := by
  have hnn : ¬ (¬ ValidC c ∨ ¬ ValidG g) := fun q => q.elim (fun q => q h.valid) (fun q => q hg)
  have hx : grpIx c.g.l g.ns g.im < 0 := by rw [h0]; simp [grpIx, ixI]
  unfold deployR
  rw [if_neg hnn, if_pos hx, if_neg (by rw [h0]; simp)]
theorem dOne_ok {c : Clu} {t : Tp} (h : CG c) : CG (dOne c t) ∧ (dOne c t).g.l ≠ [] := by
  have hg := groupV_ok t arts3_ne (x := arts3) (by simp [arts3])
  unfold dOne
  split
  · rename_i he; exact deployR_g h hg he
  · rename_i he
    refine ⟨h, fun h0 => he (deployR_first h hg h0)⟩
theorem dLoop_ok : ∀ (k : Nat) (c : Clu) (t : Tp), CG c → CG (dLoop k c t).1 ∧ ((1 ≤ k ∨ c.g.l ≠ []) → (dLoop k c t).1.g.l ≠ [])
  | 0, c, t, h => ⟨h, fun q => q.elim (fun q => by omega) id⟩
  | k + 1, c, t, h => by
    obtain ⟨g1, g2⟩ := dOne_ok (t := t) h
    obtain ⟨k1, k2⟩ := dLoop_ok k (dOne c t) (groupV t arts3).2 g1
    exact ⟨k1, fun _ => k2 (.inr g2)⟩
theorem cl0_ok (t : Tp) : CG (cl0 t) := by
  have n1 := tpN_lo t 4
  have n2 := tpN_hi t (n := 4) (by omega)
  exact ⟨⟨by simp [cl0, nilG], fun i hi => by simp [cl0, nilG] at hi⟩, rfl, by simp only [cl0]; omega, by simp only [cl0]; omega⟩
theorem clD_ok (t : Tp) : CG (clD t).1 ∧ (clD t).1.g.l ≠ [] := by
  obtain ⟨h1, h2⟩ := dLoop_ok ((tpN (t.adv 1) 2).toNat + 1) (cl0 t) (t.adv 2) (cl0_ok t)
  exact ⟨h1, h2 (.inl (by omega))⟩
structure IG (ng : Nat) (l : List Ins) (n : Int) : Prop where
  s : ∀ x ∈ l, SoundI ng n x
  o : l.Pairwise fun a b => a.id < b.id
theorem SoundI.up {ng : Nat} {n m : Int} {x : Ins} (h : SoundI ng n x) (hm : n ≤ m) : SoundI ng m x := ⟨h.id0, by have := h.id1; omega, h.g0, h.g1, h.art, h.s0, h.s1, h.si, h.de⟩
theorem iIns_ok {ng : Nat} {n m : Int} {t : Tp} (hn : 1 ≤ n) (hm : n < m) (hg : 1 ≤ ng) : SoundI ng m (iIns ng n t) := by
  have n1 := tpN_lo t ng
  have n2 := tpN_hi t (n := ng) (by omega)
  have n3 := tpN_lo (tpS t ng) 3
  have n4 := tpN_hi (tpS t ng) (n := 3) (by omega)
  have n5 := tpN_lo ((tpS t ng).adv 1) 3
  have n6 := tpN_hi ((tpS t ng).adv 1) (n := 3) (by omega)
  have n7 := tpN_lo ((tpS t ng).adv 2) 30
  have n8 := tpN_hi ((tpS t ng).adv 2) (n := 30) (by omega)
  have n9 := tpN_lo ((tpS t ng).adv 4) 30
  have n10 := tpN_hi ((tpS t ng).adv 4) (n := 30) (by omega)
  have hl : (tpN (tpS t ng) 3).toNat < arts3.l.length := by simp [arts3]; omega
  refine ⟨hn, hm, n1, by simp only [iIns]; omega, ?_, by simp only [iIns]; omega, by simp only [iIns]; omega, ⟨n7, by simp only [iIns]; omega⟩, ?_⟩
  · simp only [iIns, List.getD_eq_getElem?_getD, List.getElem?_eq_getElem hl, Option.getD_some]
    exact arts3_ne _ (List.getElem_mem hl)
  · simp only [iIns]
    split
    · exact .inr ⟨n9, by omega⟩
    · exact .inl rfl
theorem iLoop_ok {ng : Nat} (hg : 1 ≤ ng) : ∀ (k : Nat) (l : List Ins) (n : Int) (t : Tp), 1 ≤ n → IG ng l n → IG ng (iLoop ng k l n t).1 (iLoop ng k l n t).2.1 ∧ 1 ≤ (iLoop ng k l n t).2.1 ∧ (iLoop ng k l n t).2.1 ≤ n + 2 * k ∧ (iLoop ng k l n t).1.length = l.length + k
  | 0, l, n, t, hn, h => ⟨h, hn, by simp [iLoop], rfl⟩
  | k + 1, l, n, t, hn, h => by
    have j1 := tpN_lo (iTp ng t) 2
    have j2 := tpN_hi (iTp ng t) (n := 2) (by omega)
    have hs : IG ng (l ++ [iIns ng n t]) (n + (1 + tpN (iTp ng t) 2)) := by
      refine ⟨fun x hx => ?_, List.pairwise_append.2 ⟨h.o, by simp, fun a ha b hb => ?_⟩⟩
      · rcases List.mem_append.1 hx with q | q
        · exact (h.s x q).up (by omega)
        · simp at q; subst q; exact iIns_ok hn (by omega) hg
      · simp at hb; subst hb; exact (h.s a ha).id1
    obtain ⟨k1, k2, k3, k4⟩ := iLoop_ok hg k (l ++ [iIns ng n t]) (n + (1 + tpN (iTp ng t) 2)) ((iTp ng t).adv 1) (by omega) hs
    refine ⟨k1, k2, ?_, ?_⟩
    · show (iLoop ng k (l ++ [iIns ng n t]) (n + (1 + tpN (iTp ng t) 2)) ((iTp ng t).adv 1)).2.1 ≤ _
      omega
    · show (iLoop ng k (l ++ [iIns ng n t]) (n + (1 + tpN (iTp ng t) 2)) ((iTp ng t).adv 1)).1.length = _
      rw [k4]; simp; omega
theorem sorted_of {l : List Ins} (h : l.Pairwise fun a b => a.id < b.id) (i : Nat) (hi : i < l.length) (h0 : 0 < i) : l[i - 1].id < l[i].id :=
  List.pairwise_iff_getElem.1 h (i - 1) i (by omega) hi (by omega)
theorem clusterV_ok (t : Tp) (m : Int) (h0 : 0 ≤ m) (h1 : m ≤ 200) : ValidC (clusterV t m).1 ∧ (clusterV t m).1.g.l ≠ [] := by
  obtain ⟨hc, hg⟩ := clD_ok t
  have m1 := tpN_lo (clD t).2 (m + 1)
  have m2 := tpN_hi (clD t).2 (n := m + 1) (by omega)
  have hgl : 1 ≤ (clD t).1.g.l.length := List.length_pos_iff.2 hg
  obtain ⟨k1, k2, k3, k4⟩ := iLoop_ok hgl (tpN (clD t).2 (m + 1)).toNat [] (clD t).1.next ((clD t).2.adv 1) hc.n0 ⟨by simp, by simp⟩
  have hn1 := hc.n1
  have hI : clI t m = iLoop (clD t).1.g.l.length (tpN (clD t).2 (m + 1)).toNat [] (clD t).1.next ((clD t).2.adv 1) := rfl
  rw [← hI] at k1 k2 k3 k4
  have hil : (clusterV t m).1.i.l = (clI t m).1 := by
    simp only [clusterV]
    split
    · rename_i e; rw [e]; rfl
    · exact own_l (by rw [k4]; simp; omega)
  have hgl' : (clusterV t m).1.g = (clD t).1.g := rfl
  have hnx : (clusterV t m).1.next = (clI t m).2.1 := rfl
  simp only [List.length_nil, Nat.zero_add] at k4
  refine ⟨⟨by rw [hgl']; exact hc.u.n, by rw [hil, k4]; omega, by rw [hnx]; exact k2, by rw [hnx]; omega, fun i hi => hc.u.g i hi, fun i hi => ?_⟩, hg⟩
  have hi' : i < (clI t m).1.length := by rw [← hil]; exact hi
  have e : ∀ j (hj : j < (clusterV t m).1.i.l.length), (clusterV t m).1.i.l[j] = (clI t m).1[j]'(by rw [← hil]; exact hj) := fun j hj => by simp only [hil]
  refine ⟨?_, fun h0 => ?_⟩
  · rw [e i hi]
    exact k1.s _ (List.getElem_mem hi')
  · rw [e i hi, e (i - 1) (by omega)]
    exact sorted_of k1.o i hi' h0
end Go.Proofs.YtjhakjeioppijaaDoor
set_option linter.unusedSimpArgs false
set_option linter.unusedVariables false
namespace Go.Proofs.YtjhakjeioppijaaDoor
open Go Go.Am
section
variable {α β : Type} {lt : α → α → Bool}
end
def selL (l : List Ins) (k : Int) (p : Ins → Bool) : List Ins := l.filter fun x => decide (x.grp = k) && p x
def sGoodR (g : Grp) (x : Ins) : Bool := (decide (x.state = 1) || decide (x.state = 2)) && (decide (x.den = -1) && decide (x.art ∈ g.ch.l))
def refSpare (g : Grp) (l : List Ins) (k : Int) : List Ins := selL l k (fun x => decide (x.state = 2) && sGoodR g x)
structure GoodI (l : List Ins) : Prop where
  s : ∀ x ∈ l, 1 ≤ x.state ∧ x.state ≤ 3 ∧ -1 ≤ x.den
  d : l.Pairwise (fun x y => x.id < y.id)
end Go.Proofs.YtjhakjeioppijaaDoor
set_option linter.unusedSimpArgs false
set_option linter.unusedVariables false
namespace Go.Proofs.YtjhakjeioppijaaDoor
open Go Go.Am
structure VicFacts (g : Grp) (l : List Ins) (k : Int) (v : List Int) : Prop where
  one : ∀ x ∈ l, x.grp = k → x.state = 2 → sGoodR g x = false → v.count x.id = 1
  le : ∀ x ∈ l, x.grp = k → x.state = 2 → sGoodR g x = true → v.count x.id ≤ 1
  sum : ((refSpare g l k).map fun x => v.count x.id).sum = min ((selL l k (sGoodR g)).length - g.want).toNat (refSpare g l k).length
  len : v.length = (selL l k fun x => decide (x.state = 2) && !sGoodR g x).length + ((refSpare g l k).map fun x => v.count x.id).sum
end Go.Proofs.YtjhakjeioppijaaDoor
set_option linter.unusedSimpArgs false
set_option linter.unusedVariables false
namespace Go.Proofs.YtjhakjeioppijaaDoor
open Go Go.Am
def runB (k : Int) (x : Ins) : Bool := decide (x.grp = k) && decide (x.state = 2)
def stopI (x : Ins) : Ins := (x.st 3).si 50
def stopL (k : Int) : List Ins → Nat → List Ins
  | [], _ => []
  | x :: r, 0 => x :: r
  | x :: r, n + 1 => if runB k x = true then stopI x :: stopL k r n else x :: stopL k r (n + 1)
def lim3 (g : Grp) : Int × Int × Int := (g.want, g.least, g.down)
structure Stp (c d : Clu) (k : Int) (n : Nat) : Prop where
  v : ValidC d
  i : d.i.l = stopL k c.i.l n
  n : d.next = c.next
  g : d.g.l.map lim3 = c.g.l.map lim3
end Go.Proofs.YtjhakjeioppijaaDoor
set_option linter.unusedSimpArgs false
set_option linter.unusedVariables false
namespace Go.Proofs.YtjhakjeioppijaaDoor
open Go Go.Am
theorem ok_nl {ds : List DV} (h : Ty.Ok (.sl (.int .i64)) ds) : ∃ x : Nl, (∀ n ∈ x.l, -9223372036854775808 ≤ n ∧ n ≤ 9223372036854775807) ∧ ds = [x.dv] := by
  obtain ⟨k, l, h1, h2, rfl, hb⟩ := ok_slb (f := inI) (R := fun n => -9223372036854775808 ≤ n ∧ n ≤ 9223372036854775807) (fun ds h => by obtain ⟨n, hn, rfl⟩ := ok_i64 h; exact ⟨n, hn, rfl⟩) h
  exact ⟨⟨k, l, h1, hb⟩, h2, rfl⟩
end Go.Proofs.YtjhakjeioppijaaDoor
set_option linter.unusedSimpArgs false
set_option linter.unusedVariables false
namespace Go.Proofs.YtjhakjeioppijaaDoor
open Go Go.Am
end Go.Proofs.YtjhakjeioppijaaDoor
set_option linter.unusedSimpArgs false
set_option linter.unusedVariables false
namespace Go.Proofs.YtjhakjeioppijaaDoor
open Go Go.Am
inductive W5 where
  | live | good | den | rep | spare
def W5.fid : W5 → Nat
  | .live => 84
  | .good => 86
  | .den => 88
  | .rep => 95
  | .spare => 96
theorem W5.inj {a b : W5} (h : a.fid = b.fid) : a = b := by cases a <;> cases b <;> first | rfl | (simp [W5.fid] at h)
end Go.Proofs.YtjhakjeioppijaaDoor
set_option linter.unusedSimpArgs false
set_option linter.unusedVariables false
namespace Go.Proofs.YtjhakjeioppijaaDoor
open Go Go.Am
structure DSi where
  i : Nat
  l : List Ins
end Go.Proofs.YtjhakjeioppijaaDoor
set_option linter.unusedSimpArgs false
set_option linter.unusedVariables false
namespace Go.Proofs.YtjhakjeioppijaaDoor
open Go Go.Am
def liV (l : List Int) : DV := if l = [] then .nils else .sl false 1 l.length (l.flatMap inI)
theorem liV_pure (l : List Int) : pureD (liV l) = true := by
  unfold liV; split
  · rfl
  · show pureL _ = true; exact fm_pure pure_inI l
theorem liV_len (H : List AObj) (l : List Int) : lenD H (liV l) = some (.int .i64 l.length) := by
  unfold liV; split
  · rename_i h; subst h; rfl
  · rfl
theorem liV_one (l : List Int) : (liV l).one = true := by unfold liV; split <;> rfl
theorem liV_known (l : List Int) : (liV l).known = true := by unfold liV; split <;> rfl
theorem liV_cells (l : List Int) : (liV l).cells = [liV l] := by unfold liV; split <;> rfl
theorem liV_fz (n k : Nat) (H : List AObj) (l : List Int) : fz n H k (liV l) = some (liV l) := fz_clean (liV_pure l)
theorem liV_snap (k : Nat) (H : List AObj) (l : List Int) : snap H k (liV l) = some (liV l) := snap_clean (liV_pure l)
theorem liV_below (n : Nat) (l : List Int) : Am.below n (liV l) = true := below_pure n _ (liV_pure l)
attribute [simp] liV_pure liV_len liV_one liV_known liV_cells liV_fz liV_snap liV_below
def LimOK (g : Grp) : Prop := (-1000000000 ≤ g.want ∧ g.want ≤ 1000000000) ∧ (-1000000000 ≤ g.least ∧ g.least ≤ 1000000000) ∧ -1000000000 ≤ g.down ∧ g.down ≤ 1000000000
end Go.Proofs.YtjhakjeioppijaaDoor
set_option linter.unusedSimpArgs false
set_option linter.unusedVariables false
namespace Go.Proofs.YtjhakjeioppijaaDoor
open Go Go.Am
end Go.Proofs.YtjhakjeioppijaaDoor
set_option linter.unusedSimpArgs false
set_option linter.unusedVariables false
namespace Go.Proofs.YtjhakjeioppijaaDoor
open Go Go.Am
theorem set_pre0 {pre l : List AObj} {o : AObj} : (pre ++ l).set pre.length o = pre ++ l.set 0 o := by rw [List.set_append_right _ _ (by omega)]; simp
structure IP where
  A : List Int
  B : List Int
end Go.Proofs.YtjhakjeioppijaaDoor
set_option linter.unusedSimpArgs false
set_option linter.unusedVariables false
namespace Go.Proofs.YtjhakjeioppijaaDoor
open Go Go.RowKit Go.Am
end Go.Proofs.YtjhakjeioppijaaDoor
set_option linter.unusedSimpArgs false
set_option linter.unusedVariables false
namespace Go.Proofs.YtjhakjeioppijaaDoor
open Go Go.Am
structure SrtOK (a : Clu × List AObj × List Int) : Prop where
  h : ∀ X, objV (a.2.1 ++ X) 0 3 = some (clC a.1)
  l : ∀ x ∈ a.2.2, 0 ≤ findIx a.1.i.l x
  b : a.2.2.length ≤ 19
theorem SrtOK.c {a b : Clu × List AObj × List Int} (h1 : SrtOK a) (h2 : SrtOK b) (e : a.2.1 = b.2.1) : a.1 = b.1 := by
  have q1 := h1.h []
  have q2 := h2.h []
  rw [e, q2] at q1
  exact clC_inj (Option.some.inj q1).symm
end Go.Proofs.YtjhakjeioppijaaDoor
set_option linter.unusedSimpArgs false
set_option linter.unusedVariables false
namespace Go.Proofs.YtjhakjeioppijaaDoor
open Go Go.Am
structure RS where
  i : Nat
  j : Nat
  L : List Int
structure RInv (l : List Int) (n : Nat) (a : RS) : Prop where
  s : a.i + a.j + 1 = n
  ln : a.L.length = n
  g : ∀ k, k < n → a.L[k]? = if k < a.i ∨ a.j < k then l[n - 1 - k]? else l[k]?
end Go.Proofs.YtjhakjeioppijaaDoor
set_option linter.unusedSimpArgs false
set_option linter.unusedVariables false
namespace Go.Proofs.YtjhakjeioppijaaDoor
open Go Go.Am
structure VisL (h : List AObj) (x : DV) (l : List Int) : Prop where
  len : ∀ X, lenD (h ++ X) x = some (.int .i64 l.length)
  vis : ∀ X, visY (h ++ X) x = some (l.length, l.map (.int .i64))
  one : x.one = true
structure CA where
  h : List AObj
  x : DV
  y : DV
  z : DV
  lx : List Int
  ly : List Int
  lz : List Int
structure CAOK (a : CA) : Prop where
  x : VisL a.h a.x a.lx
  y : VisL a.h a.y a.ly
  z : VisL a.h a.z a.lz
  b : a.lx.length + a.ly.length + a.lz.length ≤ 1000000
end Go.Proofs.YtjhakjeioppijaaDoor
set_option linter.unusedSimpArgs false
set_option linter.unusedVariables false
namespace Go.Proofs.YtjhakjeioppijaaDoor
open Go Go.Am
structure VicOK (c : Clu) : Prop where
  n : c.i.l.length ≤ 19
  l : ∀ g ∈ c.g.l, LimOK g
end Go.Proofs.YtjhakjeioppijaaDoor
set_option linter.unusedSimpArgs false
set_option linter.unusedVariables false
namespace Go.Proofs.YtjhakjeioppijaaDoor
open Go Go.Am
theorem nl_len (H : List AObj) (x : Nl) : lenD H x.dv = some (.int .i64 x.l.length) := sl_len ⟨x.k, x.l, x.h, 0⟩ H
theorem nl_idx (H : List AObj) (x : Nl) {i : Nat} (hi : i < x.l.length) : idxSD H 1 x.dv i = some (.ref [.int .i64 x.l[i]]) := sl_idx ⟨x.k, x.l, x.h, 0⟩ H hi
theorem nl_one (x : Nl) : x.dv.one = true := sl_one ⟨x.k, x.l, x.h, 0⟩
theorem nl_known (x : Nl) : x.dv.known = true := sl_known ⟨x.k, x.l, x.h, 0⟩
theorem nl_cells (x : Nl) : x.dv.cells = [x.dv] := sl_cells ⟨x.k, x.l, x.h, 0⟩
theorem below_nl {n : Nat} {x : Nl} : Am.below n x.dv = true := below_pure n _ (nl_pure x)
attribute [simp] below_nl nl_len nl_one nl_known nl_cells nl_pure
def okT (t : Int) : Prop := -2199023255552 ≤ t ∧ t ≤ 2199023255552
def ok64 (n : Int) : Prop := -9223372036854775808 ≤ n ∧ n ≤ 9223372036854775807
structure OvOK (a : Clu × Nl × Int) : Prop where
  d : ∀ x ∈ a.1.i.l, okT x.den
  g : ∀ n ∈ a.2.1.l, ok64 n
  t : okT a.2.2
structure OS where
  i : Nat
  L : List Int
  x : Ins
end Go.Proofs.YtjhakjeioppijaaDoor
set_option linter.unusedSimpArgs false
set_option linter.unusedVariables false
namespace Go.Proofs.YtjhakjeioppijaaDoor
open Go Go.Am
end Go.Proofs.YtjhakjeioppijaaDoor
set_option linter.unusedSimpArgs false
set_option linter.unusedVariables false
namespace Go.Proofs.YtjhakjeioppijaaDoor
open Go Go.Am
end Go.Proofs.YtjhakjeioppijaaDoor
set_option linter.unusedSimpArgs false
set_option linter.unusedVariables false
namespace Go.Proofs.YtjhakjeioppijaaDoor
open Go Go.Am
theorem iLoop_at (ng : Nat) : ∀ (k : Nat) (l : List Ins) (n : Int) (t : Tp), (iLoop ng k l n t).2.2.at_ ≤ t.at_ + 7 * k
  | 0, l, n, t => by simp [iLoop]
  | k + 1, l, n, t => by
    have h1 := iLoop_at ng k (l ++ [iIns ng n t]) (n + (1 + tpN (iTp ng t) 2)) ((iTp ng t).adv 1)
    have h2 := iTp_at ng t
    show (iLoop ng k (l ++ [iIns ng n t]) (n + (1 + tpN (iTp ng t) 2)) ((iTp ng t).adv 1)).2.2.at_ ≤ _
    have h3 : ((iTp ng t).adv 1).at_ = (iTp ng t).at_ + 1 := rfl
    omega
theorem clusterV_at (t : Tp) (m : Int) (h0 : 0 ≤ m) (h1 : m ≤ 200) : (clusterV t m).2.at_ ≤ t.at_ + 2000 := by
  have m1 := tpN_lo (clD t).2 (m + 1)
  have m2 := tpN_hi (clD t).2 (n := m + 1) (by omega)
  have h2 := iLoop_at (clD t).1.g.l.length (tpN (clD t).2 (m + 1)).toNat [] (clD t).1.next ((clD t).2.adv 1)
  have h3 : ((clD t).2.adv 1).at_ = (clD t).2.at_ + 1 := rfl
  have q1 := tpN_lo (t.adv 1) 2
  have q2 := tpN_hi (t.adv 1) (n := 2) (by omega)
  have h4 : (clD t).2.at_ ≤ t.at_ + 2 + 15 * ((tpN (t.adv 1) 2).toNat + 1) := dLoop_at _ _ _
  show (iLoop (clD t).1.g.l.length (tpN (clD t).2 (m + 1)).toNat [] (clD t).1.next ((clD t).2.adv 1)).2.2.at_ ≤ _
  omega
end Go.Proofs.YtjhakjeioppijaaDoor
set_option linter.unusedSimpArgs false
set_option linter.unusedVariables false
namespace Go.Proofs.YtjhakjeioppijaaDoor
open Go Go.Am
end Go.Proofs.YtjhakjeioppijaaDoor
set_option linter.unusedSimpArgs false
set_option linter.unusedVariables false
namespace Go.Proofs.YtjhakjeioppijaaDoor
open Go Go.Am
end Go.Proofs.YtjhakjeioppijaaDoor
set_option linter.unusedSimpArgs false
set_option linter.unusedVariables false
namespace Go.Proofs.YtjhakjeioppijaaDoor
open Go Go.Am
end Go.Proofs.YtjhakjeioppijaaDoor
set_option linter.unusedSimpArgs false
set_option linter.unusedVariables false
namespace Go.Proofs.YtjhakjeioppijaaDoor
open Go Go.Am
end Go.Proofs.YtjhakjeioppijaaDoor
set_option linter.unusedSimpArgs false
set_option linter.unusedVariables false
namespace Go.Proofs.YtjhakjeioppijaaDoor
open Go Go.Am
end Go.Proofs.YtjhakjeioppijaaDoor
set_option linter.unusedSimpArgs false
set_option linter.unusedVariables false
namespace Go.Proofs.YtjhakjeioppijaaDoor
open Go Go.Am
end Go.Proofs.YtjhakjeioppijaaDoor
set_option linter.unusedSimpArgs false
set_option linter.unusedVariables false
namespace Go.Proofs.YtjhakjeioppijaaDoor
open Go Go.Am
structure OvR (a : Clu × Nl × Int) : Prop where
  o : OvOK a
  s : ∀ x ∈ a.1.i.l, 1 ≤ x.state ∧ x.state ≤ 3
end Go.Proofs.YtjhakjeioppijaaDoor
set_option linter.unusedSimpArgs false
set_option linter.unusedVariables false
namespace Go.Proofs.YtjhakjeioppijaaDoor
open Go Go.Am
end Go.Proofs.YtjhakjeioppijaaDoor
set_option linter.unusedSimpArgs false
set_option linter.unusedVariables false
namespace Go.Proofs.YtjhakjeioppijaaDoor
open Go Go.Am
def deV (D : List Ins) : DV := if D = [] then .nils else .sl false 37 D.length (D.flatMap inC)
def inV (p : Nat) (D : List Ins) : DV := if D = [] then .nils else .ms p (D.length * 37) 0 37 D.length (D.length * 37)
def inH (pre : List AObj) (D : List Ins) : List AObj := if D = [] then pre else pre ++ [.cells (D.flatMap inC)]
theorem inV_ne {p : Nat} {D : List Ins} (h : D ≠ []) : inV p D = .ms p (D.length * 37) 0 37 D.length (D.length * 37) := if_neg h
theorem inH_ne {pre : List AObj} {D : List Ins} (h : D ≠ []) : inH pre D = pre ++ [.cells (D.flatMap inC)] := if_neg h
theorem all_in (D : List Ins) : (D.flatMap inC).all DV.one = true := by
  have h1 : ∀ x : Ins, (inC x).all DV.one = true := fun x => by
    have hd : (dgC x.art).all DV.one = true := by simp [dgC, DV.one, w8]
    simp only [inC, List.all_cons, List.all_append, hd, List.all_nil, Bool.and_true, DV.one]
  rw [List.all_flatMap, List.all_eq_true]
  exact fun x _ => h1 x
theorem appX_in {pre : List AObj} {L M : List Ins} (hb : L.length + M.length ≤ 1000000) : appX (inH pre L) 37 72 (inV pre.length L) M.length (M.flatMap inC) = some (inV pre.length (L ++ M), inH pre (L ++ M)) := by
  by_cases hL : L = []
  · subst hL
    rw [List.nil_append]
    by_cases hM : M = []
    · subst hM; exact appX_nils0 (by decide) (by decide)
    · show appX pre 37 72 .nils _ _ = _
      rw [appX_nils (by decide) (by decide) (by rw [fm_len len_inC]) (by cases M with | nil => exact absurd rfl hM | cons a l => simp) (by simp at hb; omega), inV_ne hM, inH_ne hM, fm_len len_inC]
  · have hne : L ++ M ≠ [] := by simp [hL]
    rw [inV_ne hL, inH_ne hL, inV_ne hne, inH_ne hne, appX_own rfl (by decide) (by decide) (by rw [fm_len len_inC]) (by omega) (all_in M), objV_last, if_pos (fm_len len_inC L), Option.map_some, set_pre0, List.flatMap_append, List.length_append, fm_len len_inC, Nat.add_mul]
    rfl
structure VS where
  i : Nat
  D : List Ins
  O : List Int
  z : Ins
end Go.Proofs.YtjhakjeioppijaaDoor
set_option linter.unusedSimpArgs false
set_option linter.unusedVariables false
namespace Go.Proofs.YtjhakjeioppijaaDoor
open Go Go.Am
def PureH (H : List AObj) : Prop := ∀ o ∈ H, ∃ cs, o = .cells cs ∧ pureL cs = true
theorem PureH.app {A B : List AObj} (h1 : PureH A) (h2 : PureH B) : PureH (A ++ B) := fun o ho => (List.mem_append.1 ho).elim (h1 o) (h2 o)
theorem PureH.one {cs : List DV} (h : pureL cs = true) : PureH [.cells cs] := fun o ho => ⟨cs, by simpa using ho, h⟩
theorem belowH_pure {n : Nat} : ∀ {H : List AObj}, PureH H → belowH n H = true
  | [], _ => rfl
  | o :: H, h => by
    obtain ⟨cs, rfl, hp⟩ := h o (by simp)
    have ih := belowH_pure (n := n) (H := H) fun o ho => h o (by simp [ho])
    simp only [belowH, belowL_pure n _ hp, ih, Bool.and_self]
structure InsF (H : List AObj) (x : Ins) (D : List Ins) (q : Nat) (v1 v2 : DV) : Prop where
  s1 : ∀ K, slcSD K 37 (deV D) none (some (.int .i64 q)) none = some v1
  y1 : ∀ K, visY K v1 = some (q, (D.take q).flatMap inC)
  s2 : ∀ K, slcSD K 37 (deV D) (some (.int .i64 q)) none none = some v2
  y2 : ∀ K, visY K v2 = some (D.length - q, (D.drop q).flatMap inC)
  a1 : appX (H ++ [.cells (inC x)]) 37 72 .nils q ((D.take q).flatMap inC) = some (inV (H.length + 1) (D.take q), inH (H ++ [.cells (inC x)]) (D.take q))
  ox : objV (inH (H ++ [.cells (inC x)]) (D.take q)) H.length 37 = some (inC x)
  a2 : appX (inH (H ++ [.cells (inC x)]) (D.take q)) 37 72 (inV (H.length + 1) (D.take q)) 1 (inC x) = some (inV (H.length + 1) (D.take q ++ [x]), inH (H ++ [.cells (inC x)]) (D.take q ++ [x]))
  a3 : appX (inH (H ++ [.cells (inC x)]) (D.take q ++ [x])) 37 72 (inV (H.length + 1) (D.take q ++ [x])) (D.length - q) ((D.drop q).flatMap inC) = some (inV (H.length + 1) (D.take q ++ x :: D.drop q), inH (H ++ [.cells (inC x)]) (D.take q ++ x :: D.drop q))
  p1 : apartD (.mp H.length 37 0) (inV (H.length + 1) (D.take q)) = true
structure VR where
  m : Nat
  pre : List AObj
  L : List Int
  M : Int
structure VRI (c : Clu) (g : Grp) (k : Nat) (base : List Int) (M0 : Int) (a : VR) : Prop where
  m : a.m ≤ c.i.l.length
  f : ∃ X, a.pre = [.cells (clC c)] ++ X
  p : PureH a.pre
  l : a.L = base ++ (refSpare g (c.i.l.drop a.m) k).reverse.map Ins.id
  M : a.M = M0 - (refSpare g (c.i.l.drop a.m) k).length
  n : (refSpare g (c.i.l.drop a.m) k).length ≤ M0.toNat
end Go.Proofs.YtjhakjeioppijaaDoor
set_option linter.unusedSimpArgs false
set_option linter.unusedVariables false
namespace Go.Proofs.YtjhakjeioppijaaDoor
open Go Go.Am
def a72 : AFn where
  code := (.seq (.region false [⟨none, (some 6), .mov (.k .nils)⟩])
  (.seq (.region false [⟨none, (some 8), .mov (.t 0)⟩,
    ⟨none, (some 9), .mov (.t 1)⟩,
    ⟨none, (some 10), .mov (.t 2)⟩,
    ⟨none, (some 11), .mov (.t 0)⟩,
    ⟨none, (some 12), .len (.t 11)⟩,
    ⟨none, (some 13), .slcS 37 (.t 8) (some (.t 9)) (some (.t 10)) (some (.t 12))⟩])
  (.seq (.seq (.region false [⟨none, (some 14), .mov (.t 1)⟩,
    ⟨none, (some 15), .mov (.t 2)⟩,
    ⟨none, (some 16), .bin .eql (.t 14) (.t 15)⟩])
  (.cond (.t 16) (.seq (.region false [⟨none, (some 17), .mov (.t 0)⟩,
    ⟨none, (some 6), .mov (.t 17)⟩])
  .ret)
  .skip))
  (.seq (.region false [⟨none, (some 18), .mov (.t 0)⟩,
    ⟨none, (some 19), .len (.t 18)⟩,
    ⟨none, (some 7), .mov (.t 19)⟩])
  (.seq (.region true [⟨none, (some 20), .mov (.t 0)⟩,
    ⟨none, (some 21), .mov (.t 1)⟩,
    ⟨none, (some 22), .slcS 37 (.t 20) none (some (.t 21)) none⟩,
    ⟨none, (some 23), .mov (.t 0)⟩,
    ⟨none, (some 24), .mov (.t 2)⟩,
    ⟨none, (some 25), .slcS 37 (.t 23) (some (.t 24)) none none⟩,
    ⟨none, (some 26), .app 37 72 (.t 22) (.t 25)⟩,
    ⟨none, (some 0), .mov (.t 26)⟩])
  (.seq (.region false [⟨none, (some 27), .mov (.t 0)⟩,
    ⟨none, (some 28), .mov (.t 0)⟩,
    ⟨none, (some 29), .len (.t 28)⟩,
    ⟨none, (some 30), .mov (.t 7)⟩,
    ⟨none, (some 31), .slcS 37 (.t 27) (some (.t 29)) (some (.t 30)) none⟩,
    ⟨none, none, .clr 37 [(.int .i64 0), (.int .i64 0), (w8 0#8), (w8 0#8), (w8 0#8), (w8 0#8), (w8 0#8), (w8 0#8), (w8 0#8), (w8 0#8), (w8 0#8), (w8 0#8), (w8 0#8), (w8 0#8), (w8 0#8), (w8 0#8), (w8 0#8), (w8 0#8), (w8 0#8), (w8 0#8), (w8 0#8), (w8 0#8), (w8 0#8), (w8 0#8), (w8 0#8), (w8 0#8), (w8 0#8), (w8 0#8), (w8 0#8), (w8 0#8), (w8 0#8), (w8 0#8), (w8 0#8), (w8 0#8), (.int .i64 0), (.int .i64 0), (.int .i64 0)] (.t 31)⟩])
  (.seq (.region false [⟨none, (some 32), .mov (.t 0)⟩,
    ⟨none, (some 6), .mov (.t 32)⟩])
  .ret)))))))
  ntmps := 33
  res := [.tmp 6]
theorem a72_ok : compileFn P Tryd.f72 = some a72 := by kernel_rfl
def a31 : AFn where
  code := (.seq (.region false [⟨none, (some 2), .box (.t 0)⟩,
    ⟨none, (some 4), .alloc [.nils, .nils, (.int .i64 0)]⟩,
    ⟨none, (some 5), .mov (.k (.int .i64 0))⟩])
  (.seq (.seq (.region false [⟨none, (some 7), .load 3 true (.t 2)⟩,
    ⟨none, (some 8), .call (.k (.fn (.func 20) [] [])) [(.t 7)]⟩,
    ⟨none, (some 9), .un .not (.t 8)⟩])
  (.cond (.t 9) (.seq (.region false [⟨none, (some 10), .build [.nils, .nils, (.int .i64 0)] []⟩,
    ⟨none, none, .store 3 (.t 4) (.t 10)⟩,
    ⟨none, (some 5), .mov (.k (.int .i64 1))⟩])
  .ret)
  .skip))
  (.seq (.region false [⟨none, (some 11), .load 3 true (.t 2)⟩,
    ⟨none, (some 12), .mov (.t 1)⟩,
    ⟨none, (some 13), .call (.k (.fn (.func 24) [] [])) [(.t 11), (.t 12)]⟩,
    ⟨none, (some 6), .mov (.t 13)⟩])
  (.seq (.seq (.region false [⟨none, (some 14), .mov (.t 6)⟩,
    ⟨none, (some 15), .bin .lss (.t 14) (.k (.int .i64 0))⟩])
  (.cond (.t 15) (.seq (.region false [⟨none, (some 16), .build [.nils, .nils, (.int .i64 0)] []⟩,
    ⟨none, none, .store 3 (.t 4) (.t 16)⟩,
    ⟨none, (some 5), .mov (.k (.int .i64 4))⟩])
  .ret)
  .skip))
  (.seq (.region false [⟨none, (some 17), .load 3 true (.t 2)⟩,
    ⟨none, (some 18), .call (.k (.fn (.func 71) [] [])) [(.t 17)]⟩,
    ⟨none, none, .store 3 (.t 2) (.t 18)⟩])
  (.seq (.region false [⟨none, (some 19), .fld 1 (.t 2)⟩,
    ⟨none, (some 20), .load 1 false (.t 19)⟩,
    ⟨none, (some 21), .mov (.t 6)⟩,
    ⟨none, (some 22), .mov (.t 6)⟩,
    ⟨none, (some 23), .bin .add (.t 22) (.k (.int .i64 1))⟩,
    ⟨none, (some 24), .call (.k (.fn (.func 72) [] [])) [(.t 20), (.t 21), (.t 23)]⟩,
    ⟨none, (some 25), .fld 1 (.t 2)⟩,
    ⟨none, none, .store 1 (.t 25) (.t 24)⟩])
  (.seq (.region false [⟨none, (some 26), .load 3 true (.t 2)⟩,
    ⟨none, none, .store 3 (.t 4) (.t 26)⟩,
    ⟨none, (some 5), .mov (.k (.int .i64 0))⟩])
  .ret)))))))
  ntmps := 27
  res := [.cell 4 3 true, .tmp 5]
theorem a31_ok : compileFn P Tryd.f31 = some a31 := by kernel_rfl
def a30L0 : ACode :=
  (.seq (.region false [⟨none, (some 26), .bin .lss (.t 25) (.t 24)⟩])
  (.seq (.cond (.t 26) .skip
  (.exit 0))
  (.seq (.block 1 (.seq (.region false [⟨none, (some 27), .mov (.t 25)⟩,
    ⟨none, (some 7), .mov (.t 27)⟩])
  (.seq (.region false [⟨none, (some 28), .fld 1 (.t 3)⟩,
    ⟨none, (some 29), .load 1 false (.t 28)⟩,
    ⟨none, (some 30), .mov (.t 7)⟩,
    ⟨none, (some 31), .idxS 37 (.t 29) (.t 30)⟩,
    ⟨none, (some 8), .mov (.t 31)⟩])
  (.seq (.region false [⟨none, (some 32), .mov (.t 7)⟩,
    ⟨none, (some 33), .mov (.t 1)⟩,
    ⟨none, (some 34), .len (.t 33)⟩,
    ⟨none, (some 35), .bin .lss (.t 32) (.t 34)⟩,
    ⟨none, (some 36), .mov (.t 35)⟩,
    ⟨(some (36, true)), (some 37), .mov (.t 1)⟩,
    ⟨(some (36, true)), (some 38), .mov (.t 7)⟩,
    ⟨(some (36, true)), (some 39), .idxS 1 (.t 37) (.t 38)⟩,
    ⟨(some (36, true)), (some 40), .load 1 false (.t 39)⟩,
    ⟨none, (some 41), .pick (.t 36) (.t 40) (.k (.bool false))⟩,
    ⟨none, (some 9), .mov (.t 41)⟩])
  (.block 2 (.seq (.region false [⟨none, (some 43), .mov (.t 9)⟩,
    ⟨none, (some 44), .un .not (.t 43)⟩,
    ⟨none, (some 42), .mov (.t 44)⟩])
  (.cond (.t 42) (.region false [⟨none, (some 45), .mov (.t 8)⟩,
    ⟨none, (some 46), .nilc (.t 45)⟩,
    ⟨none, (some 47), .fld 36 (.t 46)⟩,
    ⟨none, none, .store 1 (.t 47) (.k (.int .i64 (-1)))⟩])
  (.seq (.region false [⟨none, (some 49), .mov (.t 8)⟩,
    ⟨none, (some 50), .nilc (.t 49)⟩,
    ⟨none, (some 51), .fld 36 (.t 50)⟩,
    ⟨none, (some 52), .load 1 false (.t 51)⟩,
    ⟨none, (some 53), .bin .eql (.t 52) (.k (.int .i64 (-1)))⟩,
    ⟨none, (some 48), .mov (.t 53)⟩])
  (.cond (.t 48) (.region false [⟨none, (some 54), .mov (.t 8)⟩,
    ⟨none, (some 55), .mov (.t 2)⟩,
    ⟨none, (some 56), .nilc (.t 54)⟩,
    ⟨none, (some 57), .fld 36 (.t 56)⟩,
    ⟨none, none, .store 1 (.t 57) (.t 55)⟩])
  .skip)))))))))
  (.region false [⟨none, (some 58), .bin .add (.t 25) (.k (.int .i64 1))⟩,
    ⟨none, (some 25), .mov (.t 58)⟩]))))
def a30S0 (x1 x2 x3 x6 x24 x25 : DV) (h : List AObj) : St := ⟨[.junk, x1, x2, x3, .junk, .junk, x6] ++ js 17 ++ [x24, x25] ++ js 34, h⟩
def a30 : AFn where
  code := (.seq (.region false [⟨none, (some 3), .box (.t 0)⟩,
    ⟨none, (some 6), .alloc [.nils, .nils, (.int .i64 0)]⟩])
  (.seq (.seq (.region false [⟨none, (some 10), .load 3 true (.t 3)⟩,
    ⟨none, (some 11), .call (.k (.fn (.func 20) [] [])) [(.t 10)]⟩,
    ⟨none, (some 12), .un .not (.t 11)⟩,
    ⟨none, (some 13), .mov (.t 12)⟩,
    ⟨(some (13, false)), (some 14), .mov (.t 2)⟩,
    ⟨(some (13, false)), (some 15), .call (.k (.fn (.func 70) [] [])) [(.t 14)]⟩,
    ⟨(some (13, false)), (some 16), .un .not (.t 15)⟩,
    ⟨none, (some 17), .pick (.t 13) (.k (.bool true)) (.t 16)⟩])
  (.cond (.t 17) (.seq (.region false [⟨none, (some 18), .load 3 true (.t 3)⟩,
    ⟨none, (some 19), .call (.k (.fn (.func 71) [] [])) [(.t 18)]⟩,
    ⟨none, none, .store 3 (.t 6) (.t 19)⟩])
  .ret)
  .skip))
  (.seq (.region false [⟨none, (some 20), .load 3 true (.t 3)⟩,
    ⟨none, (some 21), .call (.k (.fn (.func 71) [] [])) [(.t 20)]⟩,
    ⟨none, none, .store 3 (.t 3) (.t 21)⟩])
  (.seq (.seq (.region false [⟨none, (some 22), .fld 1 (.t 3)⟩,
    ⟨none, (some 23), .load 1 false (.t 22)⟩,
    ⟨none, (some 24), .len (.t 23)⟩,
    ⟨none, (some 25), .mov (.k (.int .i64 0))⟩])
  (.block 0 (.loop a30L0)))
  (.seq (.region false [⟨none, (some 59), .load 3 true (.t 3)⟩,
    ⟨none, none, .store 3 (.t 6) (.t 59)⟩])
  .ret)))))
  ntmps := 60
  res := [.cell 6 3 true]
theorem a30_ok : compileFn P Tryd.f30 = some a30 := by kernel_rfl
end Go.Proofs.YtjhakjeioppijaaDoor
set_option linter.unusedSimpArgs false
set_option linter.unusedVariables false
namespace Go.Proofs.YtjhakjeioppijaaDoor
open Go Go.Am
theorem runs_may1 (s : Int) : Runs tbl0 a79 [.int .i64 s] (.bool (decide (s = 1))) := by
  refine ⟨?_⟩
  simp (disch := first | omega | (simp [-List.map_take, -List.map_drop, -List.map_set, -List.map_append, -List.drop_one] <;> omega) | fail) [-List.map_take, -List.map_drop, -List.map_set, -List.map_append, -List.drop_one, a79]
theorem runs_may2 (s : Int) : Runs tbl0 a81 [.int .i64 s] (.bool (decide (s ≠ 3))) := by
  refine ⟨?_⟩
  simp (disch := first | omega | (simp [-List.map_take, -List.map_drop, -List.map_set, -List.map_append, -List.drop_one] <;> omega) | fail) [-List.map_take, -List.map_drop, -List.map_set, -List.map_append, -List.drop_one, a81]
def cIb (g : Int → Bool) : List DV → Option DV
  | [.int .i64 s] => some (.bool (g s)) | _ => none
theorem cIb_eq {g : Int → Bool} {s : Int} : cIb g [.int .i64 s] = some (.bool (g s)) := rfl
theorem cIb_sound {f : Nat} {g : Int → Bool} (h : ∀ s, Am.Sem P f [.int .i64 s] (.bool (g s))) : (Con.pure (cIb g)).Sound P f := by
  intro args v e
  unfold cIb at e
  split at e
  · simp at e; subst e; exact h _
  · simp at e
noncomputable def T113 : Tbl := addT 79 (.pure (cIb fun s => decide (s = 1))) (addT 81 (.pure (cIb fun s => decide (s ≠ 3))) T112)
theorem T113_1 : T113 79 = .pure (cIb fun s => decide (s = 1)) := by simp [T113]
theorem T113_2 : T113 81 = .pure (cIb fun s => decide (s ≠ 3)) := by simp [T113]
theorem T113_v : T113 20 = .pure (cC1 validCB) := by simp [T113, T112]
theorem T113_c : T113 71 = .new cNC := by simp [T113, T112]
theorem T113_t : T113 70 = .pure cTm := by simp [T113, T112]
theorem T113_f : T113 24 = .pure (cCi fun c i => .int .i64 (findIx c.i.l i)) := by simp [T113, T112]
theorem T113_sound : T113.Sound P := addT_sound (cIb_sound fun s => sem_runs mix tbl0_sound Tryd.func79 a79_ok (runs_may1 s)) (addT_sound (cIb_sound fun s => sem_runs mix tbl0_sound Tryd.func81 a81_ok (runs_may2 s)) T112_sound)
noncomputable def changeB (c : Clu) (id t to : Int) : DV := .tup [.agg (clC (changeP c id t to).1), .int .i64 (changeP c id t to).2]
theorem valid_gne {c : Clu} (hv : ValidC c) {k : Nat} (hk : k < c.i.l.length) : c.g.l ≠ [] := by
  intro e
  have h1 := (hv.i k hk).1.g0
  have h2 := (hv.i k hk).1.g1
  rw [e] at h2; simp at h2; omega
set_option maxHeartbeats 4000000 in
theorem runs_change1 (c : Clu) (id t : Int) : Runs T113 a78 [.agg (clC c), .int .i64 id, .int .i64 t, .int .i64 2, .fn (.func 79) [] []] (changeB c id t 2) := by
  refine ⟨?_⟩
  by_cases hv : ValidC c
  case neg =>
    have hd : changeP c id t 2 = (clu0, 1) := by rw [changeP, if_pos (.inl hv)]
    simp (disch := first | omega | (simp [-List.map_take, -List.map_drop, -List.map_set, -List.map_append, -List.drop_one] <;> omega) | fail) [-List.map_take, -List.map_drop, -List.map_set, -List.map_append, -List.drop_one, a78, T113_v, cC1_eq, validCB, T113_t, cTm_eq, T113_f, cCi_eq, changeB, tv_false hv, hd, clC_clu0]
  by_cases ht : timeOK t
  case neg =>
    have hd : changeP c id t 2 = (clu0, 1) := by rw [changeP, if_pos (.inr ht)]
    simp (disch := first | omega | (simp [-List.map_take, -List.map_drop, -List.map_set, -List.map_append, -List.drop_one] <;> omega) | fail) [-List.map_take, -List.map_drop, -List.map_set, -List.map_append, -List.drop_one, a78, T113_v, cC1_eq, validCB, T113_t, cTm_eq, T113_f, cCi_eq, changeB, tv_true hv, tv_false ht, hd, clC_clu0]
  have hnn : ¬ (¬ ValidC c ∨ ¬ timeOK t) := fun h => h.elim (fun h => h hv) (fun h => h ht)
  by_cases hx : findIx c.i.l id < 0
  · have hd : changeP c id t 2 = (clu0, 4) := by rw [changeP, if_neg hnn, if_pos hx]
    simp (disch := first | omega | (simp [-List.map_take, -List.map_drop, -List.map_set, -List.map_append, -List.drop_one] <;> omega) | fail) [-List.map_take, -List.map_drop, -List.map_set, -List.map_append, -List.drop_one, a78, T113_v, cC1_eq, validCB, T113_t, cTm_eq, T113_f, cCi_eq, changeB, tv_true hv, tv_true ht, hx, hd, clC_clu0]
  obtain ⟨k, hk, hke, _, _⟩ := ixI_pos (show 0 ≤ findIx c.i.l id by omega)
  have hke : findIx c.i.l id = k := hke
  have hx' : ¬ (k : Int) < 0 := by omega
  have hk' : (k : Int) < c.i.l.length := by omega
  obtain ⟨x, hxe⟩ : ∃ x, c.i.l[k] = x := ⟨_, rfl⟩
  have hgx : ∀ H, idxSD H 37 (c.i.dv 37 inC) k = some (.ref (inC x)) := fun H => by rw [idxSD_dv len_inC hk, hxe]
  have hopt : c.i.l[k]? = some x := by rw [List.getElem?_eq_getElem hk, hxe]
  by_cases hm : x.state = 1
  case neg =>
    have hd : changeP c id t 2 = (clu0, 30) := by rw [changeP, if_neg hnn, if_neg hx, hke]; simp [hopt, may]; simpa using hm
    have hm' : ¬ x.state = 1 := by simpa using hm
    simp (disch := first | omega | (simp [-List.map_take, -List.map_drop, -List.map_set, -List.map_append, -List.drop_one] <;> omega) | fail) [-List.map_take, -List.map_drop, -List.map_set, -List.map_append, -List.drop_one, a78, T113_v, cC1_eq, validCB, T113_t, cTm_eq, T113_f, cCi_eq, changeB, tv_true hv, tv_true ht, hke, hx', hk', hk, hgx, T113_1, cIb_eq, hm', hd, clC_clu0]
  have hd : changeP c id t 2 = (⟨c.clone.g, own (c.i.l.set k ((x.st 2).si t)), c.next⟩, 0) := by
    rw [changeP, if_neg hnn, if_neg hx, hke, if_pos (by simp [hopt, may]; simpa using hm)]
    simp only [Int.toNat_natCast, setI, hopt]
  have hm' : x.state = 1 := by simpa using hm
  have ho := own_dv (l := c.i.l.set k ((x.st 2).si t)) (s := 37) (f := inC) (by rw [List.length_set]; exact c.i.b)
  have ha : ∀ l : List Grp, (l.flatMap grC).length = l.length * 6 := fm_len len_grC
  have hb : ∀ l : List Ins, (l.flatMap inC).length = l.length * 37 := fm_len len_inC
  have hg := valid_gne hv hk
  have hi : c.i.l ≠ [] := by intro e; rw [e] at hk; simp at hk
  have e2 := mutO_ne (f := grC) hg
  have e3 := mutD_ne (id := 4) (s := 6) (f := grC) (clone_gne hg)
  have e4 := mutO_ne (f := grC) (clone_gne hg)
  have e6 := clone_g_ne hg
  have e7 := take_grs (l := c.g.l.map Grp.clone) (n := c.g.l.length) (by simp)
  have f1 := mutD_ne (id := 5) (s := 37) (f := inC) hi
  have f2 := mutO_ne (f := inC) hi
  have s1 : ∀ H id, storeO H id 1 (k * 37 + 34) (.int .i64 2) (some (c.i.l.flatMap inC)) = some (.junk, H.set id (.cells ((c.i.l.set k (x.st 2)).flatMap inC))) := fun H id => by rw [store_st hk, hxe]
  have s2 : ∀ H id, storeO H id 1 (k * 37 + 35) (.int .i64 t) (some ((c.i.l.set k (x.st 2)).flatMap inC)) = some (.junk, H.set id (.cells ((c.i.l.set k ((x.st 2).si t)).flatMap inC))) := fun H id => by
    rw [store_si (by rw [List.length_set]; exact hk), List.getElem_set_self, List.set_set]
  have e8 := take_ins (l := c.i.l.set k ((x.st 2).si t)) (n := c.i.l.length) (by rw [List.length_set]; exact Nat.le_refl _)
  simp (disch := first | omega | (simp [-List.map_take, -List.map_drop, -List.map_set, -List.map_append, -List.drop_one] <;> omega) | fail) [-List.map_take, -List.map_drop, -List.map_set, -List.map_append, -List.drop_one, a78, T113_v, cC1_eq, validCB, T113_t, cTm_eq, T113_f, cCi_eq, changeB, tv_true hv, tv_true ht, hke, hx', hk', hk, hgx, T113_1, cIb_eq, hm', T113_c, cNC_eq, clW, e2, e3, e4, e6, e7, e8, f1, f2, ha, hb, clone_gl, storeO_one, s1, s2, hd, clC_mk, ho]
set_option maxHeartbeats 4000000 in
theorem runs_change2 (c : Clu) (id t : Int) : Runs T113 a78 [.agg (clC c), .int .i64 id, .int .i64 t, .int .i64 3, .fn (.func 81) [] []] (changeB c id t 3) := by
  refine ⟨?_⟩
  by_cases hv : ValidC c
  case neg =>
    have hd : changeP c id t 3 = (clu0, 1) := by rw [changeP, if_pos (.inl hv)]
    simp (disch := first | omega | (simp [-List.map_take, -List.map_drop, -List.map_set, -List.map_append, -List.drop_one] <;> omega) | fail) [-List.map_take, -List.map_drop, -List.map_set, -List.map_append, -List.drop_one, a78, T113_v, cC1_eq, validCB, T113_t, cTm_eq, T113_f, cCi_eq, changeB, tv_false hv, hd, clC_clu0]
  by_cases ht : timeOK t
  case neg =>
    have hd : changeP c id t 3 = (clu0, 1) := by rw [changeP, if_pos (.inr ht)]
    simp (disch := first | omega | (simp [-List.map_take, -List.map_drop, -List.map_set, -List.map_append, -List.drop_one] <;> omega) | fail) [-List.map_take, -List.map_drop, -List.map_set, -List.map_append, -List.drop_one, a78, T113_v, cC1_eq, validCB, T113_t, cTm_eq, T113_f, cCi_eq, changeB, tv_true hv, tv_false ht, hd, clC_clu0]
  have hnn : ¬ (¬ ValidC c ∨ ¬ timeOK t) := fun h => h.elim (fun h => h hv) (fun h => h ht)
  by_cases hx : findIx c.i.l id < 0
  · have hd : changeP c id t 3 = (clu0, 4) := by rw [changeP, if_neg hnn, if_pos hx]
    simp (disch := first | omega | (simp [-List.map_take, -List.map_drop, -List.map_set, -List.map_append, -List.drop_one] <;> omega) | fail) [-List.map_take, -List.map_drop, -List.map_set, -List.map_append, -List.drop_one, a78, T113_v, cC1_eq, validCB, T113_t, cTm_eq, T113_f, cCi_eq, changeB, tv_true hv, tv_true ht, hx, hd, clC_clu0]
  obtain ⟨k, hk, hke, _, _⟩ := ixI_pos (show 0 ≤ findIx c.i.l id by omega)
  have hke : findIx c.i.l id = k := hke
  have hx' : ¬ (k : Int) < 0 := by omega
  have hk' : (k : Int) < c.i.l.length := by omega
  obtain ⟨x, hxe⟩ : ∃ x, c.i.l[k] = x := ⟨_, rfl⟩
  have hgx : ∀ H, idxSD H 37 (c.i.dv 37 inC) k = some (.ref (inC x)) := fun H => by rw [idxSD_dv len_inC hk, hxe]
  have hopt : c.i.l[k]? = some x := by rw [List.getElem?_eq_getElem hk, hxe]
  by_cases hm : x.state ≠ 3
  case neg =>
    have hd : changeP c id t 3 = (clu0, 30) := by rw [changeP, if_neg hnn, if_neg hx, hke]; simp [hopt, may]; simpa using hm
    have hm' : x.state = 3 := by simpa using hm
    simp (disch := first | omega | (simp [-List.map_take, -List.map_drop, -List.map_set, -List.map_append, -List.drop_one] <;> omega) | fail) [-List.map_take, -List.map_drop, -List.map_set, -List.map_append, -List.drop_one, a78, T113_v, cC1_eq, validCB, T113_t, cTm_eq, T113_f, cCi_eq, changeB, tv_true hv, tv_true ht, hke, hx', hk', hk, hgx, T113_2, cIb_eq, hm', hd, clC_clu0]
  have hd : changeP c id t 3 = (⟨c.clone.g, own (c.i.l.set k ((x.st 3).si t)), c.next⟩, 0) := by
    rw [changeP, if_neg hnn, if_neg hx, hke, if_pos (by simp [hopt, may]; simpa using hm)]
    simp only [Int.toNat_natCast, setI, hopt]
  have hm' : ¬ x.state = 3 := by simpa using hm
  have ho := own_dv (l := c.i.l.set k ((x.st 3).si t)) (s := 37) (f := inC) (by rw [List.length_set]; exact c.i.b)
  have ha : ∀ l : List Grp, (l.flatMap grC).length = l.length * 6 := fm_len len_grC
  have hb : ∀ l : List Ins, (l.flatMap inC).length = l.length * 37 := fm_len len_inC
  have hg := valid_gne hv hk
  have hi : c.i.l ≠ [] := by intro e; rw [e] at hk; simp at hk
  have e2 := mutO_ne (f := grC) hg
  have e3 := mutD_ne (id := 4) (s := 6) (f := grC) (clone_gne hg)
  have e4 := mutO_ne (f := grC) (clone_gne hg)
  have e6 := clone_g_ne hg
  have e7 := take_grs (l := c.g.l.map Grp.clone) (n := c.g.l.length) (by simp)
  have f1 := mutD_ne (id := 5) (s := 37) (f := inC) hi
  have f2 := mutO_ne (f := inC) hi
  have s1 : ∀ H id, storeO H id 1 (k * 37 + 34) (.int .i64 3) (some (c.i.l.flatMap inC)) = some (.junk, H.set id (.cells ((c.i.l.set k (x.st 3)).flatMap inC))) := fun H id => by rw [store_st hk, hxe]
  have s2 : ∀ H id, storeO H id 1 (k * 37 + 35) (.int .i64 t) (some ((c.i.l.set k (x.st 3)).flatMap inC)) = some (.junk, H.set id (.cells ((c.i.l.set k ((x.st 3).si t)).flatMap inC))) := fun H id => by
    rw [store_si (by rw [List.length_set]; exact hk), List.getElem_set_self, List.set_set]
  have e8 := take_ins (l := c.i.l.set k ((x.st 3).si t)) (n := c.i.l.length) (by rw [List.length_set]; exact Nat.le_refl _)
  simp (disch := first | omega | (simp [-List.map_take, -List.map_drop, -List.map_set, -List.map_append, -List.drop_one] <;> omega) | fail) [-List.map_take, -List.map_drop, -List.map_set, -List.map_append, -List.drop_one, a78, T113_v, cC1_eq, validCB, T113_t, cTm_eq, T113_f, cCi_eq, changeB, tv_true hv, tv_true ht, hke, hx', hk', hk, hgx, T113_2, cIb_eq, hm', T113_c, cNC_eq, clW, e2, e3, e4, e6, e7, e8, f1, f2, ha, hb, clone_gl, storeO_one, s1, s2, hd, clC_mk, ho]
noncomputable def cChg (M : Nat) (to : Int) : List DV → Option DV := con (fun _ => True) (fun p : Clu × Int × Int => [.agg (clC p.1), .int .i64 p.2.1, .int .i64 p.2.2, .int .i64 to, .fn (.func M) [] []]) (fun p => changeB p.1 p.2.1 p.2.2 to)
theorem cChg_eq {M : Nat} {to : Int} {c : Clu} {id t : Int} : cChg M to [.agg (clC c), .int .i64 id, .int .i64 t, .int .i64 to, .fn (.func M) [] []] = some (changeB c id t to) :=
  con_inj (f := fun p : Clu × Int × Int => [.agg (clC p.1), .int .i64 p.2.1, .int .i64 p.2.2, .int .i64 to, .fn (.func M) [] []]) (by
    rintro ⟨a, b, c⟩ ⟨a', b', c'⟩ e
    simp only [List.cons.injEq, DV.agg.injEq, DV.int.injEq, and_true, true_and] at e
    rw [clC_inj e.1, e.2.1, e.2.2]) (c, id, t)
noncomputable def T114 : Tbl := addT 78 (.pure (cChg 79 2)) tbl0
theorem T114_c : T114 78 = .pure (cChg 79 2) := by simp [T114]
theorem T114_sound : T114.Sound P := addT_sound (con_sound fun p _ => sem_runs mix T113_sound Tryd.func78 a78_ok (runs_change1 p.1 p.2.1 p.2.2)) tbl0_sound
noncomputable def T115 : Tbl := addT 78 (.pure (cChg 81 3)) tbl0
theorem T115_c : T115 78 = .pure (cChg 81 3) := by simp [T115]
theorem T115_sound : T115.Sound P := addT_sound (con_sound fun p _ => sem_runs mix T113_sound Tryd.func78 a78_ok (runs_change2 p.1 p.2.1 p.2.2)) tbl0_sound
theorem runs_started (c : Clu) (id t : Int) : Runs T114 a38 [.agg (clC c), .int .i64 id, .int .i64 t] (changeB c id t 2) := by
  refine ⟨?_⟩
  simp (disch := first | omega | (simp [-List.map_take, -List.map_drop, -List.map_set, -List.map_append, -List.drop_one] <;> omega) | fail) [-List.map_take, -List.map_drop, -List.map_set, -List.map_append, -List.drop_one, a38, T114_c, cChg_eq, changeB]
theorem runs_stop (c : Clu) (id t : Int) : Runs T115 a40 [.agg (clC c), .int .i64 id, .int .i64 t] (changeB c id t 3) := by
  refine ⟨?_⟩
  simp (disch := first | omega | (simp [-List.map_take, -List.map_drop, -List.map_set, -List.map_append, -List.drop_one] <;> omega) | fail) [-List.map_take, -List.map_drop, -List.map_set, -List.map_append, -List.drop_one, a40, T115_c, cChg_eq, changeB]
end Go.Proofs.YtjhakjeioppijaaDoor
set_option linter.unusedSimpArgs false
set_option linter.unusedVariables false
namespace Go.Proofs.YtjhakjeioppijaaDoor
open Go Go.Am
def inB (b : Bool) : List DV := [.bool b]
theorem len_inB (b : Bool) : (inB b).length = 1 := rfl
theorem pure_inB (b : Bool) : pureL (inB b) = true := rfl
def markI (den : List Bool) (t : Int) (i : Nat) (x : Ins) : Ins := if den.getD i false = true then (if x.den = -1 then x.de t else x) else x.de (-1)
def markL (den : List Bool) (t : Int) (l : List Ins) : List Ins := l.mapIdx (markI den t)
theorem markL_len {den : List Bool} {t : Int} {l : List Ins} : (markL den t l).length = l.length := by simp [markL]
theorem markL_nil {den : List Bool} {t : Int} {l : List Ins} : markL den t l = [] ↔ l = [] := by simp [markL]
theorem markL_get {den : List Bool} {t : Int} {l : List Ins} {i : Nat} (h : i < l.length) (h' : i < (markL den t l).length) : (markL den t l)[i] = markI den t i l[i] := by simp [markL]
def mkI (den : List Bool) (t : Int) (l : List Ins) (i : Nat) : List Ins := (markL den t l).take i ++ l.drop i
theorem mkI_zero {den : List Bool} {t : Int} {l : List Ins} : mkI den t l 0 = l := rfl
theorem mkI_all {den : List Bool} {t : Int} {l : List Ins} {i : Nat} (h : l.length ≤ i) : mkI den t l i = markL den t l := by
  rw [mkI, List.take_of_length_le (by rw [markL_len]; exact h), List.drop_of_length_le h, List.append_nil]
theorem mkI_len {den : List Bool} {t : Int} {l : List Ins} {i : Nat} : (mkI den t l i).length = l.length := by simp [mkI, markL_len]; omega
theorem mkI_get {den : List Bool} {t : Int} {l : List Ins} {i : Nat} (h : i < l.length) (h' : i < (mkI den t l i).length) : (mkI den t l i)[i] = l[i] := by
  simp only [mkI]
  rw [List.getElem_append_right (by simp; omega)]
  simp [markL_len, Nat.min_eq_left (Nat.le_of_lt h)]
theorem mkI_set {den : List Bool} {t : Int} {l : List Ins} {i : Nat} (h : i < l.length) : (mkI den t l i).set i (markI den t i l[i]) = mkI den t l (i + 1) := by
  have hl : ((markL den t l).take i).length = i := by rw [List.length_take, markL_len]; omega
  have hm : i < (markL den t l).length := by rw [markL_len]; exact h
  simp only [mkI]
  rw [List.set_append_right _ _ (by omega), hl, Nat.sub_self, take_snoc hm, List.drop_eq_getElem_cons h, List.set_cons_zero, List.append_assoc, markL_get h hm]
  rfl
theorem mkI_same {den : List Bool} {t : Int} {l : List Ins} {i : Nat} (h : i < l.length) (he : markI den t i l[i] = l[i]) : mkI den t l i = mkI den t l (i + 1) := by
  rw [← mkI_set h, he]
  have h' : i < (mkI den t l i).length := by rw [mkI_len]; exact h
  have := mkI_get (den := den) (t := t) h h'
  rw [← this, List.set_getElem_self]
def markSl (den : List Bool) (t : Int) (x : Sl Ins) : Sl Ins := ⟨x.clone.k, markL den t x.l, fun e => markL_nil.2 (x.clone.h e), by rw [markL_len]; exact x.b⟩
open Classical in
noncomputable def markP (c : Clu) (den : List Bool) (t : Int) : Clu := if ¬ ValidC c ∨ ¬ timeOK t then c.clone else ⟨c.clone.g, markSl den t c.i, c.next⟩
theorem one_den {l : List Ins} {i : Nat} (h : i < l.length) : one 1 false ((l.flatMap inC).drop (i * 37 + 36)) = some (.int .i64 l[i].den) := by
  rw [← List.drop_drop, fm_drop len_inC, List.drop_eq_getElem_cons h, List.flatMap_cons, List.drop_append_of_le_length (by rw [len_inC]; omega), inC_drop36]
  rfl
def S190 (c : Clu) (den : Sl Bool) (t : Int) (id : Nat) (gd : DV) (gO : List AObj) (i : Nat) : St :=
  a30S0 (den.dv 1 inB) (.int .i64 t) (.mp 0 3 0) (.mp 1 3 0) (.int .i64 c.i.l.length) (.int .i64 i) (.cells [gd, .ms id (c.i.l.length * 37) 0 37 c.i.l.length (c.i.l.length * 37), .int .i64 c.next] :: .cells [.nils, .nils, .int .i64 0] :: .cells [gd, .ms id (c.i.l.length * 37) 0 37 c.i.l.length (c.i.l.length * 37), .int .i64 c.next] :: .cells [gd, .ms id (c.i.l.length * 37) 0 37 c.i.l.length (c.i.l.length * 37), .int .i64 c.next] :: (gO ++ [.cells ((mkI den.l t c.i.l i).flatMap inC)]))
def S191 (c : Clu) (den : Sl Bool) (t : Int) (gd idv : DV) (gO : List AObj) : St :=
  a30S0 (den.dv 1 inB) (.int .i64 t) (.mp 0 3 0) (.mp 1 3 0) (.int .i64 0) (.int .i64 0) (.cells [gd, idv, .int .i64 c.next] :: .cells [.nils, .nils, .int .i64 0] :: .cells [gd, idv, .int .i64 c.next] :: .cells [gd, idv, .int .i64 c.next] :: gO)
theorem markSl_nil {den : List Bool} {t : Int} {x : Sl Ins} (h : x.l = []) : (markSl den t x).dv 37 inC = x.clone.dv 37 inC := by
  have h1 : markL den t x.l = x.clone.l := by rw [show x.clone.l = x.l from rfl, h]; rfl
  simp only [markSl, Sl.dv, h1]
theorem markSl_ne {den : List Bool} {t : Int} {x : Sl Ins} (h : x.l ≠ []) : (markSl den t x).dv 37 inC = .sl false 37 x.l.length ((markL den t x.l).flatMap inC) := by
  simp [markSl, Sl.dv, Sl.clone, h, slD, markL_len]
theorem take_mk {den : List Bool} {t : Int} {l : List Ins} {i : Nat} : ((mkI den t l i).flatMap inC).take (l.length * 37) = (mkI den t l i).flatMap inC := take_ins (by rw [mkI_len]; exact Nat.le_refl _)
set_option maxHeartbeats 4000000 in
theorem runs_mark (c : Clu) (den : Sl Bool) (t : Int) : Runs T112 a30 [.agg (clC c), den.dv 1 inB, .int .i64 t] (.agg (clC (markP c den.l t))) := by
  refine ⟨?_⟩
  have hbd := den.b
  have ha : ∀ l : List Grp, (l.flatMap grC).length = l.length * 6 := fm_len len_grC
  have hb : ∀ l : List Ins, (l.flatMap inC).length = l.length * 37 := fm_len len_inC
  have e7 := take_grs (l := c.g.l.map Grp.clone) (n := c.g.l.length) (by simp)
  have e9 := take_ins (l := c.i.l) (n := c.i.l.length) (Nat.le_refl _)
  have hpd : pureD (den.dv 1 inB) = true := dv_pure pure_inB den
  have q3 : clC c.clone = [c.clone.g.dv 6 grC, c.i.clone.dv 37 inC, .int .i64 c.next] := rfl
  by_cases hvt : ValidC c ∧ timeOK t
  case neg =>
    have hd : markP c den.l t = c.clone := by
      rw [markP, if_pos]
      by_cases h1 : ValidC c
      · exact .inr fun h2 => hvt ⟨h1, h2⟩
      · exact .inl h1
    have hc : tv (ValidC c) = false ∨ (tv (ValidC c) = true ∧ tv (timeOK t) = false) := by
      by_cases h1 : ValidC c
      · exact .inr ⟨tv_true h1, tv_false fun h2 => hvt ⟨h1, h2⟩⟩
      · exact .inl (tv_false h1)
    by_cases hg : c.g.l = []
    · skip
      have e2 := mutO_nil (f := grC) hg
      have e3 := fun id => mutD_nil (id := id) (s := 6) (f := grC) (clone_gnil hg)
      have e4 := mutO_nil (f := grC) (clone_gnil hg)
      have e8 : c.clone.g.dv 6 grC = c.g.clone.dv 6 grC := by simp [Clu.clone, Sl.dv, Sl.clone, hg]
      have e5 := clone_dvnil hg
      by_cases hi : c.i.l = []
      · skip
        have f1 := fun id => mutD_nil (id := id) (s := 37) (f := inC) hi
        have f2 := mutO_nil (f := inC) hi
        have f3 := f1 0
        rcases hc with h1 | ⟨h1, h2⟩
        · simp (disch := first | omega | (simp [-List.map_take, -List.map_drop, -List.map_set, -List.map_append, -List.drop_one] <;> omega) | fail) [-List.map_take, -List.map_drop, -List.map_set, -List.map_append, -List.drop_one, a30, T112_v, cC1_eq, validCB, T112_t, cTm_eq, T112_c, cNC_eq, clW, hd, q3, ha, hb, e7, e9, hpd, e8, h1, e2, e3, e4, e5, f1, f2, f3, clone_gl]
        · simp (disch := first | omega | (simp [-List.map_take, -List.map_drop, -List.map_set, -List.map_append, -List.drop_one] <;> omega) | fail) [-List.map_take, -List.map_drop, -List.map_set, -List.map_append, -List.drop_one, a30, T112_v, cC1_eq, validCB, T112_t, cTm_eq, T112_c, cNC_eq, clW, hd, q3, ha, hb, e7, e9, hpd, e8, h1, h2, e2, e3, e4, e5, f1, f2, f3, clone_gl]
      · skip
        have f1 := fun id => mutD_ne (id := id) (s := 37) (f := inC) hi
        have f2 := mutO_ne (f := inC) hi
        have f3 := clone_dv_ne (s := 37) (f := inC) hi
        rcases hc with h1 | ⟨h1, h2⟩
        · simp (disch := first | omega | (simp [-List.map_take, -List.map_drop, -List.map_set, -List.map_append, -List.drop_one] <;> omega) | fail) [-List.map_take, -List.map_drop, -List.map_set, -List.map_append, -List.drop_one, a30, T112_v, cC1_eq, validCB, T112_t, cTm_eq, T112_c, cNC_eq, clW, hd, q3, ha, hb, e7, e9, hpd, e8, h1, e2, e3, e4, e5, f1, f2, f3, clone_gl]
        · simp (disch := first | omega | (simp [-List.map_take, -List.map_drop, -List.map_set, -List.map_append, -List.drop_one] <;> omega) | fail) [-List.map_take, -List.map_drop, -List.map_set, -List.map_append, -List.drop_one, a30, T112_v, cC1_eq, validCB, T112_t, cTm_eq, T112_c, cNC_eq, clW, hd, q3, ha, hb, e7, e9, hpd, e8, h1, h2, e2, e3, e4, e5, f1, f2, f3, clone_gl]
    · skip
      have e2 := mutO_ne (f := grC) hg
      have e3 := fun id => mutD_ne (id := id) (s := 6) (f := grC) (clone_gne hg)
      have e4 := mutO_ne (f := grC) (clone_gne hg)
      have e5 := clone_g_ne hg
      by_cases hi : c.i.l = []
      · skip
        have f1 := fun id => mutD_nil (id := id) (s := 37) (f := inC) hi
        have f2 := mutO_nil (f := inC) hi
        have f3 := f1 0
        rcases hc with h1 | ⟨h1, h2⟩
        · simp (disch := first | omega | (simp [-List.map_take, -List.map_drop, -List.map_set, -List.map_append, -List.drop_one] <;> omega) | fail) [-List.map_take, -List.map_drop, -List.map_set, -List.map_append, -List.drop_one, a30, T112_v, cC1_eq, validCB, T112_t, cTm_eq, T112_c, cNC_eq, clW, hd, q3, ha, hb, e7, e9, hpd, h1, e2, e3, e4, e5, f1, f2, f3, clone_gl]
        · simp (disch := first | omega | (simp [-List.map_take, -List.map_drop, -List.map_set, -List.map_append, -List.drop_one] <;> omega) | fail) [-List.map_take, -List.map_drop, -List.map_set, -List.map_append, -List.drop_one, a30, T112_v, cC1_eq, validCB, T112_t, cTm_eq, T112_c, cNC_eq, clW, hd, q3, ha, hb, e7, e9, hpd, h1, h2, e2, e3, e4, e5, f1, f2, f3, clone_gl]
      · skip
        have f1 := fun id => mutD_ne (id := id) (s := 37) (f := inC) hi
        have f2 := mutO_ne (f := inC) hi
        have f3 := clone_dv_ne (s := 37) (f := inC) hi
        rcases hc with h1 | ⟨h1, h2⟩
        · simp (disch := first | omega | (simp [-List.map_take, -List.map_drop, -List.map_set, -List.map_append, -List.drop_one] <;> omega) | fail) [-List.map_take, -List.map_drop, -List.map_set, -List.map_append, -List.drop_one, a30, T112_v, cC1_eq, validCB, T112_t, cTm_eq, T112_c, cNC_eq, clW, hd, q3, ha, hb, e7, e9, hpd, h1, e2, e3, e4, e5, f1, f2, f3, clone_gl]
        · simp (disch := first | omega | (simp [-List.map_take, -List.map_drop, -List.map_set, -List.map_append, -List.drop_one] <;> omega) | fail) [-List.map_take, -List.map_drop, -List.map_set, -List.map_append, -List.drop_one, a30, T112_v, cC1_eq, validCB, T112_t, cTm_eq, T112_c, cNC_eq, clW, hd, q3, ha, hb, e7, e9, hpd, h1, h2, e2, e3, e4, e5, f1, f2, f3, clone_gl]
  obtain ⟨hv, ht⟩ := hvt
  have hd : markP c den.l t = ⟨c.clone.g, markSl den.l t c.i, c.next⟩ := by rw [markP, if_neg fun h => h.elim (fun h => h hv) (fun h => h ht)]
  have h1 := tv_true hv
  have h2 := tv_true ht
  by_cases hi : c.i.l = []
  · have f1 := fun id => mutD_nil (id := id) (s := 37) (f := inC) hi
    have f2 := mutO_nil (f := inC) hi
    have f3 := markSl_nil (den := den.l) (t := t) hi
    have f4 : c.i.clone.l.length = 0 := by rw [show c.i.clone.l = c.i.l from rfl, hi]; rfl
    by_cases hg : c.g.l = []
    · skip
      have e2 := mutO_nil (f := grC) hg
      have e3 := fun id => mutD_nil (id := id) (s := 6) (f := grC) (clone_gnil hg)
      have e4 := mutO_nil (f := grC) (clone_gnil hg)
      have e8 : c.clone.g.dv 6 grC = c.g.clone.dv 6 grC := by simp [Clu.clone, Sl.dv, Sl.clone, hg]
      have e5 := clone_dvnil hg
      simp (disch := first | omega | (simp [-List.map_take, -List.map_drop, -List.map_set, -List.map_append, -List.drop_one] <;> omega) | fail) [-List.map_take, -List.map_drop, -List.map_set, -List.map_append, -List.drop_one, a30, T112_v, cC1_eq, validCB, T112_t, cTm_eq, T112_c, cNC_eq, clW, hd, q3, ha, hb, e7, e9, hpd, h1, h2, e2, e3, e4, e5, f1, f2, f4, clone_gl]
      refine W_loop (fun _ : Nat => S191 c den t (c.clone.g.dv 6 grC) (c.i.clone.dv 37 inC) []) (fun _ => 0) (fun _ => True) 0 (weak_same (by simp (disch := first | omega | (simp [-List.map_take, -List.map_drop, -List.map_set, -List.map_append, -List.drop_one] <;> omega) | fail) [-List.map_take, -List.map_drop, -List.map_set, -List.map_append, -List.drop_one, S191, a30S0]) (by simp (disch := first | omega | (simp [-List.map_take, -List.map_drop, -List.map_set, -List.map_append, -List.drop_one] <;> omega) | fail) [-List.map_take, -List.map_drop, -List.map_set, -List.map_append, -List.drop_one, S191, e8])) trivial (fun _ _ => ?_)
      simp (disch := first | omega | (simp [-List.map_take, -List.map_drop, -List.map_set, -List.map_append, -List.drop_one] <;> omega) | fail) [-List.map_take, -List.map_drop, -List.map_set, -List.map_append, -List.drop_one, a30L0, a30S0, S191, clC_mk, f3, e5, e8]
    · skip
      have e2 := mutO_ne (f := grC) hg
      have e3 := fun id => mutD_ne (id := id) (s := 6) (f := grC) (clone_gne hg)
      have e4 := mutO_ne (f := grC) (clone_gne hg)
      have e5 := clone_g_ne hg
      simp (disch := first | omega | (simp [-List.map_take, -List.map_drop, -List.map_set, -List.map_append, -List.drop_one] <;> omega) | fail) [-List.map_take, -List.map_drop, -List.map_set, -List.map_append, -List.drop_one, a30, T112_v, cC1_eq, validCB, T112_t, cTm_eq, T112_c, cNC_eq, clW, hd, q3, ha, hb, e7, e9, hpd, h1, h2, e2, e3, e4, e5, f1, f2, f4, clone_gl]
      refine W_loop (fun _ : Nat => S191 c den t (.ms 4 (c.g.l.length * 6) 0 6 c.g.l.length (c.g.l.length * 6)) (c.i.clone.dv 37 inC) [.cells ((c.g.l.map Grp.clone).flatMap grC)]) (fun _ => 0) (fun _ => True) 0 (weak_same (by simp (disch := first | omega | (simp [-List.map_take, -List.map_drop, -List.map_set, -List.map_append, -List.drop_one] <;> omega) | fail) [-List.map_take, -List.map_drop, -List.map_set, -List.map_append, -List.drop_one, S191, a30S0]) (by simp (disch := first | omega | (simp [-List.map_take, -List.map_drop, -List.map_set, -List.map_append, -List.drop_one] <;> omega) | fail) [-List.map_take, -List.map_drop, -List.map_set, -List.map_append, -List.drop_one, S191])) trivial (fun _ _ => ?_)
      simp (disch := first | omega | (simp [-List.map_take, -List.map_drop, -List.map_set, -List.map_append, -List.drop_one] <;> omega) | fail) [-List.map_take, -List.map_drop, -List.map_set, -List.map_append, -List.drop_one, a30L0, a30S0, S191, clC_mk, f3, e5, e7, ha, hb]
  · have hg := valid_gne hv (List.length_pos_iff.2 hi)
    have f1 := fun id => mutD_ne (id := id) (s := 37) (f := inC) hi
    have f2 := mutO_ne (f := inC) hi
    have f3 := markSl_ne (den := den.l) (t := t) hi
    have e2 := mutO_ne (f := grC) hg
    have e3 := fun id => mutD_ne (id := id) (s := 6) (f := grC) (clone_gne hg)
    have e4 := mutO_ne (f := grC) (clone_gne hg)
    have e5 := clone_g_ne hg
    have hib := c.i.b
    simp (disch := first | omega | (simp [-List.map_take, -List.map_drop, -List.map_set, -List.map_append, -List.drop_one] <;> omega) | fail) [-List.map_take, -List.map_drop, -List.map_set, -List.map_append, -List.drop_one, a30, T112_v, cC1_eq, validCB, T112_t, cTm_eq, T112_c, cNC_eq, clW, hd, q3, ha, hb, e7, e9, hpd, h1, h2, e2, e3, e4, e5, f1, f2, clone_gl]
    refine W_loop (S190 c den t 5 (.ms 4 (c.g.l.length * 6) 0 6 c.g.l.length (c.g.l.length * 6)) [.cells ((c.g.l.map Grp.clone).flatMap grC)]) (fun i => c.i.l.length - i) (fun i => i ≤ c.i.l.length) 0 (weak_same (by simp (disch := first | omega | (simp [-List.map_take, -List.map_drop, -List.map_set, -List.map_append, -List.drop_one] <;> omega) | fail) [-List.map_take, -List.map_drop, -List.map_set, -List.map_append, -List.drop_one, a30S0]) (by simp (disch := first | omega | (simp [-List.map_take, -List.map_drop, -List.map_set, -List.map_append, -List.drop_one] <;> omega) | fail) [-List.map_take, -List.map_drop, -List.map_set, -List.map_append, -List.drop_one, mkI_zero])) (by omega) (fun i hile => ?_)
    have hml := mkI_len (den := den.l) (t := t) (l := c.i.l) (i := i)
    have hmf := hb (mkI den.l t c.i.l i)
    rw [hml] at hmf
    simp (disch := first | omega | (simp [-List.map_take, -List.map_drop, -List.map_set, -List.map_append, -List.drop_one] <;> omega) | fail) [-List.map_take, -List.map_drop, -List.map_set, -List.map_append, -List.drop_one, a30L0, a30S0, S190]
    by_cases h : i < c.i.l.length
    · have h' : (i : Int) < c.i.l.length := by omega
      have hi2 : i < (mkI den.l t c.i.l i).length := by omega
      have k1 := fun H id v => store_de (H := H) (id := id) (v := v) hi2
      have k2 := one_den hi2
      rw [mkI_get h hi2] at k1 k2
      have fin : ∀ x, markI den.l t i c.i.l[i] = x → (mkI den.l t c.i.l i).set i x = mkI den.l t c.i.l (i + 1) := fun x e => by rw [← e]; exact mkI_set h
      by_cases hdl : i < den.l.length
      · have hdl' : (i : Int) < den.l.length := by omega
        have hgd : ∀ H, idxSD H 1 (den.dv 1 inB) i = some (.ref (inB den.l[i])) := fun H => idxSD_dv len_inB hdl
        have hob : ∀ b, one 1 false (inB b) = some (.bool b) := fun b => rfl
        have hgb : den.l.getD i false = den.l[i] := by rw [List.getD_eq_getElem?_getD, List.getElem?_eq_getElem hdl]; rfl
        cases hbv : den.l[i] with
        | false =>
          have hm : markI den.l t i c.i.l[i] = c.i.l[i].de (-1) := by rw [markI, hgb, hbv]; rfl
          have := fin _ hm
          simp (disch := first | omega | (simp [-List.map_take, -List.map_drop, -List.map_set, -List.map_append, -List.drop_one] <;> omega) | fail) [-List.map_take, -List.map_drop, -List.map_set, -List.map_append, -List.drop_one, h', h, hdl, hdl', hgd, hob, hbv, hmf, k1, k2, this]
          exact ⟨i + 1, weak_same (by simp (disch := first | omega | (simp [-List.map_take, -List.map_drop, -List.map_set, -List.map_append, -List.drop_one] <;> omega) | fail) [-List.map_take, -List.map_drop, -List.map_set, -List.map_append, -List.drop_one]) (by simp (disch := first | omega | (simp [-List.map_take, -List.map_drop, -List.map_set, -List.map_append, -List.drop_one] <;> omega) | fail) [-List.map_take, -List.map_drop, -List.map_set, -List.map_append, -List.drop_one]), by omega, by omega⟩
        | true =>
          by_cases hx : c.i.l[i].den = -1
          · have hm : markI den.l t i c.i.l[i] = c.i.l[i].de t := by rw [markI, hgb, hbv, if_pos rfl, if_pos hx]
            have := fin _ hm
            simp (disch := first | omega | (simp [-List.map_take, -List.map_drop, -List.map_set, -List.map_append, -List.drop_one] <;> omega) | fail) [-List.map_take, -List.map_drop, -List.map_set, -List.map_append, -List.drop_one, h', h, hdl, hdl', hgd, hob, hbv, hmf, k1, k2, hx, this]
            exact ⟨i + 1, weak_same (by simp (disch := first | omega | (simp [-List.map_take, -List.map_drop, -List.map_set, -List.map_append, -List.drop_one] <;> omega) | fail) [-List.map_take, -List.map_drop, -List.map_set, -List.map_append, -List.drop_one]) (by simp (disch := first | omega | (simp [-List.map_take, -List.map_drop, -List.map_set, -List.map_append, -List.drop_one] <;> omega) | fail) [-List.map_take, -List.map_drop, -List.map_set, -List.map_append, -List.drop_one]), by omega, by omega⟩
          · have hm : markI den.l t i c.i.l[i] = c.i.l[i] := by rw [markI, hgb, hbv, if_pos rfl, if_neg hx]
            have := mkI_same h hm
            simp (disch := first | omega | (simp [-List.map_take, -List.map_drop, -List.map_set, -List.map_append, -List.drop_one] <;> omega) | fail) [-List.map_take, -List.map_drop, -List.map_set, -List.map_append, -List.drop_one, h', h, hdl, hdl', hgd, hob, hbv, hmf, k1, k2, hx]
            exact ⟨i + 1, weak_same (by simp (disch := first | omega | (simp [-List.map_take, -List.map_drop, -List.map_set, -List.map_append, -List.drop_one] <;> omega) | fail) [-List.map_take, -List.map_drop, -List.map_set, -List.map_append, -List.drop_one]) (by simp (disch := first | omega | (simp [-List.map_take, -List.map_drop, -List.map_set, -List.map_append, -List.drop_one] <;> omega) | fail) [-List.map_take, -List.map_drop, -List.map_set, -List.map_append, -List.drop_one, this]), by omega, by omega⟩
      · have hdl' : ¬ (i : Int) < den.l.length := by omega
        have hgb : den.l.getD i false = false := by rw [List.getD_eq_getElem?_getD, List.getElem?_eq_none (by omega)]; rfl
        have hm : markI den.l t i c.i.l[i] = c.i.l[i].de (-1) := by rw [markI, hgb]; rfl
        have := fin _ hm
        simp (disch := first | omega | (simp [-List.map_take, -List.map_drop, -List.map_set, -List.map_append, -List.drop_one] <;> omega) | fail) [-List.map_take, -List.map_drop, -List.map_set, -List.map_append, -List.drop_one, h', h, hdl, hdl', hmf, k1, k2, this]
        exact ⟨i + 1, weak_same (by simp (disch := first | omega | (simp [-List.map_take, -List.map_drop, -List.map_set, -List.map_append, -List.drop_one] <;> omega) | fail) [-List.map_take, -List.map_drop, -List.map_set, -List.map_append, -List.drop_one]) (by simp (disch := first | omega | (simp [-List.map_take, -List.map_drop, -List.map_set, -List.map_append, -List.drop_one] <;> omega) | fail) [-List.map_take, -List.map_drop, -List.map_set, -List.map_append, -List.drop_one]), by omega, by omega⟩
    · have h' : ¬ (i : Int) < c.i.l.length := by omega
      have hma := mkI_all (den := den.l) (t := t) (l := c.i.l) (i := i) (by omega)
      have htk := take_mk (den := den.l) (t := t) (l := c.i.l) (i := i)
      have hmb := hmf
      rw [hma] at htk hmb
      simp (disch := first | omega | (simp [-List.map_take, -List.map_drop, -List.map_set, -List.map_append, -List.drop_one] <;> omega) | fail) [-List.map_take, -List.map_drop, -List.map_set, -List.map_append, -List.drop_one, h, h', hma, htk, hmb, clC_mk, f3, e5, e7, ha, hb]
end Go.Proofs.YtjhakjeioppijaaDoor
