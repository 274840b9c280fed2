/-
  clone.
-/
import Derived.Test.YtjhakjeioppijaaDoorWn
set_option linter.unusedSimpArgs false
set_option linter.unusedVariables false
namespace Go.Proofs.YtjhakjeioppijaaDoor
open Go Go.Am

theorem shD_mut {α : Type} {n s : Nat} {x : Sl α} {f : α → List DV} (hp : ∀ a, pureL (f a) = true) : shD n (mutD 0 s x f) = mutD n s x f := by
  by_cases h : x.l = []
  · rw [mutD_nil h, mutD_nil h]; exact shD_pure n _ (dv_pure hp _)
  · rw [mutD_ne h, mutD_ne h]; rfl
theorem shO_mut {α : Type} {n : Nat} {x : Sl α} {f : α → List DV} (hp : ∀ a, pureL (f a) = true) : (mutO x f).map (shO n) = mutO x f := by
  by_cases h : x.l = []
  · rw [mutO_nil h]; rfl
  · rw [mutO_ne h]; simp only [List.map_cons, List.map_nil, shO_cells, shL_pure n _ (fm_pure hp _)]
noncomputable def cNG : List DV → Nat → Option (DV × List AObj) := conN (fun _ => True) (fun x : Sl Grp => [x.dv 6 grC]) (fun x => (mutD 0 6 x grC, mutO x grC))
noncomputable def cNI : List DV → Nat → Option (DV × List AObj) := conN (fun _ => True) (fun x : Sl Ins => [x.dv 37 inC]) (fun x => (mutD 0 37 x inC, mutO x inC))
theorem cNG_eq {x : Sl Grp} {n : Nat} : cNG [x.dv 6 grC] n = some (mutD n 6 x grC, mutO x grC) := by
  have := conN_eq (A := fun _ => True) (f := fun x : Sl Grp => [x.dv 6 grC]) (g := fun x => (mutD 0 6 x grC, mutO x grC)) (fun a b e => by
    simp only [List.cons.injEq, and_true] at e
    rw [dv_inj len_grC (by decide) (fun _ _ => grC_inj) e]) x trivial n
  rw [shD_mut pure_grC, shO_mut pure_grC] at this
  exact this
theorem cNI_eq {x : Sl Ins} {n : Nat} : cNI [x.dv 37 inC] n = some (mutD n 37 x inC, mutO x inC) := by
  have := conN_eq (A := fun _ => True) (f := fun x : Sl Ins => [x.dv 37 inC]) (g := fun x => (mutD 0 37 x inC, mutO x inC)) (fun a b e => by
    simp only [List.cons.injEq, and_true] at e
    rw [dv_inj len_inC (by decide) (fun _ _ => inC_inj) e]) x trivial n
  rw [shD_mut pure_inC, shO_mut pure_inC] at this
  exact this
noncomputable def cCD : List DV → Option DV := con (fun _ => True) (fun x : Sl Dg => [x.dv 32 dgC]) (fun x => x.clone.dv 32 dgC)
theorem cCD_eq {x : Sl Dg} : cCD [x.dv 32 dgC] = some (x.clone.dv 32 dgC) :=
  con_inj (f := fun x : Sl Dg => [x.dv 32 dgC]) (fun a b e => by simp only [List.cons.injEq, and_true] at e; exact dgs_inj e) x
theorem sem_cloneD (x : Sl Dg) : Am.Sem P 75 [x.dv 32 dgC] (x.clone.dv 32 dgC) :=
  sem_of_calls ((calls_runs mix tbl0_sound Tryd.func75 a75_ok (runs_cloneD x)).mono fun d h' e => by
    obtain ⟨rfl, rfl⟩ := e
    by_cases h : x.l = []
    · rw [mutD_nil h]; exact snap_dv32
    · have hl := fm_len len_dgC x.l
      have ht : (x.l.flatMap dgC).take (x.l.length * 32) = x.l.flatMap dgC := List.take_of_length_le (by omega)
      rw [mutD_ne h, mutO_ne h, snap_ms, objV_zero, if_pos hl, Option.bind_some, List.drop_zero, ht, snapL_clean (fm_pure pure_dgC _)]
      simp [Sl.clone, Sl.dv, slD, h])
noncomputable def T110 : Tbl := addT 105 (.new cNG) (addT 106 (.new cNI) (addT 75 (.pure cCD) tbl0))
theorem T110_g : T110 105 = .new cNG := by simp [T110]
theorem T110_i : T110 106 = .new cNI := by simp [T110]
theorem T110_d : T110 75 = .pure cCD := by simp [T110]
theorem T110_sound : T110.Sound P := addT_sound (conN_sound (fun x _ => by simp) fun x _ => calls_runs mix tbl0_sound Tryd.func105 a105_ok (runs_cloneG x)) (addT_sound (conN_sound (fun x _ => by simp) fun x _ => calls_runs mix tbl0_sound Tryd.func106 a106_ok (runs_cloneI x)) (addT_sound (con_sound fun x _ => sem_cloneD x) tbl0_sound))

/-! the loop -/
def gsi (l : List Grp) (i : Nat) : List Grp := (l.take i).map Grp.clone ++ l.drop i
theorem gsi_zero (l : List Grp) : gsi l 0 = l := rfl
theorem gsi_all {l : List Grp} {i : Nat} (h : l.length ≤ i) : gsi l i = l.map Grp.clone := by rw [gsi, List.take_of_length_le h, List.drop_of_length_le h, List.append_nil]
theorem gsi_len {l : List Grp} {i : Nat} : (gsi l i).length = l.length := by simp [gsi]; omega
theorem gsi_get {l : List Grp} {i : Nat} (h : i < l.length) (h' : i < (gsi l i).length) : (gsi l i)[i] = l[i] := by
  simp only [gsi]
  rw [List.getElem_append_right (by simp; omega)]
  simp [Nat.min_eq_left (Nat.le_of_lt h)]
theorem gsi_set {l : List Grp} {i : Nat} (h : i < l.length) : (gsi l i).set i l[i].clone = gsi l (i + 1) := by
  simp only [gsi]
  have hl : ((l.take i).map Grp.clone).length = i := by simp; omega
  rw [List.set_append_right _ _ (by omega), hl, Nat.sub_self, take_snoc h, List.map_append, List.drop_eq_getElem_cons h, List.set_cons_zero, List.append_assoc]
  rfl
theorem grC_take5 (g : Grp) : grC g = (grC g).take 5 ++ [g.ch.dv 32 dgC] := rfl
theorem fm_split {l : List Grp} {i : Nat} (h : i < l.length) : l.flatMap grC = (l.take i).flatMap grC ++ (grC l[i] ++ (l.drop (i + 1)).flatMap grC) := by
  rw [← List.flatMap_cons, ← List.drop_eq_getElem_cons h, ← List.flatMap_append, List.take_append_drop]
theorem one_ch {l : List Grp} {i : Nat} (h : i < l.length) : one 1 false ((l.flatMap grC).drop (i * 6 + 5)) = some (l[i].ch.dv 32 dgC) := by
  rw [← List.drop_drop, fm_drop len_grC, List.drop_eq_getElem_cons h, List.flatMap_cons]
  rfl
def Grp.withCh (g : Grp) (y : Sl Dg) : Grp := ⟨g.ns, g.im, g.want, g.least, g.down, y⟩
theorem splice_ch {l : List Grp} {i : Nat} (h : i < l.length) {y : Sl Dg} : splice (l.flatMap grC) (i * 6 + 5) [y.dv 32 dgC] = (l.set i (l[i].withCh y)).flatMap grC := by
  unfold splice
  rw [List.length_singleton, show i * 6 + 5 + 1 = (i + 1) * 6 by omega, fm_drop len_grC, List.take_add, fm_take len_grC, fm_drop len_grC, List.drop_eq_getElem_cons h, List.flatMap_cons, List.set_eq_take_append_cons_drop, if_pos h, List.flatMap_append, List.flatMap_cons]
  rw [List.take_append_of_le_length (by rw [len_grC]; omega)]
  simp only [List.append_assoc]
  rfl
theorem storeO_one {h : List AObj} {id off : Nat} {v : DV} {l : List DV} (hc : v.cells = [v]) (ho : v.one = true) (hl : off < l.length) : storeO h id 1 off v (some l) = some (.junk, h.set id (.cells (splice l off [v]))) := by
  simp only [storeO, hc, List.length_cons, List.length_nil, List.all_cons, List.all_nil, ho, Bool.and_self]
  first | done | rw [if_pos ⟨trivial, by omega, trivial⟩]
theorem splice3_0 {a b c v : DV} : splice [a, b, c] 0 [v] = [v, b, c] := rfl
theorem splice3_1 {a b c v : DV} : splice [a, b, c] 1 [v] = [a, v, c] := rfl
theorem splice3_2 {a b c v : DV} : splice [a, b, c] 2 [v] = [a, b, v] := rfl
attribute [simp] splice3_0 splice3_1 splice3_2
def I3 (c : Clu) : DV := mutD (2 + (mutO c.g grC).length) 37 c.i inC
def cloneV (c : Clu) : DV := .agg [mutD 2 6 c.clone.g grC, I3 c, .int .i64 c.next]
def cloneK (c : Clu) : List AObj := .cells [mutD 2 6 c.clone.g grC, I3 c, .int .i64 c.next] :: .cells [mutD 2 6 c.clone.g grC, I3 c, .int .i64 c.next] :: (mutO c.clone.g grC ++ mutO c.i inC)
theorem clone_gl (c : Clu) : c.clone.g.l = c.g.l.map Grp.clone := rfl
theorem clone_gne {c : Clu} (h : c.g.l ≠ []) : c.clone.g.l ≠ [] := by simpa [clone_gl] using h
theorem clone_gnil {c : Clu} (h : c.g.l = []) : c.clone.g.l = [] := by simp [clone_gl, h]
theorem clone_dvnil {c : Clu} (h : c.g.l = []) : c.clone.g.clone.dv 6 grC = c.g.clone.dv 6 grC := by
  simp [Sl.clone, Clu.clone, h, Sl.dv]
theorem one_agg3 {a b c : DV} : one 3 true [a, b, c] = some (.agg [a, b, c]) := rfl
theorem storeO_agg3 {h : List AObj} {id : Nat} {a b c : DV} {l : List DV} (hl : l.length = 3) (h1 : a.one = true) (h2 : b.one = true) (h3 : c.one = true) : storeO h id 3 0 (.agg [a, b, c]) (some l) = some (.junk, h.set id (.cells [a, b, c])) := storeO_agg rfl hl (by simp [h1, h2, h3])
attribute [simp] one_agg3 storeO_agg3
def S110 (c : Clu) (oi : List AObj) (i : Nat) : St := a71S0 (.mp 0 3 0) (.mp 1 3 0) (.int .i64 c.g.l.length) (.int .i64 i) (.cells [mutD 2 6 c.g grC, I3 c, .int .i64 c.next] :: .cells [.nils, .nils, .int .i64 0] :: .cells ((gsi c.g.l i).flatMap grC) :: oi)
theorem mut_one {α : Type} {id s : Nat} {x : Sl α} {f : α → List DV} : (mutD id s x f).one = true := by
  by_cases h : x.l = []
  · rw [mutD_nil h]; exact dv_one _
  · rw [mutD_ne h]; rfl
theorem mut_cells {α : Type} {id s : Nat} {x : Sl α} {f : α → List DV} : (mutD id s x f).cells = [mutD id s x f] := by
  by_cases h : x.l = []
  · rw [mutD_nil h]; exact dv_cells _
  · rw [mutD_ne h]; rfl
theorem mut_known {α : Type} {id s : Nat} {x : Sl α} {f : α → List DV} : (mutD id s x f).known = true := by
  by_cases h : x.l = []
  · rw [mutD_nil h]; exact dv_known _
  · rw [mutD_ne h]; rfl
attribute [simp] mut_one mut_cells mut_known
def S111 (c : Clu) : St := a71S0 (.mp 0 3 0) (.mp 1 3 0) (.int .i64 c.g.clone.l.length) (.int .i64 0) (.cells [c.g.clone.dv 6 grC, mutD 2 37 c.i inC, .int .i64 c.next] :: .cells [.nils, .nils, .int .i64 0] :: mutO c.i inC)
set_option maxHeartbeats 2000000 in
theorem runs_clone (c : Clu) : RunsH T110 a71 [.agg (clC c)] [] (cloneV c) (cloneK c) := by
  refine ⟨?_⟩
  have hbg := c.g.b
  by_cases hg : c.g.l = []
  · have e1 := mutD_nil (id := 2) (s := 6) (f := grC) hg
    have e2 := mutO_nil (f := grC) hg
    have e3 := mutD_nil (id := 2) (s := 6) (f := grC) (clone_gnil hg)
    have e4 := mutO_nil (f := grC) (clone_gnil hg)
    have e5 := clone_dvnil hg
    have e6 : c.g.clone.l.length = 0 := by rw [show c.g.clone.l = c.g.l from rfl, hg]; rfl
    simp (disch := first | omega | (simp [-List.map_take, -List.map_drop, -List.map_set, -List.map_append, -List.drop_one] <;> omega) | fail) [-List.map_take, -List.map_drop, -List.map_set, -List.map_append, -List.drop_one, a71, T110_g, T110_i, cNG_eq, cNI_eq, clC, e1, e2, storeO_one]
    refine W_loop (fun _ : Nat => S111 c) (fun _ => 0) (fun _ => True) 0 (weak_same (by simp (disch := first | omega | (simp [-List.map_take, -List.map_drop, -List.map_set, -List.map_append, -List.drop_one] <;> omega) | fail) [-List.map_take, -List.map_drop, -List.map_set, -List.map_append, -List.drop_one, S111]) (by simp (disch := first | omega | (simp [-List.map_take, -List.map_drop, -List.map_set, -List.map_append, -List.drop_one] <;> omega) | fail) [-List.map_take, -List.map_drop, -List.map_set, -List.map_append, -List.drop_one, S111])) trivial (fun _ _ => ?_)
    simp (disch := first | omega | (simp [-List.map_take, -List.map_drop, -List.map_set, -List.map_append, -List.drop_one] <;> omega) | fail) [-List.map_take, -List.map_drop, -List.map_set, -List.map_append, -List.drop_one, a71L0, a71S0, S111, e6, cloneV, cloneK, I3, e2, e3, e4, e5]
  · have e1 := mutD_ne (id := 2) (s := 6) (f := grC) hg
    have e2 := mutO_ne (f := grC) hg
    have e3 := mutD_ne (id := 2) (s := 6) (f := grC) (clone_gne hg)
    have e4 := mutO_ne (f := grC) (clone_gne hg)
    have h1 := fm_len len_grC c.g.l
    simp (disch := first | omega | (simp [-List.map_take, -List.map_drop, -List.map_set, -List.map_append, -List.drop_one] <;> omega) | fail) [-List.map_take, -List.map_drop, -List.map_set, -List.map_append, -List.drop_one, a71, T110_g, T110_i, cNG_eq, cNI_eq, clC, e1, e2, h1, storeO_one]
    refine W_loop (S110 c (mutO c.i inC)) (fun i => c.g.l.length - i) (fun i => i ≤ c.g.l.length) 0 (weak_same (by simp (disch := first | omega | (simp [-List.map_take, -List.map_drop, -List.map_set, -List.map_append, -List.drop_one] <;> omega) | fail) [-List.map_take, -List.map_drop, -List.map_set, -List.map_append, -List.drop_one, I3, e1, e2]) (by simp (disch := first | omega | (simp [-List.map_take, -List.map_drop, -List.map_set, -List.map_append, -List.drop_one] <;> omega) | fail) [-List.map_take, -List.map_drop, -List.map_set, -List.map_append, -List.drop_one, gsi_zero, I3, e1, e2])) (by omega) (fun i hi => ?_)
    have h2 := fm_len len_grC (gsi c.g.l i)
    have h3 := gsi_len (l := c.g.l) (i := i)
    rw [h3] at h2
    simp (disch := first | omega | (simp [-List.map_take, -List.map_drop, -List.map_set, -List.map_append, -List.drop_one] <;> omega) | fail) [-List.map_take, -List.map_drop, -List.map_set, -List.map_append, -List.drop_one, a71L0, a71S0, S110, e1]
    by_cases h : i < c.g.l.length
    · have h' : (i : Int) < c.g.l.length := by omega
      have hi2 : i < (gsi c.g.l i).length := by omega
      have h5 : i * 6 + 5 < c.g.l.length * 6 := by omega
      have hc := one_ch hi2
      rw [gsi_get h hi2] at hc
      have hs := splice_ch hi2 (y := c.g.l[i].ch.clone)
      rw [gsi_get h hi2, show c.g.l[i].withCh c.g.l[i].ch.clone = c.g.l[i].clone from rfl, gsi_set h] at hs
      simp (disch := first | omega | (simp [-List.map_take, -List.map_drop, -List.map_set, -List.map_append, -List.drop_one] <;> omega) | fail) [-List.map_take, -List.map_drop, -List.map_set, -List.map_append, -List.drop_one, h', h, h2, hc, T110_d, cCD_eq, storeO_one, h5, hs]
      exact ⟨i + 1, weak_same (by simp (disch := first | omega | (simp [-List.map_take, -List.map_drop, -List.map_set, -List.map_append, -List.drop_one] <;> omega) | fail) [-List.map_take, -List.map_drop, -List.map_set, -List.map_append, -List.drop_one, e1]) (by simp (disch := first | omega | (simp [-List.map_take, -List.map_drop, -List.map_set, -List.map_append, -List.drop_one] <;> omega) | fail) [-List.map_take, -List.map_drop, -List.map_set, -List.map_append, -List.drop_one, e1]), by omega, by omega⟩
    · have h' : ¬ (i : Int) < c.g.l.length := by omega
      have ha := gsi_all (l := c.g.l) (i := i) (by omega)
      simp (disch := first | omega | (simp [-List.map_take, -List.map_drop, -List.map_set, -List.map_append, -List.drop_one] <;> omega) | fail) [-List.map_take, -List.map_drop, -List.map_set, -List.map_append, -List.drop_one, h, h', ha, cloneV, cloneK, I3, e2, e3, e4, clone_gl]
end Go.Proofs.YtjhakjeioppijaaDoor
