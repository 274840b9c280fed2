/-
  9 texts of mine in one.
-/
import Derived.Test.YtjhakjeioppijaaDoorM0
import Derived.Test.YtjhakjeioppijaaDoorM1
import Derived.Test.YtjhakjeioppijaaDoorM2
import Derived.Test.YtjhakjeioppijaaDoorMKwmark0
import Derived.Test.YtjhakjeioppijaaDoorMKwmark1
/-
  Made clusters.
-/
set_option linter.unusedSimpArgs false
set_option linter.unusedVariables false
namespace Go.Proofs.YtjhakjeioppijaaDoor
open Go Go.Am

/-! bounds of made groups -/
theorem gLoop_at (x : Sl Dg) : ∀ (k : Nat) (t : Tp) (l : List Dg), (gLoop x k t l).2.at_ ≤ t.at_ + 3 * k
  | 0, t, l => Nat.le_refl _
  | k + 1, t, l => by
    have h1 := gLoop_at x k (gOne x t).2 (gAdd l (gOne x t).1)
    have h2 := gOne_at x t
    show (gLoop x k (gOne x t).2 (gAdd l (gOne x t).1)).2.at_ ≤ _
    omega
theorem groupV_at (t : Tp) (x : Sl Dg) : (groupV t x).2.at_ ≤ t.at_ + 15 := by
  have n5 := tpN_lo (t.adv 5) 3
  have n6 := tpN_hi (t.adv 5) (n := 3) (by omega)
  have := gLoop_at x ((tpN (t.adv 5) 3).toNat + 1) (t.adv 6) []
  simp only [groupV, adv_at] at this ⊢
  omega
noncomputable def cGrp : List DV → List DV → Option (DV × List DV) := conT (fun a : Tp × Sl Dg => a.1.at_ < 3999999000 ∧ 1 ≤ a.2.l.length) (fun a => [a.2.dv 32 dgC]) (fun a => tpC a.1) (fun a => (.agg (grC (groupV a.1 a.2).1), tpC (groupV a.1 a.2).2))
theorem cGrp_eq {t : Tp} {x : Sl Dg} (h1 : t.at_ < 3999999000) (h2 : 1 ≤ x.l.length) : cGrp [x.dv 32 dgC] (tpC t) = some (.agg (grC (groupV t x).1), tpC (groupV t x).2) :=
  conT_eq (A := fun a : Tp × Sl Dg => a.1.at_ < 3999999000 ∧ 1 ≤ a.2.l.length) (f := fun a => [a.2.dv 32 dgC]) (s := fun a => tpC a.1) (by
    rintro ⟨a, n⟩ ⟨b, m⟩ e1 e2
    simp only [List.cons.injEq, and_true] at e1
    rw [dgs_inj e1, tpC_inj e2]) (t, x) ⟨h1, h2⟩
theorem grp_sound : (Con.tch cGrp).Sound P 34 :=
  conT_sound (fun a _ => ⟨by simp [pureL], pure_tpC _, by simp [pureD], pure_tpC _⟩) fun a h => calls_runsF mix T160_sound Tryd.func34 a34_ok (runs_group_made a.1 a.2 h.1 h.2) (Nat.le_refl _)

/-! clusters -/
def arts3 : Sl Dg := ⟨some true, [dgW 1#8, dgW 2#8, dgW 3#8], by simp, by simp⟩
def nilI : Sl Ins := ⟨none, [], fun _ => rfl, by simp⟩
def nilG : Sl Grp := ⟨none, [], fun _ => rfl, by simp⟩
noncomputable def dOne (c : Clu) (t : Tp) : Clu := if (deployR c (groupV t arts3).1).2 = 0 then (deployR c (groupV t arts3).1).1 else c
noncomputable def dLoop : Nat → Clu → Tp → Clu × Tp
  | 0, c, t => (c, t)
  | k + 1, c, t => dLoop k (dOne c t) (groupV t arts3).2
def iIns (n : Nat) (next : Int) (t : Tp) : Ins := ⟨next, tpN t n, arts3.l.getD (tpN (tpS t n) 3).toNat dg0, 1 + tpN ((tpS t n).adv 1) 3, tpN ((tpS t n).adv 2) 30, if tpN ((tpS t n).adv 3) 3 = 0 then tpN ((tpS t n).adv 4) 30 else -1⟩
def iTp (n : Nat) (t : Tp) : Tp := if tpN ((tpS t n).adv 3) 3 = 0 then (tpS t n).adv 5 else (tpS t n).adv 4
def iLoop (n : Nat) : Nat → List Ins → Int → Tp → List Ins × Int × Tp
  | 0, l, next, t => (l, next, t)
  | k + 1, l, next, t => iLoop n k (l ++ [iIns n next t]) (next + (1 + tpN (iTp n t) 2)) ((iTp n t).adv 1)
def cl0 (t : Tp) : Clu := ⟨nilG, nilI, 1 + tpN t 4⟩
noncomputable def clD (t : Tp) : Clu × Tp := dLoop ((tpN (t.adv 1) 2).toNat + 1) (cl0 t) (t.adv 2)
noncomputable def clI (t : Tp) (m : Int) : List Ins × Int × Tp := iLoop (clD t).1.g.l.length (tpN (clD t).2 (m + 1)).toNat [] (clD t).1.next ((clD t).2.adv 1)
noncomputable def clusterV (t : Tp) (m : Int) : Clu × Tp := (⟨(clD t).1.g, if (clI t m).1 = [] then nilI else own (clI t m).1, (clI t m).2.1⟩, (clI t m).2.2)
theorem deployR_i {c : Clu} {g : Grp} (h : (deployR c g).2 = 0) (hi : c.i = nilI) : (deployR c g).1.i = nilI := by
  have hc : nilI.copy = nilI := rfl
  unfold deployR at h ⊢
  split at h <;> try (simp at h; done)
  rename_i h1
  rw [if_neg h1]
  split at h
  · rename_i h2
    rw [if_pos h2]
    split at h <;> try (simp at h; done)
    rename_i h3
    rw [if_neg h3, hi]; rfl
  · rename_i h2
    rw [if_neg h2, hi]; rfl
theorem dOne_i {c : Clu} {t : Tp} (hi : c.i = nilI) : (dOne c t).i = nilI := by
  unfold dOne; split
  · rename_i h; exact deployR_i h hi
  · exact hi
theorem dLoop_i : ∀ (k : Nat) (c : Clu) (t : Tp), c.i = nilI → (dLoop k c t).1.i = nilI
  | 0, _, _, h => h
  | k + 1, c, t, h => dLoop_i k _ _ (dOne_i h)
theorem dLoop_at : ∀ (k : Nat) (c : Clu) (t : Tp), (dLoop k c t).2.at_ ≤ t.at_ + 15 * k
  | 0, _, _ => Nat.le_refl _
  | k + 1, c, t => by
    have h1 := dLoop_at k (dOne c t) (groupV t arts3).2
    have h2 := groupV_at t arts3
    show (dLoop k (dOne c t) (groupV t arts3).2).2.at_ ≤ _
    omega
theorem iTp_at (n : Nat) (t : Tp) : (iTp n t).at_ ≤ t.at_ + 6 := by
  have := tpS_at t n
  unfold iTp; split <;> simp <;> omega

noncomputable def cDepR (g : Clu → Grp → DV) : List DV → Option DV := con (fun _ => True) (fun p : Clu × Grp => [.agg (clC p.1), .agg (grC p.2)]) (fun p => g p.1 p.2)
theorem cDepR_eq {f : Clu → Grp → DV} {c : Clu} {g : Grp} : cDepR f [.agg (clC c), .agg (grC g)] = some (f c g) :=
  con_inj (f := fun p : Clu × Grp => [.agg (clC p.1), .agg (grC p.2)]) (by
    rintro ⟨a, b⟩ ⟨a', b'⟩ e
    simp only [List.cons.injEq, DV.agg.injEq, and_true] at e
    rw [clC_inj e.1, grC_inj e.2]) (c, g)
noncomputable def T180 : Tbl := addT 28 (.tch cNext) (addT 34 (.tch cGrp) (addT 36 (.pure (cDepR deployRB)) tbl0))
theorem T180_n : T180 28 = .tch cNext := by simp [T180]
theorem T180_g : T180 34 = .tch cGrp := by simp [T180]
theorem T180_d : T180 36 = .pure (cDepR deployRB) := by simp [T180]
theorem T180_sound : T180.Sound P := addT_sound next_sound (addT_sound grp_sound (addT_sound (con_sound fun p _ => sem_runs mix T170_sound Tryd.func36 a36_ok (runs_refdeploy p.1 p.2)) tbl0_sound))
theorem arts_dv : arts3.dv 32 dgC = .sl true 32 3 (dgC (dgW 1#8) ++ (dgC (dgW 2#8) ++ dgC (dgW 3#8))) := by simp [arts3, Sl.dv, slD]
structure DS where
  k : Nat
  c : Clu
  t : Tp
def S180 (m : Int) (a : DS) : St := a27S0 (.mp 0 2 0) (.int .i64 m) (.mp 1 3 0) (arts3.dv 32 dgC) (.mp 2 3 0) (.int .i64 a.k) [.cells (tpC a.t), .cells [.nils, .nils, .int .i64 0], .cells (clC a.c)]
theorem bsl_arts : bslD 32 3 (dgC dg0) [(0, 32, .agg (dgC (dgW 1#8))), (32, 32, .agg (dgC (dgW 2#8))), (64, 32, .agg (dgC (dgW 3#8)))] = some (arts3.dv 32 dgC) := by
  rw [bslD_of (by simp [DV.known]) (by simp [seqD, DV.cells])]; simp [seqD, DV.cells, arts3, Sl.dv, slD]
theorem build_n {n : Int} : buildD [.nils, .nils, .int .i64 0] [(2, 1, .int .i64 n)] = some (.agg [.nils, .nils, .int .i64 n]) := rfl
theorem deployR_next {c : Clu} {g : Grp} (h : (deployR c g).2 = 0) : (deployR c g).1.next = c.next := by
  unfold deployR at h ⊢
  split at h <;> try (simp at h; done)
  rename_i h1
  rw [if_neg h1]
  split at h
  · rename_i h2
    rw [if_pos h2]
    split at h <;> try (simp at h; done)
    rename_i h3
    rw [if_neg h3]
  · rename_i h2
    rw [if_neg h2]
theorem dOne_next {c : Clu} {t : Tp} : (dOne c t).next = c.next := by
  unfold dOne; split
  · rename_i h; exact deployR_next h
  · rfl
theorem dLoop_next : ∀ (k : Nat) (c : Clu) (t : Tp), (dLoop k c t).1.next = c.next
  | 0, _, _ => rfl
  | k + 1, c, t => (dLoop_next k _ _).trans dOne_next
structure IS where
  k : Nat
  l : List Ins
  n : Int
  t : Tp
  x : Ins
def iH (g : Sl Grp) (a : IS) : List AObj := if a.l = [] then [.cells (tpC a.t), .cells [.nils, .nils, .int .i64 0], .cells [g.dv 6 grC, .nils, .int .i64 a.n]] else
  [.cells (tpC a.t), .cells [.nils, .nils, .int .i64 0], .cells [g.dv 6 grC, .ms 4 (a.l.length * 37) 0 37 a.l.length (a.l.length * 37), .int .i64 a.n], .cells (inC a.x), .cells (a.l.flatMap inC)]
theorem iH_nil {g : Sl Grp} {a : IS} (h : a.l = []) : iH g a = [.cells (tpC a.t), .cells [.nils, .nils, .int .i64 0], .cells [g.dv 6 grC, .nils, .int .i64 a.n]] := if_pos h
theorem iH_ne {g : Sl Grp} {a : IS} (h : a.l ≠ []) : iH g a = [.cells (tpC a.t), .cells [.nils, .nils, .int .i64 0], .cells [g.dv 6 grC, .ms 4 (a.l.length * 37) 0 37 a.l.length (a.l.length * 37), .int .i64 a.n], .cells (inC a.x), .cells (a.l.flatMap inC)] := if_neg h
def S181 (g : Sl Grp) (a : IS) : St := a27S1 (.mp 0 2 0) (.mp 1 3 0) (arts3.dv 32 dgC) (.mp 2 3 0) (.int .i64 a.k) (iH g a)
def in0 : Ins := ⟨0, 0, dg0, 0, 0, 0⟩
theorem zero_in : [DV.int .i64 0, .int .i64 0, w8 0#8, w8 0#8, w8 0#8, w8 0#8, w8 0#8, w8 0#8, w8 0#8, w8 0#8, w8 0#8, w8 0#8, w8 0#8, w8 0#8, w8 0#8, w8 0#8, w8 0#8, w8 0#8, w8 0#8, w8 0#8, w8 0#8, w8 0#8, w8 0#8, w8 0#8, w8 0#8, w8 0#8, w8 0#8, w8 0#8, w8 0#8, w8 0#8, w8 0#8, w8 0#8, w8 0#8, w8 0#8, .int .i64 0, .int .i64 0, .int .i64 0] = inC in0 := rfl
theorem set_de (x : Ins) (v : Int) : (inC x).set 36 (.int .i64 v) = inC ⟨x.id, x.grp, x.art, x.state, x.since, v⟩ := by
  have h := len_pre x
  rw [inC_split, inC_split, List.set_append_right _ _ (by omega), h]
  rfl
set_option maxHeartbeats 2000000 in
theorem runs_cluster_made (t : Tp) (m : Int) (ht : t.at_ < 3990000000) (h0 : 0 ≤ m) (h1 : m ≤ 1000) : RunsF T180 a27 [.mp 0 2 0, .int .i64 m] [.cells (tpC t)] (.agg (clC (clusterV t m).1)) [.cells (tpC (clusterV t m).2)] := by
  refine ⟨?_⟩
  have n1 := tpN_lo t 4
  have n2 := tpN_hi t (n := 4) (by omega)
  have n3 := tpN_lo (t.adv 1) 2
  have n4 := tpN_hi (t.adv 1) (n := 2) (by omega)
  obtain ⟨N, hN⟩ : ∃ N : Nat, tpN (t.adv 1) 2 = N := ⟨_, (Int.toNat_of_nonneg n3).symm⟩
  simp (disch := first | omega | (simp [-List.map_take, -List.map_drop, -List.map_set, -List.map_append, -List.drop_one] <;> omega) | fail) [-List.map_take, -List.map_drop, -List.map_set, -List.map_append, -List.drop_one, a27, T180_n, cNext_pos, adv_adv, build_dg, bsl_arts, build_n, hN]
  refine W_loop (S180 m) (fun a => a.k) (fun a => dLoop a.k a.c a.t = clD t ∧ a.t.at_ + 100 * a.k < 3995000000 ∧ a.c.i = nilI ∧ a.c.next = 1 + tpN t 4) ⟨N + 1, cl0 t, t.adv 2⟩ ?_ ?_ (fun a ha => ?_)
  · exact weak_same (by simp (disch := first | omega | (simp [-List.map_take, -List.map_drop, -List.map_set, -List.map_append, -List.drop_one] <;> omega) | fail) [-List.map_take, -List.map_drop, -List.map_set, -List.map_append, -List.drop_one, S180, a27S0, arts_dv, show (1 + (N : Int)) = N + 1 from Int.add_comm _ _]) (by simp (disch := first | omega | (simp [-List.map_take, -List.map_drop, -List.map_set, -List.map_append, -List.drop_one] <;> omega) | fail) [-List.map_take, -List.map_drop, -List.map_set, -List.map_append, -List.drop_one, S180, cl0, clC_mk, nilG, nilI, Sl.dv, slD_none])
  · exact ⟨by simp [clD, hN], by simp; omega, rfl, rfl⟩
  obtain ⟨k, c, u⟩ := a
  obtain ⟨r1, r2, r3, r4⟩ := ha
  simp only at r1 r2 r3 r4
  simp (disch := first | omega | (simp [-List.map_take, -List.map_drop, -List.map_set, -List.map_append, -List.drop_one] <;> omega) | fail) [-List.map_take, -List.map_drop, -List.map_set, -List.map_append, -List.drop_one, a27L0, a27S0, S180]
  by_cases hk : 0 < k
  · obtain ⟨k, rfl⟩ : ∃ k', k = k' + 1 := ⟨k - 1, by omega⟩
    have hk' : (0 : Int) < ((k + 1 : Nat) : Int) := by omega
    have g1 := groupV_at u arts3
    have r1' : dLoop k (dOne c u) (groupV u arts3).2 = clD t := r1
    have ha3 : 1 ≤ arts3.l.length := by simp [arts3]
    have hdi := dOne_i (t := u) r3
    have hdn := dOne_next (c := c) (t := u)
    obtain ⟨G, hG⟩ : ∃ G, (groupV u arts3).1 = G := ⟨_, rfl⟩
    obtain ⟨V, hV⟩ : ∃ V, (groupV u arts3).2 = V := ⟨_, rfl⟩
    obtain ⟨E, hE⟩ : ∃ E, deployR c G = E := ⟨_, rfl⟩
    rw [hV] at g1 r1'
    by_cases he : E.2 = 0
    · have hd : dOne c u = E.1 := by rw [dOne, hG, hE, if_pos he]
      simp (disch := first | omega | (simp [-List.map_take, -List.map_drop, -List.map_set, -List.map_append, -List.drop_one] <;> omega) | fail) [-List.map_take, -List.map_drop, -List.map_set, -List.map_append, -List.drop_one, T180_g, T180_d, cGrp_eq, cDepR_eq, deployRB, hG, hV, hE, he, ha3]
      refine ⟨⟨k, E.1, V⟩, weak_drop (tail := [.cells (clC E.1)]) (by simp (disch := first | omega | (simp [-List.map_take, -List.map_drop, -List.map_set, -List.map_append, -List.drop_one] <;> omega) | fail) [-List.map_take, -List.map_drop, -List.map_set, -List.map_append, -List.drop_one, S180, a27S0]) (by simp (disch := first | omega | (simp [-List.map_take, -List.map_drop, -List.map_set, -List.map_append, -List.drop_one] <;> omega) | fail) [-List.map_take, -List.map_drop, -List.map_set, -List.map_append, -List.drop_one, S180]) (by simp [S180, a27S0]) (by simp [S180, a27S0, Am.belowL, Am.below]) (by simp [S180, a27S0, belowH, Am.belowL, Am.below, belowL_pure _ _ (pure_tpC _)]), by simp, by rw [← hd]; exact r1', by simp; omega, by rw [← hd]; exact hdi, by rw [← hd, hdn]; exact r4⟩
    · have hd : dOne c u = c := by rw [dOne, hG, hE, if_neg he]
      simp (disch := first | omega | (simp [-List.map_take, -List.map_drop, -List.map_set, -List.map_append, -List.drop_one] <;> omega) | fail) [-List.map_take, -List.map_drop, -List.map_set, -List.map_append, -List.drop_one, T180_g, T180_d, cGrp_eq, cDepR_eq, deployRB, hG, hV, hE, he, ha3]
      refine ⟨⟨k, c, V⟩, weak_drop (tail := [.cells (clC E.1)]) (by simp (disch := first | omega | (simp [-List.map_take, -List.map_drop, -List.map_set, -List.map_append, -List.drop_one] <;> omega) | fail) [-List.map_take, -List.map_drop, -List.map_set, -List.map_append, -List.drop_one, S180, a27S0]) (by simp (disch := first | omega | (simp [-List.map_take, -List.map_drop, -List.map_set, -List.map_append, -List.drop_one] <;> omega) | fail) [-List.map_take, -List.map_drop, -List.map_set, -List.map_append, -List.drop_one, S180]) (by simp [S180, a27S0]) (by simp [S180, a27S0, Am.belowL, Am.below]) (by simp [S180, a27S0, belowH, Am.belowL, Am.below, belowL_pure _ _ (pure_tpC _)]), by simp, by rw [hd] at r1'; exact r1', by simp; omega, r3, r4⟩
  obtain rfl : k = 0 := by omega
  have ec : clD t = (c, u) := r1.symm
  have m1 := tpN_lo u (m + 1)
  have m2 := tpN_hi u (n := m + 1) (by omega)
  obtain ⟨K, hK⟩ : ∃ K : Nat, tpN u (m + 1) = K := ⟨_, (Int.toNat_of_nonneg m1).symm⟩
  obtain ⟨g, ci, nx⟩ := c
  simp only at r3 r4
  subst r3
  have hI : clI t m = iLoop g.l.length K [] nx (u.adv 1) := by rw [clI, ec]; simp only [hK, Int.toNat_natCast]
  obtain ⟨r, hr⟩ : ∃ r, iLoop g.l.length K [] nx (u.adv 1) = r := ⟨_, rfl⟩
  have hcv : clusterV t m = (⟨g, if r.1 = [] then nilI else own r.1, r.2.1⟩, r.2.2) := by rw [clusterV, hI, hr, ec]
  rw [hcv]
  have hgb := g.b
  simp (disch := first | omega | (simp [-List.map_take, -List.map_drop, -List.map_set, -List.map_append, -List.drop_one] <;> omega) | fail) [-List.map_take, -List.map_drop, -List.map_set, -List.map_append, -List.drop_one, T180_n, cNext_pos, hK]
  refine W_loop (S181 g) (fun a => a.k) (fun a => iLoop g.l.length a.k a.l a.n a.t = r ∧ a.t.at_ + 100 * a.k < 3999999000 ∧ 0 ≤ a.n ∧ a.n + 2 * a.k ≤ 10000 ∧ a.l.length + a.k ≤ 2000) ⟨K, [], nx, u.adv 1, in0⟩ ?_ ?_ (fun a ha => ?_)
  · rw [S181, iH_nil rfl]
    exact weak_same (by simp (disch := first | omega | (simp [-List.map_take, -List.map_drop, -List.map_set, -List.map_append, -List.drop_one] <;> omega) | fail) [-List.map_take, -List.map_drop, -List.map_set, -List.map_append, -List.drop_one, a27S1]) (by simp (disch := first | omega | (simp [-List.map_take, -List.map_drop, -List.map_set, -List.map_append, -List.drop_one] <;> omega) | fail) [-List.map_take, -List.map_drop, -List.map_set, -List.map_append, -List.drop_one, clC_mk, nilI, Sl.dv, slD_none])
  · exact ⟨hr, by simp; omega, by simp; omega, by simp; omega, by simp; omega⟩
  clear r1 r2
  obtain ⟨k, l, n, v, x0⟩ := a
  obtain ⟨r1, r2, q1, q2, q3⟩ := ha
  simp only at r1 r2 q1 q2 q3
  by_cases hk : 0 < k
  · obtain ⟨k, rfl⟩ : ∃ k', k = k' + 1 := ⟨k - 1, by omega⟩
    have hk' : (0 : Int) < ((k + 1 : Nat) : Int) := by omega
    have hU := tpS_at v g.l.length
    obtain ⟨U, hUe⟩ : ∃ U, tpS v g.l.length = U := ⟨_, rfl⟩
    rw [hUe] at hU
    have p1 := tpN_lo U 3
    have p2 := tpN_hi U (n := 3) (by omega)
    obtain ⟨M, hM⟩ : ∃ M : Nat, tpN U 3 = M := ⟨_, (Int.toNat_of_nonneg p1).symm⟩
    have hM3 : M < arts3.l.length := by simp [arts3]; omega
    have hget : ∀ H, idxSD H 32 (arts3.dv 32 dgC) M = some (.ref (dgC arts3.l[M])) := fun H => idxSD_dv len_dgC hM3
    have hap : ∀ b, apartD (arts3.dv 32 dgC) b = b.known := fun b => apart_pure rfl
    have p3 := tpN_lo (U.adv 1) 3
    have p4 := tpN_hi (U.adv 1) (n := 3) (by omega)
    by_cases hz : tpN (U.adv 3) 3 = 0
    · skip
      have hj1 := tpN_lo (U.adv 5) 2
      have hj2 := tpN_hi (U.adv 5) (n := 2) (by omega)
      obtain ⟨J, hj⟩ : ∃ J, tpN (U.adv 5) 2 = J := ⟨_, rfl⟩
      rw [hj] at hj1 hj2
      have hx : iIns g.l.length n v = ⟨n, tpN v g.l.length, arts3.l[M], 1 + tpN (U.adv 1) 3, tpN (U.adv 2) 30, (tpN (U.adv 4) 30)⟩ := by
        simp only [iIns, hUe, hM, Int.toNat_natCast, List.getD_eq_getElem?_getD, List.getElem?_eq_getElem hM3, Option.getD_some, hz, if_true, if_false]
      have hT : iTp g.l.length v = (U.adv 5) := by simp only [iTp, hUe, hz, if_true, if_false]
      have r1' : iLoop g.l.length k (l ++ [iIns g.l.length n v]) (n + (1 + tpN (iTp g.l.length v) 2)) ((iTp g.l.length v).adv 1) = r := r1
      rw [hx, hT, hj, adv_adv] at r1'
      have hfold0 : (DV.int .i64 n :: DV.int .i64 (tpN v g.l.length) :: (dgC arts3.l[M] ++ [DV.int .i64 (1 + tpN (U.adv 1) 3), DV.int .i64 (tpN (U.adv 2) 30), DV.int .i64 (-1)])) = inC ⟨n, tpN v g.l.length, arts3.l[M], 1 + tpN (U.adv 1) 3, tpN (U.adv 2) 30, -1⟩ := rfl
      have hfold : (DV.int .i64 n :: DV.int .i64 (tpN v g.l.length) :: (dgC arts3.l[M] ++ [DV.int .i64 (1 + tpN (U.adv 1) 3), DV.int .i64 (tpN (U.adv 2) 30), DV.int .i64 (tpN (U.adv 4) 30)])) = inC ⟨n, tpN v g.l.length, arts3.l[M], 1 + tpN (U.adv 1) 3, tpN (U.adv 2) 30, tpN (U.adv 4) 30⟩ := rfl
      by_cases hl : l = []
      · skip
        subst hl
        rw [S181, iH_nil rfl]
        simp (disch := first | omega | (simp [-List.map_take, -List.map_drop, -List.map_set, -List.map_append, -List.drop_one] <;> omega) | fail) [-List.map_take, -List.map_drop, -List.map_set, -List.map_append, -List.drop_one, a27L1, a27S1, T180_n, cNext_pos, cNext_eq, adv_adv, hUe, hM, hget, storeO_one, zero_in, build_i, bsl_i, splice_de, hk', hz, hj, hap, hfold0, Ins.de, set_de, hfold]
        refine ⟨⟨k, [(⟨n, tpN v g.l.length, arts3.l[M], 1 + tpN (U.adv 1) 3, tpN (U.adv 2) 30, (tpN (U.adv 4) 30)⟩ : Ins)], n + (1 + J), (U.adv 6), (⟨n, tpN v g.l.length, arts3.l[M], 1 + tpN (U.adv 1) 3, tpN (U.adv 2) 30, (tpN (U.adv 4) 30)⟩ : Ins)⟩, ?_, by simp, by simpa using r1', by simp; omega, by simp; omega, by simp; omega, by simp at q3 ⊢; omega⟩
        rw [S181, iH_ne (by simp)]
        exact weak_same (by simp (disch := first | omega | (simp [-List.map_take, -List.map_drop, -List.map_set, -List.map_append, -List.drop_one] <;> omega) | fail) [-List.map_take, -List.map_drop, -List.map_set, -List.map_append, -List.drop_one, a27S1]) (by simp (disch := first | omega | (simp [-List.map_take, -List.map_drop, -List.map_set, -List.map_append, -List.drop_one] <;> omega) | fail) [-List.map_take, -List.map_drop, -List.map_set, -List.map_append, -List.drop_one, Ins.de])
      · have hlen := fm_len len_inC l
        have hpl := fm_pure pure_inC l
        rw [S181, iH_ne hl]
        simp (disch := first | omega | (simp [-List.map_take, -List.map_drop, -List.map_set, -List.map_append, -List.drop_one] <;> omega) | fail) [-List.map_take, -List.map_drop, -List.map_set, -List.map_append, -List.drop_one, a27L1, a27S1, T180_n, cNext_pos, cNext_eq, adv_adv, hUe, hM, hget, storeO_one, zero_in, build_i, bsl_i, splice_de, hk', hz, hj, hap, hfold0, Ins.de, set_de, hfold, hlen]
        refine ⟨⟨k, l ++ [(⟨n, tpN v g.l.length, arts3.l[M], 1 + tpN (U.adv 1) 3, tpN (U.adv 2) 30, (tpN (U.adv 4) 30)⟩ : Ins)], n + (1 + J), (U.adv 6), x0⟩, ?_, by simp, r1', by simp; omega, by simp; omega, by simp; omega, by simp at q3 ⊢; omega⟩
        rw [S181, iH_ne (by simp)]
        exact weak_drop (tail := [.cells (inC (⟨n, tpN v g.l.length, arts3.l[M], 1 + tpN (U.adv 1) 3, tpN (U.adv 2) 30, (tpN (U.adv 4) 30)⟩ : Ins))]) (by simp (disch := first | omega | (simp [-List.map_take, -List.map_drop, -List.map_set, -List.map_append, -List.drop_one] <;> omega) | fail) [-List.map_take, -List.map_drop, -List.map_set, -List.map_append, -List.drop_one, a27S1]) (by simp (disch := first | omega | (simp [-List.map_take, -List.map_drop, -List.map_set, -List.map_append, -List.drop_one] <;> omega) | fail) [-List.map_take, -List.map_drop, -List.map_set, -List.map_append, -List.drop_one, Nat.add_mul, Ins.de]) (by simp [a27S1]) (by simp [a27S1, Am.belowL, Am.below]) (by simp [a27S1, belowH, Am.belowL, Am.below, belowL_pure _ _ (pure_tpC _), belowL_pure _ _ (pureL_append hpl (pure_inC _))])
    · skip
      have hj1 := tpN_lo (U.adv 4) 2
      have hj2 := tpN_hi (U.adv 4) (n := 2) (by omega)
      obtain ⟨J, hj⟩ : ∃ J, tpN (U.adv 4) 2 = J := ⟨_, rfl⟩
      rw [hj] at hj1 hj2
      have hx : iIns g.l.length n v = ⟨n, tpN v g.l.length, arts3.l[M], 1 + tpN (U.adv 1) 3, tpN (U.adv 2) 30, (-1)⟩ := by
        simp only [iIns, hUe, hM, Int.toNat_natCast, List.getD_eq_getElem?_getD, List.getElem?_eq_getElem hM3, Option.getD_some, hz, if_true, if_false]
      have hT : iTp g.l.length v = (U.adv 4) := by simp only [iTp, hUe, hz, if_true, if_false]
      have r1' : iLoop g.l.length k (l ++ [iIns g.l.length n v]) (n + (1 + tpN (iTp g.l.length v) 2)) ((iTp g.l.length v).adv 1) = r := r1
      rw [hx, hT, hj, adv_adv] at r1'
      have hfold0 : (DV.int .i64 n :: DV.int .i64 (tpN v g.l.length) :: (dgC arts3.l[M] ++ [DV.int .i64 (1 + tpN (U.adv 1) 3), DV.int .i64 (tpN (U.adv 2) 30), DV.int .i64 (-1)])) = inC ⟨n, tpN v g.l.length, arts3.l[M], 1 + tpN (U.adv 1) 3, tpN (U.adv 2) 30, -1⟩ := rfl
      by_cases hl : l = []
      · skip
        subst hl
        rw [S181, iH_nil rfl]
        simp (disch := first | omega | (simp [-List.map_take, -List.map_drop, -List.map_set, -List.map_append, -List.drop_one] <;> omega) | fail) [-List.map_take, -List.map_drop, -List.map_set, -List.map_append, -List.drop_one, a27L1, a27S1, T180_n, cNext_pos, cNext_eq, adv_adv, hUe, hM, hget, storeO_one, zero_in, build_i, bsl_i, splice_de, hk', hz, hj, hap, hfold0, Ins.de, set_de]
        refine ⟨⟨k, [(⟨n, tpN v g.l.length, arts3.l[M], 1 + tpN (U.adv 1) 3, tpN (U.adv 2) 30, (-1)⟩ : Ins)], n + (1 + J), (U.adv 5), (⟨n, tpN v g.l.length, arts3.l[M], 1 + tpN (U.adv 1) 3, tpN (U.adv 2) 30, (-1)⟩ : Ins)⟩, ?_, by simp, by simpa using r1', by simp; omega, by simp; omega, by simp; omega, by simp at q3 ⊢; omega⟩
        rw [S181, iH_ne (by simp)]
        exact weak_same (by simp (disch := first | omega | (simp [-List.map_take, -List.map_drop, -List.map_set, -List.map_append, -List.drop_one] <;> omega) | fail) [-List.map_take, -List.map_drop, -List.map_set, -List.map_append, -List.drop_one, a27S1]) (by simp (disch := first | omega | (simp [-List.map_take, -List.map_drop, -List.map_set, -List.map_append, -List.drop_one] <;> omega) | fail) [-List.map_take, -List.map_drop, -List.map_set, -List.map_append, -List.drop_one, Ins.de])
      · have hlen := fm_len len_inC l
        have hpl := fm_pure pure_inC l
        rw [S181, iH_ne hl]
        simp (disch := first | omega | (simp [-List.map_take, -List.map_drop, -List.map_set, -List.map_append, -List.drop_one] <;> omega) | fail) [-List.map_take, -List.map_drop, -List.map_set, -List.map_append, -List.drop_one, a27L1, a27S1, T180_n, cNext_pos, cNext_eq, adv_adv, hUe, hM, hget, storeO_one, zero_in, build_i, bsl_i, splice_de, hk', hz, hj, hap, hfold0, Ins.de, set_de, hlen]
        refine ⟨⟨k, l ++ [(⟨n, tpN v g.l.length, arts3.l[M], 1 + tpN (U.adv 1) 3, tpN (U.adv 2) 30, (-1)⟩ : Ins)], n + (1 + J), (U.adv 5), x0⟩, ?_, by simp, r1', by simp; omega, by simp; omega, by simp; omega, by simp at q3 ⊢; omega⟩
        rw [S181, iH_ne (by simp)]
        exact weak_drop (tail := [.cells (inC (⟨n, tpN v g.l.length, arts3.l[M], 1 + tpN (U.adv 1) 3, tpN (U.adv 2) 30, (-1)⟩ : Ins))]) (by simp (disch := first | omega | (simp [-List.map_take, -List.map_drop, -List.map_set, -List.map_append, -List.drop_one] <;> omega) | fail) [-List.map_take, -List.map_drop, -List.map_set, -List.map_append, -List.drop_one, a27S1]) (by simp (disch := first | omega | (simp [-List.map_take, -List.map_drop, -List.map_set, -List.map_append, -List.drop_one] <;> omega) | fail) [-List.map_take, -List.map_drop, -List.map_set, -List.map_append, -List.drop_one, Nat.add_mul, Ins.de]) (by simp [a27S1]) (by simp [a27S1, Am.belowL, Am.below]) (by simp [a27S1, belowH, Am.belowL, Am.below, belowL_pure _ _ (pure_tpC _), belowL_pure _ _ (pureL_append hpl (pure_inC _))])
  · obtain rfl : k = 0 := by omega
    have er : r = (l, n, v) := r1.symm
    subst er
    have hfz : ∀ k, fzL 1 k (tpC v) (tpC v) := fun k => fzL_clean (pure_tpC _)
    have hfg : ∀ H k, fz 1 H k (g.dv 6 grC) = some (g.dv 6 grC) := fun H k => fz_clean (pure_dv6 g)
    have hni : nilI.dv 37 inC = .nils := rfl
    by_cases hl : l = []
    · subst hl
      rw [S181, iH_nil rfl]
      simp (disch := first | omega | (simp [-List.map_take, -List.map_drop, -List.map_set, -List.map_append, -List.drop_one] <;> omega) | fail) [-List.map_take, -List.map_drop, -List.map_set, -List.map_append, -List.drop_one, a27L1, a27S1, hfz, hfg, hni, clC_mk]
    · have hlen := fm_len len_inC l
      have hpl := fm_pure pure_inC l
      have htk := take_ins (l := l) (Nat.le_refl _)
      rw [S181, iH_ne hl]
      simp (disch := first | omega | (simp [-List.map_take, -List.map_drop, -List.map_set, -List.map_append, -List.drop_one] <;> omega) | fail) [-List.map_take, -List.map_drop, -List.map_set, -List.map_append, -List.drop_one, a27L1, a27S1, hfz, hfg, clC_mk, hlen, htk, hl, own_dv, fzLo_clean hpl]
noncomputable def cClu : List DV → List DV → Option (DV × List DV) := conT (fun a : Tp × Int => a.1.at_ < 3990000000 ∧ 0 ≤ a.2 ∧ a.2 ≤ 1000) (fun a => [.int .i64 a.2]) (fun a => tpC a.1) (fun a => (.agg (clC (clusterV a.1 a.2).1), tpC (clusterV a.1 a.2).2))
theorem cClu_eq {t : Tp} {m : Int} (h1 : t.at_ < 3990000000) (h2 : 0 ≤ m) (h3 : m ≤ 1000) : cClu [.int .i64 m] (tpC t) = some (.agg (clC (clusterV t m).1), tpC (clusterV t m).2) :=
  conT_eq (A := fun a : Tp × Int => a.1.at_ < 3990000000 ∧ 0 ≤ a.2 ∧ a.2 ≤ 1000) (f := fun a => [.int .i64 a.2]) (s := fun a => tpC a.1) (by
    rintro ⟨a, n⟩ ⟨b, m⟩ e1 e2
    simp only [List.cons.injEq, DV.int.injEq, true_and, and_true] at e1
    rw [e1, tpC_inj e2]) (t, m) ⟨h1, h2, h3⟩
theorem clu_sound : (Con.tch cClu).Sound P 27 :=
  conT_sound (fun a _ => ⟨rfl, pure_tpC _, by simp [pureD], pure_tpC _⟩) fun a h => calls_runsF mix T180_sound Tryd.func27 a27_ok (runs_cluster_made a.1 a.2 h.1 h.2.1 h.2.2) (Nat.le_refl _)
end Go.Proofs.YtjhakjeioppijaaDoor
/-
  Mark of the program.
-/
set_option linter.unusedSimpArgs false
set_option linter.unusedVariables false
namespace Go.Proofs.YtjhakjeioppijaaDoor
open Go Go.Am

def inB (b : Bool) : List DV := [.bool b]
theorem len_inB (b : Bool) : (inB b).length = 1 := rfl
theorem pure_inB (b : Bool) : pureL (inB b) = true := rfl
def markI (den : List Bool) (t : Int) (i : Nat) (x : Ins) : Ins := if den.getD i false = true then (if x.den = -1 then x.de t else x) else x.de (-1)
def markL (den : List Bool) (t : Int) (l : List Ins) : List Ins := l.mapIdx (markI den t)
theorem markL_len {den : List Bool} {t : Int} {l : List Ins} : (markL den t l).length = l.length := by simp [markL]
theorem markL_nil {den : List Bool} {t : Int} {l : List Ins} : markL den t l = [] ↔ l = [] := by simp [markL]
theorem markL_get {den : List Bool} {t : Int} {l : List Ins} {i : Nat} (h : i < l.length) (h' : i < (markL den t l).length) : (markL den t l)[i] = markI den t i l[i] := by simp [markL]
def mkI (den : List Bool) (t : Int) (l : List Ins) (i : Nat) : List Ins := (markL den t l).take i ++ l.drop i
theorem mkI_zero {den : List Bool} {t : Int} {l : List Ins} : mkI den t l 0 = l := rfl
theorem mkI_all {den : List Bool} {t : Int} {l : List Ins} {i : Nat} (h : l.length ≤ i) : mkI den t l i = markL den t l := by
  rw [mkI, List.take_of_length_le (by rw [markL_len]; exact h), List.drop_of_length_le h, List.append_nil]
theorem mkI_len {den : List Bool} {t : Int} {l : List Ins} {i : Nat} : (mkI den t l i).length = l.length := by simp [mkI, markL_len]; omega
theorem mkI_get {den : List Bool} {t : Int} {l : List Ins} {i : Nat} (h : i < l.length) (h' : i < (mkI den t l i).length) : (mkI den t l i)[i] = l[i] := by
  simp only [mkI]
  rw [List.getElem_append_right (by simp; omega)]
  simp [markL_len, Nat.min_eq_left (Nat.le_of_lt h)]
theorem mkI_set {den : List Bool} {t : Int} {l : List Ins} {i : Nat} (h : i < l.length) : (mkI den t l i).set i (markI den t i l[i]) = mkI den t l (i + 1) := by
  have hl : ((markL den t l).take i).length = i := by rw [List.length_take, markL_len]; omega
  have hm : i < (markL den t l).length := by rw [markL_len]; exact h
  simp only [mkI]
  rw [List.set_append_right _ _ (by omega), hl, Nat.sub_self, take_snoc hm, List.drop_eq_getElem_cons h, List.set_cons_zero, List.append_assoc, markL_get h hm]
  rfl
theorem mkI_same {den : List Bool} {t : Int} {l : List Ins} {i : Nat} (h : i < l.length) (he : markI den t i l[i] = l[i]) : mkI den t l i = mkI den t l (i + 1) := by
  rw [← mkI_set h, he]
  have h' : i < (mkI den t l i).length := by rw [mkI_len]; exact h
  have := mkI_get (den := den) (t := t) h h'
  rw [← this, List.set_getElem_self]
def markSl (den : List Bool) (t : Int) (x : Sl Ins) : Sl Ins := ⟨x.clone.k, markL den t x.l, fun e => markL_nil.2 (x.clone.h e), by rw [markL_len]; exact x.b⟩
open Classical in
noncomputable def markP (c : Clu) (den : List Bool) (t : Int) : Clu := if ¬ ValidC c ∨ ¬ timeOK t then c.clone else ⟨c.clone.g, markSl den t c.i, c.next⟩
theorem one_den {l : List Ins} {i : Nat} (h : i < l.length) : one 1 false ((l.flatMap inC).drop (i * 37 + 36)) = some (.int .i64 l[i].den) := by
  rw [← List.drop_drop, fm_drop len_inC, List.drop_eq_getElem_cons h, List.flatMap_cons, List.drop_append_of_le_length (by rw [len_inC]; omega), inC_drop36]
  rfl
def S190 (c : Clu) (den : Sl Bool) (t : Int) (id : Nat) (gd : DV) (gO : List AObj) (i : Nat) : St :=
  a30S0 (den.dv 1 inB) (.int .i64 t) (.mp 0 3 0) (.mp 1 3 0) (.int .i64 c.i.l.length) (.int .i64 i) (.cells [gd, .ms id (c.i.l.length * 37) 0 37 c.i.l.length (c.i.l.length * 37), .int .i64 c.next] :: .cells [.nils, .nils, .int .i64 0] :: .cells [gd, .ms id (c.i.l.length * 37) 0 37 c.i.l.length (c.i.l.length * 37), .int .i64 c.next] :: .cells [gd, .ms id (c.i.l.length * 37) 0 37 c.i.l.length (c.i.l.length * 37), .int .i64 c.next] :: (gO ++ [.cells ((mkI den.l t c.i.l i).flatMap inC)]))
def S191 (c : Clu) (den : Sl Bool) (t : Int) (gd idv : DV) (gO : List AObj) : St :=
  a30S0 (den.dv 1 inB) (.int .i64 t) (.mp 0 3 0) (.mp 1 3 0) (.int .i64 0) (.int .i64 0) (.cells [gd, idv, .int .i64 c.next] :: .cells [.nils, .nils, .int .i64 0] :: .cells [gd, idv, .int .i64 c.next] :: .cells [gd, idv, .int .i64 c.next] :: gO)
theorem markSl_nil {den : List Bool} {t : Int} {x : Sl Ins} (h : x.l = []) : (markSl den t x).dv 37 inC = x.clone.dv 37 inC := by
  have h1 : markL den t x.l = x.clone.l := by rw [show x.clone.l = x.l from rfl, h]; rfl
  simp only [markSl, Sl.dv, h1]
theorem markSl_ne {den : List Bool} {t : Int} {x : Sl Ins} (h : x.l ≠ []) : (markSl den t x).dv 37 inC = .sl false 37 x.l.length ((markL den t x.l).flatMap inC) := by
  simp [markSl, Sl.dv, Sl.clone, h, slD, markL_len]
theorem take_mk {den : List Bool} {t : Int} {l : List Ins} {i : Nat} : ((mkI den t l i).flatMap inC).take (l.length * 37) = (mkI den t l i).flatMap inC := take_ins (by rw [mkI_len]; exact Nat.le_refl _)
set_option maxHeartbeats 4000000 in
theorem runs_mark (c : Clu) (den : Sl Bool) (t : Int) : Runs T112 a30 [.agg (clC c), den.dv 1 inB, .int .i64 t] (.agg (clC (markP c den.l t))) := by
  refine ⟨?_⟩
  have hbd := den.b
  have ha : ∀ l : List Grp, (l.flatMap grC).length = l.length * 6 := fm_len len_grC
  have hb : ∀ l : List Ins, (l.flatMap inC).length = l.length * 37 := fm_len len_inC
  have e7 := take_grs (l := c.g.l.map Grp.clone) (n := c.g.l.length) (by simp)
  have e9 := take_ins (l := c.i.l) (n := c.i.l.length) (Nat.le_refl _)
  have hpd : pureD (den.dv 1 inB) = true := dv_pure pure_inB den
  have q3 : clC c.clone = [c.clone.g.dv 6 grC, c.i.clone.dv 37 inC, .int .i64 c.next] := rfl
  by_cases hvt : ValidC c ∧ timeOK t
  case neg =>
    have hd : markP c den.l t = c.clone := by
      rw [markP, if_pos]
      by_cases h1 : ValidC c
      · exact .inr fun h2 => hvt ⟨h1, h2⟩
      · exact .inl h1
    have hc : tv (ValidC c) = false ∨ (tv (ValidC c) = true ∧ tv (timeOK t) = false) := by
      by_cases h1 : ValidC c
      · exact .inr ⟨tv_true h1, tv_false fun h2 => hvt ⟨h1, h2⟩⟩
      · exact .inl (tv_false h1)
    by_cases hg : c.g.l = []
    · skip
      have e2 := mutO_nil (f := grC) hg
      have e3 := fun id => mutD_nil (id := id) (s := 6) (f := grC) (clone_gnil hg)
      have e4 := mutO_nil (f := grC) (clone_gnil hg)
      have e8 : c.clone.g.dv 6 grC = c.g.clone.dv 6 grC := by simp [Clu.clone, Sl.dv, Sl.clone, hg]
      have e5 := clone_dvnil hg
      by_cases hi : c.i.l = []
      · skip
        have f1 := fun id => mutD_nil (id := id) (s := 37) (f := inC) hi
        have f2 := mutO_nil (f := inC) hi
        have f3 := f1 0
        rcases hc with h1 | ⟨h1, h2⟩
        · simp (disch := first | omega | (simp [-List.map_take, -List.map_drop, -List.map_set, -List.map_append, -List.drop_one] <;> omega) | fail) [-List.map_take, -List.map_drop, -List.map_set, -List.map_append, -List.drop_one, a30, T112_v, cC1_eq, validCB, T112_t, cTm_eq, T112_c, cNC_eq, clW, hd, q3, ha, hb, e7, e9, hpd, e8, h1, e2, e3, e4, e5, f1, f2, f3, clone_gl]
        · simp (disch := first | omega | (simp [-List.map_take, -List.map_drop, -List.map_set, -List.map_append, -List.drop_one] <;> omega) | fail) [-List.map_take, -List.map_drop, -List.map_set, -List.map_append, -List.drop_one, a30, T112_v, cC1_eq, validCB, T112_t, cTm_eq, T112_c, cNC_eq, clW, hd, q3, ha, hb, e7, e9, hpd, e8, h1, h2, e2, e3, e4, e5, f1, f2, f3, clone_gl]
      · skip
        have f1 := fun id => mutD_ne (id := id) (s := 37) (f := inC) hi
        have f2 := mutO_ne (f := inC) hi
        have f3 := clone_dv_ne (s := 37) (f := inC) hi
        rcases hc with h1 | ⟨h1, h2⟩
        · simp (disch := first | omega | (simp [-List.map_take, -List.map_drop, -List.map_set, -List.map_append, -List.drop_one] <;> omega) | fail) [-List.map_take, -List.map_drop, -List.map_set, -List.map_append, -List.drop_one, a30, T112_v, cC1_eq, validCB, T112_t, cTm_eq, T112_c, cNC_eq, clW, hd, q3, ha, hb, e7, e9, hpd, e8, h1, e2, e3, e4, e5, f1, f2, f3, clone_gl]
        · simp (disch := first | omega | (simp [-List.map_take, -List.map_drop, -List.map_set, -List.map_append, -List.drop_one] <;> omega) | fail) [-List.map_take, -List.map_drop, -List.map_set, -List.map_append, -List.drop_one, a30, T112_v, cC1_eq, validCB, T112_t, cTm_eq, T112_c, cNC_eq, clW, hd, q3, ha, hb, e7, e9, hpd, e8, h1, h2, e2, e3, e4, e5, f1, f2, f3, clone_gl]
    · skip
      have e2 := mutO_ne (f := grC) hg
      have e3 := fun id => mutD_ne (id := id) (s := 6) (f := grC) (clone_gne hg)
      have e4 := mutO_ne (f := grC) (clone_gne hg)
      have e5 := clone_g_ne hg
      by_cases hi : c.i.l = []
      · skip
        have f1 := fun id => mutD_nil (id := id) (s := 37) (f := inC) hi
        have f2 := mutO_nil (f := inC) hi
        have f3 := f1 0
        rcases hc with h1 | ⟨h1, h2⟩
        · simp (disch := first | omega | (simp [-List.map_take, -List.map_drop, -List.map_set, -List.map_append, -List.drop_one] <;> omega) | fail) [-List.map_take, -List.map_drop, -List.map_set, -List.map_append, -List.drop_one, a30, T112_v, cC1_eq, validCB, T112_t, cTm_eq, T112_c, cNC_eq, clW, hd, q3, ha, hb, e7, e9, hpd, h1, e2, e3, e4, e5, f1, f2, f3, clone_gl]
        · simp (disch := first | omega | (simp [-List.map_take, -List.map_drop, -List.map_set, -List.map_append, -List.drop_one] <;> omega) | fail) [-List.map_take, -List.map_drop, -List.map_set, -List.map_append, -List.drop_one, a30, T112_v, cC1_eq, validCB, T112_t, cTm_eq, T112_c, cNC_eq, clW, hd, q3, ha, hb, e7, e9, hpd, h1, h2, e2, e3, e4, e5, f1, f2, f3, clone_gl]
      · skip
        have f1 := fun id => mutD_ne (id := id) (s := 37) (f := inC) hi
        have f2 := mutO_ne (f := inC) hi
        have f3 := clone_dv_ne (s := 37) (f := inC) hi
        rcases hc with h1 | ⟨h1, h2⟩
        · simp (disch := first | omega | (simp [-List.map_take, -List.map_drop, -List.map_set, -List.map_append, -List.drop_one] <;> omega) | fail) [-List.map_take, -List.map_drop, -List.map_set, -List.map_append, -List.drop_one, a30, T112_v, cC1_eq, validCB, T112_t, cTm_eq, T112_c, cNC_eq, clW, hd, q3, ha, hb, e7, e9, hpd, h1, e2, e3, e4, e5, f1, f2, f3, clone_gl]
        · simp (disch := first | omega | (simp [-List.map_take, -List.map_drop, -List.map_set, -List.map_append, -List.drop_one] <;> omega) | fail) [-List.map_take, -List.map_drop, -List.map_set, -List.map_append, -List.drop_one, a30, T112_v, cC1_eq, validCB, T112_t, cTm_eq, T112_c, cNC_eq, clW, hd, q3, ha, hb, e7, e9, hpd, h1, h2, e2, e3, e4, e5, f1, f2, f3, clone_gl]
  obtain ⟨hv, ht⟩ := hvt
  have hd : markP c den.l t = ⟨c.clone.g, markSl den.l t c.i, c.next⟩ := by rw [markP, if_neg fun h => h.elim (fun h => h hv) (fun h => h ht)]
  have h1 := tv_true hv
  have h2 := tv_true ht
  by_cases hi : c.i.l = []
  · have f1 := fun id => mutD_nil (id := id) (s := 37) (f := inC) hi
    have f2 := mutO_nil (f := inC) hi
    have f3 := markSl_nil (den := den.l) (t := t) hi
    have f4 : c.i.clone.l.length = 0 := by rw [show c.i.clone.l = c.i.l from rfl, hi]; rfl
    by_cases hg : c.g.l = []
    · skip
      have e2 := mutO_nil (f := grC) hg
      have e3 := fun id => mutD_nil (id := id) (s := 6) (f := grC) (clone_gnil hg)
      have e4 := mutO_nil (f := grC) (clone_gnil hg)
      have e8 : c.clone.g.dv 6 grC = c.g.clone.dv 6 grC := by simp [Clu.clone, Sl.dv, Sl.clone, hg]
      have e5 := clone_dvnil hg
      simp (disch := first | omega | (simp [-List.map_take, -List.map_drop, -List.map_set, -List.map_append, -List.drop_one] <;> omega) | fail) [-List.map_take, -List.map_drop, -List.map_set, -List.map_append, -List.drop_one, a30, T112_v, cC1_eq, validCB, T112_t, cTm_eq, T112_c, cNC_eq, clW, hd, q3, ha, hb, e7, e9, hpd, h1, h2, e2, e3, e4, e5, f1, f2, f4, clone_gl]
      refine W_loop (fun _ : Nat => S191 c den t (c.clone.g.dv 6 grC) (c.i.clone.dv 37 inC) []) (fun _ => 0) (fun _ => True) 0 (weak_same (by simp (disch := first | omega | (simp [-List.map_take, -List.map_drop, -List.map_set, -List.map_append, -List.drop_one] <;> omega) | fail) [-List.map_take, -List.map_drop, -List.map_set, -List.map_append, -List.drop_one, S191, a30S0]) (by simp (disch := first | omega | (simp [-List.map_take, -List.map_drop, -List.map_set, -List.map_append, -List.drop_one] <;> omega) | fail) [-List.map_take, -List.map_drop, -List.map_set, -List.map_append, -List.drop_one, S191, e8])) trivial (fun _ _ => ?_)
      simp (disch := first | omega | (simp [-List.map_take, -List.map_drop, -List.map_set, -List.map_append, -List.drop_one] <;> omega) | fail) [-List.map_take, -List.map_drop, -List.map_set, -List.map_append, -List.drop_one, a30L0, a30S0, S191, clC_mk, f3, e5, e8]
    · skip
      have e2 := mutO_ne (f := grC) hg
      have e3 := fun id => mutD_ne (id := id) (s := 6) (f := grC) (clone_gne hg)
      have e4 := mutO_ne (f := grC) (clone_gne hg)
      have e5 := clone_g_ne hg
      simp (disch := first | omega | (simp [-List.map_take, -List.map_drop, -List.map_set, -List.map_append, -List.drop_one] <;> omega) | fail) [-List.map_take, -List.map_drop, -List.map_set, -List.map_append, -List.drop_one, a30, T112_v, cC1_eq, validCB, T112_t, cTm_eq, T112_c, cNC_eq, clW, hd, q3, ha, hb, e7, e9, hpd, h1, h2, e2, e3, e4, e5, f1, f2, f4, clone_gl]
      refine W_loop (fun _ : Nat => S191 c den t (.ms 4 (c.g.l.length * 6) 0 6 c.g.l.length (c.g.l.length * 6)) (c.i.clone.dv 37 inC) [.cells ((c.g.l.map Grp.clone).flatMap grC)]) (fun _ => 0) (fun _ => True) 0 (weak_same (by simp (disch := first | omega | (simp [-List.map_take, -List.map_drop, -List.map_set, -List.map_append, -List.drop_one] <;> omega) | fail) [-List.map_take, -List.map_drop, -List.map_set, -List.map_append, -List.drop_one, S191, a30S0]) (by simp (disch := first | omega | (simp [-List.map_take, -List.map_drop, -List.map_set, -List.map_append, -List.drop_one] <;> omega) | fail) [-List.map_take, -List.map_drop, -List.map_set, -List.map_append, -List.drop_one, S191])) trivial (fun _ _ => ?_)
      simp (disch := first | omega | (simp [-List.map_take, -List.map_drop, -List.map_set, -List.map_append, -List.drop_one] <;> omega) | fail) [-List.map_take, -List.map_drop, -List.map_set, -List.map_append, -List.drop_one, a30L0, a30S0, S191, clC_mk, f3, e5, e7, ha, hb]
  · have hg := valid_gne hv (List.length_pos_iff.2 hi)
    have f1 := fun id => mutD_ne (id := id) (s := 37) (f := inC) hi
    have f2 := mutO_ne (f := inC) hi
    have f3 := markSl_ne (den := den.l) (t := t) hi
    have e2 := mutO_ne (f := grC) hg
    have e3 := fun id => mutD_ne (id := id) (s := 6) (f := grC) (clone_gne hg)
    have e4 := mutO_ne (f := grC) (clone_gne hg)
    have e5 := clone_g_ne hg
    have hib := c.i.b
    simp (disch := first | omega | (simp [-List.map_take, -List.map_drop, -List.map_set, -List.map_append, -List.drop_one] <;> omega) | fail) [-List.map_take, -List.map_drop, -List.map_set, -List.map_append, -List.drop_one, a30, T112_v, cC1_eq, validCB, T112_t, cTm_eq, T112_c, cNC_eq, clW, hd, q3, ha, hb, e7, e9, hpd, h1, h2, e2, e3, e4, e5, f1, f2, clone_gl]
    refine W_loop (S190 c den t 5 (.ms 4 (c.g.l.length * 6) 0 6 c.g.l.length (c.g.l.length * 6)) [.cells ((c.g.l.map Grp.clone).flatMap grC)]) (fun i => c.i.l.length - i) (fun i => i ≤ c.i.l.length) 0 (weak_same (by simp (disch := first | omega | (simp [-List.map_take, -List.map_drop, -List.map_set, -List.map_append, -List.drop_one] <;> omega) | fail) [-List.map_take, -List.map_drop, -List.map_set, -List.map_append, -List.drop_one, a30S0]) (by simp (disch := first | omega | (simp [-List.map_take, -List.map_drop, -List.map_set, -List.map_append, -List.drop_one] <;> omega) | fail) [-List.map_take, -List.map_drop, -List.map_set, -List.map_append, -List.drop_one, mkI_zero])) (by omega) (fun i hile => ?_)
    have hml := mkI_len (den := den.l) (t := t) (l := c.i.l) (i := i)
    have hmf := hb (mkI den.l t c.i.l i)
    rw [hml] at hmf
    simp (disch := first | omega | (simp [-List.map_take, -List.map_drop, -List.map_set, -List.map_append, -List.drop_one] <;> omega) | fail) [-List.map_take, -List.map_drop, -List.map_set, -List.map_append, -List.drop_one, a30L0, a30S0, S190]
    by_cases h : i < c.i.l.length
    · have h' : (i : Int) < c.i.l.length := by omega
      have hi2 : i < (mkI den.l t c.i.l i).length := by omega
      have k1 := fun H id v => store_de (H := H) (id := id) (v := v) hi2
      have k2 := one_den hi2
      rw [mkI_get h hi2] at k1 k2
      have fin : ∀ x, markI den.l t i c.i.l[i] = x → (mkI den.l t c.i.l i).set i x = mkI den.l t c.i.l (i + 1) := fun x e => by rw [← e]; exact mkI_set h
      by_cases hdl : i < den.l.length
      · have hdl' : (i : Int) < den.l.length := by omega
        have hgd : ∀ H, idxSD H 1 (den.dv 1 inB) i = some (.ref (inB den.l[i])) := fun H => idxSD_dv len_inB hdl
        have hob : ∀ b, one 1 false (inB b) = some (.bool b) := fun b => rfl
        have hgb : den.l.getD i false = den.l[i] := by rw [List.getD_eq_getElem?_getD, List.getElem?_eq_getElem hdl]; rfl
        cases hbv : den.l[i] with
        | false =>
          have hm : markI den.l t i c.i.l[i] = c.i.l[i].de (-1) := by rw [markI, hgb, hbv]; rfl
          have := fin _ hm
          simp (disch := first | omega | (simp [-List.map_take, -List.map_drop, -List.map_set, -List.map_append, -List.drop_one] <;> omega) | fail) [-List.map_take, -List.map_drop, -List.map_set, -List.map_append, -List.drop_one, h', h, hdl, hdl', hgd, hob, hbv, hmf, k1, k2, this]
          exact ⟨i + 1, weak_same (by simp (disch := first | omega | (simp [-List.map_take, -List.map_drop, -List.map_set, -List.map_append, -List.drop_one] <;> omega) | fail) [-List.map_take, -List.map_drop, -List.map_set, -List.map_append, -List.drop_one]) (by simp (disch := first | omega | (simp [-List.map_take, -List.map_drop, -List.map_set, -List.map_append, -List.drop_one] <;> omega) | fail) [-List.map_take, -List.map_drop, -List.map_set, -List.map_append, -List.drop_one]), by omega, by omega⟩
        | true =>
          by_cases hx : c.i.l[i].den = -1
          · have hm : markI den.l t i c.i.l[i] = c.i.l[i].de t := by rw [markI, hgb, hbv, if_pos rfl, if_pos hx]
            have := fin _ hm
            simp (disch := first | omega | (simp [-List.map_take, -List.map_drop, -List.map_set, -List.map_append, -List.drop_one] <;> omega) | fail) [-List.map_take, -List.map_drop, -List.map_set, -List.map_append, -List.drop_one, h', h, hdl, hdl', hgd, hob, hbv, hmf, k1, k2, hx, this]
            exact ⟨i + 1, weak_same (by simp (disch := first | omega | (simp [-List.map_take, -List.map_drop, -List.map_set, -List.map_append, -List.drop_one] <;> omega) | fail) [-List.map_take, -List.map_drop, -List.map_set, -List.map_append, -List.drop_one]) (by simp (disch := first | omega | (simp [-List.map_take, -List.map_drop, -List.map_set, -List.map_append, -List.drop_one] <;> omega) | fail) [-List.map_take, -List.map_drop, -List.map_set, -List.map_append, -List.drop_one]), by omega, by omega⟩
          · have hm : markI den.l t i c.i.l[i] = c.i.l[i] := by rw [markI, hgb, hbv, if_pos rfl, if_neg hx]
            have := mkI_same h hm
            simp (disch := first | omega | (simp [-List.map_take, -List.map_drop, -List.map_set, -List.map_append, -List.drop_one] <;> omega) | fail) [-List.map_take, -List.map_drop, -List.map_set, -List.map_append, -List.drop_one, h', h, hdl, hdl', hgd, hob, hbv, hmf, k1, k2, hx]
            exact ⟨i + 1, weak_same (by simp (disch := first | omega | (simp [-List.map_take, -List.map_drop, -List.map_set, -List.map_append, -List.drop_one] <;> omega) | fail) [-List.map_take, -List.map_drop, -List.map_set, -List.map_append, -List.drop_one]) (by simp (disch := first | omega | (simp [-List.map_take, -List.map_drop, -List.map_set, -List.map_append, -List.drop_one] <;> omega) | fail) [-List.map_take, -List.map_drop, -List.map_set, -List.map_append, -List.drop_one, this]), by omega, by omega⟩
      · have hdl' : ¬ (i : Int) < den.l.length := by omega
        have hgb : den.l.getD i false = false := by rw [List.getD_eq_getElem?_getD, List.getElem?_eq_none (by omega)]; rfl
        have hm : markI den.l t i c.i.l[i] = c.i.l[i].de (-1) := by rw [markI, hgb]; rfl
        have := fin _ hm
        simp (disch := first | omega | (simp [-List.map_take, -List.map_drop, -List.map_set, -List.map_append, -List.drop_one] <;> omega) | fail) [-List.map_take, -List.map_drop, -List.map_set, -List.map_append, -List.drop_one, h', h, hdl, hdl', hmf, k1, k2, this]
        exact ⟨i + 1, weak_same (by simp (disch := first | omega | (simp [-List.map_take, -List.map_drop, -List.map_set, -List.map_append, -List.drop_one] <;> omega) | fail) [-List.map_take, -List.map_drop, -List.map_set, -List.map_append, -List.drop_one]) (by simp (disch := first | omega | (simp [-List.map_take, -List.map_drop, -List.map_set, -List.map_append, -List.drop_one] <;> omega) | fail) [-List.map_take, -List.map_drop, -List.map_set, -List.map_append, -List.drop_one]), by omega, by omega⟩
    · have h' : ¬ (i : Int) < c.i.l.length := by omega
      have hma := mkI_all (den := den.l) (t := t) (l := c.i.l) (i := i) (by omega)
      have htk := take_mk (den := den.l) (t := t) (l := c.i.l) (i := i)
      have hmb := hmf
      rw [hma] at htk hmb
      simp (disch := first | omega | (simp [-List.map_take, -List.map_drop, -List.map_set, -List.map_append, -List.drop_one] <;> omega) | fail) [-List.map_take, -List.map_drop, -List.map_set, -List.map_append, -List.drop_one, h, h', hma, htk, hmb, clC_mk, f3, e5, e7, ha, hb]
end Go.Proofs.YtjhakjeioppijaaDoor
/-
  Made clusters are valid; what marks keep valid.
-/
set_option linter.unusedSimpArgs false
set_option linter.unusedVariables false
namespace Go.Proofs.YtjhakjeioppijaaDoor
open Go Go.Am

theorem gAdd_ok {l : List Dg} {d : Dg} (h1 : l.Nodup) (h2 : ∀ x ∈ l, x ≠ dg0) (hd : d ≠ dg0) : (gAdd l d).Nodup ∧ (∀ x ∈ gAdd l d, x ≠ dg0) := by
  unfold gAdd
  split
  · exact ⟨h1, h2⟩
  · rename_i hn
    refine ⟨List.nodup_append.2 ⟨h1, by simp, fun a ha b hb => ?_⟩, fun x hx => ?_⟩
    · simp at hb; subst hb; exact fun e => hn (e ▸ ha)
    · rcases List.mem_append.1 hx with h | h
      · exact h2 x h
      · simp at h; subst h; exact hd
theorem arts3_ne : ∀ x ∈ arts3.l, x ≠ dg0 := by
  intro x hx
  simp only [arts3, List.mem_cons, List.not_mem_nil, or_false] at hx
  rcases hx with rfl | rfl | rfl <;> decide
theorem gOne_ne {x : Sl Dg} (hx : ∀ d ∈ x.l, d ≠ dg0) (h0 : 1 ≤ x.l.length) (t : Tp) : (gOne x t).1 ≠ dg0 := by
  unfold gOne
  split
  · have h1 := tpN_lo (t.adv 2) x.l.length
    have h2 := tpN_hi (t.adv 2) (n := x.l.length) (by omega)
    have h3 : (tpN (t.adv 2) x.l.length).toNat < x.l.length := by omega
    simp only [List.getD_eq_getElem?_getD, List.getElem?_eq_getElem h3, Option.getD_some]
    exact hx _ (List.getElem_mem h3)
  · exact sumV_ne t
theorem gLoop_ok {x : Sl Dg} (hx : ∀ d ∈ x.l, d ≠ dg0) (h0 : 1 ≤ x.l.length) : ∀ (k : Nat) (t : Tp) (l : List Dg), l.Nodup → (∀ d ∈ l, d ≠ dg0) → (gLoop x k t l).1.Nodup ∧ (∀ d ∈ (gLoop x k t l).1, d ≠ dg0) ∧ (gLoop x k t l).1.length ≤ l.length + k
  | 0, t, l, h1, h2 => ⟨h1, h2, Nat.le_refl _⟩
  | k + 1, t, l, h1, h2 => by
    obtain ⟨g1, g2⟩ := gAdd_ok h1 h2 (gOne_ne hx h0 t)
    obtain ⟨k1, k2, k3⟩ := gLoop_ok hx h0 k (gOne x t).2 (gAdd l (gOne x t).1) g1 g2
    have := gAdd_len l (gOne x t).1
    exact ⟨k1, k2, by show (gLoop x k (gOne x t).2 (gAdd l (gOne x t).1)).1.length ≤ _; omega⟩
theorem okCh_of {l : List Dg} (h1 : l.Nodup) (h2 : ∀ d ∈ l, d ≠ dg0) : okCh l := by
  intro i hi
  refine ⟨h2 _ (List.getElem_mem hi), fun hm => ?_⟩
  obtain ⟨j, hj, e⟩ := List.getElem_of_mem hm
  simp at hj
  rw [List.getElem_take] at e
  have := (List.getElem_inj (xs := l) (i := j) (j := i) (h₀ := by omega) (h₁ := hi) h1).1 e
  omega
theorem pick2_path {t : Tp} {a b : List UInt8} (ha : pathD a = true) (hb : pathD b = true) : pathD (pickV t [a, b]) = true := by
  have := pickV_mem t (l := [a, b]) (by simp)
  simp only [List.mem_cons, List.not_mem_nil, or_false] at this
  rcases this with e | e <;> rw [e] <;> assumption
theorem groupV_ok (t : Tp) {x : Sl Dg} (hx : ∀ d ∈ x.l, d ≠ dg0) (h0 : 1 ≤ x.l.length) : ValidG (groupV t x).1 := by
  have n1 := tpN_lo (t.adv 2) 4
  have n2 := tpN_hi (t.adv 2) (n := 4) (by omega)
  have n3 := tpN_lo (t.adv 3) (tpN (t.adv 2) 4 + 1)
  have n4 := tpN_hi (t.adv 3) (n := tpN (t.adv 2) 4 + 1) (by omega)
  have n5 := tpN_lo (t.adv 4) (tpN (t.adv 2) 4 + 1)
  have n6 := tpN_hi (t.adv 4) (n := tpN (t.adv 2) 4 + 1) (by omega)
  have n7 := tpN_lo (t.adv 5) 3
  have n8 := tpN_hi (t.adv 5) (n := 3) (by omega)
  obtain ⟨k1, k2, k3⟩ := gLoop_ok hx h0 ((tpN (t.adv 5) 3).toNat + 1) (t.adv 6) [] (by simp) (by simp)
  simp only [List.length_nil] at k3
  have hl : (groupV t x).1.ch.l = (gLoop x ((tpN (t.adv 5) 3).toNat + 1) (t.adv 6) []).1 := own_l (by omega)
  refine ⟨pick2_path (by decide) (by decide), pick2_path (by decide) (by decide), n1, by show tpN (t.adv 2) 4 ≤ 8; omega, n3, by show tpN (t.adv 3) _ ≤ tpN (t.adv 2) 4; omega, n5, by show tpN (t.adv 4) _ ≤ tpN (t.adv 2) 4; omega, by rw [hl]; omega, by rw [hl]; exact okCh_of k1 k2⟩

/-! deployed groups -/
theorem fitG_self (g : Grp) : fitG g.ns g.im g = true := by simp [fitG]
theorem fitG_eq {a b : Grp} (h1 : a.ns = b.ns) (h2 : a.im = b.im) (ns im : List UInt8) : fitG ns im a = fitG ns im b := by simp [fitG, h1, h2]
structure UG (l : List Grp) : Prop where
  n : l.length ≤ 16
  g : ∀ i (h : i < l.length), ValidG l[i] ∧ grpIx l l[i].ns l[i].im = i
theorem ug_app {l : List Grp} {g : Grp} (h : UG l) (hg : ValidG g) (hx : grpIx l g.ns g.im < 0) (hn : l.length < 16) : UG (l ++ [g]) := by
  refine ⟨by simp; omega, fun i hi => ?_⟩
  simp only [List.length_append, List.length_singleton] at hi
  by_cases hil : i < l.length
  · rw [List.getElem_append_left hil]
    obtain ⟨g1, g2⟩ := h.g i hil
    refine ⟨g1, ixI_at (by simp; omega) ?_ (fun j hj hji => ?_)⟩
    · rw [List.getElem_append_left hil]; exact fitG_self _
    · rw [List.getElem_append_left (by omega)]
      obtain ⟨k, hk, e1, e2, e3⟩ := ixI_pos (p := fitG l[i].ns l[i].im) (l := l) (by rw [show ixI (fitG l[i].ns l[i].im) l = (i : Int) from g2]; omega)
      have : k = i := by
        have : ixI (fitG l[i].ns l[i].im) l = (i : Int) := g2
        omega
      subst this
      exact e3 j (by omega) hji
  · have e : i = l.length := by omega
    subst e
    rw [List.getElem_append_right (Nat.le_refl _)]
    simp only [Nat.sub_self, List.getElem_cons_zero]
    refine ⟨hg, ixI_at (by simp) ?_ (fun j hj hji => ?_)⟩
    · rw [List.getElem_append_right (Nat.le_refl _)]; simp only [Nat.sub_self, List.getElem_cons_zero]; exact fitG_self _
    · rw [List.getElem_append_left hji]; exact ixI_neg hx j hji
theorem grpIx_names {l l' : List Grp} (hl : l.length = l'.length) (h : ∀ i (h1 : i < l.length) (h2 : i < l'.length), l[i].ns = l'[i].ns ∧ l[i].im = l'[i].im) (ns im : List UInt8) : grpIx l ns im = grpIx l' ns im := by
  by_cases hx : 0 ≤ grpIx l ns im
  · obtain ⟨k, hk, e1, e2, e3⟩ := ixI_pos hx
    have e1 : grpIx l ns im = k := e1
    rw [e1]
    refine (ixI_at (by omega) ?_ (fun j hj hji => ?_)).symm
    · rw [← fitG_eq (h k hk (by omega)).1 (h k hk (by omega)).2]; exact e2
    · rw [← fitG_eq (h j (by omega) hj).1 (h j (by omega) hj).2]; exact e3 j (by omega) hji
  · have h1 := ixI_ge (fitG ns im) l
    have h2 : grpIx l ns im = -1 := by have : grpIx l ns im = ixI (fitG ns im) l := rfl; omega
    rw [h2]
    refine (ixI_none fun j hj => ?_).symm
    rw [← fitG_eq (h j (by omega) hj).1 (h j (by omega) hj).2]
    exact ixI_neg (show ixI (fitG ns im) l < 0 by have : grpIx l ns im = ixI (fitG ns im) l := rfl; omega) j (by omega)
theorem ug_set {l : List Grp} {g : Grp} {k : Nat} (h : UG l) (hg : ValidG g) (hk : k < l.length) (hx : grpIx l g.ns g.im = k) : UG (l.set k g) := by
  have hf : fitG g.ns g.im l[k] = true := by
    obtain ⟨j, hj, e1, e2, e3⟩ := ixI_pos (p := fitG g.ns g.im) (l := l) (by rw [show ixI (fitG g.ns g.im) l = (k : Int) from hx]; omega)
    have : j = k := by have : ixI (fitG g.ns g.im) l = (k : Int) := hx; omega
    subst this; exact e2
  have hnm : l[k].ns = g.ns ∧ l[k].im = g.im := by simpa [fitG] using hf
  have hn : ∀ i (h1 : i < (l.set k g).length) (h2 : i < l.length), (l.set k g)[i].ns = l[i].ns ∧ (l.set k g)[i].im = l[i].im := fun i h1 h2 => by
    rw [List.getElem_set]
    split
    · rename_i e; subst e; exact ⟨hnm.1.symm, hnm.2.symm⟩
    · exact ⟨rfl, rfl⟩
  refine ⟨by simpa using h.n, fun i hi => ?_⟩
  have hi' : i < l.length := by simpa using hi
  obtain ⟨n1, n2⟩ := hn i hi hi'
  refine ⟨?_, ?_⟩
  · rw [List.getElem_set]
    split
    · exact hg
    · exact (h.g i hi').1
  · rw [n1, n2, grpIx_names (by simp) hn]; exact (h.g i hi').2
structure CG (c : Clu) : Prop where
  u : UG c.g.l
  i : c.i = nilI
  n0 : 1 ≤ c.next
  n1 : c.next ≤ 4
theorem CG.valid {c : Clu} (h : CG c) : ValidC c := ⟨h.u.n, by rw [h.i]; simp [nilI], h.n0, by have := h.n1; omega, h.u.g, fun i hi => by rw [h.i] at hi; simp [nilI] at hi⟩
theorem deployR_g {c : Clu} {g : Grp} (h : CG c) (hg : ValidG g) (he : (deployR c g).2 = 0) : CG (deployR c g).1 ∧ (deployR c g).1.g.l ≠ [] := by
  refine ⟨⟨?_, deployR_i he h.i, by rw [deployR_next he]; exact h.n0, by rw [deployR_next he]; exact h.n1⟩, ?_⟩ <;>
  · have hnn : ¬ (¬ ValidC c ∨ ¬ ValidG g) := fun q => q.elim (fun q => q h.valid) (fun q => q hg)
    have hn := h.u.n
    unfold deployR at he ⊢
    rw [if_neg hnn] at he ⊢
    split at he
    · rename_i hx
      rw [if_pos hx]
      split at he
      · simp at he
      · rename_i hl
        rw [if_neg hl]
        simp only
        rw [own_l (by simp; omega)]
        first
          | exact ug_app h.u hg hx (by omega)
          | simp
    · rename_i hx
      rw [if_neg hx]
      obtain ⟨k, hk, e1, e2, e3⟩ := ixI_pos (show 0 ≤ grpIx c.g.l g.ns g.im by omega)
      have e1 : grpIx c.g.l g.ns g.im = k := e1
      simp only
      rw [e1, Int.toNat_natCast, own_l (by simp; omega)]
      first
        | exact ug_set h.u hg hk e1
        | (intro e; have := congrArg List.length e; simp at this; rw [this] at hk; simp at hk)
theorem deployR_first {c : Clu} {g : Grp} (h : CG c) (hg : ValidG g) (h0 : c.g.l = []) : (deployR c g).2 = 0 := by
  have hnn : ¬ (¬ ValidC c ∨ ¬ ValidG g) := fun q => q.elim (fun q => q h.valid) (fun q => q hg)
  have hx : grpIx c.g.l g.ns g.im < 0 := by rw [h0]; simp [grpIx, ixI]
  unfold deployR
  rw [if_neg hnn, if_pos hx, if_neg (by rw [h0]; simp)]
theorem dOne_ok {c : Clu} {t : Tp} (h : CG c) : CG (dOne c t) ∧ (dOne c t).g.l ≠ [] := by
  have hg := groupV_ok t arts3_ne (x := arts3) (by simp [arts3])
  unfold dOne
  split
  · rename_i he; exact deployR_g h hg he
  · rename_i he
    refine ⟨h, fun h0 => he (deployR_first h hg h0)⟩
theorem dLoop_ok : ∀ (k : Nat) (c : Clu) (t : Tp), CG c → CG (dLoop k c t).1 ∧ ((1 ≤ k ∨ c.g.l ≠ []) → (dLoop k c t).1.g.l ≠ [])
  | 0, c, t, h => ⟨h, fun q => q.elim (fun q => by omega) id⟩
  | k + 1, c, t, h => by
    obtain ⟨g1, g2⟩ := dOne_ok (t := t) h
    obtain ⟨k1, k2⟩ := dLoop_ok k (dOne c t) (groupV t arts3).2 g1
    exact ⟨k1, fun _ => k2 (.inr g2)⟩
theorem cl0_ok (t : Tp) : CG (cl0 t) := by
  have n1 := tpN_lo t 4
  have n2 := tpN_hi t (n := 4) (by omega)
  exact ⟨⟨by simp [cl0, nilG], fun i hi => by simp [cl0, nilG] at hi⟩, rfl, by simp only [cl0]; omega, by simp only [cl0]; omega⟩
theorem clD_ok (t : Tp) : CG (clD t).1 ∧ (clD t).1.g.l ≠ [] := by
  obtain ⟨h1, h2⟩ := dLoop_ok ((tpN (t.adv 1) 2).toNat + 1) (cl0 t) (t.adv 2) (cl0_ok t)
  exact ⟨h1, h2 (.inl (by omega))⟩

/-! instances -/
structure IG (ng : Nat) (l : List Ins) (n : Int) : Prop where
  s : ∀ x ∈ l, SoundI ng n x
  o : l.Pairwise fun a b => a.id < b.id
theorem SoundI.up {ng : Nat} {n m : Int} {x : Ins} (h : SoundI ng n x) (hm : n ≤ m) : SoundI ng m x := ⟨h.id0, by have := h.id1; omega, h.g0, h.g1, h.art, h.s0, h.s1, h.si, h.de⟩
theorem iIns_ok {ng : Nat} {n m : Int} {t : Tp} (hn : 1 ≤ n) (hm : n < m) (hg : 1 ≤ ng) : SoundI ng m (iIns ng n t) := by
  have n1 := tpN_lo t ng
  have n2 := tpN_hi t (n := ng) (by omega)
  have n3 := tpN_lo (tpS t ng) 3
  have n4 := tpN_hi (tpS t ng) (n := 3) (by omega)
  have n5 := tpN_lo ((tpS t ng).adv 1) 3
  have n6 := tpN_hi ((tpS t ng).adv 1) (n := 3) (by omega)
  have n7 := tpN_lo ((tpS t ng).adv 2) 30
  have n8 := tpN_hi ((tpS t ng).adv 2) (n := 30) (by omega)
  have n9 := tpN_lo ((tpS t ng).adv 4) 30
  have n10 := tpN_hi ((tpS t ng).adv 4) (n := 30) (by omega)
  have hl : (tpN (tpS t ng) 3).toNat < arts3.l.length := by simp [arts3]; omega
  refine ⟨hn, hm, n1, by simp only [iIns]; omega, ?_, by simp only [iIns]; omega, by simp only [iIns]; omega, ⟨n7, by simp only [iIns]; omega⟩, ?_⟩
  · simp only [iIns, List.getD_eq_getElem?_getD, List.getElem?_eq_getElem hl, Option.getD_some]
    exact arts3_ne _ (List.getElem_mem hl)
  · simp only [iIns]
    split
    · exact .inr ⟨n9, by omega⟩
    · exact .inl rfl
theorem iLoop_ok {ng : Nat} (hg : 1 ≤ ng) : ∀ (k : Nat) (l : List Ins) (n : Int) (t : Tp), 1 ≤ n → IG ng l n → IG ng (iLoop ng k l n t).1 (iLoop ng k l n t).2.1 ∧ 1 ≤ (iLoop ng k l n t).2.1 ∧ (iLoop ng k l n t).2.1 ≤ n + 2 * k ∧ (iLoop ng k l n t).1.length = l.length + k
  | 0, l, n, t, hn, h => ⟨h, hn, by simp [iLoop], rfl⟩
  | k + 1, l, n, t, hn, h => by
    have j1 := tpN_lo (iTp ng t) 2
    have j2 := tpN_hi (iTp ng t) (n := 2) (by omega)
    have hs : IG ng (l ++ [iIns ng n t]) (n + (1 + tpN (iTp ng t) 2)) := by
      refine ⟨fun x hx => ?_, List.pairwise_append.2 ⟨h.o, by simp, fun a ha b hb => ?_⟩⟩
      · rcases List.mem_append.1 hx with q | q
        · exact (h.s x q).up (by omega)
        · simp at q; subst q; exact iIns_ok hn (by omega) hg
      · simp at hb; subst hb; exact (h.s a ha).id1
    obtain ⟨k1, k2, k3, k4⟩ := iLoop_ok hg k (l ++ [iIns ng n t]) (n + (1 + tpN (iTp ng t) 2)) ((iTp ng t).adv 1) (by omega) hs
    refine ⟨k1, k2, ?_, ?_⟩
    · show (iLoop ng k (l ++ [iIns ng n t]) (n + (1 + tpN (iTp ng t) 2)) ((iTp ng t).adv 1)).2.1 ≤ _
      omega
    · show (iLoop ng k (l ++ [iIns ng n t]) (n + (1 + tpN (iTp ng t) 2)) ((iTp ng t).adv 1)).1.length = _
      rw [k4]; simp; omega
theorem sorted_of {l : List Ins} (h : l.Pairwise fun a b => a.id < b.id) (i : Nat) (hi : i < l.length) (h0 : 0 < i) : l[i - 1].id < l[i].id :=
  List.pairwise_iff_getElem.1 h (i - 1) i (by omega) hi (by omega)
theorem clusterV_ok (t : Tp) (m : Int) (h0 : 0 ≤ m) (h1 : m ≤ 200) : ValidC (clusterV t m).1 ∧ (clusterV t m).1.g.l ≠ [] := by
  obtain ⟨hc, hg⟩ := clD_ok t
  have m1 := tpN_lo (clD t).2 (m + 1)
  have m2 := tpN_hi (clD t).2 (n := m + 1) (by omega)
  have hgl : 1 ≤ (clD t).1.g.l.length := List.length_pos_iff.2 hg
  obtain ⟨k1, k2, k3, k4⟩ := iLoop_ok hgl (tpN (clD t).2 (m + 1)).toNat [] (clD t).1.next ((clD t).2.adv 1) hc.n0 ⟨by simp, by simp⟩
  have hn1 := hc.n1
  have hI : clI t m = iLoop (clD t).1.g.l.length (tpN (clD t).2 (m + 1)).toNat [] (clD t).1.next ((clD t).2.adv 1) := rfl
  rw [← hI] at k1 k2 k3 k4
  have hil : (clusterV t m).1.i.l = (clI t m).1 := by
    simp only [clusterV]
    split
    · rename_i e; rw [e]; rfl
    · exact own_l (by rw [k4]; simp; omega)
  have hgl' : (clusterV t m).1.g = (clD t).1.g := rfl
  have hnx : (clusterV t m).1.next = (clI t m).2.1 := rfl
  simp only [List.length_nil, Nat.zero_add] at k4
  refine ⟨⟨by rw [hgl']; exact hc.u.n, by rw [hil, k4]; omega, by rw [hnx]; exact k2, by rw [hnx]; omega, fun i hi => hc.u.g i hi, fun i hi => ?_⟩, hg⟩
  have hi' : i < (clI t m).1.length := by rw [← hil]; exact hi
  have e : ∀ j (hj : j < (clusterV t m).1.i.l.length), (clusterV t m).1.i.l[j] = (clI t m).1[j]'(by rw [← hil]; exact hj) := fun j hj => by simp only [hil]
  refine ⟨?_, fun h0 => ?_⟩
  · rw [e i hi]
    exact k1.s _ (List.getElem_mem hi')
  · rw [e i hi, e (i - 1) (by omega)]
    exact sorted_of k1.o i hi' h0
end Go.Proofs.YtjhakjeioppijaaDoor
/-
  What disruption's functions compute, on data; plain laws.
-/
set_option linter.unusedSimpArgs false
set_option linter.unusedVariables false
namespace Go.Proofs.YtjhakjeioppijaaDoor
open Go Go.Am

/-! insertion from behind -/
section
variable {α β : Type} {lt : α → α → Bool}
def insR (lt : α → α → Bool) (x : α) (l : List α) : List α := (l.reverse.dropWhile (lt x)).reverse ++ x :: (l.reverse.takeWhile (lt x)).reverse
def sortR (lt : α → α → Bool) (l : List α) : List α := l.foldl (fun a x => insR lt x a) []
theorem insR_at {x : α} {A B : List α} (hB : ∀ b ∈ B, lt x b = true) (hA : A = [] ∨ ∃ (A' : List α) (y : α), A = A' ++ [y] ∧ lt x y = false) : insR lt x (A ++ B) = A ++ x :: B := by
  unfold insR
  have hB' : ∀ b ∈ B.reverse, lt x b = true := fun b hb => hB b (List.mem_reverse.1 hb)
  rw [List.reverse_append]
  rw [List.dropWhile_append_of_pos hB', List.takeWhile_append_of_pos hB']
  rcases hA with rfl | ⟨A', y, rfl, hy⟩
  · simp
  · simp [List.dropWhile_cons, List.takeWhile_cons, hy]
theorem insR_perm {x : α} {l : List α} : (insR lt x l).Perm (x :: l) := by
  unfold insR
  refine List.perm_middle.trans (List.Perm.cons x ?_)
  rw [← List.reverse_append, List.takeWhile_append_dropWhile]
  simp
theorem sortR_snoc {l : List α} {x : α} : sortR lt (l ++ [x]) = insR lt x (sortR lt l) := by simp [sortR]
theorem snoc_ind {P : List α → Prop} (h0 : P []) (h1 : ∀ l x, P l → P (l ++ [x])) : ∀ l, P l := by
  intro l
  rw [← List.reverse_reverse l]
  induction l.reverse with
  | nil => exact h0
  | cons a r ih => rw [List.reverse_cons]; exact h1 _ _ ih
theorem sortR_perm (l : List α) : (sortR lt l).Perm l := by
  induction l using snoc_ind with
  | h0 => exact List.Perm.refl _
  | h1 l x ih =>
    rw [sortR_snoc]
    refine insR_perm.trans ((List.Perm.cons x ih).trans ?_)
    exact (List.perm_append_comm (l₁ := [x]) (l₂ := l))
theorem takeWhile_map' {f : α → β} {p : β → Bool} {q : α → Bool} : ∀ {l : List α}, (∀ y ∈ l, p (f y) = q y) → (l.map f).takeWhile p = (l.takeWhile q).map f ∧ (l.map f).dropWhile p = (l.dropWhile q).map f
  | [], _ => ⟨rfl, rfl⟩
  | a :: l, h => by
    have ih := takeWhile_map' (l := l) (fun y hy => h y (by simp [hy]))
    have ha := h a (by simp)
    rw [List.map_cons, List.takeWhile_cons, List.dropWhile_cons, List.takeWhile_cons, List.dropWhile_cons, ha]
    cases q a <;> simp [ih.1, ih.2]
theorem insR_map {f : α → β} {lt' : β → β → Bool} {x : α} {l : List α} (h : ∀ y ∈ l, lt' (f x) (f y) = lt x y) : insR lt' (f x) (l.map f) = (insR lt x l).map f := by
  unfold insR
  have := takeWhile_map' (f := f) (p := lt' (f x)) (q := lt x) (l := l.reverse) (fun y hy => h y (List.mem_reverse.1 hy))
  rw [← List.map_reverse, this.1, this.2]
  simp
/-- each is compared with those before it only -/
theorem sortR_map {f : α → β} {lt' : β → β → Bool} : ∀ {l : List α}, l.Pairwise (fun y x => lt' (f x) (f y) = lt x y) → sortR lt' (l.map f) = (sortR lt l).map f := by
  intro l
  induction l using snoc_ind with
  | h0 => intro _; rfl
  | h1 l x ih =>
    intro h
    rw [List.pairwise_append] at h
    obtain ⟨h1, _, h3⟩ := h
    rw [List.map_append, List.map_cons, List.map_nil, sortR_snoc, sortR_snoc, ih h1]
    exact insR_map fun y hy => h3 y ((sortR_perm l).mem_iff.1 hy) x (by simp)
theorem dropWhile_head {p : α → Bool} : ∀ {l : List α}, l.dropWhile p = [] ∨ ∃ y r, l.dropWhile p = y :: r ∧ p y = false
  | [] => .inl rfl
  | a :: l => by
    rw [List.dropWhile_cons]
    cases h : p a with
    | true => exact dropWhile_head
    | false => exact .inr ⟨a, l, rfl, h⟩
theorem takeWhile_all {p : α → Bool} : ∀ {l : List α}, ∀ b ∈ l.takeWhile p, p b = true
  | [], b, h => by simp at h
  | a :: l, b, h => by
    rw [List.takeWhile_cons] at h
    cases ha : p a with
    | true =>
      rw [ha, if_pos rfl] at h
      rcases List.mem_cons.1 h with rfl | h
      · exact ha
      · exact takeWhile_all b h
    | false => rw [ha] at h; simp at h
/-- the parts -/
theorem insR_parts (x : α) (l : List α) : ∃ A B, l = A ++ B ∧ insR lt x l = A ++ x :: B ∧ (∀ b ∈ B, lt x b = true) ∧ (A = [] ∨ ∃ (A' : List α) (y : α), A = A' ++ [y] ∧ lt x y = false) := by
  refine ⟨(l.reverse.dropWhile (lt x)).reverse, (l.reverse.takeWhile (lt x)).reverse, ?_, rfl, fun b hb => takeWhile_all b (List.mem_reverse.1 hb), ?_⟩
  · rw [← List.reverse_append, List.takeWhile_append_dropWhile, List.reverse_reverse]
  · rcases dropWhile_head (p := lt x) (l := l.reverse) with h | ⟨y, r, h, hy⟩
    · exact .inl (by rw [h]; rfl)
    · exact .inr ⟨r.reverse, y, by rw [h, List.reverse_cons], hy⟩
/-- sorted by a key -/
theorem sortR_sorted {key : α → Int} (hk : ∀ x y, lt x y = decide (key x < key y)) (l : List α) : (sortR lt l).Pairwise (fun a b => key a ≤ key b) := by
  induction l using snoc_ind with
  | h0 => exact List.Pairwise.nil
  | h1 l x ih =>
    rw [sortR_snoc]
    obtain ⟨A, B, h1, h2, h3, h4⟩ := insR_parts (lt := lt) x (sortR lt l)
    rw [h2]
    rw [h1, List.pairwise_append] at ih
    obtain ⟨i1, i2, i3⟩ := ih
    have hB : ∀ b ∈ B, key x < key b := fun b hb => by have := h3 b hb; rw [hk] at this; simpa using this
    have hA : ∀ a ∈ A, key a ≤ key x := by
      rcases h4 with rfl | ⟨A', y, rfl, hy⟩
      · simp
      · rw [hk] at hy
        have hy' : key y ≤ key x := by simpa using hy
        intro a ha
        rcases List.mem_append.1 ha with ha | ha
        · rw [List.pairwise_append] at i1
          have := i1.2.2 a ha y (by simp)
          omega
        · simp at ha; subst ha; exact hy'
    rw [List.pairwise_append]
    refine ⟨i1, List.Pairwise.cons (fun b hb => by have := hB b hb; omega) i2, fun a ha b hb => ?_⟩
    rcases List.mem_cons.1 hb with rfl | hb
    · exact hA a ha
    · exact i3 a ha b hb
end

/-! which instances -/
def chos (g : Grp) (x : Ins) : Bool := decide (x.den < 0) && decide (x.art ∈ g.ch.l)
def grAt (c : Clu) (k : Int) : Option Grp := if 0 ≤ k then c.g.l[k.toNat]? else none
def selL (l : List Ins) (k : Int) (p : Ins → Bool) : List Ins := l.filter fun x => decide (x.grp = k) && p x
def idsP (c : Clu) (k : Int) (sel : Grp → Ins → Bool) : List Int := match grAt c k with
  | some g => (selL c.i.l k (sel g)).map Ins.id
  | none => []
def sLive (_ : Grp) (x : Ins) : Bool := decide (x.state = 2)
def sGood (g : Grp) (x : Ins) : Bool := decide (x.state ≠ 3) && chos g x
def sDen (_ : Grp) (x : Ins) : Bool := decide (x.state = 2) && decide (0 ≤ x.den)
def sRep (g : Grp) (x : Ins) : Bool := decide (x.state = 2) && decide (x.den < 0) && !chos g x
def sSpare (g : Grp) (x : Ins) : Bool := decide (x.state = 2) && chos g x
def liveP (c : Clu) (k : Int) : Nat := (idsP c k sLive).length
def goodP (c : Clu) (k : Int) : List Int := idsP c k sGood
def roomP (c : Clu) (k : Int) : Int := match grAt c k with
  | some g => max ((liveP c k : Int) - max g.least (g.want - g.down)) 0
  | none => 0
def sinceP (c : Clu) (id : Int) : Int := match c.i.l.find? (fun x => decide (x.id = id)) with
  | some x => x.den
  | none => 0
def ltV (c : Clu) (a b : Int) : Bool := decide (sinceP c a < sinceP c b) || (decide (sinceP c a = sinceP c b) && decide (a < b))
def victimsP (c : Clu) (k : Int) : List Int := match grAt c k with
  | some g => sortR (ltV c) (idsP c k sDen) ++ (idsP c k sRep ++ (idsP c k sSpare).reverse.take ((goodP c k).length - g.want).toNat)
  | none => []
def overB (x : Ins) (gr t : Int) : Bool := decide (x.state ≠ 3) && (decide (0 ≤ x.den) && decide (gr ≤ t - x.den))
def overP (l : List Ins) (i : Nat) (gr : List Int) (t : Int) : List Int := match l with
  | [] => []
  | x :: r => if overB x (gr.getD i 0) t = true then x.id :: overP r (i + 1) gr t else overP r (i + 1) gr t

/-! the reference -/
def sGoodR (g : Grp) (x : Ins) : Bool := (decide (x.state = 1) || decide (x.state = 2)) && (decide (x.den = -1) && decide (x.art ∈ g.ch.l))
def denLt (x y : Ins) : Bool := decide (x.den < y.den)
def refDen (l : List Ins) (k : Int) : List Ins := sortR denLt (selL l k (fun x => decide (x.state = 2) && decide (0 ≤ x.den)))
def refOther (g : Grp) (l : List Ins) (k : Int) : List Ins := selL l k (fun x => decide (x.state = 2) && (decide (x.den < 0) && !decide (x.art ∈ g.ch.l)))
def refSpare (g : Grp) (l : List Ins) (k : Int) : List Ins := selL l k (fun x => decide (x.state = 2) && sGoodR g x)
def refVic (g : Grp) (l : List Ins) (k : Int) : List Ins := refDen l k ++ (refOther g l k ++ (refSpare g l k).reverse.take ((selL l k (sGoodR g)).length - g.want).toNat)

theorem selL_congr {l : List Ins} {k : Int} {p q : Ins → Bool} (h : ∀ x ∈ l, p x = q x) : selL l k p = selL l k q := by
  unfold selL
  refine List.filter_congr fun x hx => ?_
  rw [h x hx]
theorem selL_sub {l : List Ins} {k : Int} {p : Ins → Bool} : (selL l k p).Sublist l := List.filter_sublist
theorem mem_selL {l : List Ins} {k : Int} {p : Ins → Bool} {x : Ins} : x ∈ selL l k p ↔ x ∈ l ∧ x.grp = k ∧ p x = true := by
  simp [selL, List.mem_filter, Bool.and_eq_true]
/-- what is known of the instances -/
structure GoodI (l : List Ins) : Prop where
  s : ∀ x ∈ l, 1 ≤ x.state ∧ x.state ≤ 3 ∧ -1 ≤ x.den
  d : l.Pairwise (fun x y => x.id < y.id)
theorem pair_of {l : List Ins} (h : ∀ i (h : i < l.length), ∀ h0 : 0 < i, (l[i - 1]'(by omega)).id < l[i].id) : l.Pairwise (fun x y => x.id < y.id) := by
  rw [List.pairwise_iff_getElem]
  intro i j hi hj hij
  induction j with
  | zero => omega
  | succ j ih =>
    have hs := h (j + 1) hj (by omega)
    by_cases e : i = j
    · subst e; simpa using hs
    · have := ih (by omega) (by omega)
      simp at hs
      omega
theorem good_of {c : Clu} (hv : ValidC c) : GoodI c.i.l := by
  refine ⟨fun x hx => ?_, pair_of fun i h h0 => (hv.i i h).2 h0⟩
  obtain ⟨i, hi, rfl⟩ := List.getElem_of_mem hx
  obtain ⟨g, _⟩ := hv.i i hi
  refine ⟨g.s0, g.s1, ?_⟩
  rcases g.de with e | e
  · omega
  · have := e.1; omega
theorem since_at {l : List Ins} (hd : l.Pairwise (fun x y => x.id < y.id)) {x : Ins} (hx : x ∈ l) : l.find? (fun y => decide (y.id = x.id)) = some x := by
  induction l with
  | nil => simp at hx
  | cons a l ih =>
    rw [List.pairwise_cons] at hd
    rw [List.find?_cons]
    rcases List.mem_cons.1 hx with rfl | hx
    · simp
    · have := hd.1 x hx
      rw [show decide (a.id = x.id) = false from by simp; omega]
      exact ih hd.2 hx
theorem sinceP_at {c : Clu} (hg : GoodI c.i.l) {x : Ins} (hx : x ∈ c.i.l) : sinceP c x.id = x.den := by
  unfold sinceP; rw [since_at hg.d hx]
theorem pair_sub {l l' : List Ins} (h : l'.Sublist l) (hd : l.Pairwise (fun x y => x.id < y.id)) : l'.Pairwise (fun x y => x.id < y.id) := hd.sublist h
theorem sort_same {c : Clu} (hg : GoodI c.i.l) {l : List Ins} (hs : l.Sublist c.i.l) : sortR (ltV c) (l.map Ins.id) = (sortR denLt l).map Ins.id := by
  refine sortR_map ?_
  refine (pair_sub hs hg.d).imp_of_mem fun {y x} hy hx hlt => ?_
  rw [ltV, denLt, sinceP_at hg (hs.subset hx), sinceP_at hg (hs.subset hy)]
  have : decide (x.id < y.id) = false := by simp; omega
  rw [this, Bool.and_false, Bool.or_false]
theorem vic_same {c : Clu} (hg : GoodI c.i.l) {k : Int} {g : Grp} (hk : grAt c k = some g) : victimsP c k = (refVic g c.i.l k).map Ins.id := by
  have e1 : idsP c k sDen = (selL c.i.l k (fun x => decide (x.state = 2) && decide (0 ≤ x.den))).map Ins.id := by unfold idsP; rw [hk]; rfl
  have e2 : idsP c k sRep = (refOther g c.i.l k).map Ins.id := by
    unfold idsP; rw [hk]
    refine congrArg _ (selL_congr fun x hx => ?_)
    simp only [sRep, chos]
    cases decide (x.state = 2) <;> cases decide (x.den < 0) <;> cases decide (x.art ∈ g.ch.l) <;> rfl
  have hden : ∀ x ∈ c.i.l, decide (x.den < 0) = decide (x.den = -1) := fun x hx => by
    have := (hg.s x hx).2.2
    exact decide_eq_decide.2 (by omega)
  have e3 : idsP c k sSpare = (refSpare g c.i.l k).map Ins.id := by
    unfold idsP; rw [hk]
    refine congrArg _ (selL_congr fun x hx => ?_)
    simp only [sSpare, sGoodR, chos, hden x hx]
    by_cases h : x.state = 2
    · simp [h]
    · simp [h]
  have e4 : goodP c k = (selL c.i.l k (sGoodR g)).map Ins.id := by
    unfold goodP idsP; rw [hk]
    refine congrArg _ (selL_congr fun x hx => ?_)
    obtain ⟨h1, h2, _⟩ := hg.s x hx
    have : decide (x.state ≠ 3) = (decide (x.state = 1) || decide (x.state = 2)) := by
      rw [← Bool.decide_or]; exact decide_eq_decide.2 (by omega)
    simp only [sGood, sGoodR, chos, hden x hx, this]
  unfold victimsP
  rw [hk]
  simp only [e1, e2, e3, e4, sort_same hg selL_sub, List.length_map, refVic, refDen, List.map_append, List.map_take, List.map_reverse]
end Go.Proofs.YtjhakjeioppijaaDoor
/-
  Disruption: the plain laws.
-/
set_option linter.unusedSimpArgs false
set_option linter.unusedVariables false
namespace Go.Proofs.YtjhakjeioppijaaDoor
open Go Go.Am

theorem len_split {l : List Ins} {k : Int} {p p1 p2 : Ins → Bool} (h : ∀ x ∈ l, p x = (p1 x || p2 x) ∧ (p1 x && p2 x) = false) : (selL l k p).length = (selL l k p1).length + (selL l k p2).length := by
  unfold selL
  induction l with
  | nil => rfl
  | cons a l ih =>
    have ih := ih fun x hx => h x (by simp [hx])
    obtain ⟨h1, h2⟩ := h a (by simp)
    simp only [List.filter_cons, h1]
    cases decide (a.grp = k) <;> cases e1 : p1 a <;> cases e2 : p2 a <;> simp_all <;> omega
theorem id_inj {l : List Ins} (hd : l.Pairwise (fun x y => x.id < y.id)) {x y : Ins} (hx : x ∈ l) (hy : y ∈ l) (e : x.id = y.id) : x = y := by
  have h1 := since_at hd hx
  have h2 := since_at hd hy
  rw [e, h2] at h1
  exact (Option.some.inj h1).symm
theorem nodup_of {l : List Ins} (hd : l.Pairwise (fun x y => x.id < y.id)) : l.Nodup := hd.imp fun {x y} h e => by rw [e] at h; omega
theorem count_ids {l : List Ins} (hd : l.Pairwise (fun x y => x.id < y.id)) {x : Ins} (hx : x ∈ l) : ∀ {V : List Ins}, (∀ y ∈ V, y ∈ l) → (V.map Ins.id).count x.id = V.count x
  | [], _ => rfl
  | a :: V, h => by
    have ih := count_ids hd hx (V := V) (fun y hy => h y (by simp [hy]))
    rw [List.map_cons, List.count_cons, List.count_cons, ih]
    by_cases e : a = x
    · subst e; simp
    · have : ¬ a.id = x.id := fun e' => e (id_inj hd (h a (by simp)) hx e')
      simp [e, this]
theorem rev_take {α : Type} (l : List α) (m : Nat) : ∃ A B, l = A ++ B ∧ l.reverse.take m = B.reverse := by
  refine ⟨l.take (l.length - m), l.drop (l.length - m), (List.take_append_drop _ _).symm, ?_⟩
  rw [List.take_reverse]
structure VicFacts (g : Grp) (l : List Ins) (k : Int) (v : List Int) : Prop where
  one : ∀ x ∈ l, x.grp = k → x.state = 2 → sGoodR g x = false → v.count x.id = 1
  le : ∀ x ∈ l, x.grp = k → x.state = 2 → sGoodR g x = true → v.count x.id ≤ 1
  sum : ((refSpare g l k).map fun x => v.count x.id).sum = min ((selL l k (sGoodR g)).length - g.want).toNat (refSpare g l k).length
  len : v.length = (selL l k fun x => decide (x.state = 2) && !sGoodR g x).length + ((refSpare g l k).map fun x => v.count x.id).sum
theorem sum_ind {α : Type} {p : α → Bool} : ∀ (l : List α), (l.map fun x => if p x = true then 1 else 0).sum = (l.filter p).length
  | [] => rfl
  | a :: l => by
    have := sum_ind (p := p) l
    simp only [List.map_cons, List.sum_cons, this, List.filter_cons]
    cases p a <;> simp <;> omega
theorem vic_facts {l : List Ins} (hg : GoodI l) {k : Int} {g : Grp} : VicFacts g l k ((refVic g l k).map Ins.id) := by
  obtain ⟨A, B, hAB, hB⟩ := rev_take (refSpare g l k) ((selL l k (sGoodR g)).length - g.want).toNat
  have hspare : ∀ x, x ∈ refSpare g l k ↔ x ∈ l ∧ x.grp = k ∧ x.state = 2 ∧ sGoodR g x = true := fun x => by simp [refSpare, mem_selL]
  have hV : ∀ x, x ∈ refVic g l k ↔ (x ∈ l ∧ x.grp = k ∧ x.state = 2 ∧ 0 ≤ x.den) ∨ (x ∈ l ∧ x.grp = k ∧ x.state = 2 ∧ x.den < 0 ∧ x.art ∉ g.ch.l) ∨ x ∈ B := fun x => by
    rw [refVic, hB, List.mem_append, List.mem_append, refDen, (sortR_perm _).mem_iff, refOther, mem_selL, mem_selL, List.mem_reverse]
    simp
  have hBl : ∀ x ∈ B, x ∈ l ∧ x.grp = k ∧ x.state = 2 ∧ sGoodR g x = true := fun x hx => (hspare x).1 (by rw [hAB]; simp [hx])
  have hgood : ∀ x, sGoodR g x = true → x.den = -1 ∧ x.art ∈ g.ch.l := fun x h => by
    simp only [sGoodR, Bool.and_eq_true, decide_eq_true_eq] at h; exact h.2
  have hsub : ∀ x ∈ refVic g l k, x ∈ l := fun x hx => by
    rcases (hV x).1 hx with h | h | h
    · exact h.1
    · exact h.1
    · exact (hBl x h).1
  have nd := nodup_of hg.d
  have ndS : (refSpare g l k).Nodup := nd.sublist selL_sub
  have ndAB := ndS
  rw [hAB, List.nodup_append] at ndAB
  have ndV : (refVic g l k).Nodup := by
    rw [refVic, hB, List.nodup_append, List.nodup_append]
    refine ⟨(sortR_perm _).nodup_iff.2 (nd.sublist selL_sub), ⟨nd.sublist selL_sub, (List.reverse_perm B).nodup_iff.2 ndAB.2.1, fun a ha b hb e => ?_⟩, fun a ha b hb e => ?_⟩
    · subst e
      have h1 := hgood _ (hBl a (List.mem_reverse.1 hb)).2.2.2
      rw [refOther, mem_selL] at ha
      simp [h1.2] at ha
    · subst e
      rw [refDen, (sortR_perm _).mem_iff, mem_selL] at ha
      have ha' : 0 ≤ a.den := by simpa using ha.2.2 |> fun h => (by simpa using h : a.state = 2 ∧ 0 ≤ a.den).2
      rcases List.mem_append.1 hb with hb | hb
      · rw [refOther, mem_selL] at hb
        have : a.den < 0 := by
          have h := hb.2.2
          simp only [Bool.and_eq_true, decide_eq_true_eq] at h
          exact h.2.1
        omega
      · have h1 := (hgood _ (hBl a (List.mem_reverse.1 hb)).2.2.2).1
        omega
  have hcount : ∀ x ∈ l, ((refVic g l k).map Ins.id).count x.id = if x ∈ refVic g l k then 1 else 0 := fun x hx => by
    rw [count_ids hg.d hx hsub]
    by_cases h : x ∈ refVic g l k
    · rw [if_pos h, ndV.count, if_pos h]
    · rw [if_neg h]; exact List.count_eq_zero_of_not_mem h
  have hspV : ∀ x ∈ refSpare g l k, (x ∈ refVic g l k ↔ x ∈ B) := fun x hx => by
    obtain ⟨h1, h2, h3, h4⟩ := (hspare x).1 hx
    obtain ⟨h5, h6⟩ := hgood x h4
    rw [hV]
    constructor
    · rintro (h | h | h)
      · omega
      · exact absurd h6 h.2.2.2.2
      · exact h
    · exact fun h => .inr (.inr h)
  have hsum : ((refSpare g l k).map fun x => ((refVic g l k).map Ins.id).count x.id).sum = B.length := by
    have e : (refSpare g l k).map (fun x => ((refVic g l k).map Ins.id).count x.id) = (refSpare g l k).map (fun x => if decide (x ∈ B) = true then 1 else 0) := by
      refine List.map_congr_left fun x hx => ?_
      rw [hcount x ((hspare x).1 hx).1]
      simp only [hspV x hx, decide_eq_true_eq]
    rw [e, sum_ind, hAB, List.filter_append]
    have e1 : A.filter (fun x => decide (x ∈ B)) = [] := by
      rw [List.filter_eq_nil_iff]
      intro a ha
      have := ndAB.2.2 a ha
      simp only [decide_eq_true_eq]
      exact fun hb => this a hb rfl
    have e2 : B.filter (fun x => decide (x ∈ B)) = B := by
      rw [List.filter_eq_self]; intro a ha; simpa using ha
    rw [e1, e2, List.nil_append]
  have hBlen : B.length = min ((selL l k (sGoodR g)).length - g.want).toNat (refSpare g l k).length := by
    have := congrArg List.length hB
    rw [List.length_take, List.length_reverse, List.length_reverse] at this
    exact this.symm
  refine ⟨fun x hx h1 h2 h3 => ?_, fun x hx h1 h2 h3 => ?_, by rw [hsum, hBlen], ?_⟩
  · rw [hcount x hx, if_pos]
    rw [hV]
    by_cases h : 0 ≤ x.den
    · exact .inl ⟨hx, h1, h2, h⟩
    · refine .inr (.inl ⟨hx, h1, h2, by omega, fun ha => ?_⟩)
      have := (hg.s x hx).2.2
      have hd : x.den = -1 := by omega
      simp [sGoodR, h2, hd, ha] at h3
  · rw [hcount x hx]; split <;> omega
  · rw [hsum, List.length_map, refVic, hB, List.length_append, List.length_append, List.length_reverse]
    have e1 : (refDen l k).length = (selL l k (fun x => decide (x.state = 2) && decide (0 ≤ x.den))).length := (sortR_perm _).length_eq
    have e2 : (selL l k fun x => decide (x.state = 2) && !sGoodR g x).length = (selL l k (fun x => decide (x.state = 2) && decide (0 ≤ x.den))).length + (refOther g l k).length := by
      refine len_split fun x hx => ?_
      have h3 := (hg.s x hx).2.2
      by_cases h2 : x.state = 2
      · by_cases h : 0 ≤ x.den
        · have hd : ¬ x.den = -1 := by omega
          have hd' : ¬ x.den < 0 := by omega
          simp [sGoodR, h2, hd, hd', h]
        · have hd : x.den = -1 := by omega
          simp [sGoodR, h2, hd]
      · simp [h2]
    omega
/-! first -/
theorem vic_first {l : List Ins} {k : Int} {g : Grp} {i : Nat} (hi : i < (refVic g l k).length) (hd : 0 ≤ (refVic g l k)[i].den) : (∀ j (hj : j < i), 0 ≤ ((refVic g l k)[j]'(by omega)).den) ∧ ∀ j (hj : j < i), ((refVic g l k)[j]'(by omega)).den ≤ (refVic g l k)[i].den := by
  have hD : ∀ x ∈ refDen l k, 0 ≤ x.den := fun x hx => by
    rw [refDen, (sortR_perm _).mem_iff, mem_selL] at hx
    have h := hx.2.2
    simp only [Bool.and_eq_true, decide_eq_true_eq] at h
    exact h.2
  have hR : ∀ x ∈ refOther g l k ++ (refSpare g l k).reverse.take ((selL l k (sGoodR g)).length - g.want).toNat, x.den < 0 := fun x hx => by
    rcases List.mem_append.1 hx with hx | hx
    · rw [refOther, mem_selL] at hx
      have h := hx.2.2
      simp only [Bool.and_eq_true, decide_eq_true_eq] at h
      exact h.2.1
    · have := List.mem_reverse.1 (List.mem_of_mem_take hx)
      rw [refSpare, mem_selL] at this
      have h := this.2.2
      simp only [sGoodR, Bool.and_eq_true, decide_eq_true_eq] at h
      omega
  have hlt : i < (refDen l k).length := by
    by_cases h : i < (refDen l k).length
    · exact h
    · have hm : (refVic g l k)[i] ∈ refOther g l k ++ (refSpare g l k).reverse.take ((selL l k (sGoodR g)).length - g.want).toNat := by
        have e : (refVic g l k)[i] = (refOther g l k ++ (refSpare g l k).reverse.take ((selL l k (sGoodR g)).length - g.want).toNat)[i - (refDen l k).length]'(by simp only [refVic, List.length_append] at hi ⊢; omega) := by
          simp only [refVic]; rw [List.getElem_append_right (by omega)]
        rw [e]; exact List.getElem_mem _
      have := hR _ hm
      omega
  have e : ∀ j (hj : j < (refDen l k).length), (refVic g l k)[j]'(by simp only [refVic, List.length_append]; omega) = (refDen l k)[j] := fun j hj => by
    simp only [refVic]; rw [List.getElem_append_left hj]
  have hs : (refDen l k).Pairwise (fun a b => a.den ≤ b.den) := sortR_sorted (fun _ _ => rfl) _
  refine ⟨fun j hj => ?_, fun j hj => ?_⟩
  · rw [e j (by omega)]; exact hD _ (List.getElem_mem _)
  · rw [e j (by omega), e i hlt]
    exact List.pairwise_iff_getElem.1 hs j i _ _ hj
/-! overdue -/
theorem mem_over {t : Int} {gr : List Int} {n : Int} : ∀ {l : List Ins} {i : Nat}, n ∈ overP l i gr t ↔ ∃ (j : Nat) (h : j < l.length), overB l[j] (gr.getD (i + j) 0) t = true ∧ l[j].id = n
  | [], i => by simp [overP]
  | x :: l, i => by
    have ih := mem_over (t := t) (gr := gr) (n := n) (l := l) (i := i + 1)
    have e : (∃ (j : Nat) (h : j < (x :: l).length), overB (x :: l)[j] (gr.getD (i + j) 0) t = true ∧ (x :: l)[j].id = n) ↔ (overB x (gr.getD i 0) t = true ∧ x.id = n) ∨ ∃ (j : Nat) (h : j < l.length), overB l[j] (gr.getD (i + 1 + j) 0) t = true ∧ l[j].id = n := by
      constructor
      · rintro ⟨j, h, h1, h2⟩
        cases j with
        | zero => exact .inl ⟨h1, h2⟩
        | succ j => exact .inr ⟨j, by simpa using h, by rw [show i + 1 + j = i + (j + 1) by omega]; exact h1, h2⟩
      · rintro (⟨h1, h2⟩ | ⟨j, h, h1, h2⟩)
        · exact ⟨0, by simp, h1, h2⟩
        · exact ⟨j + 1, by simpa using h, by rw [show i + (j + 1) = i + 1 + j by omega]; exact h1, h2⟩
    rw [e, ← ih]
    by_cases h : overB x (gr.getD i 0) t = true
    · rw [overP, if_pos h, List.mem_cons]
      constructor
      · rintro (q | q)
        · exact .inl ⟨h, q.symm⟩
        · exact .inr q
      · rintro (q | q)
        · exact .inl q.2.symm
        · exact .inr q
    · rw [overP, if_neg h]
      constructor
      · exact fun q => .inr q
      · rintro (q | q)
        · exact absurd q.1 h
        · exact q
theorem over_later {l : List Ins} {i : Nat} {gr gr' : List Int} {t t' n : Int} (ht : t ≤ t') (hg : ∀ j, gr'.getD j 0 ≤ gr.getD j 0) (h : n ∈ overP l i gr t) : n ∈ overP l i gr' t' := by
  rw [mem_over] at h ⊢
  obtain ⟨j, hj, h1, h2⟩ := h
  refine ⟨j, hj, ?_, h2⟩
  have := hg (i + j)
  simp only [overB, Bool.and_eq_true, decide_eq_true_eq] at h1 ⊢
  omega
end Go.Proofs.YtjhakjeioppijaaDoor
/-
  Disruption: stopping as many as there is room for.
-/
set_option linter.unusedSimpArgs false
set_option linter.unusedVariables false
namespace Go.Proofs.YtjhakjeioppijaaDoor
open Go Go.Am

/-! clusters whose instances change -/
theorem clone_names {l : List Grp} : ∀ i (h1 : i < (l.map Grp.clone).length) (h2 : i < l.length), (l.map Grp.clone)[i].ns = l[i].ns ∧ (l.map Grp.clone)[i].im = l[i].im := fun i h1 h2 => by
  rw [List.getElem_map]; exact ⟨rfl, rfl⟩
theorem validG_clone {g : Grp} (h : ValidG g) : ValidG g.clone := ⟨h.ns, h.im, h.w0, h.w1, h.l0, h.l1, h.d0, h.d1, h.n, h.ch⟩
theorem valid_clone_g {c : Clu} (hv : ValidC c) : ∀ i (h : i < (c.g.l.map Grp.clone).length), ValidG (c.g.l.map Grp.clone)[i] ∧ grpIx (c.g.l.map Grp.clone) (c.g.l.map Grp.clone)[i].ns (c.g.l.map Grp.clone)[i].im = i := by
  intro i hi
  have hi' : i < c.g.l.length := by simpa using hi
  obtain ⟨g1, g2⟩ := hv.g i hi'
  rw [(clone_names i hi hi').1, (clone_names i hi hi').2, List.getElem_map]
  refine ⟨validG_clone g1, ?_⟩
  rw [grpIx_names (l := c.g.l.map Grp.clone) (l' := c.g.l) (by simp) clone_names]
  exact g2
/-- the same instances, otherwise marked -/
theorem valid_upd {c : Clu} (hv : ValidC c) {y : Sl Ins} (hl : y.l.length = c.i.l.length) (h : ∀ i (h1 : i < y.l.length) (h2 : i < c.i.l.length), y.l[i].id = c.i.l[i].id ∧ SoundI c.g.l.length c.next y.l[i]) : ValidC ⟨c.clone.g, y, c.next⟩ := by
  have hgl : c.clone.g.l = c.g.l.map Grp.clone := rfl
  refine ⟨by show c.clone.g.l.length ≤ 16; rw [hgl]; simpa using hv.ng, by show y.l.length ≤ 200; rw [hl]; exact hv.ni, hv.n0, hv.n1, valid_clone_g hv, fun i hi => ?_⟩
  have hi1 : i < y.l.length := hi
  have hi' : i < c.i.l.length := by omega
  have hp : i - 1 < y.l.length := by omega
  have hp' : i - 1 < c.i.l.length := by omega
  obtain ⟨a1, a2⟩ := h i hi1 hi'
  obtain ⟨b1, _⟩ := h (i - 1) hp hp'
  refine ⟨?_, fun h0 => ?_⟩
  · show SoundI c.clone.g.l.length c.next y.l[i]
    rw [hgl, List.length_map]; exact a2
  · show y.l[i - 1].id < y.l[i].id
    rw [a1, b1]
    exact (hv.i i hi').2 h0

/-! stopped in order -/
def runB (k : Int) (x : Ins) : Bool := decide (x.grp = k) && decide (x.state = 2)
def stopI (x : Ins) : Ins := (x.st 3).si 50
def stopL (k : Int) : List Ins → Nat → List Ins
  | [], _ => []
  | x :: r, 0 => x :: r
  | x :: r, n + 1 => if runB k x = true then stopI x :: stopL k r n else x :: stopL k r (n + 1)
def cntR (k : Int) (l : List Ins) : Nat := (l.filter (runB k)).length
theorem stopL_zero {k : Int} : ∀ {l : List Ins}, stopL k l 0 = l
  | [] => rfl
  | x :: r => rfl
theorem stopL_len {k : Int} : ∀ {l : List Ins} {n : Nat}, (stopL k l n).length = l.length
  | [], _ => rfl
  | x :: r, 0 => rfl
  | x :: r, n + 1 => by
    simp only [stopL]
    split <;> simp [stopL_len]
theorem stopL_get {k : Int} : ∀ {l : List Ins} {n i : Nat} (h1 : i < (stopL k l n).length) (h2 : i < l.length), (stopL k l n)[i] = l[i] ∨ runB k l[i] = true ∧ (stopL k l n)[i] = stopI l[i]
  | [], _, i, h1, h2 => by simp at h2
  | x :: r, 0, i, h1, h2 => .inl rfl
  | x :: r, n + 1, i, h1, h2 => by
    by_cases hx : runB k x = true
    · simp only [stopL, hx, if_true] at h1 ⊢
      cases i with
      | zero => exact .inr ⟨hx, rfl⟩
      | succ i => exact stopL_get (by simpa using h1) (by simpa using h2)
    · have e : stopL k (x :: r) (n + 1) = x :: stopL k r (n + 1) := by simp only [stopL, hx]; rfl
      simp only [e] at h1 ⊢
      cases i with
      | zero => exact .inl rfl
      | succ i => exact stopL_get (by simpa using h1) (by simpa using h2)
/-- the next one -/
theorem stopL_next {k : Int} : ∀ {l : List Ins} {n i : Nat} (h2 : i < l.length), runB k l[i] = true → cntR k (l.take i) = n → (∃ h1 : i < (stopL k l n).length, (stopL k l n)[i] = l[i]) ∧ stopL k l (n + 1) = (stopL k l n).set i (stopI l[i])
  | [], _, i, h2, _, _ => by simp at h2
  | x :: r, n, 0, h2, hr, hc => by
    simp [cntR] at hc
    subst hc
    simp only [List.getElem_cons_zero] at hr
    refine ⟨⟨by simp [stopL], rfl⟩, ?_⟩
    simp only [stopL, hr, if_true, stopL_zero, List.getElem_cons_zero, List.set_cons_zero]
  | x :: r, n, i + 1, h2, hr, hc => by
    have h2' : i < r.length := by simpa using h2
    have hr' : runB k r[i] = true := by simpa using hr
    rw [List.take_succ_cons] at hc
    by_cases hx : runB k x = true
    · obtain ⟨m, rfl⟩ : ∃ m, n = m + 1 := ⟨cntR k (r.take i), by rw [← hc]; simp [cntR, List.filter_cons, hx]⟩
      have hc' : cntR k (r.take i) = m := by simp [cntR, List.filter_cons, hx] at hc ⊢; exact hc
      obtain ⟨⟨g1, g2⟩, g3⟩ := stopL_next h2' hr' hc'
      have e1 : stopL k (x :: r) (m + 1) = stopI x :: stopL k r m := by simp only [stopL, hx, if_true]
      have e2 : stopL k (x :: r) (m + 1 + 1) = stopI x :: stopL k r (m + 1) := by simp only [stopL, hx, if_true]
      refine ⟨⟨by rw [stopL_len]; exact h2, ?_⟩, ?_⟩
      · simp only [e1, List.getElem_cons_succ]; exact g2
      · rw [e1, e2, List.set_cons_succ, g3]; rfl
    · have hc' : cntR k (r.take i) = n := by simp [cntR, List.filter_cons, hx] at hc ⊢; exact hc
      obtain ⟨⟨g1, g2⟩, g3⟩ := stopL_next h2' hr' hc'
      have e1 : stopL k (x :: r) n = x :: stopL k r n := by
        cases n with
        | zero => simp [stopL_zero]
        | succ n => simp only [stopL, hx]; rfl
      have e2 : stopL k (x :: r) (n + 1) = x :: stopL k r (n + 1) := by simp only [stopL, hx]; rfl
      refine ⟨⟨by rw [stopL_len]; exact h2, ?_⟩, ?_⟩
      · simp only [e1, List.getElem_cons_succ]; exact g2
      · rw [e1, e2, List.set_cons_succ, g3]; rfl
theorem runB_stop {k : Int} {x : Ins} : runB k (stopI x) = false := by simp [runB, stopI, Ins.st, Ins.si]
theorem stopL_cnt {k : Int} : ∀ {l : List Ins} {n : Nat}, n ≤ cntR k l → cntR k (stopL k l n) + n = cntR k l
  | [], n, h => by simp [cntR] at h; subst h; rfl
  | x :: r, 0, h => by rw [stopL_zero]; rfl
  | x :: r, n + 1, h => by
    by_cases hx : runB k x = true
    · have h' : n ≤ cntR k r := by simp [cntR, List.filter_cons, hx] at h ⊢; exact h
      have ih := stopL_cnt h'
      simp only [stopL, hx, if_true]
      simp only [cntR, List.filter_cons, hx, runB_stop, if_true] at ih ⊢
      simp at ih ⊢
      omega
    · have h' : n + 1 ≤ cntR k r := by simp [cntR, List.filter_cons, hx] at h ⊢; exact h
      have ih := stopL_cnt h'
      have e : stopL k (x :: r) (n + 1) = x :: stopL k r (n + 1) := by simp only [stopL, hx]; rfl
      rw [e]
      simp only [cntR, List.filter_cons, hx] at ih ⊢
      exact ih
theorem cnt_take {k : Int} {l : List Ins} {i : Nat} (h : i < l.length) : cntR k (l.take (i + 1)) = cntR k (l.take i) + (if runB k l[i] = true then 1 else 0) := by
  rw [List.take_succ_eq_append_getElem h, cntR, List.filter_append, List.length_append]
  congr 1
  simp only [List.filter_cons, List.filter_nil]
  split <;> rfl
theorem cnt_le {k : Int} {l : List Ins} {i : Nat} : cntR k (l.take i) ≤ cntR k l := by
  have : cntR k l = cntR k (l.take i) + cntR k (l.drop i) := by
    conv => lhs; rw [← List.take_append_drop i l]
    simp only [cntR, List.filter_append, List.length_append]
  omega
theorem live_cnt {c : Clu} {k : Int} {g : Grp} (hk : grAt c k = some g) : liveP c k = cntR k c.i.l := by
  simp only [liveP, idsP, hk, List.length_map, selL, cntR]; rfl
def lim3 (g : Grp) : Int × Int × Int := (g.want, g.least, g.down)
theorem findIx_at {l : List Ins} (hd : l.Pairwise (fun x y => x.id < y.id)) {i : Nat} (h : i < l.length) : findIx l l[i].id = i := by
  refine ixI_at h (by simp) fun j hj hji => ?_
  have := List.pairwise_iff_getElem.1 hd j i hj h hji
  simp; omega
/-- a cluster after n stops -/
structure Stp (c d : Clu) (k : Int) (n : Nat) : Prop where
  v : ValidC d
  i : d.i.l = stopL k c.i.l n
  n : d.next = c.next
  g : d.g.l.map lim3 = c.g.l.map lim3
theorem stp_next {c d : Clu} {k : Int} {n i : Nat} (hv : ValidC c) (h : Stp c d k n) (hi : i < c.i.l.length) (hr : runB k c.i.l[i] = true) (hn : cntR k (c.i.l.take i) = n) : (changeP d c.i.l[i].id 50 3).2 = 0 ∧ Stp c (changeP d c.i.l[i].id 50 3).1 k (n + 1) := by
  obtain ⟨⟨h1, h2⟩, h3⟩ := stopL_next hi hr hn
  have hid : i < d.i.l.length := by rw [h.i]; exact h1
  have e1 : d.i.l[i] = c.i.l[i] := by simp only [h.i]; exact h2
  have hf : findIx d.i.l c.i.l[i].id = i := by rw [← e1]; exact findIx_at (good_of h.v).d hid
  have h50 : timeOK 50 := ⟨by decide, by decide⟩
  have hst : c.i.l[i].state = 2 := by simp only [runB, Bool.and_eq_true, decide_eq_true_eq] at hr; exact hr.2
  have hd : changeP d c.i.l[i].id 50 3 = (⟨d.clone.g, own (setI d.i.l i 3 50), d.next⟩, 0) := by
    unfold changeP
    rw [if_neg (fun q => q.elim (fun q => q h.v) (fun q => q h50)), hf, if_neg (by omega), Int.toNat_natCast, List.getElem?_eq_getElem hid, e1]
    rw [if_pos (by simp [may, hst])]
  have hset : setI d.i.l i 3 50 = d.i.l.set i (stopI c.i.l[i]) := by rw [setI_at hid, e1]; rfl
  have hb : (setI d.i.l i 3 50).length ≤ 4294967296 := by rw [hset, List.length_set]; exact d.i.b
  rw [hd]
  refine ⟨rfl, ?_⟩
  have hgl : d.clone.g.l = d.g.l.map Grp.clone := rfl
  refine ⟨valid_upd h.v (by rw [own_l hb, hset, List.length_set]) fun j g1 g2 => ?_, by show (own (setI d.i.l i 3 50)).l = _; rw [own_l hb, hset, h3, h.i], h.n, ?_⟩
  · have e2 : (own (setI d.i.l i 3 50)).l[j] = (d.i.l.set i (stopI c.i.l[i]))[j]'(by rw [List.length_set]; exact g2) := List.getElem_of_eq ((own_l hb).trans hset) g1
    rw [e2, List.getElem_set]
    obtain ⟨q, _⟩ := h.v.i j g2
    split
    · rename_i e; subst e
      refine ⟨by rw [e1]; rfl, ?_⟩
      rw [← e1]
      exact ⟨q.id0, q.id1, q.g0, q.g1, q.art, by show (1 : Int) ≤ 3; decide, by show (3 : Int) ≤ 3; decide, h50, q.de⟩
    · exact ⟨rfl, q⟩
  · show d.clone.g.l.map lim3 = _
    rw [hgl, List.map_map, ← h.g]
    rfl
theorem stp_zero {c : Clu} {k : Int} (hv : ValidC c) : Stp c c k 0 := ⟨hv, stopL_zero.symm, rfl, rfl⟩
/-- the law -/
theorem room_law {c d : Clu} {k : Int} {g : Grp} (hv : ValidC c) (hk : grAt c k = some g) (h : Stp c d k (roomP c k).toNat) :
    0 ≤ roomP c k ∧ roomP c k ≤ liveP c k ∧ (0 < roomP c k → g.least ≤ liveP d k ∧ g.want - liveP d k ≤ g.down) ∧ roomP d k = 0 ∧ ((liveP d k : Int) - 1 < g.least ∨ g.down < g.want - ((liveP d k : Int) - 1)) := by
  have hk0 : 0 ≤ k := by
    unfold grAt at hk
    split at hk
    · assumption
    · simp at hk
  have hkg : c.g.l[k.toNat]? = some g := by unfold grAt at hk; rwa [if_pos hk0] at hk
  obtain ⟨hlt, hgg⟩ := List.getElem?_eq_some_iff.1 hkg
  obtain ⟨hV, _⟩ := hv.g _ hlt
  rw [hgg] at hV
  have hl0 := hV.l0
  have hcd : (d.g.l.map lim3)[k.toNat]? = (c.g.l.map lim3)[k.toNat]? := by rw [h.g]
  rw [List.getElem?_map, List.getElem?_map, hkg] at hcd
  obtain ⟨g', hg', he⟩ := Option.map_eq_some_iff.1 hcd
  have hkd : grAt d k = some g' := by unfold grAt; rw [if_pos hk0]; exact hg'
  simp only [lim3, Prod.mk.injEq] at he
  obtain ⟨w1, w2, w3⟩ := he
  have hlc := live_cnt hk
  have hld := live_cnt hkd
  have hr : roomP c k = max ((liveP c k : Int) - max g.least (g.want - g.down)) 0 := by unfold roomP; rw [hk]
  have hr' : roomP d k = max ((liveP d k : Int) - max g.least (g.want - g.down)) 0 := by unfold roomP; rw [hkd]; simp only [w1, w2, w3]
  have hle : (roomP c k).toNat ≤ cntR k c.i.l := by omega
  have := stopL_cnt hle
  rw [← h.i] at this
  omega
end Go.Proofs.YtjhakjeioppijaaDoor
/-
  Arguments of laws as data: lists of numbers, booleans, numbers.
-/
set_option linter.unusedSimpArgs false
set_option linter.unusedVariables false
namespace Go.Proofs.YtjhakjeioppijaaDoor
open Go Go.Am
theorem ok_n {ds : List DV} (h : Ty.Ok (.int .i64) ds) : ∃ n : Int, (-9223372036854775808 ≤ n ∧ n ≤ 9223372036854775807) ∧ ds = [.int .i64 n] := ok_i64 h
theorem ok_boo {ds : List DV} (h : Ty.Ok .bool ds) : ∃ b : Bool, ds = [.bool b] := h
theorem ok_nl {ds : List DV} (h : Ty.Ok (.sl (.int .i64)) ds) : ∃ x : Nl, (∀ n ∈ x.l, -9223372036854775808 ≤ n ∧ n ≤ 9223372036854775807) ∧ ds = [x.dv] := by
  obtain ⟨k, l, h1, h2, rfl, hb⟩ := ok_slb (f := inI) (R := fun n => -9223372036854775808 ≤ n ∧ n ≤ 9223372036854775807) (fun ds h => by obtain ⟨n, hn, rfl⟩ := ok_i64 h; exact ⟨n, hn, rfl⟩) h
  exact ⟨⟨k, l, h1, hb⟩, h2, rfl⟩
end Go.Proofs.YtjhakjeioppijaaDoor
/-
  Functions of this claim, as the abstract machine has them. MADE BY A PROGRAM of mine.
-/
set_option linter.unusedSimpArgs false
set_option linter.unusedVariables false
namespace Go.Proofs.YtjhakjeioppijaaDoor
open Go Go.Am
-- 4 admission/admissionlaw37.WorkloadChanged
def a4 : AFn where
  code := (.seq (.region false [⟨none, (some 7), .box (.t 3)⟩,
    ⟨none, (some 8), .mov (.k (.bool false))⟩])
  (.seq (.region false [⟨none, (some 13), .mov (.t 0)⟩,
    ⟨none, (some 14), .call (.k (.fn (.func 26) [] [])) [(.t 13), (.k (.int .i64 150))]⟩,
    ⟨none, (some 9), .mov (.t 14)⟩])
  (.seq (.region false [⟨none, (some 15), .mov (.t 9)⟩,
    ⟨none, (some 16), .call (.k (.fn (.func 27) [] [])) [(.t 15), (.k (.int .i64 6))]⟩,
    ⟨none, (some 10), .alloc [.nils, .nils, (.int .i64 0)]⟩,
    ⟨none, none, .store 3 (.t 10) (.t 16)⟩])
  (.seq (.region true [⟨none, (some 17), .fld 0 (.t 10)⟩,
    ⟨none, (some 18), .load 1 false (.t 17)⟩,
    ⟨none, (some 19), .mov (.t 9)⟩,
    ⟨none, (some 20), .fld 0 (.t 10)⟩,
    ⟨none, (some 21), .load 1 false (.t 20)⟩,
    ⟨none, (some 22), .len (.t 21)⟩,
    ⟨none, (some 23), .callT (.k (.fn (.func 28) [] [])) [(.t 19), (.t 22)]⟩,
    ⟨none, (some 24), .idxS 6 (.t 18) (.t 23)⟩,
    ⟨none, (some 11), .mov (.t 24)⟩,
    ⟨none, none, .apart (.t 10) (.t 19)⟩,
    ⟨none, none, .apart (.t 17) (.t 19)⟩])
  (.seq (.seq (.region false [⟨none, (some 25), .fld 1 (.t 10)⟩,
    ⟨none, (some 26), .load 1 false (.t 25)⟩,
    ⟨none, (some 27), .len (.t 26)⟩,
    ⟨none, (some 28), .bin .eql (.t 27) (.k (.int .i64 0))⟩])
  (.cond (.t 28) (.seq (.region false [⟨none, (some 29), .fld 2 (.t 10)⟩,
    ⟨none, (some 30), .load 1 false (.t 29)⟩,
    ⟨none, (some 31), .build (rep 32 (w8 0#8)) [(0, 1, (.k (w8 1#8)))]⟩,
    ⟨none, (some 32), .build [(.int .i64 0), (.int .i64 0), (w8 0#8), (w8 0#8), (w8 0#8), (w8 0#8), (w8 0#8), (w8 0#8), (w8 0#8), (w8 0#8), (w8 0#8), (w8 0#8), (w8 0#8), (w8 0#8), (w8 0#8), (w8 0#8), (w8 0#8), (w8 0#8), (w8 0#8), (w8 0#8), (w8 0#8), (w8 0#8), (w8 0#8), (w8 0#8), (w8 0#8), (w8 0#8), (w8 0#8), (w8 0#8), (w8 0#8), (w8 0#8), (w8 0#8), (w8 0#8), (w8 0#8), (w8 0#8), (.int .i64 0), (.int .i64 0), (.int .i64 0)] [(0, 1, (.t 30)), (2, 32, (.t 31)), (34, 1, (.k (.int .i64 1))), (36, 1, (.k (.int .i64 (-1))))]⟩,
    ⟨none, (some 33), .bsl 37 1 [(.int .i64 0), (.int .i64 0), (w8 0#8), (w8 0#8), (w8 0#8), (w8 0#8), (w8 0#8), (w8 0#8), (w8 0#8), (w8 0#8), (w8 0#8), (w8 0#8), (w8 0#8), (w8 0#8), (w8 0#8), (w8 0#8), (w8 0#8), (w8 0#8), (w8 0#8), (w8 0#8), (w8 0#8), (w8 0#8), (w8 0#8), (w8 0#8), (w8 0#8), (w8 0#8), (w8 0#8), (w8 0#8), (w8 0#8), (w8 0#8), (w8 0#8), (w8 0#8), (w8 0#8), (w8 0#8), (.int .i64 0), (.int .i64 0), (.int .i64 0)] [(0, 37, (.t 32))]⟩,
    ⟨none, (some 34), .fld 1 (.t 10)⟩,
    ⟨none, none, .store 1 (.t 34) (.t 33)⟩])
  (.region false [⟨none, (some 35), .fld 2 (.t 10)⟩,
    ⟨none, (some 36), .load 1 false (.t 35)⟩,
    ⟨none, (some 37), .bin .add (.t 36) (.k (.int .i64 1))⟩,
    ⟨none, (some 38), .fld 2 (.t 10)⟩,
    ⟨none, none, .store 1 (.t 38) (.t 37)⟩]))
  .skip))
  (.seq (.region true [⟨none, (some 39), .fld 1 (.t 10)⟩,
    ⟨none, (some 40), .load 1 false (.t 39)⟩,
    ⟨none, (some 41), .mov (.t 9)⟩,
    ⟨none, (some 42), .fld 1 (.t 10)⟩,
    ⟨none, (some 43), .load 1 false (.t 42)⟩,
    ⟨none, (some 44), .len (.t 43)⟩,
    ⟨none, (some 45), .callT (.k (.fn (.func 28) [] [])) [(.t 41), (.t 44)]⟩,
    ⟨none, (some 46), .idxS 37 (.t 40) (.t 45)⟩,
    ⟨none, (some 12), .mov (.t 46)⟩,
    ⟨none, none, .apart (.t 10) (.t 41)⟩,
    ⟨none, none, .apart (.t 39) (.t 41)⟩])
  (.seq (.seq (.region false [⟨none, (some 47), .mov (.t 1)⟩,
    ⟨none, (some 48), .call (.k (.fn (.func 29) [] [])) [(.t 47), (.k (.int .i64 13))]⟩])
  (.block 0 (.seq (.region false [⟨none, (some 59), .bin .eql (.t 48) (.k (.int .i64 0))⟩,
    ⟨none, (some 58), .mov (.t 59)⟩])
  (.cond (.t 58) (.region false [⟨none, (some 60), .mov (.t 11)⟩,
    ⟨none, (some 61), .mov (.t 2)⟩,
    ⟨none, (some 62), .nilc (.t 60)⟩,
    ⟨none, (some 63), .fld 2 (.t 62)⟩,
    ⟨none, none, .store 1 (.t 63) (.t 61)⟩])
  (.seq (.region false [⟨none, (some 65), .bin .eql (.t 48) (.k (.int .i64 1))⟩,
    ⟨none, (some 64), .mov (.t 65)⟩])
  (.cond (.t 64) (.region false [⟨none, (some 66), .mov (.t 11)⟩,
    ⟨none, (some 67), .mov (.t 2)⟩,
    ⟨none, (some 68), .nilc (.t 66)⟩,
    ⟨none, (some 69), .fld 3 (.t 68)⟩,
    ⟨none, none, .store 1 (.t 69) (.t 67)⟩])
  (.seq (.region false [⟨none, (some 71), .bin .eql (.t 48) (.k (.int .i64 2))⟩,
    ⟨none, (some 70), .mov (.t 71)⟩])
  (.cond (.t 70) (.region false [⟨none, (some 72), .mov (.t 11)⟩,
    ⟨none, (some 73), .mov (.t 2)⟩,
    ⟨none, (some 74), .nilc (.t 72)⟩,
    ⟨none, (some 75), .fld 4 (.t 74)⟩,
    ⟨none, none, .store 1 (.t 75) (.t 73)⟩])
  (.seq (.region false [⟨none, (some 77), .bin .eql (.t 48) (.k (.int .i64 3))⟩,
    ⟨none, (some 76), .mov (.t 77)⟩])
  (.cond (.t 76) (.region true [⟨none, (some 78), .mov (.t 11)⟩,
    ⟨none, (some 79), .mov (.t 11)⟩,
    ⟨none, (some 80), .nilc (.t 79)⟩,
    ⟨none, (some 81), .fld 5 (.t 80)⟩,
    ⟨none, (some 82), .load 1 false (.t 81)⟩,
    ⟨none, (some 83), .load 32 true (.t 7)⟩,
    ⟨none, (some 84), .bsl 32 1 (rep 32 (w8 0#8)) [(0, 32, (.t 83))]⟩,
    ⟨none, (some 85), .app 32 32 (.t 82) (.t 84)⟩,
    ⟨none, (some 86), .nilc (.t 78)⟩,
    ⟨none, (some 87), .fld 5 (.t 86)⟩,
    ⟨none, none, .store 1 (.t 87) (.t 85)⟩])
  (.seq (.region false [⟨none, (some 89), .bin .eql (.t 48) (.k (.int .i64 4))⟩,
    ⟨none, (some 88), .mov (.t 89)⟩])
  (.cond (.t 88) (.region false [⟨none, (some 90), .mov (.t 11)⟩,
    ⟨none, (some 91), .nilc (.t 90)⟩,
    ⟨none, (some 92), .fld 0 (.t 91)⟩,
    ⟨none, none, .store 1 (.t 92) (.k (.str [47]))⟩])
  (.seq (.region false [⟨none, (some 94), .bin .eql (.t 48) (.k (.int .i64 5))⟩,
    ⟨none, (some 93), .mov (.t 94)⟩])
  (.cond (.t 93) (.region false [⟨none, (some 95), .mov (.t 12)⟩,
    ⟨none, (some 96), .mov (.t 2)⟩,
    ⟨none, (some 97), .nilc (.t 95)⟩,
    ⟨none, (some 98), .fld 0 (.t 97)⟩,
    ⟨none, none, .store 1 (.t 98) (.t 96)⟩])
  (.seq (.region false [⟨none, (some 100), .bin .eql (.t 48) (.k (.int .i64 6))⟩,
    ⟨none, (some 99), .mov (.t 100)⟩])
  (.cond (.t 99) (.region false [⟨none, (some 101), .mov (.t 12)⟩,
    ⟨none, (some 102), .mov (.t 2)⟩,
    ⟨none, (some 103), .nilc (.t 101)⟩,
    ⟨none, (some 104), .fld 1 (.t 103)⟩,
    ⟨none, none, .store 1 (.t 104) (.t 102)⟩])
  (.seq (.region false [⟨none, (some 106), .bin .eql (.t 48) (.k (.int .i64 7))⟩,
    ⟨none, (some 105), .mov (.t 106)⟩])
  (.cond (.t 105) (.region false [⟨none, (some 107), .mov (.t 12)⟩,
    ⟨none, (some 108), .load 32 true (.t 7)⟩,
    ⟨none, (some 109), .nilc (.t 107)⟩,
    ⟨none, (some 110), .fld 2 (.t 109)⟩,
    ⟨none, none, .store 32 (.t 110) (.t 108)⟩])
  (.seq (.region false [⟨none, (some 112), .bin .eql (.t 48) (.k (.int .i64 8))⟩,
    ⟨none, (some 111), .mov (.t 112)⟩])
  (.cond (.t 111) (.region false [⟨none, (some 113), .mov (.t 12)⟩,
    ⟨none, (some 114), .mov (.t 2)⟩,
    ⟨none, (some 115), .nilc (.t 113)⟩,
    ⟨none, (some 116), .fld 34 (.t 115)⟩,
    ⟨none, none, .store 1 (.t 116) (.t 114)⟩])
  (.seq (.region false [⟨none, (some 118), .bin .eql (.t 48) (.k (.int .i64 9))⟩,
    ⟨none, (some 117), .mov (.t 118)⟩])
  (.cond (.t 117) (.region false [⟨none, (some 119), .mov (.t 12)⟩,
    ⟨none, (some 120), .mov (.t 2)⟩,
    ⟨none, (some 121), .nilc (.t 119)⟩,
    ⟨none, (some 122), .fld 35 (.t 121)⟩,
    ⟨none, none, .store 1 (.t 122) (.t 120)⟩])
  (.seq (.region false [⟨none, (some 124), .bin .eql (.t 48) (.k (.int .i64 10))⟩,
    ⟨none, (some 123), .mov (.t 124)⟩])
  (.cond (.t 123) (.region false [⟨none, (some 125), .mov (.t 12)⟩,
    ⟨none, (some 126), .mov (.t 2)⟩,
    ⟨none, (some 127), .nilc (.t 125)⟩,
    ⟨none, (some 128), .fld 36 (.t 127)⟩,
    ⟨none, none, .store 1 (.t 128) (.t 126)⟩])
  (.seq (.region false [⟨none, (some 130), .bin .eql (.t 48) (.k (.int .i64 11))⟩,
    ⟨none, (some 129), .mov (.t 130)⟩])
  (.cond (.t 129) (.region false [⟨none, (some 131), .mov (.t 2)⟩,
    ⟨none, (some 132), .fld 2 (.t 10)⟩,
    ⟨none, none, .store 1 (.t 132) (.t 131)⟩])
  (.region true [⟨none, (some 49), .fld 0 (.t 10)⟩,
    ⟨none, (some 50), .load 1 false (.t 49)⟩,
    ⟨none, (some 51), .fld 0 (.t 10)⟩,
    ⟨none, (some 52), .load 1 false (.t 51)⟩,
    ⟨none, (some 53), .idxS 6 (.t 52) (.k (.int .i64 0))⟩,
    ⟨none, (some 54), .load 6 true (.t 53)⟩,
    ⟨none, (some 55), .bsl 6 1 [(.str []), (.str []), (.int .i64 0), (.int .i64 0), (.int .i64 0), .nils] [(0, 6, (.t 54))]⟩,
    ⟨none, (some 56), .app 6 80 (.t 50) (.t 55)⟩,
    ⟨none, (some 57), .fld 0 (.t 10)⟩,
    ⟨none, none, .store 1 (.t 57) (.t 56)⟩])))))))))))))))))))))))))))
  (.seq (.region true [⟨none, (some 133), .load 3 true (.t 10)⟩,
    ⟨none, (some 135), .load 3 true (.t 10)⟩,
    ⟨none, (some 134), .callN (.k (.fn (.func 20) [] [])) [(.t 133)]⟩,
    ⟨none, (some 136), .callN (.k (.fn (.func 21) [] [])) [(.t 135)]⟩,
    ⟨none, (some 137), .eqb false (.t 134) (.t 136)⟩,
    ⟨none, (some 138), .mov (.t 137)⟩,
    ⟨(some (138, true)), (some 139), .mov (.t 11)⟩,
    ⟨(some (138, true)), (some 140), .nilc (.t 139)⟩,
    ⟨(some (138, true)), (some 141), .load 6 true (.t 140)⟩,
    ⟨(some (138, true)), (some 143), .mov (.t 11)⟩,
    ⟨(some (138, true)), (some 144), .nilc (.t 143)⟩,
    ⟨(some (138, true)), (some 145), .load 6 true (.t 144)⟩,
    ⟨(some (138, true)), (some 142), .callN (.k (.fn (.func 18) [] [])) [(.t 141)]⟩,
    ⟨(some (138, true)), (some 146), .callN (.k (.fn (.func 19) [] [])) [(.t 145)]⟩,
    ⟨(some (138, true)), (some 147), .eqb false (.t 142) (.t 146)⟩,
    ⟨none, (some 148), .pick (.t 138) (.t 147) (.k (.bool false))⟩,
    ⟨none, (some 149), .mov (.t 148)⟩,
    ⟨(some (149, true)), (some 150), .callN (.k (.fn (.func 17) [] [])) []⟩,
    ⟨none, (some 151), .pick (.t 149) (.t 150) (.k (.bool false))⟩,
    ⟨none, (some 8), .mov (.t 151)⟩])
  .ret))))))))
  ntmps := 152
  res := [.tmp 8]

theorem a4_ok : compileFn P Tryd.f4 = some a4 := by kernel_rfl

-- 5 admission/admissionlaw37.WorkloadMark
def a5L0 : ACode :=
  (.seq (.seq (.region false [⟨none, (some 33), .mov (.t 16)⟩,
    ⟨none, (some 34), .mov (.t 15)⟩,
    ⟨none, (some 35), .len (.t 34)⟩,
    ⟨none, (some 36), .bin .lss (.t 33) (.t 35)⟩])
  (.cond (.t 36) .skip
  (.exit 0)))
  (.seq (.block 1 (.region false [⟨none, (some 39), .mov (.t 15)⟩,
    ⟨none, (some 40), .mov (.t 16)⟩,
    ⟨none, (some 41), .idxS 1 (.t 39) (.t 40)⟩,
    ⟨none, none, .store 1 (.t 41) (.k (.bool true))⟩]))
  (.region false [⟨none, (some 37), .mov (.t 16)⟩,
    ⟨none, (some 38), .bin .add (.t 37) (.k (.int .i64 1))⟩,
    ⟨none, (some 16), .mov (.t 38)⟩])))
/-- 1:first 2:again 12:c 13:from 14:to 15:all 16:i -/
def a5S0 (x1 x2 x12 x13 x14 x15 x16 : DV) (h : List AObj) : St := ⟨[.junk, x1, x2] ++ js 9 ++ [x12, x13, x14, x15, x16] ++ js 88, h⟩

def a5L1 : ACode :=
  (.seq (.seq (.region false [⟨none, (some 65), .mov (.t 19)⟩,
    ⟨none, (some 66), .fld 1 (.t 17)⟩,
    ⟨none, (some 67), .load 1 false (.t 66)⟩,
    ⟨none, (some 68), .len (.t 67)⟩,
    ⟨none, (some 69), .bin .lss (.t 65) (.t 68)⟩])
  (.cond (.t 69) .skip
  (.exit 2)))
  (.seq (.block 3 (.seq (.region true [⟨none, (some 72), .fld 1 (.t 17)⟩,
    ⟨none, (some 73), .load 1 false (.t 72)⟩,
    ⟨none, (some 74), .mov (.t 19)⟩,
    ⟨none, (some 75), .idxS 37 (.t 73) (.t 74)⟩,
    ⟨none, (some 76), .fld 36 (.t 75)⟩,
    ⟨none, (some 77), .load 1 false (.t 76)⟩,
    ⟨none, (some 78), .mov (.t 18)⟩,
    ⟨none, (some 79), .bin .neq (.t 77) (.t 78)⟩,
    ⟨none, (some 80), .mov (.t 79)⟩,
    ⟨(some (80, false)), (some 81), .fld 1 (.t 17)⟩,
    ⟨(some (80, false)), (some 82), .load 1 false (.t 81)⟩,
    ⟨(some (80, false)), (some 83), .mov (.t 19)⟩,
    ⟨(some (80, false)), (some 84), .idxS 37 (.t 82) (.t 83)⟩,
    ⟨(some (80, false)), (some 85), .fld 34 (.t 84)⟩,
    ⟨(some (80, false)), (some 86), .load 1 false (.t 85)⟩,
    ⟨(some (80, false)), (some 87), .fld 1 (.t 12)⟩,
    ⟨(some (80, false)), (some 88), .load 1 false (.t 87)⟩,
    ⟨(some (80, false)), (some 89), .mov (.t 19)⟩,
    ⟨(some (80, false)), (some 90), .idxS 37 (.t 88) (.t 89)⟩,
    ⟨(some (80, false)), (some 91), .fld 34 (.t 90)⟩,
    ⟨(some (80, false)), (some 92), .load 1 false (.t 91)⟩,
    ⟨(some (80, false)), (some 93), .bin .neq (.t 86) (.t 92)⟩,
    ⟨none, (some 94), .pick (.t 80) (.k (.bool true)) (.t 93)⟩])
  (.cond (.t 94) (.seq (.region false [⟨none, (some 10), .mov (.k (.bool false))⟩])
  .ret)
  .skip)))
  (.region false [⟨none, (some 70), .mov (.t 19)⟩,
    ⟨none, (some 71), .bin .add (.t 70) (.k (.int .i64 1))⟩,
    ⟨none, (some 19), .mov (.t 71)⟩])))
/-- 12:c 17:x 18:want 19:i -/
def a5S1 (x12 x17 x18 x19 : DV) (h : List AObj) : St := ⟨js 12 ++ [x12] ++ js 4 ++ [x17, x18, x19] ++ js 85, h⟩

def a5 : AFn where
  code := (.seq (.region false [⟨none, (some 10), .mov (.k (.bool false))⟩])
  (.seq (.region false [⟨none, (some 20), .mov (.t 0)⟩,
    ⟨none, (some 21), .call (.k (.fn (.func 26) [] [])) [(.t 20), (.k (.int .i64 100))]⟩,
    ⟨none, (some 11), .mov (.t 21)⟩])
  (.seq (.region false [⟨none, (some 22), .mov (.t 11)⟩,
    ⟨none, (some 23), .call (.k (.fn (.func 27) [] [])) [(.t 22), (.k (.int .i64 5))]⟩,
    ⟨none, (some 12), .alloc [.nils, .nils, (.int .i64 0)]⟩,
    ⟨none, none, .store 3 (.t 12) (.t 23)⟩])
  (.seq (.region false [⟨none, (some 24), .mov (.t 3)⟩,
    ⟨none, (some 25), .call (.k (.fn (.func 29) [] [])) [(.t 24), (.k (.int .i64 100))]⟩,
    ⟨none, (some 26), .mov (.t 4)⟩,
    ⟨none, (some 27), .call (.k (.fn (.func 29) [] [])) [(.t 26), (.k (.int .i64 100))]⟩,
    ⟨none, (some 28), .bin .add (.k (.int .i64 100)) (.t 27)⟩,
    ⟨none, (some 13), .mov (.t 25)⟩,
    ⟨none, (some 14), .mov (.t 28)⟩])
  (.seq (.region false [⟨none, (some 29), .fld 1 (.t 12)⟩,
    ⟨none, (some 30), .load 1 false (.t 29)⟩,
    ⟨none, (some 31), .len (.t 30)⟩,
    ⟨none, (some 32), .mks 1 1 [(.bool false)] (.t 31) (.t 31)⟩,
    ⟨none, (some 15), .mov (.t 32)⟩])
  (.seq (.seq (.region false [⟨none, (some 16), .mov (.k (.int .i64 0))⟩])
  (.block 0 (.loop a5L0)))
  (.seq (.region false [⟨none, (some 42), .load 3 true (.t 12)⟩,
    ⟨none, (some 43), .mov (.t 13)⟩,
    ⟨none, (some 44), .call (.k (.fn (.func 30) [] [])) [(.t 42), (.k .nils), (.t 43)]⟩,
    ⟨none, (some 17), .alloc [.nils, .nils, (.int .i64 0)]⟩,
    ⟨none, none, .store 3 (.t 17) (.t 44)⟩])
  (.seq (.seq (.region false [⟨none, (some 45), .mov (.t 1)⟩])
  (.cond (.t 45) (.region false [⟨none, (some 46), .load 3 true (.t 17)⟩,
    ⟨none, (some 47), .mov (.t 15)⟩,
    ⟨none, (some 48), .mov (.t 13)⟩,
    ⟨none, (some 49), .call (.k (.fn (.func 30) [] [])) [(.t 46), (.t 47), (.t 48)]⟩,
    ⟨none, none, .store 3 (.t 17) (.t 49)⟩])
  .skip))
  (.seq (.seq (.region false [⟨none, (some 50), .mov (.t 2)⟩])
  (.cond (.t 50) (.region false [⟨none, (some 51), .load 3 true (.t 17)⟩,
    ⟨none, (some 52), .mov (.t 13)⟩,
    ⟨none, (some 53), .call (.k (.fn (.func 30) [] [])) [(.t 51), (.k .nils), (.t 52)]⟩,
    ⟨none, none, .store 3 (.t 17) (.t 53)⟩])
  .skip))
  (.seq (.region false [⟨none, (some 54), .load 3 true (.t 17)⟩,
    ⟨none, (some 55), .mov (.t 15)⟩,
    ⟨none, (some 56), .mov (.t 14)⟩,
    ⟨none, (some 57), .call (.k (.fn (.func 30) [] [])) [(.t 54), (.t 55), (.t 56)]⟩,
    ⟨none, none, .store 3 (.t 17) (.t 57)⟩])
  (.seq (.region false [⟨none, (some 58), .mov (.t 14)⟩,
    ⟨none, (some 18), .mov (.t 58)⟩])
  (.seq (.seq (.region false [⟨none, (some 59), .mov (.t 1)⟩,
    ⟨none, (some 60), .mov (.t 59)⟩,
    ⟨(some (60, true)), (some 61), .mov (.t 2)⟩,
    ⟨(some (60, true)), (some 62), .un .not (.t 61)⟩,
    ⟨none, (some 63), .pick (.t 60) (.t 62) (.k (.bool false))⟩])
  (.cond (.t 63) (.region false [⟨none, (some 64), .mov (.t 13)⟩,
    ⟨none, (some 18), .mov (.t 64)⟩])
  .skip))
  (.seq (.seq (.region false [⟨none, (some 19), .mov (.k (.int .i64 0))⟩])
  (.block 2 (.loop a5L1)))
  (.seq (.region false [⟨none, (some 95), .fld 1 (.t 17)⟩,
    ⟨none, (some 96), .load 1 false (.t 95)⟩,
    ⟨none, (some 97), .len (.t 96)⟩,
    ⟨none, (some 98), .fld 1 (.t 12)⟩,
    ⟨none, (some 99), .load 1 false (.t 98)⟩,
    ⟨none, (some 100), .len (.t 99)⟩,
    ⟨none, (some 101), .bin .eql (.t 97) (.t 100)⟩,
    ⟨none, (some 102), .mov (.t 101)⟩,
    ⟨(some (102, true)), (some 103), .call (.k (.fn (.func 17) [] [])) []⟩,
    ⟨none, (some 104), .pick (.t 102) (.t 103) (.k (.bool false))⟩,
    ⟨none, (some 10), .mov (.t 104)⟩])
  .ret))))))))))))))
  ntmps := 105
  res := [.tmp 10]

theorem a5_ok : compileFn P Tryd.f5 = some a5 := by kernel_rfl

-- 6 admission/admissionlaw37.WorkloadFresh
def a6L0 : ACode :=
  (.seq (.seq (.region false [⟨none, (some 17), .mov (.t 6)⟩,
    ⟨none, (some 18), .fld 1 (.t 4)⟩,
    ⟨none, (some 19), .load 1 false (.t 18)⟩,
    ⟨none, (some 20), .len (.t 19)⟩,
    ⟨none, (some 21), .bin .lss (.t 17) (.t 20)⟩])
  (.cond (.t 21) .skip
  (.exit 0)))
  (.seq (.block 1 (.region false [⟨none, (some 24), .mov (.t 5)⟩,
    ⟨none, (some 25), .fld 1 (.t 4)⟩,
    ⟨none, (some 26), .load 1 false (.t 25)⟩,
    ⟨none, (some 27), .mov (.t 6)⟩,
    ⟨none, (some 28), .idxS 37 (.t 26) (.t 27)⟩,
    ⟨none, (some 29), .fld 0 (.t 28)⟩,
    ⟨none, (some 30), .load 1 false (.t 29)⟩,
    ⟨none, (some 31), .bsl 1 1 [(.int .i64 0)] [(0, 1, (.t 30))]⟩,
    ⟨none, (some 32), .app 1 8 (.t 24) (.t 31)⟩,
    ⟨none, (some 5), .mov (.t 32)⟩]))
  (.region false [⟨none, (some 22), .mov (.t 6)⟩,
    ⟨none, (some 23), .bin .add (.t 22) (.k (.int .i64 1))⟩,
    ⟨none, (some 6), .mov (.t 23)⟩])))
/-- 3:t 4:c 5:seen 6:i -/
def a6S0 (x3 x4 x5 x6 : DV) (h : List AObj) : St := ⟨[.junk, .junk, .junk, x3, x4, x5, x6] ++ js 106, h⟩

def a6L1 : ACode :=
  (.seq (.seq (.region false [⟨none, (some 36), .mov (.t 7)⟩,
    ⟨none, (some 37), .bin .gtr (.t 36) (.k (.int .i64 0))⟩])
  (.cond (.t 37) .skip
  (.exit 2)))
  (.seq (.block 3 (.seq (.seq (.region false [⟨none, (some 40), .mov (.t 3)⟩,
    ⟨none, (some 41), .call (.k (.fn (.func 28) [] [])) [(.t 40), (.k (.int .i64 2))]⟩,
    ⟨none, (some 42), .bin .eql (.t 41) (.k (.int .i64 0))⟩,
    ⟨none, (some 43), .mov (.t 42)⟩,
    ⟨(some (43, true)), (some 44), .fld 1 (.t 4)⟩,
    ⟨(some (43, true)), (some 45), .load 1 false (.t 44)⟩,
    ⟨(some (43, true)), (some 46), .len (.t 45)⟩,
    ⟨(some (43, true)), (some 47), .bin .gtr (.t 46) (.k (.int .i64 0))⟩,
    ⟨none, (some 48), .pick (.t 43) (.t 47) (.k (.bool false))⟩])
  (.cond (.t 48) (.seq (.region true [⟨none, (some 50), .load 3 true (.t 4)⟩,
    ⟨none, (some 51), .fld 1 (.t 4)⟩,
    ⟨none, (some 52), .load 1 false (.t 51)⟩,
    ⟨none, (some 53), .mov (.t 3)⟩,
    ⟨none, (some 54), .fld 1 (.t 4)⟩,
    ⟨none, (some 55), .load 1 false (.t 54)⟩,
    ⟨none, (some 56), .len (.t 55)⟩,
    ⟨none, (some 57), .callT (.k (.fn (.func 28) [] [])) [(.t 53), (.t 56)]⟩,
    ⟨none, (some 58), .idxS 37 (.t 52) (.t 57)⟩,
    ⟨none, (some 59), .fld 0 (.t 58)⟩,
    ⟨none, (some 60), .load 1 false (.t 59)⟩,
    ⟨none, (some 61), .callN (.k (.fn (.func 31) [] [])) [(.t 50), (.t 60)]⟩,
    ⟨none, (some 49), .mov (.t 61)⟩,
    ⟨none, (some 62), .ext (.t 49) 0⟩,
    ⟨none, (some 63), .ext (.t 49) 1⟩,
    ⟨none, (some 8), .alloc [.nils, .nils, (.int .i64 0)]⟩,
    ⟨none, none, .store 3 (.t 8) (.t 62)⟩,
    ⟨none, (some 9), .mov (.t 63)⟩,
    ⟨none, none, .apart (.t 4) (.t 53)⟩,
    ⟨none, none, .apart (.t 4) (.t 53)⟩,
    ⟨none, none, .apart (.t 51) (.t 53)⟩])
  (.seq (.seq (.region false [⟨none, (some 64), .mov (.t 9)⟩,
    ⟨none, (some 65), .bin .neq (.t 64) (.k (.int .i64 0))⟩,
    ⟨none, (some 66), .mov (.t 65)⟩,
    ⟨(some (66, false)), (some 67), .fld 1 (.t 8)⟩,
    ⟨(some (66, false)), (some 68), .load 1 false (.t 67)⟩,
    ⟨(some (66, false)), (some 69), .len (.t 68)⟩,
    ⟨(some (66, false)), (some 70), .fld 1 (.t 4)⟩,
    ⟨(some (66, false)), (some 71), .load 1 false (.t 70)⟩,
    ⟨(some (66, false)), (some 72), .len (.t 71)⟩,
    ⟨(some (66, false)), (some 73), .bin .sub (.t 72) (.k (.int .i64 1))⟩,
    ⟨(some (66, false)), (some 74), .bin .neq (.t 69) (.t 73)⟩,
    ⟨none, (some 75), .pick (.t 66) (.k (.bool true)) (.t 74)⟩])
  (.cond (.t 75) (.seq (.region false [⟨none, (some 2), .mov (.k (.bool false))⟩])
  .ret)
  .skip))
  (.seq (.region false [⟨none, (some 76), .load 3 true (.t 8)⟩,
    ⟨none, none, .store 3 (.t 4) (.t 76)⟩])
  (.exit 3))))
  .skip))
  (.seq (.region true [⟨none, (some 78), .load 3 true (.t 4)⟩,
    ⟨none, (some 79), .mov (.t 3)⟩,
    ⟨none, (some 80), .fld 0 (.t 4)⟩,
    ⟨none, (some 81), .load 1 false (.t 80)⟩,
    ⟨none, (some 82), .len (.t 81)⟩,
    ⟨none, (some 83), .callT (.k (.fn (.func 28) [] [])) [(.t 79), (.t 82)]⟩,
    ⟨none, (some 84), .mov (.t 3)⟩,
    ⟨none, (some 85), .callT (.k (.fn (.func 28) [] [])) [(.t 84), (.k (.int .i64 3))]⟩,
    ⟨none, (some 86), .bin .add (.k (.int .i64 1)) (.t 85)⟩,
    ⟨none, (some 87), .conv .u8 (.t 86)⟩,
    ⟨none, (some 88), .build (rep 32 (w8 0#8)) [(0, 1, (.t 87))]⟩,
    ⟨none, (some 89), .mov (.t 3)⟩,
    ⟨none, (some 90), .callT (.k (.fn (.func 28) [] [])) [(.t 89), (.k (.int .i64 50))]⟩,
    ⟨none, (some 91), .callN (.k (.fn (.func 32) [] [])) [(.t 78), (.t 83), (.t 88), (.t 90)]⟩,
    ⟨none, (some 77), .mov (.t 91)⟩,
    ⟨none, (some 92), .ext (.t 77) 0⟩,
    ⟨none, (some 93), .ext (.t 77) 1⟩,
    ⟨none, (some 94), .ext (.t 77) 2⟩,
    ⟨none, (some 10), .alloc [.nils, .nils, (.int .i64 0)]⟩,
    ⟨none, none, .store 3 (.t 10) (.t 92)⟩,
    ⟨none, (some 11), .mov (.t 93)⟩,
    ⟨none, (some 12), .mov (.t 94)⟩,
    ⟨none, none, .apart (.t 4) (.t 79)⟩,
    ⟨none, none, .apart (.t 4) (.t 84)⟩,
    ⟨none, none, .apart (.t 4) (.t 89)⟩])
  (.seq (.seq (.region false [⟨none, (some 95), .mov (.t 12)⟩,
    ⟨none, (some 96), .bin .neq (.t 95) (.k (.int .i64 0))⟩,
    ⟨none, (some 97), .mov (.t 96)⟩,
    ⟨(some (97, false)), (some 98), .mov (.t 5)⟩,
    ⟨(some (97, false)), (some 99), .mov (.t 11)⟩,
    ⟨(some (97, false)), (some 100), .call (.k (.fn (.func 33) [] [])) [(.t 98), (.t 99)]⟩,
    ⟨none, (some 101), .pick (.t 97) (.k (.bool true)) (.t 100)⟩,
    ⟨none, (some 102), .mov (.t 101)⟩,
    ⟨(some (102, false)), (some 103), .load 3 true (.t 10)⟩,
    ⟨(some (102, false)), (some 104), .call (.k (.fn (.func 20) [] [])) [(.t 103)]⟩,
    ⟨(some (102, false)), (some 105), .un .not (.t 104)⟩,
    ⟨none, (some 106), .pick (.t 102) (.k (.bool true)) (.t 105)⟩])
  (.cond (.t 106) (.seq (.region false [⟨none, (some 2), .mov (.k (.bool false))⟩])
  .ret)
  .skip))
  (.seq (.region false [⟨none, (some 107), .mov (.t 5)⟩,
    ⟨none, (some 108), .mov (.t 11)⟩,
    ⟨none, (some 109), .bsl 1 1 [(.int .i64 0)] [(0, 1, (.t 108))]⟩,
    ⟨none, (some 110), .app 1 8 (.t 107) (.t 109)⟩,
    ⟨none, (some 5), .mov (.t 110)⟩])
  (.region false [⟨none, (some 111), .load 3 true (.t 10)⟩,
    ⟨none, none, .store 3 (.t 4) (.t 111)⟩]))))))
  (.region false [⟨none, (some 38), .mov (.t 7)⟩,
    ⟨none, (some 39), .bin .sub (.t 38) (.k (.int .i64 1))⟩,
    ⟨none, (some 7), .mov (.t 39)⟩])))
/-- 3:t 4:c 5:seen 7:n -/
def a6S1 (x3 x4 x5 x7 : DV) (h : List AObj) : St := ⟨[.junk, .junk, .junk, x3, x4, x5, .junk, x7] ++ js 105, h⟩

def a6 : AFn where
  code := (.seq (.region false [⟨none, (some 2), .mov (.k (.bool false))⟩])
  (.seq (.region false [⟨none, (some 13), .mov (.t 0)⟩,
    ⟨none, (some 14), .call (.k (.fn (.func 26) [] [])) [(.t 13), (.k (.int .i64 150))]⟩,
    ⟨none, (some 3), .mov (.t 14)⟩])
  (.seq (.region false [⟨none, (some 15), .mov (.t 3)⟩,
    ⟨none, (some 16), .call (.k (.fn (.func 27) [] [])) [(.t 15), (.k (.int .i64 4))]⟩,
    ⟨none, (some 4), .alloc [.nils, .nils, (.int .i64 0)]⟩,
    ⟨none, none, .store 3 (.t 4) (.t 16)⟩])
  (.seq (.region false [⟨none, (some 5), .mov (.k .nils)⟩])
  (.seq (.seq (.region false [⟨none, (some 6), .mov (.k (.int .i64 0))⟩])
  (.block 0 (.loop a6L0)))
  (.seq (.seq (.region false [⟨none, (some 33), .mov (.t 3)⟩,
    ⟨none, (some 34), .call (.k (.fn (.func 28) [] [])) [(.t 33), (.k (.int .i64 10))]⟩,
    ⟨none, (some 35), .bin .add (.k (.int .i64 2)) (.t 34)⟩,
    ⟨none, (some 7), .mov (.t 35)⟩])
  (.block 2 (.loop a6L1)))
  (.seq (.region false [⟨none, (some 112), .call (.k (.fn (.func 17) [] [])) []⟩,
    ⟨none, (some 2), .mov (.t 112)⟩])
  .ret)))))))
  ntmps := 113
  res := [.tmp 2]

theorem a6_ok : compileFn P Tryd.f6 = some a6 := by kernel_rfl

-- 7 admission/admissionlaw37.WorkloadCalls
def a7L0 : ACode :=
  (.seq (.seq (.region false [⟨none, (some 30), .mov (.t 8)⟩,
    ⟨none, (some 31), .bin .gtr (.t 30) (.k (.int .i64 0))⟩])
  (.cond (.t 31) .skip
  (.exit 0)))
  (.seq (.block 1 (.seq (.region false [⟨none, (some 34), .mov (.t 5)⟩,
    ⟨none, (some 35), .call (.k (.fn (.func 28) [] [])) [(.t 34), (.k (.int .i64 60))]⟩,
    ⟨none, (some 9), .mov (.t 35)⟩])
  (.seq (.seq (.region false [⟨none, (some 36), .mov (.t 5)⟩,
    ⟨none, (some 37), .call (.k (.fn (.func 28) [] [])) [(.t 36), (.k (.int .i64 20))]⟩,
    ⟨none, (some 10), .mov (.t 37)⟩])
  (.seq (.region false [⟨none, (some 38), .mov (.t 10)⟩,
    ⟨none, (some 39), .mov (.t 1)⟩,
    ⟨none, (some 40), .len (.t 39)⟩,
    ⟨none, (some 41), .bin .lss (.t 38) (.t 40)⟩])
  (.cond (.t 41) (.region false [⟨none, (some 42), .mov (.t 1)⟩,
    ⟨none, (some 43), .mov (.t 10)⟩,
    ⟨none, (some 44), .idxS 1 (.t 42) (.t 43)⟩,
    ⟨none, (some 45), .load 1 false (.t 44)⟩,
    ⟨none, (some 9), .mov (.t 45)⟩])
  .skip)))
  (.seq (.region false [⟨none, (some 46), .mov (.t 5)⟩,
    ⟨none, (some 47), .fld 2 (.t 6)⟩,
    ⟨none, (some 48), .load 1 false (.t 47)⟩,
    ⟨none, (some 49), .bin .add (.t 48) (.k (.int .i64 2))⟩,
    ⟨none, (some 50), .call (.k (.fn (.func 28) [] [])) [(.t 46), (.t 49)]⟩,
    ⟨none, (some 51), .mov (.t 5)⟩,
    ⟨none, (some 52), .call (.k (.fn (.func 28) [] [])) [(.t 51), (.k (.int .i64 4))]⟩,
    ⟨none, (some 53), .bin .sub (.t 52) (.k (.int .i64 1))⟩,
    ⟨none, (some 54), .mov (.t 5)⟩,
    ⟨none, (some 55), .call (.k (.fn (.func 28) [] [])) [(.t 54), (.k (.int .i64 4))]⟩,
    ⟨none, (some 56), .conv .u8 (.t 55)⟩,
    ⟨none, (some 57), .build (rep 32 (w8 0#8)) [(0, 1, (.t 56))]⟩,
    ⟨none, (some 13), .alloc (rep 32 (w8 0#8))⟩,
    ⟨none, (some 11), .mov (.t 50)⟩,
    ⟨none, (some 12), .mov (.t 53)⟩,
    ⟨none, none, .store 32 (.t 13) (.t 57)⟩])
  (.seq (.region false [⟨none, (some 14), .alloc [.nils, .nils, (.int .i64 0)]⟩,
    ⟨none, (some 15), .alloc [.nils, .nils, (.int .i64 0)]⟩])
  (.seq (.region false [⟨none, (some 16), .mov (.k (.int .i64 0))⟩,
    ⟨none, (some 17), .mov (.k (.int .i64 0))⟩])
  (.seq (.region false [⟨none, (some 18), .mov (.k (.int .i64 0))⟩,
    ⟨none, (some 19), .mov (.k (.int .i64 0))⟩])
  (.seq (.seq (.region false [⟨none, (some 58), .mov (.t 5)⟩,
    ⟨none, (some 59), .call (.k (.fn (.func 28) [] [])) [(.t 58), (.k (.int .i64 6))]⟩])
  (.block 2 (.seq (.region false [⟨none, (some 79), .bin .eql (.t 59) (.k (.int .i64 0))⟩,
    ⟨none, (some 78), .mov (.t 79)⟩])
  (.cond (.t 78) (.seq (.region false [⟨none, (some 80), .mov (.t 5)⟩,
    ⟨none, (some 81), .build (rep 32 (w8 0#8)) [(0, 1, (.k (w8 1#8)))]⟩,
    ⟨none, (some 82), .build (rep 32 (w8 0#8)) [(0, 1, (.k (w8 2#8)))]⟩,
    ⟨none, (some 83), .bsl 32 2 (rep 32 (w8 0#8)) [(0, 32, (.t 81)), (32, 32, (.t 82))]⟩,
    ⟨none, (some 84), .call (.k (.fn (.func 34) [] [])) [(.t 80), (.t 83)]⟩,
    ⟨none, (some 20), .alloc [(.str []), (.str []), (.int .i64 0), (.int .i64 0), (.int .i64 0), .nils]⟩,
    ⟨none, none, .store 6 (.t 20) (.t 84)⟩])
  (.seq (.region true [⟨none, (some 85), .fld 2 (.t 20)⟩,
    ⟨none, (some 86), .load 1 false (.t 85)⟩,
    ⟨none, (some 87), .mov (.t 5)⟩,
    ⟨none, (some 88), .callT (.k (.fn (.func 28) [] [])) [(.t 87), (.k (.int .i64 3))]⟩,
    ⟨none, (some 89), .bin .add (.t 86) (.t 88)⟩,
    ⟨none, (some 90), .fld 2 (.t 20)⟩,
    ⟨none, none, .store 1 (.t 90) (.t 89)⟩,
    ⟨none, none, .apart (.t 20) (.t 87)⟩,
    ⟨none, none, .apart (.t 85) (.t 87)⟩])
  (.seq (.region false [⟨none, (some 92), .load 3 true (.t 6)⟩,
    ⟨none, (some 93), .load 6 true (.t 20)⟩,
    ⟨none, (some 94), .call (.k (.fn (.func 35) [] [])) [(.t 92), (.t 93)]⟩,
    ⟨none, (some 91), .mov (.t 94)⟩,
    ⟨none, (some 95), .ext (.t 91) 0⟩,
    ⟨none, (some 96), .ext (.t 91) 1⟩,
    ⟨none, none, .store 3 (.t 14) (.t 95)⟩,
    ⟨none, (some 16), .mov (.t 96)⟩])
  (.region false [⟨none, (some 98), .load 3 true (.t 7)⟩,
    ⟨none, (some 99), .load 6 true (.t 20)⟩,
    ⟨none, (some 100), .call (.k (.fn (.func 36) [] [])) [(.t 98), (.t 99)]⟩,
    ⟨none, (some 97), .mov (.t 100)⟩,
    ⟨none, (some 101), .ext (.t 97) 0⟩,
    ⟨none, (some 102), .ext (.t 97) 1⟩,
    ⟨none, none, .store 3 (.t 15) (.t 101)⟩,
    ⟨none, (some 17), .mov (.t 102)⟩]))))
  (.seq (.region false [⟨none, (some 104), .bin .eql (.t 59) (.k (.int .i64 1))⟩,
    ⟨none, (some 103), .mov (.t 104)⟩])
  (.cond (.t 103) (.seq (.region false [⟨none, (some 106), .load 3 true (.t 6)⟩,
    ⟨none, (some 107), .mov (.t 12)⟩,
    ⟨none, (some 108), .load 32 true (.t 13)⟩,
    ⟨none, (some 109), .mov (.t 9)⟩,
    ⟨none, (some 110), .call (.k (.fn (.func 32) [] [])) [(.t 106), (.t 107), (.t 108), (.t 109)]⟩,
    ⟨none, (some 105), .mov (.t 110)⟩,
    ⟨none, (some 111), .ext (.t 105) 0⟩,
    ⟨none, (some 112), .ext (.t 105) 1⟩,
    ⟨none, (some 113), .ext (.t 105) 2⟩,
    ⟨none, none, .store 3 (.t 14) (.t 111)⟩,
    ⟨none, (some 18), .mov (.t 112)⟩,
    ⟨none, (some 16), .mov (.t 113)⟩])
  (.region false [⟨none, (some 115), .load 3 true (.t 7)⟩,
    ⟨none, (some 116), .mov (.t 12)⟩,
    ⟨none, (some 117), .load 32 true (.t 13)⟩,
    ⟨none, (some 118), .mov (.t 9)⟩,
    ⟨none, (some 119), .call (.k (.fn (.func 37) [] [])) [(.t 115), (.t 116), (.t 117), (.t 118)]⟩,
    ⟨none, (some 114), .mov (.t 119)⟩,
    ⟨none, (some 120), .ext (.t 114) 0⟩,
    ⟨none, (some 121), .ext (.t 114) 1⟩,
    ⟨none, (some 122), .ext (.t 114) 2⟩,
    ⟨none, none, .store 3 (.t 15) (.t 120)⟩,
    ⟨none, (some 19), .mov (.t 121)⟩,
    ⟨none, (some 17), .mov (.t 122)⟩]))
  (.seq (.region false [⟨none, (some 124), .bin .eql (.t 59) (.k (.int .i64 2))⟩,
    ⟨none, (some 123), .mov (.t 124)⟩])
  (.cond (.t 123) (.seq (.region false [⟨none, (some 126), .load 3 true (.t 6)⟩,
    ⟨none, (some 127), .mov (.t 11)⟩,
    ⟨none, (some 128), .mov (.t 9)⟩,
    ⟨none, (some 129), .call (.k (.fn (.func 38) [] [])) [(.t 126), (.t 127), (.t 128)]⟩,
    ⟨none, (some 125), .mov (.t 129)⟩,
    ⟨none, (some 130), .ext (.t 125) 0⟩,
    ⟨none, (some 131), .ext (.t 125) 1⟩,
    ⟨none, none, .store 3 (.t 14) (.t 130)⟩,
    ⟨none, (some 16), .mov (.t 131)⟩])
  (.region false [⟨none, (some 133), .load 3 true (.t 7)⟩,
    ⟨none, (some 134), .mov (.t 11)⟩,
    ⟨none, (some 135), .mov (.t 9)⟩,
    ⟨none, (some 136), .call (.k (.fn (.func 39) [] [])) [(.t 133), (.t 134), (.t 135)]⟩,
    ⟨none, (some 132), .mov (.t 136)⟩,
    ⟨none, (some 137), .ext (.t 132) 0⟩,
    ⟨none, (some 138), .ext (.t 132) 1⟩,
    ⟨none, none, .store 3 (.t 15) (.t 137)⟩,
    ⟨none, (some 17), .mov (.t 138)⟩]))
  (.seq (.region false [⟨none, (some 140), .bin .eql (.t 59) (.k (.int .i64 3))⟩,
    ⟨none, (some 139), .mov (.t 140)⟩])
  (.cond (.t 139) (.seq (.region false [⟨none, (some 142), .load 3 true (.t 6)⟩,
    ⟨none, (some 143), .mov (.t 11)⟩,
    ⟨none, (some 144), .mov (.t 9)⟩,
    ⟨none, (some 145), .call (.k (.fn (.func 40) [] [])) [(.t 142), (.t 143), (.t 144)]⟩,
    ⟨none, (some 141), .mov (.t 145)⟩,
    ⟨none, (some 146), .ext (.t 141) 0⟩,
    ⟨none, (some 147), .ext (.t 141) 1⟩,
    ⟨none, none, .store 3 (.t 14) (.t 146)⟩,
    ⟨none, (some 16), .mov (.t 147)⟩])
  (.region false [⟨none, (some 149), .load 3 true (.t 7)⟩,
    ⟨none, (some 150), .mov (.t 11)⟩,
    ⟨none, (some 151), .mov (.t 9)⟩,
    ⟨none, (some 152), .call (.k (.fn (.func 41) [] [])) [(.t 149), (.t 150), (.t 151)]⟩,
    ⟨none, (some 148), .mov (.t 152)⟩,
    ⟨none, (some 153), .ext (.t 148) 0⟩,
    ⟨none, (some 154), .ext (.t 148) 1⟩,
    ⟨none, none, .store 3 (.t 15) (.t 153)⟩,
    ⟨none, (some 17), .mov (.t 154)⟩]))
  (.seq (.region false [⟨none, (some 156), .bin .eql (.t 59) (.k (.int .i64 4))⟩,
    ⟨none, (some 155), .mov (.t 156)⟩])
  (.cond (.t 155) (.seq (.region false [⟨none, (some 158), .load 3 true (.t 6)⟩,
    ⟨none, (some 159), .mov (.t 11)⟩,
    ⟨none, (some 160), .call (.k (.fn (.func 31) [] [])) [(.t 158), (.t 159)]⟩,
    ⟨none, (some 157), .mov (.t 160)⟩,
    ⟨none, (some 161), .ext (.t 157) 0⟩,
    ⟨none, (some 162), .ext (.t 157) 1⟩,
    ⟨none, none, .store 3 (.t 14) (.t 161)⟩,
    ⟨none, (some 16), .mov (.t 162)⟩])
  (.region false [⟨none, (some 164), .load 3 true (.t 7)⟩,
    ⟨none, (some 165), .mov (.t 11)⟩,
    ⟨none, (some 166), .call (.k (.fn (.func 42) [] [])) [(.t 164), (.t 165)]⟩,
    ⟨none, (some 163), .mov (.t 166)⟩,
    ⟨none, (some 167), .ext (.t 163) 0⟩,
    ⟨none, (some 168), .ext (.t 163) 1⟩,
    ⟨none, none, .store 3 (.t 15) (.t 167)⟩,
    ⟨none, (some 17), .mov (.t 168)⟩]))
  (.seq (.region false [⟨none, (some 60), .mov (.t 5)⟩,
    ⟨none, (some 61), .call (.k (.fn (.func 28) [] [])) [(.t 60), (.k (.int .i64 2))]⟩,
    ⟨none, (some 62), .bin .eql (.t 61) (.k (.int .i64 0))⟩,
    ⟨none, (some 63), .mov (.t 5)⟩,
    ⟨none, (some 64), .call (.k (.fn (.func 28) [] [])) [(.t 63), (.k (.int .i64 2))]⟩,
    ⟨none, (some 65), .bin .eql (.t 64) (.k (.int .i64 0))⟩,
    ⟨none, (some 66), .mov (.t 5)⟩,
    ⟨none, (some 67), .call (.k (.fn (.func 28) [] [])) [(.t 66), (.k (.int .i64 2))]⟩,
    ⟨none, (some 68), .bin .eql (.t 67) (.k (.int .i64 0))⟩,
    ⟨none, (some 69), .bsl 1 3 [(.bool false)] [(0, 1, (.t 62)), (1, 1, (.t 65)), (2, 1, (.t 68))]⟩,
    ⟨none, (some 21), .mov (.t 69)⟩])
  (.region true [⟨none, (some 70), .load 3 true (.t 6)⟩,
    ⟨none, (some 71), .mov (.t 21)⟩,
    ⟨none, (some 72), .mov (.t 9)⟩,
    ⟨none, (some 74), .load 3 true (.t 7)⟩,
    ⟨none, (some 75), .mov (.t 21)⟩,
    ⟨none, (some 76), .mov (.t 9)⟩,
    ⟨none, (some 73), .callN (.k (.fn (.func 30) [] [])) [(.t 70), (.t 71), (.t 72)]⟩,
    ⟨none, (some 77), .callN (.k (.fn (.func 43) [] [])) [(.t 74), (.t 75), (.t 76)]⟩,
    ⟨none, none, .store 3 (.t 14) (.t 73)⟩,
    ⟨none, none, .store 3 (.t 15) (.t 77)⟩]))))))))))))))
  (.seq (.seq (.region false [⟨none, (some 169), .mov (.t 16)⟩,
    ⟨none, (some 170), .mov (.t 17)⟩,
    ⟨none, (some 171), .bin .neq (.t 169) (.t 170)⟩,
    ⟨none, (some 172), .mov (.t 171)⟩,
    ⟨(some (172, false)), (some 173), .mov (.t 18)⟩,
    ⟨(some (172, false)), (some 174), .mov (.t 19)⟩,
    ⟨(some (172, false)), (some 175), .bin .neq (.t 173) (.t 174)⟩,
    ⟨none, (some 176), .pick (.t 172) (.k (.bool true)) (.t 175)⟩,
    ⟨none, (some 177), .mov (.t 176)⟩,
    ⟨(some (177, false)), (some 178), .load 3 true (.t 14)⟩,
    ⟨(some (177, false)), (some 179), .load 3 true (.t 15)⟩,
    ⟨(some (177, false)), (some 180), .call (.k (.fn (.func 44) [] [])) [(.t 178), (.t 179)]⟩,
    ⟨(some (177, false)), (some 181), .un .not (.t 180)⟩,
    ⟨none, (some 182), .pick (.t 177) (.k (.bool true)) (.t 181)⟩])
  (.cond (.t 182) (.seq (.region false [⟨none, (some 4), .mov (.k (.bool false))⟩])
  .ret)
  .skip))
  (.seq (.region false [⟨none, (some 183), .mov (.t 16)⟩,
    ⟨none, (some 184), .bin .eql (.t 183) (.k (.int .i64 0))⟩])
  (.cond (.t 184) (.region true [⟨none, (some 185), .load 3 true (.t 14)⟩,
    ⟨none, (some 186), .load 3 true (.t 15)⟩,
    ⟨none, none, .store 3 (.t 6) (.t 185)⟩,
    ⟨none, none, .store 3 (.t 7) (.t 186)⟩,
    ⟨none, none, .apart (.t 15) (.t 6)⟩])
  .skip)))))))))))
  (.region false [⟨none, (some 32), .mov (.t 8)⟩,
    ⟨none, (some 33), .bin .sub (.t 32) (.k (.int .i64 1))⟩,
    ⟨none, (some 8), .mov (.t 33)⟩])))
/-- 1:raw 5:t 6:a 7:b 8:n -/
def a7S0 (x1 x5 x6 x7 x8 : DV) (h : List AObj) : St := ⟨[.junk, x1, .junk, .junk, .junk, x5, x6, x7, x8] ++ js 179, h⟩

def a7 : AFn where
  code := (.seq (.region false [⟨none, (some 4), .mov (.k (.bool false))⟩])
  (.seq (.region false [⟨none, (some 22), .mov (.t 0)⟩,
    ⟨none, (some 23), .call (.k (.fn (.func 26) [] [])) [(.t 22), (.k (.int .i64 250))]⟩,
    ⟨none, (some 5), .mov (.t 23)⟩])
  (.seq (.region false [⟨none, (some 24), .mov (.t 5)⟩,
    ⟨none, (some 25), .call (.k (.fn (.func 27) [] [])) [(.t 24), (.k (.int .i64 5))]⟩,
    ⟨none, (some 6), .alloc [.nils, .nils, (.int .i64 0)]⟩,
    ⟨none, none, .store 3 (.t 6) (.t 25)⟩])
  (.seq (.region false [⟨none, (some 26), .load 3 true (.t 6)⟩,
    ⟨none, (some 7), .alloc [.nils, .nils, (.int .i64 0)]⟩,
    ⟨none, none, .store 3 (.t 7) (.t 26)⟩])
  (.seq (.seq (.region false [⟨none, (some 27), .mov (.t 5)⟩,
    ⟨none, (some 28), .call (.k (.fn (.func 28) [] [])) [(.t 27), (.k (.int .i64 8))]⟩,
    ⟨none, (some 29), .bin .add (.k (.int .i64 2)) (.t 28)⟩,
    ⟨none, (some 8), .mov (.t 29)⟩])
  (.block 0 (.loop a7L0)))
  (.seq (.region false [⟨none, (some 187), .call (.k (.fn (.func 17) [] [])) []⟩,
    ⟨none, (some 4), .mov (.t 187)⟩])
  .ret))))))
  ntmps := 188
  res := [.tmp 4]

theorem a7_ok : compileFn P Tryd.f7 = some a7 := by kernel_rfl

end Go.Proofs.YtjhakjeioppijaaDoor
/-
  The law WorkloadMark.
-/
set_option linter.unusedSimpArgs false
set_option linter.unusedVariables false
namespace Go.Proofs.YtjhakjeioppijaaDoor
open Go Go.Am

/-! marks keep clusters valid -/
theorem markI_id {den : List Bool} {t : Int} {i : Nat} {x : Ins} : (markI den t i x).id = x.id ∧ (markI den t i x).grp = x.grp ∧ (markI den t i x).art = x.art ∧ (markI den t i x).state = x.state ∧ (markI den t i x).since = x.since := by
  unfold markI
  split
  · split <;> exact ⟨rfl, rfl, rfl, rfl, rfl⟩
  · exact ⟨rfl, rfl, rfl, rfl, rfl⟩
theorem markI_den {den : List Bool} {t : Int} {i : Nat} {x : Ins} (ht : timeOK t) (hx : x.den = -1 ∨ timeOK x.den) : (markI den t i x).den = -1 ∨ timeOK (markI den t i x).den := by
  unfold markI
  split
  · split
    · exact .inr ht
    · exact hx
  · exact .inl rfl
theorem valid_mark {c : Clu} {den : List Bool} {t : Int} (hv : ValidC c) (ht : timeOK t) : ValidC (markP c den t) := by
  have hd : markP c den t = ⟨c.clone.g, markSl den t c.i, c.next⟩ := by rw [markP, if_neg fun h => h.elim (fun h => h hv) (fun h => h ht)]
  have hl : (markSl den t c.i).l = markL den t c.i.l := rfl
  rw [hd]
  refine valid_upd hv (by rw [hl, markL_len]) fun i h1 h2 => ?_
  obtain ⟨g1, _⟩ := hv.i i h2
  have e : (markSl den t c.i).l[i] = markI den t i c.i.l[i] := by simp only [hl]; exact markL_get h2 (by rw [markL_len]; exact h2)
  obtain ⟨p1, p2, p3, p4, p5⟩ := markI_id (den := den) (t := t) (i := i) (x := c.i.l[i])
  rw [e]
  exact ⟨p1, ⟨by rw [p1]; exact g1.id0, by rw [p1]; exact g1.id1, by rw [p2]; exact g1.g0, by rw [p2]; exact g1.g1, by rw [p3]; exact g1.art, by rw [p4]; exact g1.s0, by rw [p4]; exact g1.s1, by rw [p5]; exact g1.si, markI_den ht g1.de⟩⟩
theorem mark_l {c : Clu} {den : List Bool} {t : Int} (hv : ValidC c) (ht : timeOK t) : (markP c den t).i.l = markL den t c.i.l := by
  rw [markP, if_neg fun h => h.elim (fun h => h hv) (fun h => h ht)]; rfl

/-! the plain law -/
noncomputable def mk1 (c : Clu) (n : Nat) (f a : Bool) (s e : Int) : Clu :=
  let x := markP c [] s
  let x := if f = true then markP x (List.replicate n true) s else x
  let x := if a = true then markP x [] s else x
  markP x (List.replicate n true) e
structure MkP (c x : Clu) (d : Int → Prop) : Prop where
  v : ValidC x
  n : x.i.l.length = c.i.l.length
  i : ∀ i (h : i < x.i.l.length) (h' : i < c.i.l.length), x.i.l[i].state = c.i.l[i].state ∧ d x.i.l[i].den
theorem mkp_nil {c x : Clu} {d : Int → Prop} {t : Int} (h : MkP c x d) (ht : timeOK t) : MkP c (markP x [] t) (· = -1) := by
  have hl := mark_l (den := []) h.v ht
  refine ⟨valid_mark h.v ht, by rw [hl, markL_len]; exact h.n, fun i hi hi' => ?_⟩
  have hx : i < x.i.l.length := by rw [hl, markL_len] at hi; exact hi
  have hm : i < (markL [] t x.i.l).length := by rw [markL_len]; exact hx
  have e : (markP x [] t).i.l[i] = markI [] t i x.i.l[i] := by simp only [hl]; exact markL_get hx hm
  rw [e, markI_id.2.2.2.1]
  exact ⟨(h.i i hx hi').1, by simp [markI, Ins.de]⟩
theorem mkp_all {c x : Clu} {d : Int} {t : Int} {n : Nat} (h : MkP c x (· = d)) (hn : n = c.i.l.length) (ht : timeOK t) : MkP c (markP x (List.replicate n true) t) (· = if d = -1 then t else d) := by
  have hl := mark_l (den := List.replicate n true) h.v ht
  refine ⟨valid_mark h.v ht, by rw [hl, markL_len]; exact h.n, fun i hi hi' => ?_⟩
  have hx : i < x.i.l.length := by rw [hl, markL_len] at hi; exact hi
  have hm : i < (markL (List.replicate n true) t x.i.l).length := by rw [markL_len]; exact hx
  have e : (markP x (List.replicate n true) t).i.l[i] = markI (List.replicate n true) t i x.i.l[i] := by simp only [hl]; exact markL_get hx hm
  rw [e, markI_id.2.2.2.1]
  obtain ⟨g1, g2⟩ := h.i i hx hi'
  refine ⟨g1, ?_⟩
  have hb : (List.replicate n true).getD i false = true := by
    rw [List.getD_eq_getElem?_getD, List.getElem?_replicate, if_pos (by omega)]; rfl
  rw [markI, hb, if_pos rfl, g2]
  by_cases hd : d = -1
  · rw [if_pos hd, if_pos hd]; rfl
  · rw [if_neg hd, if_neg hd]; exact g2
theorem mk1_ok {c : Clu} {n : Nat} {f a : Bool} {s e : Int} (hv : ValidC c) (hn : n = c.i.l.length) (hs : timeOK s) (he : timeOK e) : MkP c (mk1 c n f a s e) (· = if f = true ∧ a = false then s else e) := by
  have h0 : MkP c c (fun _ => True) := ⟨hv, rfl, fun i _ _ => ⟨rfl, trivial⟩⟩
  have h1 := mkp_nil h0 hs
  have hsn : s ≠ -1 := by have := hs.1; omega
  unfold mk1
  cases f with
  | false =>
    cases a with
    | false => simpa using mkp_all h1 hn he
    | true => simpa using mkp_all (mkp_nil h1 hs) hn he
  | true =>
    have h2 := mkp_all h1 hn hs
    simp only [if_true] at h2
    cases a with
    | false =>
      have := mkp_all h2 hn he
      simpa [hsn] using this
    | true => simpa using mkp_all (mkp_nil h2 hs) hn he

/-! the walk -/
noncomputable def cMrk : List DV → Option DV := con (fun _ => True) (fun p : Clu × Sl Bool × Int => [.agg (clC p.1), p.2.1.dv 1 inB, .int .i64 p.2.2]) (fun p => .agg (clC (markP p.1 p.2.1.l p.2.2)))
theorem inB_inj {a b : Bool} (h : inB a = inB b) : a = b := by simpa [inB] using h
theorem cMrk_eq {c : Clu} {d : Sl Bool} {t : Int} : cMrk [.agg (clC c), d.dv 1 inB, .int .i64 t] = some (.agg (clC (markP c d.l t))) :=
  con_inj (f := fun p : Clu × Sl Bool × Int => [.agg (clC p.1), p.2.1.dv 1 inB, .int .i64 p.2.2]) (by
    rintro ⟨a, b, c⟩ ⟨a', b', c'⟩ e
    simp only [List.cons.injEq, DV.agg.injEq, DV.int.injEq, and_true, true_and] at e
    rw [clC_inj e.1, dv_inj len_inB (by decide) (fun _ _ => inB_inj) e.2.1, e.2.2]) (c, d, t)
theorem cMrk_nil {c : Clu} {t : Int} : cMrk [.agg (clC c), .nils, .int .i64 t] = some (.agg (clC (markP c [] t))) := cMrk_eq (d := ⟨none, [], fun _ => rfl, by simp⟩)
theorem cMrk_all {c : Clu} {t : Int} {n : Nat} (hn : n ≤ 4294967296) : cMrk [.agg (clC c), .sl false 1 n ((List.replicate n true).flatMap inB), .int .i64 t] = some (.agg (clC (markP c (List.replicate n true) t))) := by
  have := cMrk_eq (c := c) (d := ⟨some false, List.replicate n true, by simp, by simpa using hn⟩) (t := t)
  simpa [Sl.dv, slD] using this
noncomputable def T190 : Tbl := addT 26 (.new cTape) (addT 27 (.tch cClu) (addT 29 (.pure cWithin) (addT 30 (.pure cMrk) (addT 17 (.pure cTrue) tbl0))))
theorem T190_t : T190 26 = .new cTape := by simp [T190]
theorem T190_c : T190 27 = .tch cClu := by simp [T190]
theorem T190_w : T190 29 = .pure cWithin := by simp [T190]
theorem T190_m : T190 30 = .pure cMrk := by simp [T190]
theorem T190_a : T190 17 = .pure cTrue := by simp [T190]
theorem T190_sound : T190.Sound P := addT_sound tape_sound (addT_sound clu_sound (addT_sound within_sound (addT_sound (con_sound fun p _ => sem_runs mix T112_sound Tryd.func30 a30_ok (runs_mark p.1 p.2.1 p.2.2)) (addT_sound (cTrue_sound (sem_runs mix T116_sound Tryd.func17 a17_ok runs_awake37)) tbl0_sound))))
def bL (n i : Nat) : List Bool := List.replicate i true ++ List.replicate (n - i) false
theorem bL_len {n i : Nat} (h : i ≤ n) : (bL n i).length = n := by simp [bL]; omega
theorem bL_set {n i : Nat} (h : i < n) : (bL n i).set i true = bL n (i + 1) := by
  simp only [bL]
  rw [List.set_append_right _ _ (by simp), List.length_replicate, Nat.sub_self, show n - i = (n - (i + 1)) + 1 by omega, List.replicate_succ, List.set_cons_zero, List.replicate_succ', List.append_assoc]
  rfl
/-- the same as cells -/
def bC (n i : Nat) : List DV := (bL n i).map .bool
theorem fmB (l : List Bool) : l.flatMap inB = l.map .bool := by
  induction l with
  | nil => rfl
  | cons a l ih => rw [List.flatMap_cons, ih]; rfl
theorem bC_len {n i : Nat} (h : i ≤ n) : (bC n i).length = n := by rw [bC, List.length_map, bL_len h]
theorem bC_set {n i : Nat} (h : i < n) : (bC n i).set i (.bool true) = bC n (i + 1) := by rw [bC, bC, ← bL_set h, List.map_set]
theorem bC_full {n : Nat} : bC n n = (List.replicate n true).flatMap inB := by rw [fmB, bC, bL]; simp
theorem bC_zero {n : Nat} : reps n [DV.bool false] = bC n 0 := by
  have : ∀ n, reps n [DV.bool false] = List.replicate n (DV.bool false) := fun n => by
    induction n with
    | zero => rfl
    | succ n ih => rw [List.replicate_succ, ← ih]; rfl
  rw [this]; simp [bC, bL]
theorem bC_rep {n : Nat} : rep n (DV.bool false) = bC n 0 := by rw [← bC_zero]; simp
theorem bC_pure {n i : Nat} : pureL (bC n i) = true := by
  rw [bC, ← fmB]; exact fm_pure (fun a => by simp [inB, pureL, pureD]) _
def S195 (f a : Bool) (t : List DV) (c : Clu) (n : Nat) (s e : Int) (i : Nat) : St :=
  if i < n then a5S0 (.bool f) (.bool a) (.mp 1 3 0) (.int .i64 s) (.int .i64 e) (.ms 2 n 0 1 n n) (.int .i64 i) [.cells t, .cells (clC c), .cells (bC n i)]
  else a5S0 (.bool f) (.bool a) (.mp 1 3 0) (.int .i64 s) (.int .i64 e) (.sl false 1 n (bC n n)) (.int .i64 n) [.cells t, .cells (clC c)]
def S196 (t : List DV) (c x : Clu) (w : Int) (i : Nat) : St := a5S1 (.mp 1 3 0) (.mp 2 3 0) (.int .i64 w) (.int .i64 i) [.cells t, .cells (clC c), .cells (clC x)]
theorem S195_lt {f a : Bool} {t : List DV} {c : Clu} {n : Nat} {s e : Int} {i : Nat} (h : i < n) : S195 f a t c n s e i = a5S0 (.bool f) (.bool a) (.mp 1 3 0) (.int .i64 s) (.int .i64 e) (.ms 2 n 0 1 n n) (.int .i64 i) [.cells t, .cells (clC c), .cells (bC n i)] := by rw [S195, if_pos h]
theorem S195_ge {f a : Bool} {t : List DV} {c : Clu} {n : Nat} {s e : Int} : S195 f a t c n s e n = a5S0 (.bool f) (.bool a) (.mp 1 3 0) (.int .i64 s) (.int .i64 e) (.sl false 1 n (bC n n)) (.int .i64 n) [.cells t, .cells (clC c)] := by rw [S195, if_neg (by omega)]
theorem fz_bC {A B : AObj} {n : Nat} : fz 2 [A, B, .cells (bC n n)] 3 (.ms 2 n 0 1 n n) = some (.sl false 1 n (bC n n)) := by
  have := bC_len (Nat.le_refl n)
  rw [fz_ms (by omega)]
  simp [objV, objAt, this, List.take_of_length_le, fzLo_clean bC_pure]
theorem runs_lawmark (x : Nl) (f a : Bool) (p q : Int) : Runs T190 a5 [x.dv, .bool f, .bool a, .int .i64 p, .int .i64 q] (.bool true) := by
  refine ⟨?_⟩
  obtain ⟨u, hu⟩ : ∃ u, tp0 x 100 = u := ⟨_, rfl⟩
  have hua : u.at_ = 0 := by rw [← hu]; rfl
  obtain ⟨hv, hg⟩ := clusterV_ok u 5 (by decide) (by decide)
  obtain ⟨c, hc⟩ : ∃ c, (clusterV u 5).1 = c := ⟨_, rfl⟩
  obtain ⟨w, hw⟩ : ∃ w, (clusterV u 5).2 = w := ⟨_, rfl⟩
  rw [hc] at hv hg
  have hs : timeOK (p % 100) := ⟨by omega, by omega⟩
  have he : timeOK (100 + q % 100) := ⟨by omega, by omega⟩
  have hT := fun m => cTape_eq (x := x) (n := 100) (by decide) m
  rw [hu] at hT
  simp only [show ((100 : Nat) : Int) = 100 from rfl] at hT
  have hC : cClu [.int .i64 5] (tpC u) = some (.agg (clC c), tpC w) := by rw [cClu_eq (by omega) (by decide) (by decide), hc, hw]
  have hx := nl_pure x
  have hni := hv.ni
  obtain ⟨n, hn⟩ : ∃ n, c.i.l.length = n := ⟨_, rfl⟩
  have hl := fun i (h : i ≤ n) => bC_len h
  have hp := fun i => bC_pure (n := n) (i := i)
  have hfz : ∀ k m l, pureL l = true → fzLo m k 2 l = some l := fun k m l h => fzLo_clean h
  have hM1 : ∀ (c : Clu) (t : Int), cMrk [.agg (clC c), .sl false 1 n (bC n n), .int .i64 t] = some (.agg (clC (markP c (List.replicate n true) t))) := fun c t => by rw [bC_full]; exact cMrk_all (by omega)
  simp (disch := first | omega | (simp [-List.map_take, -List.map_drop, -List.map_set, -List.map_append, -List.drop_one] <;> omega) | fail) [-List.map_take, -List.map_drop, -List.map_set, -List.map_append, -List.drop_one, a5, T190_t, T190_c, T190_w, hT, hC, hx, cWithin_eq, hn, bC_rep]
  have hfr : ∀ k i l, fzLo k l 2 (bC n i) = some (bC n i) := fun k i l => fzLo_clean bC_pure
  have hfc : ∀ k l, fzL k l (tpC w) (tpC w) := fun k l => fzL_clean (pure_tpC _)
  have hfd : ∀ k l, fzL k l (clC c) (clC c) := fun k l => fzL_clean (pure_clC _)
  refine W_loop (S195 f a (tpC w) c n (p % 100) (100 + q % 100)) (fun i => n - i) (fun i => i ≤ n) 0 ?_ (by omega) (fun i hi => ?_)
  · by_cases h0 : 0 < n
    · rw [S195_lt h0]
      exact weak_same (by simp (disch := first | omega | (simp [-List.map_take, -List.map_drop, -List.map_set, -List.map_append, -List.drop_one] <;> omega) | fail) [-List.map_take, -List.map_drop, -List.map_set, -List.map_append, -List.drop_one, a5S0]) (by simp (disch := first | omega | (simp [-List.map_take, -List.map_drop, -List.map_set, -List.map_append, -List.drop_one] <;> omega) | fail) [-List.map_take, -List.map_drop, -List.map_set, -List.map_append, -List.drop_one])
    · obtain rfl : n = 0 := by omega
      rw [S195_ge]
      exact weak_freeze (by simp [a5S0]) (by simp [a5S0]) (by repeat' (first | exact Or.inl rfl | exact Or.inr fz_bC | exact Or.inr rfl | exact trivial | refine And.intro ?_ ?_)) ⟨hfc _ _, hfd _ _, trivial⟩
  by_cases h : i < n
  · rw [S195_lt h]
    have h' : (i : Int) < n := by omega
    have hl' : i < (bC n i).length := by rw [bC_len hi]; exact h
    simp (disch := first | omega | (simp [-List.map_take, -List.map_drop, -List.map_set, -List.map_append, -List.drop_one] <;> omega) | fail) [-List.map_take, -List.map_drop, -List.map_set, -List.map_append, -List.drop_one, a5L0, a5S0, hl, h, h', hl', storeO_1_bool, bC_set]
    refine ⟨i + 1, ?_, by omega, by omega⟩
    by_cases h0 : i + 1 < n
    · rw [S195_lt h0]
      exact weak_same (by simp (disch := first | omega | (simp [-List.map_take, -List.map_drop, -List.map_set, -List.map_append, -List.drop_one] <;> omega) | fail) [-List.map_take, -List.map_drop, -List.map_set, -List.map_append, -List.drop_one, a5S0]) (by simp (disch := first | omega | (simp [-List.map_take, -List.map_drop, -List.map_set, -List.map_append, -List.drop_one] <;> omega) | fail) [-List.map_take, -List.map_drop, -List.map_set, -List.map_append, -List.drop_one])
    · obtain rfl : n = i + 1 := by omega
      rw [S195_ge]
      exact weak_freeze (by simp [a5S0]) (by simp [a5S0]) (by repeat' (first | exact Or.inl rfl | exact Or.inr fz_bC | exact Or.inr rfl | exact trivial | refine And.intro ?_ ?_)) ⟨hfc _ _, hfd _ _, trivial⟩
  · obtain rfl : i = n := by omega
    rw [S195_ge]
    cases f with
    | false =>
      cases a with
      | false =>
        simp (disch := first | omega | (simp [-List.map_take, -List.map_drop, -List.map_set, -List.map_append, -List.drop_one] <;> omega) | fail) [-List.map_take, -List.map_drop, -List.map_set, -List.map_append, -List.drop_one, a5L0, a5S0, T190_m, cMrk_nil, hM1, hp]
        obtain ⟨y, hy⟩ : ∃ y, mk1 c i false false (p % 100) (100 + q % 100) = y := ⟨_, rfl⟩
        have hm := mk1_ok (f := false) (a := false) hv hn.symm hs he
        rw [hy] at hm
        simp only [mk1, Bool.false_eq_true, if_false, if_true] at hy
        rw [hy]
        have hyn : y.i.l.length = i := by rw [hm.n, hn]
        refine W_loop (S196 (tpC w) c y (100 + q % 100)) (fun j => i - j) (fun j => j ≤ i) 0 (weak_same (by simp (disch := first | omega | (simp [-List.map_take, -List.map_drop, -List.map_set, -List.map_append, -List.drop_one] <;> omega) | fail) [-List.map_take, -List.map_drop, -List.map_set, -List.map_append, -List.drop_one, S196, a5S1]) (by simp (disch := first | omega | (simp [-List.map_take, -List.map_drop, -List.map_set, -List.map_append, -List.drop_one] <;> omega) | fail) [-List.map_take, -List.map_drop, -List.map_set, -List.map_append, -List.drop_one, S196])) (by omega) (fun j hj => ?_)
        simp (disch := first | omega | (simp [-List.map_take, -List.map_drop, -List.map_set, -List.map_append, -List.drop_one] <;> omega) | fail) [-List.map_take, -List.map_drop, -List.map_set, -List.map_append, -List.drop_one, a5L1, a5S1, S196]
        by_cases h2 : j < i
        · have h2' : (j : Int) < i := by omega
          have g1 : j < y.i.l.length := by omega
          have g2 : j < c.i.l.length := by omega
          obtain ⟨m1, m2⟩ := hm.i j g1 g2
          simp at m2
          have hg1 := fun H => idxSD_dv (x := y.i) (h := H) len_inC g1
          have hg2 := fun H => idxSD_dv (x := c.i) (h := H) len_inC g2
          simp (disch := first | omega | (simp [-List.map_take, -List.map_drop, -List.map_set, -List.map_append, -List.drop_one] <;> omega) | fail) [-List.map_take, -List.map_drop, -List.map_set, -List.map_append, -List.drop_one, hyn, h2, h2', g1, g2, hg1, hg2, m1, m2]
          refine ⟨j + 1, weak_same (by simp (disch := first | omega | (simp [-List.map_take, -List.map_drop, -List.map_set, -List.map_append, -List.drop_one] <;> omega) | fail) [-List.map_take, -List.map_drop, -List.map_set, -List.map_append, -List.drop_one, S196, a5S1]) (by simp (disch := first | omega | (simp [-List.map_take, -List.map_drop, -List.map_set, -List.map_append, -List.drop_one] <;> omega) | fail) [-List.map_take, -List.map_drop, -List.map_set, -List.map_append, -List.drop_one, S196]), by omega, by omega⟩
        · have h2' : ¬ (j : Int) < i := by omega
          simp (disch := first | omega | (simp [-List.map_take, -List.map_drop, -List.map_set, -List.map_append, -List.drop_one] <;> omega) | fail) [-List.map_take, -List.map_drop, -List.map_set, -List.map_append, -List.drop_one, hyn, hn, h2, h2', T190_a, cTrue]
      | true =>
        simp (disch := first | omega | (simp [-List.map_take, -List.map_drop, -List.map_set, -List.map_append, -List.drop_one] <;> omega) | fail) [-List.map_take, -List.map_drop, -List.map_set, -List.map_append, -List.drop_one, a5L0, a5S0, T190_m, cMrk_nil, hM1, hp]
        obtain ⟨y, hy⟩ : ∃ y, mk1 c i false true (p % 100) (100 + q % 100) = y := ⟨_, rfl⟩
        have hm := mk1_ok (f := false) (a := true) hv hn.symm hs he
        rw [hy] at hm
        simp only [mk1, Bool.false_eq_true, if_false, if_true] at hy
        rw [hy]
        have hyn : y.i.l.length = i := by rw [hm.n, hn]
        refine W_loop (S196 (tpC w) c y (100 + q % 100)) (fun j => i - j) (fun j => j ≤ i) 0 (weak_same (by simp (disch := first | omega | (simp [-List.map_take, -List.map_drop, -List.map_set, -List.map_append, -List.drop_one] <;> omega) | fail) [-List.map_take, -List.map_drop, -List.map_set, -List.map_append, -List.drop_one, S196, a5S1]) (by simp (disch := first | omega | (simp [-List.map_take, -List.map_drop, -List.map_set, -List.map_append, -List.drop_one] <;> omega) | fail) [-List.map_take, -List.map_drop, -List.map_set, -List.map_append, -List.drop_one, S196])) (by omega) (fun j hj => ?_)
        simp (disch := first | omega | (simp [-List.map_take, -List.map_drop, -List.map_set, -List.map_append, -List.drop_one] <;> omega) | fail) [-List.map_take, -List.map_drop, -List.map_set, -List.map_append, -List.drop_one, a5L1, a5S1, S196]
        by_cases h2 : j < i
        · have h2' : (j : Int) < i := by omega
          have g1 : j < y.i.l.length := by omega
          have g2 : j < c.i.l.length := by omega
          obtain ⟨m1, m2⟩ := hm.i j g1 g2
          simp at m2
          have hg1 := fun H => idxSD_dv (x := y.i) (h := H) len_inC g1
          have hg2 := fun H => idxSD_dv (x := c.i) (h := H) len_inC g2
          simp (disch := first | omega | (simp [-List.map_take, -List.map_drop, -List.map_set, -List.map_append, -List.drop_one] <;> omega) | fail) [-List.map_take, -List.map_drop, -List.map_set, -List.map_append, -List.drop_one, hyn, h2, h2', g1, g2, hg1, hg2, m1, m2]
          refine ⟨j + 1, weak_same (by simp (disch := first | omega | (simp [-List.map_take, -List.map_drop, -List.map_set, -List.map_append, -List.drop_one] <;> omega) | fail) [-List.map_take, -List.map_drop, -List.map_set, -List.map_append, -List.drop_one, S196, a5S1]) (by simp (disch := first | omega | (simp [-List.map_take, -List.map_drop, -List.map_set, -List.map_append, -List.drop_one] <;> omega) | fail) [-List.map_take, -List.map_drop, -List.map_set, -List.map_append, -List.drop_one, S196]), by omega, by omega⟩
        · have h2' : ¬ (j : Int) < i := by omega
          simp (disch := first | omega | (simp [-List.map_take, -List.map_drop, -List.map_set, -List.map_append, -List.drop_one] <;> omega) | fail) [-List.map_take, -List.map_drop, -List.map_set, -List.map_append, -List.drop_one, hyn, hn, h2, h2', T190_a, cTrue]
    | true =>
      cases a with
      | false =>
        simp (disch := first | omega | (simp [-List.map_take, -List.map_drop, -List.map_set, -List.map_append, -List.drop_one] <;> omega) | fail) [-List.map_take, -List.map_drop, -List.map_set, -List.map_append, -List.drop_one, a5L0, a5S0, T190_m, cMrk_nil, hM1, hp]
        obtain ⟨y, hy⟩ : ∃ y, mk1 c i true false (p % 100) (100 + q % 100) = y := ⟨_, rfl⟩
        have hm := mk1_ok (f := true) (a := false) hv hn.symm hs he
        rw [hy] at hm
        simp only [mk1, Bool.false_eq_true, if_false, if_true] at hy
        rw [hy]
        have hyn : y.i.l.length = i := by rw [hm.n, hn]
        refine W_loop (S196 (tpC w) c y (p % 100)) (fun j => i - j) (fun j => j ≤ i) 0 (weak_same (by simp (disch := first | omega | (simp [-List.map_take, -List.map_drop, -List.map_set, -List.map_append, -List.drop_one] <;> omega) | fail) [-List.map_take, -List.map_drop, -List.map_set, -List.map_append, -List.drop_one, S196, a5S1]) (by simp (disch := first | omega | (simp [-List.map_take, -List.map_drop, -List.map_set, -List.map_append, -List.drop_one] <;> omega) | fail) [-List.map_take, -List.map_drop, -List.map_set, -List.map_append, -List.drop_one, S196])) (by omega) (fun j hj => ?_)
        simp (disch := first | omega | (simp [-List.map_take, -List.map_drop, -List.map_set, -List.map_append, -List.drop_one] <;> omega) | fail) [-List.map_take, -List.map_drop, -List.map_set, -List.map_append, -List.drop_one, a5L1, a5S1, S196]
        by_cases h2 : j < i
        · have h2' : (j : Int) < i := by omega
          have g1 : j < y.i.l.length := by omega
          have g2 : j < c.i.l.length := by omega
          obtain ⟨m1, m2⟩ := hm.i j g1 g2
          simp at m2
          have hg1 := fun H => idxSD_dv (x := y.i) (h := H) len_inC g1
          have hg2 := fun H => idxSD_dv (x := c.i) (h := H) len_inC g2
          simp (disch := first | omega | (simp [-List.map_take, -List.map_drop, -List.map_set, -List.map_append, -List.drop_one] <;> omega) | fail) [-List.map_take, -List.map_drop, -List.map_set, -List.map_append, -List.drop_one, hyn, h2, h2', g1, g2, hg1, hg2, m1, m2]
          refine ⟨j + 1, weak_same (by simp (disch := first | omega | (simp [-List.map_take, -List.map_drop, -List.map_set, -List.map_append, -List.drop_one] <;> omega) | fail) [-List.map_take, -List.map_drop, -List.map_set, -List.map_append, -List.drop_one, S196, a5S1]) (by simp (disch := first | omega | (simp [-List.map_take, -List.map_drop, -List.map_set, -List.map_append, -List.drop_one] <;> omega) | fail) [-List.map_take, -List.map_drop, -List.map_set, -List.map_append, -List.drop_one, S196]), by omega, by omega⟩
        · have h2' : ¬ (j : Int) < i := by omega
          simp (disch := first | omega | (simp [-List.map_take, -List.map_drop, -List.map_set, -List.map_append, -List.drop_one] <;> omega) | fail) [-List.map_take, -List.map_drop, -List.map_set, -List.map_append, -List.drop_one, hyn, hn, h2, h2', T190_a, cTrue]
      | true =>
        simp (disch := first | omega | (simp [-List.map_take, -List.map_drop, -List.map_set, -List.map_append, -List.drop_one] <;> omega) | fail) [-List.map_take, -List.map_drop, -List.map_set, -List.map_append, -List.drop_one, a5L0, a5S0, T190_m, cMrk_nil, hM1, hp]
        obtain ⟨y, hy⟩ : ∃ y, mk1 c i true true (p % 100) (100 + q % 100) = y := ⟨_, rfl⟩
        have hm := mk1_ok (f := true) (a := true) hv hn.symm hs he
        rw [hy] at hm
        simp only [mk1, Bool.false_eq_true, if_false, if_true] at hy
        rw [hy]
        have hyn : y.i.l.length = i := by rw [hm.n, hn]
        refine W_loop (S196 (tpC w) c y (100 + q % 100)) (fun j => i - j) (fun j => j ≤ i) 0 (weak_same (by simp (disch := first | omega | (simp [-List.map_take, -List.map_drop, -List.map_set, -List.map_append, -List.drop_one] <;> omega) | fail) [-List.map_take, -List.map_drop, -List.map_set, -List.map_append, -List.drop_one, S196, a5S1]) (by simp (disch := first | omega | (simp [-List.map_take, -List.map_drop, -List.map_set, -List.map_append, -List.drop_one] <;> omega) | fail) [-List.map_take, -List.map_drop, -List.map_set, -List.map_append, -List.drop_one, S196])) (by omega) (fun j hj => ?_)
        simp (disch := first | omega | (simp [-List.map_take, -List.map_drop, -List.map_set, -List.map_append, -List.drop_one] <;> omega) | fail) [-List.map_take, -List.map_drop, -List.map_set, -List.map_append, -List.drop_one, a5L1, a5S1, S196]
        by_cases h2 : j < i
        · have h2' : (j : Int) < i := by omega
          have g1 : j < y.i.l.length := by omega
          have g2 : j < c.i.l.length := by omega
          obtain ⟨m1, m2⟩ := hm.i j g1 g2
          simp at m2
          have hg1 := fun H => idxSD_dv (x := y.i) (h := H) len_inC g1
          have hg2 := fun H => idxSD_dv (x := c.i) (h := H) len_inC g2
          simp (disch := first | omega | (simp [-List.map_take, -List.map_drop, -List.map_set, -List.map_append, -List.drop_one] <;> omega) | fail) [-List.map_take, -List.map_drop, -List.map_set, -List.map_append, -List.drop_one, hyn, h2, h2', g1, g2, hg1, hg2, m1, m2]
          refine ⟨j + 1, weak_same (by simp (disch := first | omega | (simp [-List.map_take, -List.map_drop, -List.map_set, -List.map_append, -List.drop_one] <;> omega) | fail) [-List.map_take, -List.map_drop, -List.map_set, -List.map_append, -List.drop_one, S196, a5S1]) (by simp (disch := first | omega | (simp [-List.map_take, -List.map_drop, -List.map_set, -List.map_append, -List.drop_one] <;> omega) | fail) [-List.map_take, -List.map_drop, -List.map_set, -List.map_append, -List.drop_one, S196]), by omega, by omega⟩
        · have h2' : ¬ (j : Int) < i := by omega
          simp (disch := first | omega | (simp [-List.map_take, -List.map_drop, -List.map_set, -List.map_append, -List.drop_one] <;> omega) | fail) [-List.map_take, -List.map_drop, -List.map_set, -List.map_append, -List.drop_one, hyn, hn, h2, h2', T190_a, cTrue]
namespace workloadMark
theorem law_holds (dvs) (h : Ty.Args [.sl (.int .i64), .bool, .bool, .int .i64, .int .i64] dvs) : Am.Sem P 5 dvs (.bool true) := by
  obtain ⟨d1, l1, rfl, h1, d2, l2, rfl, h2, d3, l3, rfl, h3, d4, l4, rfl, h4, d5, l5, rfl, h5, rfl⟩ := h
  obtain ⟨x, _, hx⟩ := ok_nl h1
  obtain ⟨f, hf⟩ := ok_boo h2
  obtain ⟨a, ha⟩ := ok_boo h3
  obtain ⟨p, _, hp⟩ := ok_n h4
  obtain ⟨q, _, hq⟩ := ok_n h5
  cases hx; cases hf; cases ha; cases hp; cases hq
  exact sem_runs mix T190_sound Tryd.func5 a5_ok (runs_lawmark x f a p q)
end workloadMark
end Go.Proofs.YtjhakjeioppijaaDoor
