/-
  18 texts of mine in one.
-/
import Derived.Lib.AppendZeros
import Derived.WalkKit
import Derived.Test.YtjhakjeioppijaaDoorC5f0ea989
import Derived.Test.YtjhakjeioppijaaDoorC950dc02d
import Derived.Test.YtjhakjeioppijaaDoorC0aefe577
import Derived.Test.YtjhakjeioppijaaDoorC7ea40f38
set_option linter.unusedSimpArgs false
set_option linter.unusedVariables false
namespace Go.Proofs.YtjhakjeioppijaaDoor
open Go Go.Am
theorem gLoop_at (x : Sl Dg) : ∀ (k : Nat) (t : Tp) (l : List Dg), (gLoop x k t l).2.at_ ≤ t.at_ + 3 * k
  | 0, t, l => Nat.le_refl _
  | k + 1, t, l => by
    have h1 := gLoop_at x k (gOne x t).2 (gAdd l (gOne x t).1)
    have h2 := gOne_at x t
    show (gLoop x k (gOne x t).2 (gAdd l (gOne x t).1)).2.at_ ≤ _
    omega
theorem groupV_at (t : Tp) (x : Sl Dg) : (groupV t x).2.at_ ≤ t.at_ + 15 := by
  have n5 := tpN_lo (t.adv 5) 3
  have n6 := tpN_hi (t.adv 5) (n := 3) (by omega)
  have := gLoop_at x ((tpN (t.adv 5) 3).toNat + 1) (t.adv 6) []
  simp only [groupV, adv_at] at this ⊢
  omega
noncomputable def cGrp : List DV → List DV → Option (DV × List DV) := conT (fun a : Tp × Sl Dg => a.1.at_ < 3999999000 ∧ 1 ≤ a.2.l.length) (fun a => [a.2.dv 32 dgC]) (fun a => tpC a.1) (fun a => (.agg (grC (groupV a.1 a.2).1), tpC (groupV a.1 a.2).2))
theorem cGrp_eq {t : Tp} {x : Sl Dg} (h1 : t.at_ < 3999999000) (h2 : 1 ≤ x.l.length) : cGrp [x.dv 32 dgC] (tpC t) = some (.agg (grC (groupV t x).1), tpC (groupV t x).2) :=
  conT_eq (A := fun a : Tp × Sl Dg => a.1.at_ < 3999999000 ∧ 1 ≤ a.2.l.length) (f := fun a => [a.2.dv 32 dgC]) (s := fun a => tpC a.1) (by
    rintro ⟨a, n⟩ ⟨b, m⟩ e1 e2
    simp only [List.cons.injEq, and_true] at e1
    rw [dgs_inj e1, tpC_inj e2]) (t, x) ⟨h1, h2⟩
theorem grp_sound : (Con.tch cGrp).Sound P 34 :=
  conT_sound (fun a _ => ⟨by simp [pureL], pure_tpC _, by simp [pureD], pure_tpC _⟩) fun a h => calls_runsF mix T160_sound Tryd.func34 a34_ok (runs_group_made a.1 a.2 h.1 h.2) (Nat.le_refl _)
def arts3 : Sl Dg := ⟨some true, [dgW 1#8, dgW 2#8, dgW 3#8], by simp, by simp⟩
def nilI : Sl Ins := ⟨none, [], fun _ => rfl, by simp⟩
def nilG : Sl Grp := ⟨none, [], fun _ => rfl, by simp⟩
noncomputable def dOne (c : Clu) (t : Tp) : Clu := if (deployR c (groupV t arts3).1).2 = 0 then (deployR c (groupV t arts3).1).1 else c
noncomputable def dLoop : Nat → Clu → Tp → Clu × Tp
  | 0, c, t => (c, t)
  | k + 1, c, t => dLoop k (dOne c t) (groupV t arts3).2
def iIns (n : Nat) (next : Int) (t : Tp) : Ins := ⟨next, tpN t n, arts3.l.getD (tpN (tpS t n) 3).toNat dg0, 1 + tpN ((tpS t n).adv 1) 3, tpN ((tpS t n).adv 2) 30, if tpN ((tpS t n).adv 3) 3 = 0 then tpN ((tpS t n).adv 4) 30 else -1⟩
def iTp (n : Nat) (t : Tp) : Tp := if tpN ((tpS t n).adv 3) 3 = 0 then (tpS t n).adv 5 else (tpS t n).adv 4
def iLoop (n : Nat) : Nat → List Ins → Int → Tp → List Ins × Int × Tp
  | 0, l, next, t => (l, next, t)
  | k + 1, l, next, t => iLoop n k (l ++ [iIns n next t]) (next + (1 + tpN (iTp n t) 2)) ((iTp n t).adv 1)
def cl0 (t : Tp) : Clu := ⟨nilG, nilI, 1 + tpN t 4⟩
noncomputable def clD (t : Tp) : Clu × Tp := dLoop ((tpN (t.adv 1) 2).toNat + 1) (cl0 t) (t.adv 2)
noncomputable def clI (t : Tp) (m : Int) : List Ins × Int × Tp := iLoop (clD t).1.g.l.length (tpN (clD t).2 (m + 1)).toNat [] (clD t).1.next ((clD t).2.adv 1)
noncomputable def clusterV (t : Tp) (m : Int) : Clu × Tp := (⟨(clD t).1.g, if (clI t m).1 = [] then nilI else own (clI t m).1, (clI t m).2.1⟩, (clI t m).2.2)
theorem deployR_i {c : Clu} {g : Grp} (h : (deployR c g).2 = 0) (hi : c.i = nilI) : (deployR c g).1.i = nilI := by
  have hc : nilI.copy = nilI := rfl
  unfold deployR at h ⊢
  split at h <;> try (simp at h; done)
  rename_i h1
  rw [if_neg h1]
  split at h
  · rename_i h2
    rw [if_pos h2]
    split at h <;> try (simp at h; done)
    rename_i h3
    rw [if_neg h3, hi]; rfl
  · rename_i h2
    rw [if_neg h2, hi]; rfl
theorem dOne_i {c : Clu} {t : Tp} (hi : c.i = nilI) : (dOne c t).i = nilI := by
  unfold dOne; split
  · rename_i h; exact deployR_i h hi
  · exact hi
noncomputable def cDepR (g : Clu → Grp → DV) : List DV → Option DV := con (fun _ => True) (fun p : Clu × Grp => [.agg (clC p.1), .agg (grC p.2)]) (fun p => g p.1 p.2)
theorem cDepR_eq {f : Clu → Grp → DV} {c : Clu} {g : Grp} : cDepR f [.agg (clC c), .agg (grC g)] = some (f c g) :=
  con_inj (f := fun p : Clu × Grp => [.agg (clC p.1), .agg (grC p.2)]) (by
    rintro ⟨a, b⟩ ⟨a', b'⟩ e
    simp only [List.cons.injEq, DV.agg.injEq, and_true] at e
    rw [clC_inj e.1, grC_inj e.2]) (c, g)
noncomputable def T180 : Tbl := addT 28 (.tch cNext) (addT 34 (.tch cGrp) (addT 36 (.pure (cDepR deployRB)) tbl0))
theorem T180_n : T180 28 = .tch cNext := by simp [T180]
theorem T180_g : T180 34 = .tch cGrp := by simp [T180]
theorem T180_d : T180 36 = .pure (cDepR deployRB) := by simp [T180]
theorem T180_sound : T180.Sound P := addT_sound next_sound (addT_sound grp_sound (addT_sound (con_sound fun p _ => sem_runs mix T170_sound Tryd.func36 a36_ok (runs_refdeploy p.1 p.2)) tbl0_sound))
theorem arts_dv : arts3.dv 32 dgC = .sl true 32 3 (dgC (dgW 1#8) ++ (dgC (dgW 2#8) ++ dgC (dgW 3#8))) := by simp [arts3, Sl.dv, slD]
structure DS where
  k : Nat
  c : Clu
  t : Tp
def S180 (m : Int) (a : DS) : St := a27S0 (.mp 0 2 0) (.int .i64 m) (.mp 1 3 0) (arts3.dv 32 dgC) (.mp 2 3 0) (.int .i64 a.k) [.cells (tpC a.t), .cells [.nils, .nils, .int .i64 0], .cells (clC a.c)]
theorem bsl_arts : bslD 32 3 (dgC dg0) [(0, 32, .agg (dgC (dgW 1#8))), (32, 32, .agg (dgC (dgW 2#8))), (64, 32, .agg (dgC (dgW 3#8)))] = some (arts3.dv 32 dgC) := by
  rw [bslD_of (by simp [DV.known]) (by simp [seqD, DV.cells])]; simp [seqD, DV.cells, arts3, Sl.dv, slD]
theorem build_n {n : Int} : buildD [.nils, .nils, .int .i64 0] [(2, 1, .int .i64 n)] = some (.agg [.nils, .nils, .int .i64 n]) := rfl
theorem deployR_next {c : Clu} {g : Grp} (h : (deployR c g).2 = 0) : (deployR c g).1.next = c.next := by
  unfold deployR at h ⊢
  split at h <;> try (simp at h; done)
  rename_i h1
  rw [if_neg h1]
  split at h
  · rename_i h2
    rw [if_pos h2]
    split at h <;> try (simp at h; done)
    rename_i h3
    rw [if_neg h3]
  · rename_i h2
    rw [if_neg h2]
theorem dOne_next {c : Clu} {t : Tp} : (dOne c t).next = c.next := by
  unfold dOne; split
  · rename_i h; exact deployR_next h
  · rfl
structure IS where
  k : Nat
  l : List Ins
  n : Int
  t : Tp
  x : Ins
def iH (g : Sl Grp) (a : IS) : List AObj := if a.l = [] then [.cells (tpC a.t), .cells [.nils, .nils, .int .i64 0], .cells [g.dv 6 grC, .nils, .int .i64 a.n]] else
  [.cells (tpC a.t), .cells [.nils, .nils, .int .i64 0], .cells [g.dv 6 grC, .ms 4 (a.l.length * 37) 0 37 a.l.length (a.l.length * 37), .int .i64 a.n], .cells (inC a.x), .cells (a.l.flatMap inC)]
theorem iH_nil {g : Sl Grp} {a : IS} (h : a.l = []) : iH g a = [.cells (tpC a.t), .cells [.nils, .nils, .int .i64 0], .cells [g.dv 6 grC, .nils, .int .i64 a.n]] := if_pos h
theorem iH_ne {g : Sl Grp} {a : IS} (h : a.l ≠ []) : iH g a = [.cells (tpC a.t), .cells [.nils, .nils, .int .i64 0], .cells [g.dv 6 grC, .ms 4 (a.l.length * 37) 0 37 a.l.length (a.l.length * 37), .int .i64 a.n], .cells (inC a.x), .cells (a.l.flatMap inC)] := if_neg h
def S181 (g : Sl Grp) (a : IS) : St := a27S1 (.mp 0 2 0) (.mp 1 3 0) (arts3.dv 32 dgC) (.mp 2 3 0) (.int .i64 a.k) (iH g a)
def in0 : Ins := ⟨0, 0, dg0, 0, 0, 0⟩
theorem zero_in : [DV.int .i64 0, .int .i64 0, w8 0#8, w8 0#8, w8 0#8, w8 0#8, w8 0#8, w8 0#8, w8 0#8, w8 0#8, w8 0#8, w8 0#8, w8 0#8, w8 0#8, w8 0#8, w8 0#8, w8 0#8, w8 0#8, w8 0#8, w8 0#8, w8 0#8, w8 0#8, w8 0#8, w8 0#8, w8 0#8, w8 0#8, w8 0#8, w8 0#8, w8 0#8, w8 0#8, w8 0#8, w8 0#8, w8 0#8, w8 0#8, .int .i64 0, .int .i64 0, .int .i64 0] = inC in0 := rfl
theorem set_de (x : Ins) (v : Int) : (inC x).set 36 (.int .i64 v) = inC ⟨x.id, x.grp, x.art, x.state, x.since, v⟩ := by
  have h := len_pre x
  rw [inC_split, inC_split, List.set_append_right _ _ (by omega), h]
  rfl
set_option maxHeartbeats 2000000 in
theorem runs_cluster_made (t : Tp) (m : Int) (ht : t.at_ < 3990000000) (h0 : 0 ≤ m) (h1 : m ≤ 1000) : RunsF T180 a27 [.mp 0 2 0, .int .i64 m] [.cells (tpC t)] (.agg (clC (clusterV t m).1)) [.cells (tpC (clusterV t m).2)] := by
  refine ⟨?_⟩
  have n1 := tpN_lo t 4
  have n2 := tpN_hi t (n := 4) (by omega)
  have n3 := tpN_lo (t.adv 1) 2
  have n4 := tpN_hi (t.adv 1) (n := 2) (by omega)
  obtain ⟨N, hN⟩ : ∃ N : Nat, tpN (t.adv 1) 2 = N := ⟨_, (Int.toNat_of_nonneg n3).symm⟩
  simp (disch := first | omega | (simp [-List.map_take, -List.map_drop, -List.map_set, -List.map_append, -List.drop_one] <;> omega) | fail) [-List.map_take, -List.map_drop, -List.map_set, -List.map_append, -List.drop_one, a27, T180_n, cNext_pos, adv_adv, build_dg, bsl_arts, build_n, hN]
  refine W_loop (S180 m) (fun a => a.k) (fun a => dLoop a.k a.c a.t = clD t ∧ a.t.at_ + 100 * a.k < 3995000000 ∧ a.c.i = nilI ∧ a.c.next = 1 + tpN t 4) ⟨N + 1, cl0 t, t.adv 2⟩ ?_ ?_ (fun a ha => ?_)
  · exact weak_same (by simp (disch := first | omega | (simp [-List.map_take, -List.map_drop, -List.map_set, -List.map_append, -List.drop_one] <;> omega) | fail) [-List.map_take, -List.map_drop, -List.map_set, -List.map_append, -List.drop_one, S180, a27S0, arts_dv, show (1 + (N : Int)) = N + 1 from Int.add_comm _ _]) (by simp (disch := first | omega | (simp [-List.map_take, -List.map_drop, -List.map_set, -List.map_append, -List.drop_one] <;> omega) | fail) [-List.map_take, -List.map_drop, -List.map_set, -List.map_append, -List.drop_one, S180, cl0, clC_mk, nilG, nilI, Sl.dv, slD_none])
  · exact ⟨by simp [clD, hN], by simp; omega, rfl, rfl⟩
  obtain ⟨k, c, u⟩ := a
  obtain ⟨r1, r2, r3, r4⟩ := ha
  simp only at r1 r2 r3 r4
  simp (disch := first | omega | (simp [-List.map_take, -List.map_drop, -List.map_set, -List.map_append, -List.drop_one] <;> omega) | fail) [-List.map_take, -List.map_drop, -List.map_set, -List.map_append, -List.drop_one, a27L0, a27S0, S180]
  by_cases hk : 0 < k
  · obtain ⟨k, rfl⟩ : ∃ k', k = k' + 1 := ⟨k - 1, by omega⟩
    have hk' : (0 : Int) < ((k + 1 : Nat) : Int) := by omega
    have g1 := groupV_at u arts3
    have r1' : dLoop k (dOne c u) (groupV u arts3).2 = clD t := r1
    have ha3 : 1 ≤ arts3.l.length := by simp [arts3]
    have hdi := dOne_i (t := u) r3
    have hdn := dOne_next (c := c) (t := u)
    obtain ⟨G, hG⟩ : ∃ G, (groupV u arts3).1 = G := ⟨_, rfl⟩
    obtain ⟨V, hV⟩ : ∃ V, (groupV u arts3).2 = V := ⟨_, rfl⟩
    obtain ⟨E, hE⟩ : ∃ E, deployR c G = E := ⟨_, rfl⟩
    rw [hV] at g1 r1'
    by_cases he : E.2 = 0
    · have hd : dOne c u = E.1 := by rw [dOne, hG, hE, if_pos he]
      simp (disch := first | omega | (simp [-List.map_take, -List.map_drop, -List.map_set, -List.map_append, -List.drop_one] <;> omega) | fail) [-List.map_take, -List.map_drop, -List.map_set, -List.map_append, -List.drop_one, T180_g, T180_d, cGrp_eq, cDepR_eq, deployRB, hG, hV, hE, he, ha3]
      refine ⟨⟨k, E.1, V⟩, weak_drop (tail := [.cells (clC E.1)]) (by simp (disch := first | omega | (simp [-List.map_take, -List.map_drop, -List.map_set, -List.map_append, -List.drop_one] <;> omega) | fail) [-List.map_take, -List.map_drop, -List.map_set, -List.map_append, -List.drop_one, S180, a27S0]) (by simp (disch := first | omega | (simp [-List.map_take, -List.map_drop, -List.map_set, -List.map_append, -List.drop_one] <;> omega) | fail) [-List.map_take, -List.map_drop, -List.map_set, -List.map_append, -List.drop_one, S180]) (by simp [S180, a27S0]) (by simp [S180, a27S0, Am.belowL, Am.below]) (by simp [S180, a27S0, belowH, Am.belowL, Am.below, belowL_pure _ _ (pure_tpC _)]), by simp, by rw [← hd]; exact r1', by simp; omega, by rw [← hd]; exact hdi, by rw [← hd, hdn]; exact r4⟩
    · have hd : dOne c u = c := by rw [dOne, hG, hE, if_neg he]
      simp (disch := first | omega | (simp [-List.map_take, -List.map_drop, -List.map_set, -List.map_append, -List.drop_one] <;> omega) | fail) [-List.map_take, -List.map_drop, -List.map_set, -List.map_append, -List.drop_one, T180_g, T180_d, cGrp_eq, cDepR_eq, deployRB, hG, hV, hE, he, ha3]
      refine ⟨⟨k, c, V⟩, weak_drop (tail := [.cells (clC E.1)]) (by simp (disch := first | omega | (simp [-List.map_take, -List.map_drop, -List.map_set, -List.map_append, -List.drop_one] <;> omega) | fail) [-List.map_take, -List.map_drop, -List.map_set, -List.map_append, -List.drop_one, S180, a27S0]) (by simp (disch := first | omega | (simp [-List.map_take, -List.map_drop, -List.map_set, -List.map_append, -List.drop_one] <;> omega) | fail) [-List.map_take, -List.map_drop, -List.map_set, -List.map_append, -List.drop_one, S180]) (by simp [S180, a27S0]) (by simp [S180, a27S0, Am.belowL, Am.below]) (by simp [S180, a27S0, belowH, Am.belowL, Am.below, belowL_pure _ _ (pure_tpC _)]), by simp, by rw [hd] at r1'; exact r1', by simp; omega, r3, r4⟩
  obtain rfl : k = 0 := by omega
  have ec : clD t = (c, u) := r1.symm
  have m1 := tpN_lo u (m + 1)
  have m2 := tpN_hi u (n := m + 1) (by omega)
  obtain ⟨K, hK⟩ : ∃ K : Nat, tpN u (m + 1) = K := ⟨_, (Int.toNat_of_nonneg m1).symm⟩
  obtain ⟨g, ci, nx⟩ := c
  simp only at r3 r4
  subst r3
  have hI : clI t m = iLoop g.l.length K [] nx (u.adv 1) := by rw [clI, ec]; simp only [hK, Int.toNat_natCast]
  obtain ⟨r, hr⟩ : ∃ r, iLoop g.l.length K [] nx (u.adv 1) = r := ⟨_, rfl⟩
  have hcv : clusterV t m = (⟨g, if r.1 = [] then nilI else own r.1, r.2.1⟩, r.2.2) := by rw [clusterV, hI, hr, ec]
  rw [hcv]
  have hgb := g.b
  simp (disch := first | omega | (simp [-List.map_take, -List.map_drop, -List.map_set, -List.map_append, -List.drop_one] <;> omega) | fail) [-List.map_take, -List.map_drop, -List.map_set, -List.map_append, -List.drop_one, T180_n, cNext_pos, hK]
  refine W_loop (S181 g) (fun a => a.k) (fun a => iLoop g.l.length a.k a.l a.n a.t = r ∧ a.t.at_ + 100 * a.k < 3999999000 ∧ 0 ≤ a.n ∧ a.n + 2 * a.k ≤ 10000 ∧ a.l.length + a.k ≤ 2000) ⟨K, [], nx, u.adv 1, in0⟩ ?_ ?_ (fun a ha => ?_)
  · rw [S181, iH_nil rfl]
    exact weak_same (by simp (disch := first | omega | (simp [-List.map_take, -List.map_drop, -List.map_set, -List.map_append, -List.drop_one] <;> omega) | fail) [-List.map_take, -List.map_drop, -List.map_set, -List.map_append, -List.drop_one, a27S1]) (by simp (disch := first | omega | (simp [-List.map_take, -List.map_drop, -List.map_set, -List.map_append, -List.drop_one] <;> omega) | fail) [-List.map_take, -List.map_drop, -List.map_set, -List.map_append, -List.drop_one, clC_mk, nilI, Sl.dv, slD_none])
  · exact ⟨hr, by simp; omega, by simp; omega, by simp; omega, by simp; omega⟩
  clear r1 r2
  obtain ⟨k, l, n, v, x0⟩ := a
  obtain ⟨r1, r2, q1, q2, q3⟩ := ha
  simp only at r1 r2 q1 q2 q3
  by_cases hk : 0 < k
  · obtain ⟨k, rfl⟩ : ∃ k', k = k' + 1 := ⟨k - 1, by omega⟩
    have hk' : (0 : Int) < ((k + 1 : Nat) : Int) := by omega
    have hU := tpS_at v g.l.length
    obtain ⟨U, hUe⟩ : ∃ U, tpS v g.l.length = U := ⟨_, rfl⟩
    rw [hUe] at hU
    have p1 := tpN_lo U 3
    have p2 := tpN_hi U (n := 3) (by omega)
    obtain ⟨M, hM⟩ : ∃ M : Nat, tpN U 3 = M := ⟨_, (Int.toNat_of_nonneg p1).symm⟩
    have hM3 : M < arts3.l.length := by simp [arts3]; omega
    have hget : ∀ H, idxSD H 32 (arts3.dv 32 dgC) M = some (.ref (dgC arts3.l[M])) := fun H => idxSD_dv len_dgC hM3
    have hap : ∀ b, apartD (arts3.dv 32 dgC) b = b.known := fun b => apart_pure rfl
    have p3 := tpN_lo (U.adv 1) 3
    have p4 := tpN_hi (U.adv 1) (n := 3) (by omega)
    by_cases hz : tpN (U.adv 3) 3 = 0
    · skip
      have hj1 := tpN_lo (U.adv 5) 2
      have hj2 := tpN_hi (U.adv 5) (n := 2) (by omega)
      obtain ⟨J, hj⟩ : ∃ J, tpN (U.adv 5) 2 = J := ⟨_, rfl⟩
      rw [hj] at hj1 hj2
      have hx : iIns g.l.length n v = ⟨n, tpN v g.l.length, arts3.l[M], 1 + tpN (U.adv 1) 3, tpN (U.adv 2) 30, (tpN (U.adv 4) 30)⟩ := by
        simp only [iIns, hUe, hM, Int.toNat_natCast, List.getD_eq_getElem?_getD, List.getElem?_eq_getElem hM3, Option.getD_some, hz, if_true, if_false]
      have hT : iTp g.l.length v = (U.adv 5) := by simp only [iTp, hUe, hz, if_true, if_false]
      have r1' : iLoop g.l.length k (l ++ [iIns g.l.length n v]) (n + (1 + tpN (iTp g.l.length v) 2)) ((iTp g.l.length v).adv 1) = r := r1
      rw [hx, hT, hj, adv_adv] at r1'
      have hfold0 : (DV.int .i64 n :: DV.int .i64 (tpN v g.l.length) :: (dgC arts3.l[M] ++ [DV.int .i64 (1 + tpN (U.adv 1) 3), DV.int .i64 (tpN (U.adv 2) 30), DV.int .i64 (-1)])) = inC ⟨n, tpN v g.l.length, arts3.l[M], 1 + tpN (U.adv 1) 3, tpN (U.adv 2) 30, -1⟩ := rfl
      have hfold : (DV.int .i64 n :: DV.int .i64 (tpN v g.l.length) :: (dgC arts3.l[M] ++ [DV.int .i64 (1 + tpN (U.adv 1) 3), DV.int .i64 (tpN (U.adv 2) 30), DV.int .i64 (tpN (U.adv 4) 30)])) = inC ⟨n, tpN v g.l.length, arts3.l[M], 1 + tpN (U.adv 1) 3, tpN (U.adv 2) 30, tpN (U.adv 4) 30⟩ := rfl
      by_cases hl : l = []
      · skip
        subst hl
        rw [S181, iH_nil rfl]
        simp (disch := first | omega | (simp [-List.map_take, -List.map_drop, -List.map_set, -List.map_append, -List.drop_one] <;> omega) | fail) [-List.map_take, -List.map_drop, -List.map_set, -List.map_append, -List.drop_one, a27L1, a27S1, T180_n, cNext_pos, cNext_eq, adv_adv, hUe, hM, hget, storeO_one, zero_in, build_i, bsl_i, splice_de, hk', hz, hj, hap, hfold0, Ins.de, set_de, hfold]
        refine ⟨⟨k, [(⟨n, tpN v g.l.length, arts3.l[M], 1 + tpN (U.adv 1) 3, tpN (U.adv 2) 30, (tpN (U.adv 4) 30)⟩ : Ins)], n + (1 + J), (U.adv 6), (⟨n, tpN v g.l.length, arts3.l[M], 1 + tpN (U.adv 1) 3, tpN (U.adv 2) 30, (tpN (U.adv 4) 30)⟩ : Ins)⟩, ?_, by simp, by simpa using r1', by simp; omega, by simp; omega, by simp; omega, by simp at q3 ⊢; omega⟩
        rw [S181, iH_ne (by simp)]
        exact weak_same (by simp (disch := first | omega | (simp [-List.map_take, -List.map_drop, -List.map_set, -List.map_append, -List.drop_one] <;> omega) | fail) [-List.map_take, -List.map_drop, -List.map_set, -List.map_append, -List.drop_one, a27S1]) (by simp (disch := first | omega | (simp [-List.map_take, -List.map_drop, -List.map_set, -List.map_append, -List.drop_one] <;> omega) | fail) [-List.map_take, -List.map_drop, -List.map_set, -List.map_append, -List.drop_one, Ins.de])
      · have hlen := fm_len len_inC l
        have hpl := fm_pure pure_inC l
        rw [S181, iH_ne hl]
        simp (disch := first | omega | (simp [-List.map_take, -List.map_drop, -List.map_set, -List.map_append, -List.drop_one] <;> omega) | fail) [-List.map_take, -List.map_drop, -List.map_set, -List.map_append, -List.drop_one, a27L1, a27S1, T180_n, cNext_pos, cNext_eq, adv_adv, hUe, hM, hget, storeO_one, zero_in, build_i, bsl_i, splice_de, hk', hz, hj, hap, hfold0, Ins.de, set_de, hfold, hlen]
        refine ⟨⟨k, l ++ [(⟨n, tpN v g.l.length, arts3.l[M], 1 + tpN (U.adv 1) 3, tpN (U.adv 2) 30, (tpN (U.adv 4) 30)⟩ : Ins)], n + (1 + J), (U.adv 6), x0⟩, ?_, by simp, r1', by simp; omega, by simp; omega, by simp; omega, by simp at q3 ⊢; omega⟩
        rw [S181, iH_ne (by simp)]
        exact weak_drop (tail := [.cells (inC (⟨n, tpN v g.l.length, arts3.l[M], 1 + tpN (U.adv 1) 3, tpN (U.adv 2) 30, (tpN (U.adv 4) 30)⟩ : Ins))]) (by simp (disch := first | omega | (simp [-List.map_take, -List.map_drop, -List.map_set, -List.map_append, -List.drop_one] <;> omega) | fail) [-List.map_take, -List.map_drop, -List.map_set, -List.map_append, -List.drop_one, a27S1]) (by simp (disch := first | omega | (simp [-List.map_take, -List.map_drop, -List.map_set, -List.map_append, -List.drop_one] <;> omega) | fail) [-List.map_take, -List.map_drop, -List.map_set, -List.map_append, -List.drop_one, Nat.add_mul, Ins.de]) (by simp [a27S1]) (by simp [a27S1, Am.belowL, Am.below]) (by simp [a27S1, belowH, Am.belowL, Am.below, belowL_pure _ _ (pure_tpC _), belowL_pure _ _ (pureL_append hpl (pure_inC _))])
    · skip
      have hj1 := tpN_lo (U.adv 4) 2
      have hj2 := tpN_hi (U.adv 4) (n := 2) (by omega)
      obtain ⟨J, hj⟩ : ∃ J, tpN (U.adv 4) 2 = J := ⟨_, rfl⟩
      rw [hj] at hj1 hj2
      have hx : iIns g.l.length n v = ⟨n, tpN v g.l.length, arts3.l[M], 1 + tpN (U.adv 1) 3, tpN (U.adv 2) 30, (-1)⟩ := by
        simp only [iIns, hUe, hM, Int.toNat_natCast, List.getD_eq_getElem?_getD, List.getElem?_eq_getElem hM3, Option.getD_some, hz, if_true, if_false]
      have hT : iTp g.l.length v = (U.adv 4) := by simp only [iTp, hUe, hz, if_true, if_false]
      have r1' : iLoop g.l.length k (l ++ [iIns g.l.length n v]) (n + (1 + tpN (iTp g.l.length v) 2)) ((iTp g.l.length v).adv 1) = r := r1
      rw [hx, hT, hj, adv_adv] at r1'
      have hfold0 : (DV.int .i64 n :: DV.int .i64 (tpN v g.l.length) :: (dgC arts3.l[M] ++ [DV.int .i64 (1 + tpN (U.adv 1) 3), DV.int .i64 (tpN (U.adv 2) 30), DV.int .i64 (-1)])) = inC ⟨n, tpN v g.l.length, arts3.l[M], 1 + tpN (U.adv 1) 3, tpN (U.adv 2) 30, -1⟩ := rfl
      by_cases hl : l = []
      · skip
        subst hl
        rw [S181, iH_nil rfl]
        simp (disch := first | omega | (simp [-List.map_take, -List.map_drop, -List.map_set, -List.map_append, -List.drop_one] <;> omega) | fail) [-List.map_take, -List.map_drop, -List.map_set, -List.map_append, -List.drop_one, a27L1, a27S1, T180_n, cNext_pos, cNext_eq, adv_adv, hUe, hM, hget, storeO_one, zero_in, build_i, bsl_i, splice_de, hk', hz, hj, hap, hfold0, Ins.de, set_de]
        refine ⟨⟨k, [(⟨n, tpN v g.l.length, arts3.l[M], 1 + tpN (U.adv 1) 3, tpN (U.adv 2) 30, (-1)⟩ : Ins)], n + (1 + J), (U.adv 5), (⟨n, tpN v g.l.length, arts3.l[M], 1 + tpN (U.adv 1) 3, tpN (U.adv 2) 30, (-1)⟩ : Ins)⟩, ?_, by simp, by simpa using r1', by simp; omega, by simp; omega, by simp; omega, by simp at q3 ⊢; omega⟩
        rw [S181, iH_ne (by simp)]
        exact weak_same (by simp (disch := first | omega | (simp [-List.map_take, -List.map_drop, -List.map_set, -List.map_append, -List.drop_one] <;> omega) | fail) [-List.map_take, -List.map_drop, -List.map_set, -List.map_append, -List.drop_one, a27S1]) (by simp (disch := first | omega | (simp [-List.map_take, -List.map_drop, -List.map_set, -List.map_append, -List.drop_one] <;> omega) | fail) [-List.map_take, -List.map_drop, -List.map_set, -List.map_append, -List.drop_one, Ins.de])
      · have hlen := fm_len len_inC l
        have hpl := fm_pure pure_inC l
        rw [S181, iH_ne hl]
        simp (disch := first | omega | (simp [-List.map_take, -List.map_drop, -List.map_set, -List.map_append, -List.drop_one] <;> omega) | fail) [-List.map_take, -List.map_drop, -List.map_set, -List.map_append, -List.drop_one, a27L1, a27S1, T180_n, cNext_pos, cNext_eq, adv_adv, hUe, hM, hget, storeO_one, zero_in, build_i, bsl_i, splice_de, hk', hz, hj, hap, hfold0, Ins.de, set_de, hlen]
        refine ⟨⟨k, l ++ [(⟨n, tpN v g.l.length, arts3.l[M], 1 + tpN (U.adv 1) 3, tpN (U.adv 2) 30, (-1)⟩ : Ins)], n + (1 + J), (U.adv 5), x0⟩, ?_, by simp, r1', by simp; omega, by simp; omega, by simp; omega, by simp at q3 ⊢; omega⟩
        rw [S181, iH_ne (by simp)]
        exact weak_drop (tail := [.cells (inC (⟨n, tpN v g.l.length, arts3.l[M], 1 + tpN (U.adv 1) 3, tpN (U.adv 2) 30, (-1)⟩ : Ins))]) (by simp (disch := first | omega | (simp [-List.map_take, -List.map_drop, -List.map_set, -List.map_append, -List.drop_one] <;> omega) | fail) [-List.map_take, -List.map_drop, -List.map_set, -List.map_append, -List.drop_one, a27S1]) (by simp (disch := first | omega | (simp [-List.map_take, -List.map_drop, -List.map_set, -List.map_append, -List.drop_one] <;> omega) | fail) [-List.map_take, -List.map_drop, -List.map_set, -List.map_append, -List.drop_one, Nat.add_mul, Ins.de]) (by simp [a27S1]) (by simp [a27S1, Am.belowL, Am.below]) (by simp [a27S1, belowH, Am.belowL, Am.below, belowL_pure _ _ (pure_tpC _), belowL_pure _ _ (pureL_append hpl (pure_inC _))])
  · obtain rfl : k = 0 := by omega
    have er : r = (l, n, v) := r1.symm
    subst er
    have hfz : ∀ k, fzL 1 k (tpC v) (tpC v) := fun k => fzL_clean (pure_tpC _)
    have hfg : ∀ H k, fz 1 H k (g.dv 6 grC) = some (g.dv 6 grC) := fun H k => fz_clean (pure_dv6 g)
    have hni : nilI.dv 37 inC = .nils := rfl
    by_cases hl : l = []
    · subst hl
      rw [S181, iH_nil rfl]
      simp (disch := first | omega | (simp [-List.map_take, -List.map_drop, -List.map_set, -List.map_append, -List.drop_one] <;> omega) | fail) [-List.map_take, -List.map_drop, -List.map_set, -List.map_append, -List.drop_one, a27L1, a27S1, hfz, hfg, hni, clC_mk]
    · have hlen := fm_len len_inC l
      have hpl := fm_pure pure_inC l
      have htk := take_ins (l := l) (Nat.le_refl _)
      rw [S181, iH_ne hl]
      simp (disch := first | omega | (simp [-List.map_take, -List.map_drop, -List.map_set, -List.map_append, -List.drop_one] <;> omega) | fail) [-List.map_take, -List.map_drop, -List.map_set, -List.map_append, -List.drop_one, a27L1, a27S1, hfz, hfg, clC_mk, hlen, htk, hl, own_dv, fzLo_clean hpl]
noncomputable def cClu : List DV → List DV → Option (DV × List DV) := conT (fun a : Tp × Int => a.1.at_ < 3990000000 ∧ 0 ≤ a.2 ∧ a.2 ≤ 1000) (fun a => [.int .i64 a.2]) (fun a => tpC a.1) (fun a => (.agg (clC (clusterV a.1 a.2).1), tpC (clusterV a.1 a.2).2))
theorem cClu_eq {t : Tp} {m : Int} (h1 : t.at_ < 3990000000) (h2 : 0 ≤ m) (h3 : m ≤ 1000) : cClu [.int .i64 m] (tpC t) = some (.agg (clC (clusterV t m).1), tpC (clusterV t m).2) :=
  conT_eq (A := fun a : Tp × Int => a.1.at_ < 3990000000 ∧ 0 ≤ a.2 ∧ a.2 ≤ 1000) (f := fun a => [.int .i64 a.2]) (s := fun a => tpC a.1) (by
    rintro ⟨a, n⟩ ⟨b, m⟩ e1 e2
    simp only [List.cons.injEq, DV.int.injEq, true_and, and_true] at e1
    rw [e1, tpC_inj e2]) (t, m) ⟨h1, h2, h3⟩
theorem clu_sound : (Con.tch cClu).Sound P 27 :=
  conT_sound (fun a _ => ⟨rfl, pure_tpC _, by simp [pureD], pure_tpC _⟩) fun a h => calls_runsF mix T180_sound Tryd.func27 a27_ok (runs_cluster_made a.1 a.2 h.1 h.2.1 h.2.2) (Nat.le_refl _)
end Go.Proofs.YtjhakjeioppijaaDoor
set_option linter.unusedSimpArgs false
set_option linter.unusedVariables false
namespace Go.Proofs.YtjhakjeioppijaaDoor
open Go Go.Am
theorem gAdd_ok {l : List Dg} {d : Dg} (h1 : l.Nodup) (h2 : ∀ x ∈ l, x ≠ dg0) (hd : d ≠ dg0) : (gAdd l d).Nodup ∧ (∀ x ∈ gAdd l d, x ≠ dg0) := by
  unfold gAdd
  split
  · exact ⟨h1, h2⟩
  · rename_i hn
    refine ⟨List.nodup_append.2 ⟨h1, by simp, fun a ha b hb => ?_⟩, fun x hx => ?_⟩
    · simp at hb; subst hb; exact fun e => hn (e ▸ ha)
    · rcases List.mem_append.1 hx with h | h
      · exact h2 x h
      · simp at h; subst h; exact hd
theorem arts3_ne : ∀ x ∈ arts3.l, x ≠ dg0 := by
  intro x hx
  simp only [arts3, List.mem_cons, List.not_mem_nil, or_false] at hx
  rcases hx with rfl | rfl | rfl <;> decide
theorem gOne_ne {x : Sl Dg} (hx : ∀ d ∈ x.l, d ≠ dg0) (h0 : 1 ≤ x.l.length) (t : Tp) : (gOne x t).1 ≠ dg0 := by
  unfold gOne
  split
  · have h1 := tpN_lo (t.adv 2) x.l.length
    have h2 := tpN_hi (t.adv 2) (n := x.l.length) (by omega)
    have h3 : (tpN (t.adv 2) x.l.length).toNat < x.l.length := by omega
    simp only [List.getD_eq_getElem?_getD, List.getElem?_eq_getElem h3, Option.getD_some]
    exact hx _ (List.getElem_mem h3)
  · exact sumV_ne t
theorem gLoop_ok {x : Sl Dg} (hx : ∀ d ∈ x.l, d ≠ dg0) (h0 : 1 ≤ x.l.length) : ∀ (k : Nat) (t : Tp) (l : List Dg), l.Nodup → (∀ d ∈ l, d ≠ dg0) → (gLoop x k t l).1.Nodup ∧ (∀ d ∈ (gLoop x k t l).1, d ≠ dg0) ∧ (gLoop x k t l).1.length ≤ l.length + k
  | 0, t, l, h1, h2 => ⟨h1, h2, Nat.le_refl _⟩
  | k + 1, t, l, h1, h2 => by
    obtain ⟨g1, g2⟩ := gAdd_ok h1 h2 (gOne_ne hx h0 t)
    obtain ⟨k1, k2, k3⟩ := gLoop_ok hx h0 k (gOne x t).2 (gAdd l (gOne x t).1) g1 g2
    have := gAdd_len l (gOne x t).1
    exact ⟨k1, k2, by show (gLoop x k (gOne x t).2 (gAdd l (gOne x t).1)).1.length ≤ _; omega⟩
theorem okCh_of {l : List Dg} (h1 : l.Nodup) (h2 : ∀ d ∈ l, d ≠ dg0) : okCh l := by
  intro i hi
  refine ⟨h2 _ (List.getElem_mem hi), fun hm => ?_⟩
  obtain ⟨j, hj, e⟩ := List.getElem_of_mem hm
  simp at hj
  rw [List.getElem_take] at e
  have := (List.getElem_inj (xs := l) (i := j) (j := i) (h₀ := by omega) (h₁ := hi) h1).1 e
  omega
theorem pick2_path {t : Tp} {a b : List UInt8} (ha : pathD a = true) (hb : pathD b = true) : pathD (pickV t [a, b]) = true := by
  have := pickV_mem t (l := [a, b]) (by simp)
  simp only [List.mem_cons, List.not_mem_nil, or_false] at this
  rcases this with e | e <;> rw [e] <;> assumption
theorem groupV_ok (t : Tp) {x : Sl Dg} (hx : ∀ d ∈ x.l, d ≠ dg0) (h0 : 1 ≤ x.l.length) : ValidG (groupV t x).1 := by
  have n1 := tpN_lo (t.adv 2) 4
  have n2 := tpN_hi (t.adv 2) (n := 4) (by omega)
  have n3 := tpN_lo (t.adv 3) (tpN (t.adv 2) 4 + 1)
  have n4 := tpN_hi (t.adv 3) (n := tpN (t.adv 2) 4 + 1) (by omega)
  have n5 := tpN_lo (t.adv 4) (tpN (t.adv 2) 4 + 1)
  have n6 := tpN_hi (t.adv 4) (n := tpN (t.adv 2) 4 + 1) (by omega)
  have n7 := tpN_lo (t.adv 5) 3
  have n8 := tpN_hi (t.adv 5) (n := 3) (by omega)
  obtain ⟨k1, k2, k3⟩ := gLoop_ok hx h0 ((tpN (t.adv 5) 3).toNat + 1) (t.adv 6) [] (by simp) (by simp)
  simp only [List.length_nil] at k3
  have hl : (groupV t x).1.ch.l = (gLoop x ((tpN (t.adv 5) 3).toNat + 1) (t.adv 6) []).1 := own_l (by omega)
  refine ⟨pick2_path (by decide) (by decide), pick2_path (by decide) (by decide), n1, by show tpN (t.adv 2) 4 ≤ 8; omega, n3, by show tpN (t.adv 3) _ ≤ tpN (t.adv 2) 4; omega, n5, by show tpN (t.adv 4) _ ≤ tpN (t.adv 2) 4; omega, by rw [hl]; omega, by rw [hl]; exact okCh_of k1 k2⟩
theorem fitG_self (g : Grp) : fitG g.ns g.im g = true := by simp [fitG]
theorem fitG_eq {a b : Grp} (h1 : a.ns = b.ns) (h2 : a.im = b.im) (ns im : List UInt8) : fitG ns im a = fitG ns im b := by simp [fitG, h1, h2]
structure UG (l : List Grp) : Prop where
  n : l.length ≤ 16
  g : ∀ i (h : i < l.length), ValidG l[i] ∧ grpIx l l[i].ns l[i].im = i
theorem ug_app {l : List Grp} {g : Grp} (h : UG l) (hg : ValidG g) (hx : grpIx l g.ns g.im < 0) (hn : l.length < 16) : UG (l ++ [g]) := by
  refine ⟨by simp; omega, fun i hi => ?_⟩
  simp only [List.length_append, List.length_singleton] at hi
  by_cases hil : i < l.length
  · rw [List.getElem_append_left hil]
    obtain ⟨g1, g2⟩ := h.g i hil
    refine ⟨g1, ixI_at (by simp; omega) ?_ (fun j hj hji => ?_)⟩
    · rw [List.getElem_append_left hil]; exact fitG_self _
    · rw [List.getElem_append_left (by omega)]
      obtain ⟨k, hk, e1, e2, e3⟩ := ixI_pos (p := fitG l[i].ns l[i].im) (l := l) (by rw [show ixI (fitG l[i].ns l[i].im) l = (i : Int) from g2]; omega)
      have : k = i := by
        have : ixI (fitG l[i].ns l[i].im) l = (i : Int) := g2
        omega
      subst this
      exact e3 j (by omega) hji
  · have e : i = l.length := by omega
    subst e
    rw [List.getElem_append_right (Nat.le_refl _)]
    simp only [Nat.sub_self, List.getElem_cons_zero]
    refine ⟨hg, ixI_at (by simp) ?_ (fun j hj hji => ?_)⟩
    · rw [List.getElem_append_right (Nat.le_refl _)]; simp only [Nat.sub_self, List.getElem_cons_zero]; exact fitG_self _
    · rw [List.getElem_append_left hji]; exact ixI_neg hx j hji
theorem grpIx_names {l l' : List Grp} (hl : l.length = l'.length) (h : ∀ i (h1 : i < l.length) (h2 : i < l'.length), l[i].ns = l'[i].ns ∧ l[i].im = l'[i].im) (ns im : List UInt8) : grpIx l ns im = grpIx l' ns im := by
  by_cases hx : 0 ≤ grpIx l ns im
  · obtain ⟨k, hk, e1, e2, e3⟩ := ixI_pos hx
    have e1 : grpIx l ns im = k := e1
    rw [e1]
    refine (ixI_at (by omega) ?_ (fun j hj hji => ?_)).symm
    · rw [← fitG_eq (h k hk (by omega)).1 (h k hk (by omega)).2]; exact e2
    · rw [← fitG_eq (h j (by omega) hj).1 (h j (by omega) hj).2]; exact e3 j (by omega) hji
  · have h1 := ixI_ge (fitG ns im) l
    have h2 : grpIx l ns im = -1 := by have : grpIx l ns im = ixI (fitG ns im) l := rfl; omega
    rw [h2]
    refine (ixI_none fun j hj => ?_).symm
    rw [← fitG_eq (h j (by omega) hj).1 (h j (by omega) hj).2]
    exact ixI_neg (show ixI (fitG ns im) l < 0 by have : grpIx l ns im = ixI (fitG ns im) l := rfl; omega) j (by omega)
theorem ug_set {l : List Grp} {g : Grp} {k : Nat} (h : UG l) (hg : ValidG g) (hk : k < l.length) (hx : grpIx l g.ns g.im = k) : UG (l.set k g) := by
  have hf : fitG g.ns g.im l[k] = true := by
    obtain ⟨j, hj, e1, e2, e3⟩ := ixI_pos (p := fitG g.ns g.im) (l := l) (by rw [show ixI (fitG g.ns g.im) l = (k : Int) from hx]; omega)
    have : j = k := by have : ixI (fitG g.ns g.im) l = (k : Int) := hx; omega
    subst this; exact e2
  have hnm : l[k].ns = g.ns ∧ l[k].im = g.im := by simpa [fitG] using hf
  have hn : ∀ i (h1 : i < (l.set k g).length) (h2 : i < l.length), (l.set k g)[i].ns = l[i].ns ∧ (l.set k g)[i].im = l[i].im := fun i h1 h2 => by
    rw [List.getElem_set]
    split
    · rename_i e; subst e; exact ⟨hnm.1.symm, hnm.2.symm⟩
    · exact ⟨rfl, rfl⟩
  refine ⟨by simpa using h.n, fun i hi => ?_⟩
  have hi' : i < l.length := by simpa using hi
  obtain ⟨n1, n2⟩ := hn i hi hi'
  refine ⟨?_, ?_⟩
  · rw [List.getElem_set]
    split
    · exact hg
    · exact (h.g i hi').1
  · rw [n1, n2, grpIx_names (by simp) hn]; exact (h.g i hi').2
structure CG (c : Clu) : Prop where
  u : UG c.g.l
  i : c.i = nilI
  n0 : 1 ≤ c.next
  n1 : c.next ≤ 4
theorem CG.valid {c : Clu} (h : CG c) : ValidC c := ⟨h.u.n, by rw [h.i]; simp [nilI], h.n0, by have := h.n1; omega, h.u.g, fun i hi => by rw [h.i] at hi; simp [nilI] at hi⟩
theorem deployR_g {c : Clu} {g : Grp} (h : CG c) (hg : ValidG g) (he : (deployR c g).2 = 0) : CG (deployR c g).1 ∧ (deployR c g).1.g.l ≠ [] := by
  refine ⟨⟨?_, deployR_i he h.i, by rw [deployR_next he]; exact h.n0, by rw [deployR_next he]; exact h.n1⟩, ?_⟩ <;>
  · have hnn : ¬ (¬ ValidC c ∨ ¬ ValidG g) := fun q => q.elim (fun q => q h.valid) (fun q => q hg)
    have hn := h.u.n
    unfold deployR at he ⊢
    rw [if_neg hnn] at he ⊢
    split at he
    · rename_i hx
      rw [if_pos hx]
      split at he
      · simp at he
      · rename_i hl
        rw [if_neg hl]
        simp only
        rw [own_l (by simp; omega)]
        first
          | exact ug_app h.u hg hx (by omega)
          | simp
    · rename_i hx
      rw [if_neg hx]
      obtain ⟨k, hk, e1, e2, e3⟩ := ixI_pos (show 0 ≤ grpIx c.g.l g.ns g.im by omega)
      have e1 : grpIx c.g.l g.ns g.im = k := e1
      simp only
      rw [e1, Int.toNat_natCast, own_l (by simp; omega)]
      first
        | exact ug_set h.u hg hk e1
        | (intro e; have := congrArg List.length e; simp at this; rw [this] at hk; simp at hk)
theorem deployR_first {c : Clu} {g : Grp} (h : CG c) (hg : ValidG g) (h0 : c.g.l = []) : (deployR c g).2 = 0 := by
  have hnn : ¬ (¬ ValidC c ∨ ¬ ValidG g) := fun q => q.elim (fun q => q h.valid) (fun q => q hg)
  have hx : grpIx c.g.l g.ns g.im < 0 := by rw [h0]; simp [grpIx, ixI]
  unfold deployR
  rw [if_neg hnn, if_pos hx, if_neg (by rw [h0]; simp)]
theorem dOne_ok {c : Clu} {t : Tp} (h : CG c) : CG (dOne c t) ∧ (dOne c t).g.l ≠ [] := by
  have hg := groupV_ok t arts3_ne (x := arts3) (by simp [arts3])
  unfold dOne
  split
  · rename_i he; exact deployR_g h hg he
  · rename_i he
    refine ⟨h, fun h0 => he (deployR_first h hg h0)⟩
theorem dLoop_ok : ∀ (k : Nat) (c : Clu) (t : Tp), CG c → CG (dLoop k c t).1 ∧ ((1 ≤ k ∨ c.g.l ≠ []) → (dLoop k c t).1.g.l ≠ [])
  | 0, c, t, h => ⟨h, fun q => q.elim (fun q => by omega) id⟩
  | k + 1, c, t, h => by
    obtain ⟨g1, g2⟩ := dOne_ok (t := t) h
    obtain ⟨k1, k2⟩ := dLoop_ok k (dOne c t) (groupV t arts3).2 g1
    exact ⟨k1, fun _ => k2 (.inr g2)⟩
theorem cl0_ok (t : Tp) : CG (cl0 t) := by
  have n1 := tpN_lo t 4
  have n2 := tpN_hi t (n := 4) (by omega)
  exact ⟨⟨by simp [cl0, nilG], fun i hi => by simp [cl0, nilG] at hi⟩, rfl, by simp only [cl0]; omega, by simp only [cl0]; omega⟩
theorem clD_ok (t : Tp) : CG (clD t).1 ∧ (clD t).1.g.l ≠ [] := by
  obtain ⟨h1, h2⟩ := dLoop_ok ((tpN (t.adv 1) 2).toNat + 1) (cl0 t) (t.adv 2) (cl0_ok t)
  exact ⟨h1, h2 (.inl (by omega))⟩
structure IG (ng : Nat) (l : List Ins) (n : Int) : Prop where
  s : ∀ x ∈ l, SoundI ng n x
  o : l.Pairwise fun a b => a.id < b.id
theorem SoundI.up {ng : Nat} {n m : Int} {x : Ins} (h : SoundI ng n x) (hm : n ≤ m) : SoundI ng m x := ⟨h.id0, by have := h.id1; omega, h.g0, h.g1, h.art, h.s0, h.s1, h.si, h.de⟩
theorem iIns_ok {ng : Nat} {n m : Int} {t : Tp} (hn : 1 ≤ n) (hm : n < m) (hg : 1 ≤ ng) : SoundI ng m (iIns ng n t) := by
  have n1 := tpN_lo t ng
  have n2 := tpN_hi t (n := ng) (by omega)
  have n3 := tpN_lo (tpS t ng) 3
  have n4 := tpN_hi (tpS t ng) (n := 3) (by omega)
  have n5 := tpN_lo ((tpS t ng).adv 1) 3
  have n6 := tpN_hi ((tpS t ng).adv 1) (n := 3) (by omega)
  have n7 := tpN_lo ((tpS t ng).adv 2) 30
  have n8 := tpN_hi ((tpS t ng).adv 2) (n := 30) (by omega)
  have n9 := tpN_lo ((tpS t ng).adv 4) 30
  have n10 := tpN_hi ((tpS t ng).adv 4) (n := 30) (by omega)
  have hl : (tpN (tpS t ng) 3).toNat < arts3.l.length := by simp [arts3]; omega
  refine ⟨hn, hm, n1, by simp only [iIns]; omega, ?_, by simp only [iIns]; omega, by simp only [iIns]; omega, ⟨n7, by simp only [iIns]; omega⟩, ?_⟩
  · simp only [iIns, List.getD_eq_getElem?_getD, List.getElem?_eq_getElem hl, Option.getD_some]
    exact arts3_ne _ (List.getElem_mem hl)
  · simp only [iIns]
    split
    · exact .inr ⟨n9, by omega⟩
    · exact .inl rfl
theorem iLoop_ok {ng : Nat} (hg : 1 ≤ ng) : ∀ (k : Nat) (l : List Ins) (n : Int) (t : Tp), 1 ≤ n → IG ng l n → IG ng (iLoop ng k l n t).1 (iLoop ng k l n t).2.1 ∧ 1 ≤ (iLoop ng k l n t).2.1 ∧ (iLoop ng k l n t).2.1 ≤ n + 2 * k ∧ (iLoop ng k l n t).1.length = l.length + k
  | 0, l, n, t, hn, h => ⟨h, hn, by simp [iLoop], rfl⟩
  | k + 1, l, n, t, hn, h => by
    have j1 := tpN_lo (iTp ng t) 2
    have j2 := tpN_hi (iTp ng t) (n := 2) (by omega)
    have hs : IG ng (l ++ [iIns ng n t]) (n + (1 + tpN (iTp ng t) 2)) := by
      refine ⟨fun x hx => ?_, List.pairwise_append.2 ⟨h.o, by simp, fun a ha b hb => ?_⟩⟩
      · rcases List.mem_append.1 hx with q | q
        · exact (h.s x q).up (by omega)
        · simp at q; subst q; exact iIns_ok hn (by omega) hg
      · simp at hb; subst hb; exact (h.s a ha).id1
    obtain ⟨k1, k2, k3, k4⟩ := iLoop_ok hg k (l ++ [iIns ng n t]) (n + (1 + tpN (iTp ng t) 2)) ((iTp ng t).adv 1) (by omega) hs
    refine ⟨k1, k2, ?_, ?_⟩
    · show (iLoop ng k (l ++ [iIns ng n t]) (n + (1 + tpN (iTp ng t) 2)) ((iTp ng t).adv 1)).2.1 ≤ _
      omega
    · show (iLoop ng k (l ++ [iIns ng n t]) (n + (1 + tpN (iTp ng t) 2)) ((iTp ng t).adv 1)).1.length = _
      rw [k4]; simp; omega
theorem sorted_of {l : List Ins} (h : l.Pairwise fun a b => a.id < b.id) (i : Nat) (hi : i < l.length) (h0 : 0 < i) : l[i - 1].id < l[i].id :=
  List.pairwise_iff_getElem.1 h (i - 1) i (by omega) hi (by omega)
theorem clusterV_ok (t : Tp) (m : Int) (h0 : 0 ≤ m) (h1 : m ≤ 200) : ValidC (clusterV t m).1 ∧ (clusterV t m).1.g.l ≠ [] := by
  obtain ⟨hc, hg⟩ := clD_ok t
  have m1 := tpN_lo (clD t).2 (m + 1)
  have m2 := tpN_hi (clD t).2 (n := m + 1) (by omega)
  have hgl : 1 ≤ (clD t).1.g.l.length := List.length_pos_iff.2 hg
  obtain ⟨k1, k2, k3, k4⟩ := iLoop_ok hgl (tpN (clD t).2 (m + 1)).toNat [] (clD t).1.next ((clD t).2.adv 1) hc.n0 ⟨by simp, by simp⟩
  have hn1 := hc.n1
  have hI : clI t m = iLoop (clD t).1.g.l.length (tpN (clD t).2 (m + 1)).toNat [] (clD t).1.next ((clD t).2.adv 1) := rfl
  rw [← hI] at k1 k2 k3 k4
  have hil : (clusterV t m).1.i.l = (clI t m).1 := by
    simp only [clusterV]
    split
    · rename_i e; rw [e]; rfl
    · exact own_l (by rw [k4]; simp; omega)
  have hgl' : (clusterV t m).1.g = (clD t).1.g := rfl
  have hnx : (clusterV t m).1.next = (clI t m).2.1 := rfl
  simp only [List.length_nil, Nat.zero_add] at k4
  refine ⟨⟨by rw [hgl']; exact hc.u.n, by rw [hil, k4]; omega, by rw [hnx]; exact k2, by rw [hnx]; omega, fun i hi => hc.u.g i hi, fun i hi => ?_⟩, hg⟩
  have hi' : i < (clI t m).1.length := by rw [← hil]; exact hi
  have e : ∀ j (hj : j < (clusterV t m).1.i.l.length), (clusterV t m).1.i.l[j] = (clI t m).1[j]'(by rw [← hil]; exact hj) := fun j hj => by simp only [hil]
  refine ⟨?_, fun h0 => ?_⟩
  · rw [e i hi]
    exact k1.s _ (List.getElem_mem hi')
  · rw [e i hi, e (i - 1) (by omega)]
    exact sorted_of k1.o i hi' h0
end Go.Proofs.YtjhakjeioppijaaDoor
set_option linter.unusedSimpArgs false
set_option linter.unusedVariables false
namespace Go.Proofs.YtjhakjeioppijaaDoor
open Go Go.Am
section
variable {α β : Type} {lt : α → α → Bool}
def insR (lt : α → α → Bool) (x : α) (l : List α) : List α := (l.reverse.dropWhile (lt x)).reverse ++ x :: (l.reverse.takeWhile (lt x)).reverse
def sortR (lt : α → α → Bool) (l : List α) : List α := l.foldl (fun a x => insR lt x a) []
theorem insR_at {x : α} {A B : List α} (hB : ∀ b ∈ B, lt x b = true) (hA : A = [] ∨ ∃ (A' : List α) (y : α), A = A' ++ [y] ∧ lt x y = false) : insR lt x (A ++ B) = A ++ x :: B := by
  unfold insR
  have hB' : ∀ b ∈ B.reverse, lt x b = true := fun b hb => hB b (List.mem_reverse.1 hb)
  rw [List.reverse_append]
  rw [List.dropWhile_append_of_pos hB', List.takeWhile_append_of_pos hB']
  rcases hA with rfl | ⟨A', y, rfl, hy⟩
  · simp
  · simp [List.dropWhile_cons, List.takeWhile_cons, hy]
theorem insR_perm {x : α} {l : List α} : (insR lt x l).Perm (x :: l) := by
  unfold insR
  refine List.perm_middle.trans (List.Perm.cons x ?_)
  rw [← List.reverse_append, List.takeWhile_append_dropWhile]
  simp
theorem sortR_snoc {l : List α} {x : α} : sortR lt (l ++ [x]) = insR lt x (sortR lt l) := by simp [sortR]
theorem snoc_ind {P : List α → Prop} (h0 : P []) (h1 : ∀ l x, P l → P (l ++ [x])) : ∀ l, P l := by
  intro l
  rw [← List.reverse_reverse l]
  induction l.reverse with
  | nil => exact h0
  | cons a r ih => rw [List.reverse_cons]; exact h1 _ _ ih
theorem sortR_perm (l : List α) : (sortR lt l).Perm l := by
  induction l using snoc_ind with
  | h0 => exact List.Perm.refl _
  | h1 l x ih =>
    rw [sortR_snoc]
    refine insR_perm.trans ((List.Perm.cons x ih).trans ?_)
    exact (List.perm_append_comm (l₁ := [x]) (l₂ := l))
theorem takeWhile_map' {f : α → β} {p : β → Bool} {q : α → Bool} : ∀ {l : List α}, (∀ y ∈ l, p (f y) = q y) → (l.map f).takeWhile p = (l.takeWhile q).map f ∧ (l.map f).dropWhile p = (l.dropWhile q).map f
  | [], _ => ⟨rfl, rfl⟩
  | a :: l, h => by
    have ih := takeWhile_map' (l := l) (fun y hy => h y (by simp [hy]))
    have ha := h a (by simp)
    rw [List.map_cons, List.takeWhile_cons, List.dropWhile_cons, List.takeWhile_cons, List.dropWhile_cons, ha]
    cases q a <;> simp [ih.1, ih.2]
theorem insR_map {f : α → β} {lt' : β → β → Bool} {x : α} {l : List α} (h : ∀ y ∈ l, lt' (f x) (f y) = lt x y) : insR lt' (f x) (l.map f) = (insR lt x l).map f := by
  unfold insR
  have := takeWhile_map' (f := f) (p := lt' (f x)) (q := lt x) (l := l.reverse) (fun y hy => h y (List.mem_reverse.1 hy))
  rw [← List.map_reverse, this.1, this.2]
  simp
theorem sortR_map {f : α → β} {lt' : β → β → Bool} : ∀ {l : List α}, l.Pairwise (fun y x => lt' (f x) (f y) = lt x y) → sortR lt' (l.map f) = (sortR lt l).map f := by
  intro l
  induction l using snoc_ind with
  | h0 => intro _; rfl
  | h1 l x ih =>
    intro h
    rw [List.pairwise_append] at h
    obtain ⟨h1, _, h3⟩ := h
    rw [List.map_append, List.map_cons, List.map_nil, sortR_snoc, sortR_snoc, ih h1]
    exact insR_map fun y hy => h3 y ((sortR_perm l).mem_iff.1 hy) x (by simp)
end
def chos (g : Grp) (x : Ins) : Bool := decide (x.den < 0) && decide (x.art ∈ g.ch.l)
def grAt (c : Clu) (k : Int) : Option Grp := if 0 ≤ k then c.g.l[k.toNat]? else none
def selL (l : List Ins) (k : Int) (p : Ins → Bool) : List Ins := l.filter fun x => decide (x.grp = k) && p x
def idsP (c : Clu) (k : Int) (sel : Grp → Ins → Bool) : List Int := match grAt c k with
  | some g => (selL c.i.l k (sel g)).map Ins.id
  | none => []
def sLive (_ : Grp) (x : Ins) : Bool := decide (x.state = 2)
def sGood (g : Grp) (x : Ins) : Bool := decide (x.state ≠ 3) && chos g x
def sDen (_ : Grp) (x : Ins) : Bool := decide (x.state = 2) && decide (0 ≤ x.den)
def sRep (g : Grp) (x : Ins) : Bool := decide (x.state = 2) && decide (x.den < 0) && !chos g x
def sSpare (g : Grp) (x : Ins) : Bool := decide (x.state = 2) && chos g x
def liveP (c : Clu) (k : Int) : Nat := (idsP c k sLive).length
def goodP (c : Clu) (k : Int) : List Int := idsP c k sGood
def roomP (c : Clu) (k : Int) : Int := match grAt c k with
  | some g => max ((liveP c k : Int) - max g.least (g.want - g.down)) 0
  | none => 0
def sinceP (c : Clu) (id : Int) : Int := match c.i.l.find? (fun x => decide (x.id = id)) with
  | some x => x.den
  | none => 0
def ltV (c : Clu) (a b : Int) : Bool := decide (sinceP c a < sinceP c b) || (decide (sinceP c a = sinceP c b) && decide (a < b))
def victimsP (c : Clu) (k : Int) : List Int := match grAt c k with
  | some g => sortR (ltV c) (idsP c k sDen) ++ (idsP c k sRep ++ (idsP c k sSpare).reverse.take ((goodP c k).length - g.want).toNat)
  | none => []
def overB (x : Ins) (gr t : Int) : Bool := decide (x.state ≠ 3) && (decide (0 ≤ x.den) && decide (gr ≤ t - x.den))
def overP (l : List Ins) (i : Nat) (gr : List Int) (t : Int) : List Int := match l with
  | [] => []
  | x :: r => if overB x (gr.getD i 0) t = true then x.id :: overP r (i + 1) gr t else overP r (i + 1) gr t
def sGoodR (g : Grp) (x : Ins) : Bool := (decide (x.state = 1) || decide (x.state = 2)) && (decide (x.den = -1) && decide (x.art ∈ g.ch.l))
def denLt (x y : Ins) : Bool := decide (x.den < y.den)
def refDen (l : List Ins) (k : Int) : List Ins := sortR denLt (selL l k (fun x => decide (x.state = 2) && decide (0 ≤ x.den)))
def refOther (g : Grp) (l : List Ins) (k : Int) : List Ins := selL l k (fun x => decide (x.state = 2) && (decide (x.den < 0) && !decide (x.art ∈ g.ch.l)))
def refSpare (g : Grp) (l : List Ins) (k : Int) : List Ins := selL l k (fun x => decide (x.state = 2) && sGoodR g x)
def refVic (g : Grp) (l : List Ins) (k : Int) : List Ins := refDen l k ++ (refOther g l k ++ (refSpare g l k).reverse.take ((selL l k (sGoodR g)).length - g.want).toNat)
theorem selL_congr {l : List Ins} {k : Int} {p q : Ins → Bool} (h : ∀ x ∈ l, p x = q x) : selL l k p = selL l k q := by
  unfold selL
  refine List.filter_congr fun x hx => ?_
  rw [h x hx]
theorem selL_sub {l : List Ins} {k : Int} {p : Ins → Bool} : (selL l k p).Sublist l := List.filter_sublist
structure GoodI (l : List Ins) : Prop where
  s : ∀ x ∈ l, 1 ≤ x.state ∧ x.state ≤ 3 ∧ -1 ≤ x.den
  d : l.Pairwise (fun x y => x.id < y.id)
theorem pair_of {l : List Ins} (h : ∀ i (h : i < l.length), ∀ h0 : 0 < i, (l[i - 1]'(by omega)).id < l[i].id) : l.Pairwise (fun x y => x.id < y.id) := by
  rw [List.pairwise_iff_getElem]
  intro i j hi hj hij
  induction j with
  | zero => omega
  | succ j ih =>
    have hs := h (j + 1) hj (by omega)
    by_cases e : i = j
    · subst e; simpa using hs
    · have := ih (by omega) (by omega)
      simp at hs
      omega
theorem good_of {c : Clu} (hv : ValidC c) : GoodI c.i.l := by
  refine ⟨fun x hx => ?_, pair_of fun i h h0 => (hv.i i h).2 h0⟩
  obtain ⟨i, hi, rfl⟩ := List.getElem_of_mem hx
  obtain ⟨g, _⟩ := hv.i i hi
  refine ⟨g.s0, g.s1, ?_⟩
  rcases g.de with e | e
  · omega
  · have := e.1; omega
theorem since_at {l : List Ins} (hd : l.Pairwise (fun x y => x.id < y.id)) {x : Ins} (hx : x ∈ l) : l.find? (fun y => decide (y.id = x.id)) = some x := by
  induction l with
  | nil => simp at hx
  | cons a l ih =>
    rw [List.pairwise_cons] at hd
    rw [List.find?_cons]
    rcases List.mem_cons.1 hx with rfl | hx
    · simp
    · have := hd.1 x hx
      rw [show decide (a.id = x.id) = false from by simp; omega]
      exact ih hd.2 hx
theorem sinceP_at {c : Clu} (hg : GoodI c.i.l) {x : Ins} (hx : x ∈ c.i.l) : sinceP c x.id = x.den := by
  unfold sinceP; rw [since_at hg.d hx]
theorem pair_sub {l l' : List Ins} (h : l'.Sublist l) (hd : l.Pairwise (fun x y => x.id < y.id)) : l'.Pairwise (fun x y => x.id < y.id) := hd.sublist h
theorem sort_same {c : Clu} (hg : GoodI c.i.l) {l : List Ins} (hs : l.Sublist c.i.l) : sortR (ltV c) (l.map Ins.id) = (sortR denLt l).map Ins.id := by
  refine sortR_map ?_
  refine (pair_sub hs hg.d).imp_of_mem fun {y x} hy hx hlt => ?_
  rw [ltV, denLt, sinceP_at hg (hs.subset hx), sinceP_at hg (hs.subset hy)]
  have : decide (x.id < y.id) = false := by simp; omega
  rw [this, Bool.and_false, Bool.or_false]
theorem vic_same {c : Clu} (hg : GoodI c.i.l) {k : Int} {g : Grp} (hk : grAt c k = some g) : victimsP c k = (refVic g c.i.l k).map Ins.id := by
  have e1 : idsP c k sDen = (selL c.i.l k (fun x => decide (x.state = 2) && decide (0 ≤ x.den))).map Ins.id := by unfold idsP; rw [hk]; rfl
  have e2 : idsP c k sRep = (refOther g c.i.l k).map Ins.id := by
    unfold idsP; rw [hk]
    refine congrArg _ (selL_congr fun x hx => ?_)
    simp only [sRep, chos]
    cases decide (x.state = 2) <;> cases decide (x.den < 0) <;> cases decide (x.art ∈ g.ch.l) <;> rfl
  have hden : ∀ x ∈ c.i.l, decide (x.den < 0) = decide (x.den = -1) := fun x hx => by
    have := (hg.s x hx).2.2
    exact decide_eq_decide.2 (by omega)
  have e3 : idsP c k sSpare = (refSpare g c.i.l k).map Ins.id := by
    unfold idsP; rw [hk]
    refine congrArg _ (selL_congr fun x hx => ?_)
    simp only [sSpare, sGoodR, chos, hden x hx]
    by_cases h : x.state = 2
    · simp [h]
    · simp [h]
  have e4 : goodP c k = (selL c.i.l k (sGoodR g)).map Ins.id := by
    unfold goodP idsP; rw [hk]
    refine congrArg _ (selL_congr fun x hx => ?_)
    obtain ⟨h1, h2, _⟩ := hg.s x hx
    have : decide (x.state ≠ 3) = (decide (x.state = 1) || decide (x.state = 2)) := by
      rw [← Bool.decide_or]; exact decide_eq_decide.2 (by omega)
    simp only [sGood, sGoodR, chos, hden x hx, this]
  unfold victimsP
  rw [hk]
  simp only [e1, e2, e3, e4, sort_same hg selL_sub, List.length_map, refVic, refDen, List.map_append, List.map_take, List.map_reverse]
end Go.Proofs.YtjhakjeioppijaaDoor
set_option linter.unusedSimpArgs false
set_option linter.unusedVariables false
namespace Go.Proofs.YtjhakjeioppijaaDoor
open Go Go.Am
structure VicFacts (g : Grp) (l : List Ins) (k : Int) (v : List Int) : Prop where
  one : ∀ x ∈ l, x.grp = k → x.state = 2 → sGoodR g x = false → v.count x.id = 1
  le : ∀ x ∈ l, x.grp = k → x.state = 2 → sGoodR g x = true → v.count x.id ≤ 1
  sum : ((refSpare g l k).map fun x => v.count x.id).sum = min ((selL l k (sGoodR g)).length - g.want).toNat (refSpare g l k).length
  len : v.length = (selL l k fun x => decide (x.state = 2) && !sGoodR g x).length + ((refSpare g l k).map fun x => v.count x.id).sum
end Go.Proofs.YtjhakjeioppijaaDoor
set_option linter.unusedSimpArgs false
set_option linter.unusedVariables false
namespace Go.Proofs.YtjhakjeioppijaaDoor
open Go Go.Am
def runB (k : Int) (x : Ins) : Bool := decide (x.grp = k) && decide (x.state = 2)
def stopI (x : Ins) : Ins := (x.st 3).si 50
def stopL (k : Int) : List Ins → Nat → List Ins
  | [], _ => []
  | x :: r, 0 => x :: r
  | x :: r, n + 1 => if runB k x = true then stopI x :: stopL k r n else x :: stopL k r (n + 1)
def cntR (k : Int) (l : List Ins) : Nat := (l.filter (runB k)).length
theorem cnt_take {k : Int} {l : List Ins} {i : Nat} (h : i < l.length) : cntR k (l.take (i + 1)) = cntR k (l.take i) + (if runB k l[i] = true then 1 else 0) := by
  rw [List.take_succ_eq_append_getElem h, cntR, List.filter_append, List.length_append]
  congr 1
  simp only [List.filter_cons, List.filter_nil]
  split <;> rfl
theorem live_cnt {c : Clu} {k : Int} {g : Grp} (hk : grAt c k = some g) : liveP c k = cntR k c.i.l := by
  simp only [liveP, idsP, hk, List.length_map, selL, cntR]; rfl
def lim3 (g : Grp) : Int × Int × Int := (g.want, g.least, g.down)
structure Stp (c d : Clu) (k : Int) (n : Nat) : Prop where
  v : ValidC d
  i : d.i.l = stopL k c.i.l n
  n : d.next = c.next
  g : d.g.l.map lim3 = c.g.l.map lim3
end Go.Proofs.YtjhakjeioppijaaDoor
set_option linter.unusedSimpArgs false
set_option linter.unusedVariables false
namespace Go.Proofs.YtjhakjeioppijaaDoor
open Go Go.Am
theorem ok_n {ds : List DV} (h : Ty.Ok (.int .i64) ds) : ∃ n : Int, (-9223372036854775808 ≤ n ∧ n ≤ 9223372036854775807) ∧ ds = [.int .i64 n] := ok_i64 h
theorem ok_nl {ds : List DV} (h : Ty.Ok (.sl (.int .i64)) ds) : ∃ x : Nl, (∀ n ∈ x.l, -9223372036854775808 ≤ n ∧ n ≤ 9223372036854775807) ∧ ds = [x.dv] := by
  obtain ⟨k, l, h1, h2, rfl, hb⟩ := ok_slb (f := inI) (R := fun n => -9223372036854775808 ≤ n ∧ n ≤ 9223372036854775807) (fun ds h => by obtain ⟨n, hn, rfl⟩ := ok_i64 h; exact ⟨n, hn, rfl⟩) h
  exact ⟨⟨k, l, h1, hb⟩, h2, rfl⟩
end Go.Proofs.YtjhakjeioppijaaDoor
set_option linter.unusedSimpArgs false
set_option linter.unusedVariables false
namespace Go.Proofs.YtjhakjeioppijaaDoor
open Go Go.Am
def a83L0 : ACode :=
  (.seq (.region false [⟨none, (some 23), .bin .lss (.t 22) (.t 21)⟩])
  (.seq (.cond (.t 23) .skip
  (.exit 0))
  (.seq (.block 1 (.seq (.region false [⟨none, (some 24), .idxS 37 (.t 20) (.t 22)⟩,
    ⟨none, (some 25), .load 37 true (.t 24)⟩,
    ⟨none, (some 9), .alloc [(.int .i64 0), (.int .i64 0), (w8 0#8), (w8 0#8), (w8 0#8), (w8 0#8), (w8 0#8), (w8 0#8), (w8 0#8), (w8 0#8), (w8 0#8), (w8 0#8), (w8 0#8), (w8 0#8), (w8 0#8), (w8 0#8), (w8 0#8), (w8 0#8), (w8 0#8), (w8 0#8), (w8 0#8), (w8 0#8), (w8 0#8), (w8 0#8), (w8 0#8), (w8 0#8), (w8 0#8), (w8 0#8), (w8 0#8), (w8 0#8), (w8 0#8), (w8 0#8), (w8 0#8), (w8 0#8), (.int .i64 0), (.int .i64 0), (.int .i64 0)]⟩,
    ⟨none, none, .store 37 (.t 9) (.t 25)⟩])
  (.seq (.region true [⟨none, (some 26), .fld 1 (.t 9)⟩,
    ⟨none, (some 27), .load 1 false (.t 26)⟩,
    ⟨none, (some 28), .mov (.t 1)⟩,
    ⟨none, (some 29), .bin .eql (.t 27) (.t 28)⟩,
    ⟨none, (some 30), .mov (.t 29)⟩,
    ⟨(some (30, true)), (some 31), .mov (.t 2)⟩,
    ⟨(some (30, true)), (some 32), .fld 0 (.t 3)⟩,
    ⟨(some (30, true)), (some 33), .load 1 false (.t 32)⟩,
    ⟨(some (30, true)), (some 34), .mov (.t 1)⟩,
    ⟨(some (30, true)), (some 35), .idxS 6 (.t 33) (.t 34)⟩,
    ⟨(some (30, true)), (some 36), .load 6 true (.t 35)⟩,
    ⟨(some (30, true)), (some 37), .load 37 true (.t 9)⟩,
    ⟨(some (30, true)), (some 38), .callN (.t 31) [(.t 36), (.t 37)]⟩,
    ⟨none, (some 39), .pick (.t 30) (.t 38) (.k (.bool false))⟩])
  (.cond (.t 39) (.region false [⟨none, (some 40), .mov (.t 7)⟩,
    ⟨none, (some 41), .fld 0 (.t 9)⟩,
    ⟨none, (some 42), .load 1 false (.t 41)⟩,
    ⟨none, (some 43), .bsl 1 1 [(.int .i64 0)] [(0, 1, (.t 42))]⟩,
    ⟨none, (some 44), .app 1 8 (.t 40) (.t 43)⟩,
    ⟨none, (some 7), .mov (.t 44)⟩])
  .skip))))
  (.region false [⟨none, (some 45), .bin .add (.t 22) (.k (.int .i64 1))⟩,
    ⟨none, (some 22), .mov (.t 45)⟩]))))
def a83S0 (x1 x2 x3 x7 x20 x21 x22 : DV) (h : List AObj) : St := ⟨[.junk, x1, x2, x3, .junk, .junk, .junk, x7] ++ js 12 ++ [x20, x21, x22] ++ js 24, h⟩
def a83 : AFn where
  code := (.seq (.region false [⟨none, (some 3), .box (.t 0)⟩,
    ⟨none, (some 6), .mov (.k .nils)⟩])
  (.seq (.seq (.region false [⟨none, (some 10), .mov (.t 1)⟩,
    ⟨none, (some 11), .bin .lss (.t 10) (.k (.int .i64 0))⟩,
    ⟨none, (some 12), .mov (.t 11)⟩,
    ⟨(some (12, false)), (some 13), .mov (.t 1)⟩,
    ⟨(some (12, false)), (some 14), .fld 0 (.t 3)⟩,
    ⟨(some (12, false)), (some 15), .load 1 false (.t 14)⟩,
    ⟨(some (12, false)), (some 16), .len (.t 15)⟩,
    ⟨(some (12, false)), (some 17), .bin .geq (.t 13) (.t 16)⟩,
    ⟨none, (some 18), .pick (.t 12) (.k (.bool true)) (.t 17)⟩])
  (.cond (.t 18) (.seq (.region false [⟨none, (some 6), .mov (.k .nils)⟩])
  .ret)
  .skip))
  (.seq (.region false [⟨none, (some 7), .mov (.k .nils)⟩])
  (.seq (.seq (.region false [⟨none, (some 19), .fld 1 (.t 3)⟩,
    ⟨none, (some 20), .load 1 false (.t 19)⟩,
    ⟨none, (some 21), .len (.t 20)⟩,
    ⟨none, (some 22), .mov (.k (.int .i64 0))⟩])
  (.block 0 (.loop a83L0)))
  (.seq (.region false [⟨none, (some 46), .mov (.t 7)⟩,
    ⟨none, (some 6), .mov (.t 46)⟩])
  .ret)))))
  ntmps := 47
  res := [.tmp 6]
theorem a83_ok : compileFn P Tryd.f83 = some a83 := by kernel_rfl
def a84 : AFn where
  code := (.seq (.region false [⟨none, (some 2), .box (.t 0)⟩,
    ⟨none, (some 3), .box (.t 1)⟩,
    ⟨none, (some 4), .mov (.k (.bool false))⟩])
  (.seq (.region false [⟨none, (some 5), .fld 34 (.t 3)⟩,
    ⟨none, (some 6), .load 1 false (.t 5)⟩,
    ⟨none, (some 7), .bin .eql (.t 6) (.k (.int .i64 2))⟩,
    ⟨none, (some 4), .mov (.t 7)⟩])
  .ret))
  ntmps := 8
  res := [.tmp 4]
theorem a84_ok : compileFn P Tryd.f84 = some a84 := by kernel_rfl
def a87 : AFn where
  code := (.seq (.region false [⟨none, (some 2), .box (.t 0)⟩,
    ⟨none, (some 3), .box (.t 1)⟩,
    ⟨none, (some 4), .mov (.k (.bool false))⟩])
  (.seq (.region false [⟨none, (some 5), .fld 36 (.t 3)⟩,
    ⟨none, (some 6), .load 1 false (.t 5)⟩,
    ⟨none, (some 7), .bin .lss (.t 6) (.k (.int .i64 0))⟩,
    ⟨none, (some 8), .mov (.t 7)⟩,
    ⟨(some (8, true)), (some 9), .fld 5 (.t 2)⟩,
    ⟨(some (8, true)), (some 10), .load 1 false (.t 9)⟩,
    ⟨(some (8, true)), (some 11), .fld 2 (.t 3)⟩,
    ⟨(some (8, true)), (some 12), .load 32 true (.t 11)⟩,
    ⟨(some (8, true)), (some 13), .call (.k (.fn (.func 61) [] [])) [(.t 10), (.t 12)]⟩,
    ⟨none, (some 14), .pick (.t 8) (.t 13) (.k (.bool false))⟩,
    ⟨none, (some 4), .mov (.t 14)⟩])
  .ret))
  ntmps := 15
  res := [.tmp 4]
theorem a87_ok : compileFn P Tryd.f87 = some a87 := by kernel_rfl
def a45 : AFn where
  code := (.seq (.region false [⟨none, (some 2), .box (.t 0)⟩,
    ⟨none, (some 4), .mov (.k (.int .i64 0))⟩])
  (.seq (.region false [⟨none, (some 5), .load 3 true (.t 2)⟩,
    ⟨none, (some 6), .mov (.t 1)⟩,
    ⟨none, (some 7), .call (.k (.fn (.func 83) [] [])) [(.t 5), (.t 6), (.k (.fn (.func 84) [] []))]⟩,
    ⟨none, (some 8), .len (.t 7)⟩,
    ⟨none, (some 4), .mov (.t 8)⟩])
  .ret))
  ntmps := 9
  res := [.tmp 4]
theorem a45_ok : compileFn P Tryd.f45 = some a45 := by kernel_rfl
def a86 : AFn where
  code := (.seq (.region false [⟨none, (some 2), .box (.t 0)⟩,
    ⟨none, (some 3), .box (.t 1)⟩,
    ⟨none, (some 4), .mov (.k (.bool false))⟩])
  (.seq (.region false [⟨none, (some 5), .fld 34 (.t 3)⟩,
    ⟨none, (some 6), .load 1 false (.t 5)⟩,
    ⟨none, (some 7), .bin .neq (.t 6) (.k (.int .i64 3))⟩,
    ⟨none, (some 8), .mov (.t 7)⟩,
    ⟨(some (8, true)), (some 9), .load 6 true (.t 2)⟩,
    ⟨(some (8, true)), (some 10), .load 37 true (.t 3)⟩,
    ⟨(some (8, true)), (some 11), .call (.k (.fn (.func 87) [] [])) [(.t 9), (.t 10)]⟩,
    ⟨none, (some 12), .pick (.t 8) (.t 11) (.k (.bool false))⟩,
    ⟨none, (some 4), .mov (.t 12)⟩])
  .ret))
  ntmps := 13
  res := [.tmp 4]
theorem a86_ok : compileFn P Tryd.f86 = some a86 := by kernel_rfl
def a48 : AFn where
  code := (.seq (.region false [⟨none, (some 2), .box (.t 0)⟩,
    ⟨none, (some 4), .mov (.k .nils)⟩])
  (.seq (.region false [⟨none, (some 5), .load 3 true (.t 2)⟩,
    ⟨none, (some 6), .mov (.t 1)⟩,
    ⟨none, (some 7), .call (.k (.fn (.func 83) [] [])) [(.t 5), (.t 6), (.k (.fn (.func 86) [] []))]⟩,
    ⟨none, (some 4), .mov (.t 7)⟩])
  .ret))
  ntmps := 8
  res := [.tmp 4]
theorem a48_ok : compileFn P Tryd.f48 = some a48 := by kernel_rfl
def a50 : AFn where
  code := (.seq (.region false [⟨none, (some 2), .box (.t 0)⟩,
    ⟨none, (some 4), .mov (.k (.int .i64 0))⟩])
  (.seq (.seq (.region false [⟨none, (some 6), .mov (.t 1)⟩,
    ⟨none, (some 7), .bin .lss (.t 6) (.k (.int .i64 0))⟩,
    ⟨none, (some 8), .mov (.t 7)⟩,
    ⟨(some (8, false)), (some 9), .mov (.t 1)⟩,
    ⟨(some (8, false)), (some 10), .fld 0 (.t 2)⟩,
    ⟨(some (8, false)), (some 11), .load 1 false (.t 10)⟩,
    ⟨(some (8, false)), (some 12), .len (.t 11)⟩,
    ⟨(some (8, false)), (some 13), .bin .geq (.t 9) (.t 12)⟩,
    ⟨none, (some 14), .pick (.t 8) (.k (.bool true)) (.t 13)⟩])
  (.cond (.t 14) (.seq (.region false [⟨none, (some 4), .mov (.k (.int .i64 0))⟩])
  .ret)
  .skip))
  (.seq (.region false [⟨none, (some 15), .fld 0 (.t 2)⟩,
    ⟨none, (some 16), .load 1 false (.t 15)⟩,
    ⟨none, (some 17), .mov (.t 1)⟩,
    ⟨none, (some 18), .idxS 6 (.t 16) (.t 17)⟩,
    ⟨none, (some 19), .load 6 true (.t 18)⟩,
    ⟨none, (some 5), .alloc [(.str []), (.str []), (.int .i64 0), (.int .i64 0), (.int .i64 0), .nils]⟩,
    ⟨none, none, .store 6 (.t 5) (.t 19)⟩])
  (.seq (.region true [⟨none, (some 20), .load 3 true (.t 2)⟩,
    ⟨none, (some 21), .mov (.t 1)⟩,
    ⟨none, (some 23), .fld 3 (.t 5)⟩,
    ⟨none, (some 24), .load 1 false (.t 23)⟩,
    ⟨none, (some 25), .fld 2 (.t 5)⟩,
    ⟨none, (some 26), .load 1 false (.t 25)⟩,
    ⟨none, (some 27), .fld 4 (.t 5)⟩,
    ⟨none, (some 28), .load 1 false (.t 27)⟩,
    ⟨none, (some 29), .bin .sub (.t 26) (.t 28)⟩,
    ⟨none, (some 30), .mm true [(.t 24), (.t 29)]⟩,
    ⟨none, (some 22), .callN (.k (.fn (.func 45) [] [])) [(.t 20), (.t 21)]⟩,
    ⟨none, (some 31), .bin .sub (.t 22) (.t 30)⟩,
    ⟨none, (some 32), .mm true [(.t 31), (.k (.int .i64 0))]⟩,
    ⟨none, (some 4), .mov (.t 32)⟩])
  .ret))))
  ntmps := 33
  res := [.tmp 4]
theorem a50_ok : compileFn P Tryd.f50 = some a50 := by kernel_rfl
def a93 : AFn where
  code := (.seq (.region false [⟨none, (some 2), .box (.t 0)⟩,
    ⟨none, (some 3), .box (.t 1)⟩,
    ⟨none, (some 4), .mov (.k (.int .i64 0))⟩])
  (.seq (.region false [⟨none, (some 6), .fld 1 (.t 2)⟩,
    ⟨none, (some 7), .load 1 false (.t 6)⟩,
    ⟨none, (some 8), .mkf (.func 110) [] [(.t 3)]⟩,
    ⟨none, (some 9), .call (.k (.fn (.func 68) [] [])) [(.t 7), (.t 8)]⟩,
    ⟨none, (some 5), .mov (.t 9)⟩])
  (.seq (.region false [⟨none, (some 10), .fld 1 (.t 2)⟩,
    ⟨none, (some 11), .load 1 false (.t 10)⟩,
    ⟨none, (some 12), .mov (.t 5)⟩,
    ⟨none, (some 13), .idxS 37 (.t 11) (.t 12)⟩,
    ⟨none, (some 14), .fld 36 (.t 13)⟩,
    ⟨none, (some 15), .load 1 false (.t 14)⟩,
    ⟨none, (some 4), .mov (.t 15)⟩])
  .ret)))
  ntmps := 16
  res := [.tmp 4]
theorem a93_ok : compileFn P Tryd.f93 = some a93 := by kernel_rfl
def a110 : AFn where
  code := (.seq (.region false [⟨none, (some 2), .box (.t 0)⟩,
    ⟨none, (some 3), .mov (.k (.bool false))⟩])
  (.seq (.region false [⟨none, (some 4), .fld 0 (.t 2)⟩,
    ⟨none, (some 5), .load 1 false (.t 4)⟩,
    ⟨none, (some 6), .load 1 false (.t 1)⟩,
    ⟨none, (some 7), .bin .eql (.t 5) (.t 6)⟩,
    ⟨none, (some 3), .mov (.t 7)⟩])
  .ret))
  ntmps := 8
  res := [.tmp 3]
theorem a110_ok : compileFn P Tryd.f110 = some a110 := by kernel_rfl
def a88 : AFn where
  code := (.seq (.region false [⟨none, (some 2), .box (.t 0)⟩,
    ⟨none, (some 3), .box (.t 1)⟩,
    ⟨none, (some 4), .mov (.k (.bool false))⟩])
  (.seq (.region false [⟨none, (some 5), .load 6 true (.t 2)⟩,
    ⟨none, (some 6), .load 37 true (.t 3)⟩,
    ⟨none, (some 7), .call (.k (.fn (.func 84) [] [])) [(.t 5), (.t 6)]⟩,
    ⟨none, (some 8), .mov (.t 7)⟩,
    ⟨(some (8, true)), (some 9), .fld 36 (.t 3)⟩,
    ⟨(some (8, true)), (some 10), .load 1 false (.t 9)⟩,
    ⟨(some (8, true)), (some 11), .bin .geq (.t 10) (.k (.int .i64 0))⟩,
    ⟨none, (some 12), .pick (.t 8) (.t 11) (.k (.bool false))⟩,
    ⟨none, (some 4), .mov (.t 12)⟩])
  .ret))
  ntmps := 13
  res := [.tmp 4]
theorem a88_ok : compileFn P Tryd.f88 = some a88 := by kernel_rfl
def a90 : AFn where
  code := (.seq (.region false [⟨none, (some 5), .mov (.k (.int .i64 0))⟩])
  (.seq (.region true [⟨none, (some 6), .load 3 true (.t 2)⟩,
    ⟨none, (some 7), .mov (.t 0)⟩,
    ⟨none, (some 9), .load 3 true (.t 2)⟩,
    ⟨none, (some 10), .mov (.t 1)⟩,
    ⟨none, (some 13), .mov (.t 0)⟩,
    ⟨none, (some 14), .mov (.t 1)⟩,
    ⟨none, (some 8), .callN (.k (.fn (.func 93) [] [])) [(.t 6), (.t 7)]⟩,
    ⟨none, (some 11), .callN (.k (.fn (.func 93) [] [])) [(.t 9), (.t 10)]⟩,
    ⟨none, (some 12), .callN (.k (.fn (.func 92) [] [])) [(.t 8), (.t 11)]⟩,
    ⟨none, (some 15), .callN (.k (.fn (.func 94) [] [])) [(.t 13), (.t 14)]⟩,
    ⟨none, (some 16), .bsl 1 2 [(.int .i64 0)] [(0, 1, (.t 12)), (1, 1, (.t 15))]⟩,
    ⟨none, (some 17), .callN (.k (.fn (.func 91) [] [])) [(.t 16)]⟩,
    ⟨none, (some 5), .mov (.t 17)⟩])
  .ret))
  ntmps := 18
  res := [.tmp 5]
theorem a90_ok : compileFn P Tryd.f90 = some a90 := by kernel_rfl
def a95 : AFn where
  code := (.seq (.region false [⟨none, (some 2), .box (.t 0)⟩,
    ⟨none, (some 3), .box (.t 1)⟩,
    ⟨none, (some 4), .mov (.k (.bool false))⟩])
  (.seq (.region false [⟨none, (some 5), .load 6 true (.t 2)⟩,
    ⟨none, (some 6), .load 37 true (.t 3)⟩,
    ⟨none, (some 7), .call (.k (.fn (.func 84) [] [])) [(.t 5), (.t 6)]⟩,
    ⟨none, (some 8), .mov (.t 7)⟩,
    ⟨(some (8, true)), (some 9), .fld 36 (.t 3)⟩,
    ⟨(some (8, true)), (some 10), .load 1 false (.t 9)⟩,
    ⟨(some (8, true)), (some 11), .bin .lss (.t 10) (.k (.int .i64 0))⟩,
    ⟨none, (some 12), .pick (.t 8) (.t 11) (.k (.bool false))⟩,
    ⟨none, (some 13), .mov (.t 12)⟩,
    ⟨(some (13, true)), (some 14), .load 6 true (.t 2)⟩,
    ⟨(some (13, true)), (some 15), .load 37 true (.t 3)⟩,
    ⟨(some (13, true)), (some 16), .call (.k (.fn (.func 87) [] [])) [(.t 14), (.t 15)]⟩,
    ⟨(some (13, true)), (some 17), .un .not (.t 16)⟩,
    ⟨none, (some 18), .pick (.t 13) (.t 17) (.k (.bool false))⟩,
    ⟨none, (some 4), .mov (.t 18)⟩])
  .ret))
  ntmps := 19
  res := [.tmp 4]
theorem a95_ok : compileFn P Tryd.f95 = some a95 := by kernel_rfl
def a96 : AFn where
  code := (.seq (.region false [⟨none, (some 2), .box (.t 0)⟩,
    ⟨none, (some 3), .box (.t 1)⟩,
    ⟨none, (some 4), .mov (.k (.bool false))⟩])
  (.seq (.region false [⟨none, (some 5), .load 6 true (.t 2)⟩,
    ⟨none, (some 6), .load 37 true (.t 3)⟩,
    ⟨none, (some 7), .call (.k (.fn (.func 84) [] [])) [(.t 5), (.t 6)]⟩,
    ⟨none, (some 8), .mov (.t 7)⟩,
    ⟨(some (8, true)), (some 9), .load 6 true (.t 2)⟩,
    ⟨(some (8, true)), (some 10), .load 37 true (.t 3)⟩,
    ⟨(some (8, true)), (some 11), .call (.k (.fn (.func 87) [] [])) [(.t 9), (.t 10)]⟩,
    ⟨none, (some 12), .pick (.t 8) (.t 11) (.k (.bool false))⟩,
    ⟨none, (some 4), .mov (.t 12)⟩])
  .ret))
  ntmps := 13
  res := [.tmp 4]
theorem a96_ok : compileFn P Tryd.f96 = some a96 := by kernel_rfl
def a52 : AFn where
  code := (.seq (.region false [⟨none, (some 2), .box (.t 0)⟩,
    ⟨none, (some 4), .mov (.k .nils)⟩])
  (.seq (.seq (.region false [⟨none, (some 9), .mov (.t 1)⟩,
    ⟨none, (some 10), .bin .lss (.t 9) (.k (.int .i64 0))⟩,
    ⟨none, (some 11), .mov (.t 10)⟩,
    ⟨(some (11, false)), (some 12), .mov (.t 1)⟩,
    ⟨(some (11, false)), (some 13), .fld 0 (.t 2)⟩,
    ⟨(some (11, false)), (some 14), .load 1 false (.t 13)⟩,
    ⟨(some (11, false)), (some 15), .len (.t 14)⟩,
    ⟨(some (11, false)), (some 16), .bin .geq (.t 12) (.t 15)⟩,
    ⟨none, (some 17), .pick (.t 11) (.k (.bool true)) (.t 16)⟩])
  (.cond (.t 17) (.seq (.region false [⟨none, (some 4), .mov (.k .nils)⟩])
  .ret)
  .skip))
  (.seq (.region false [⟨none, (some 18), .load 3 true (.t 2)⟩,
    ⟨none, (some 19), .mov (.t 1)⟩,
    ⟨none, (some 20), .call (.k (.fn (.func 83) [] [])) [(.t 18), (.t 19), (.k (.fn (.func 88) [] []))]⟩,
    ⟨none, (some 5), .mov (.t 20)⟩])
  (.seq (.region false [⟨none, (some 21), .mov (.t 5)⟩,
    ⟨none, (some 22), .mkf (.func 90) [] [(.t 2)]⟩,
    ⟨none, (some 23), .call (.k (.fn (.func 89) [] [])) [(.t 21), (.t 22)]⟩])
  (.seq (.region false [⟨none, (some 24), .load 3 true (.t 2)⟩,
    ⟨none, (some 25), .mov (.t 1)⟩,
    ⟨none, (some 26), .call (.k (.fn (.func 83) [] [])) [(.t 24), (.t 25), (.k (.fn (.func 95) [] []))]⟩,
    ⟨none, (some 6), .mov (.t 26)⟩])
  (.seq (.region false [⟨none, (some 27), .load 3 true (.t 2)⟩,
    ⟨none, (some 28), .mov (.t 1)⟩,
    ⟨none, (some 29), .call (.k (.fn (.func 83) [] [])) [(.t 27), (.t 28), (.k (.fn (.func 96) [] []))]⟩,
    ⟨none, (some 7), .mov (.t 29)⟩])
  (.seq (.region false [⟨none, (some 30), .mov (.t 7)⟩,
    ⟨none, (some 31), .call (.k (.fn (.func 97) [] [])) [(.t 30)]⟩])
  (.seq (.region true [⟨none, (some 32), .load 3 true (.t 2)⟩,
    ⟨none, (some 33), .mov (.t 1)⟩,
    ⟨none, (some 36), .fld 0 (.t 2)⟩,
    ⟨none, (some 37), .load 1 false (.t 36)⟩,
    ⟨none, (some 38), .mov (.t 1)⟩,
    ⟨none, (some 39), .idxS 6 (.t 37) (.t 38)⟩,
    ⟨none, (some 40), .fld 2 (.t 39)⟩,
    ⟨none, (some 41), .load 1 false (.t 40)⟩,
    ⟨none, (some 34), .callN (.k (.fn (.func 48) [] [])) [(.t 32), (.t 33)]⟩,
    ⟨none, (some 35), .len (.t 34)⟩,
    ⟨none, (some 42), .bin .sub (.t 35) (.t 41)⟩,
    ⟨none, (some 43), .mm true [(.t 42), (.k (.int .i64 0))]⟩,
    ⟨none, (some 8), .mov (.t 43)⟩])
  (.seq (.region false [⟨none, (some 44), .mov (.t 5)⟩,
    ⟨none, (some 45), .mov (.t 6)⟩,
    ⟨none, (some 46), .mov (.t 7)⟩,
    ⟨none, (some 47), .mov (.t 8)⟩,
    ⟨none, (some 48), .mov (.t 7)⟩,
    ⟨none, (some 49), .len (.t 48)⟩,
    ⟨none, (some 50), .mm false [(.t 47), (.t 49)]⟩,
    ⟨none, (some 51), .slcS 1 (.t 46) none (some (.t 50)) none⟩,
    ⟨none, (some 52), .bsl 1 3 [.nils] [(0, 1, (.t 44)), (1, 1, (.t 45)), (2, 1, (.t 51))]⟩,
    ⟨none, (some 53), .call (.k (.fn (.func 98) [] [])) [(.t 52)]⟩,
    ⟨none, (some 4), .mov (.t 53)⟩])
  .ret)))))))))
  ntmps := 54
  res := [.tmp 4]
theorem a52_ok : compileFn P Tryd.f52 = some a52 := by kernel_rfl
def a100 : AFn where
  code := (.seq (.region false [⟨none, (some 6), .mov (.k (.bool false))⟩])
  (.seq (.seq (.region false [⟨none, (some 7), .mov (.t 2)⟩,
    ⟨none, (some 8), .mov (.t 0)⟩,
    ⟨none, (some 9), .bin .geq (.t 7) (.t 8)⟩])
  (.cond (.t 9) (.seq (.region false [⟨none, (some 10), .mov (.t 2)⟩,
    ⟨none, (some 11), .mov (.t 0)⟩,
    ⟨none, (some 12), .bin .sub (.t 10) (.t 11)⟩,
    ⟨none, (some 13), .mov (.t 1)⟩,
    ⟨none, (some 14), .bin .geq (.t 12) (.t 13)⟩,
    ⟨none, (some 6), .mov (.t 14)⟩])
  .ret)
  .skip))
  (.seq (.region false [⟨none, (some 15), .mov (.t 1)⟩,
    ⟨none, (some 16), .bin .lss (.t 15) (.k (.int .i64 0))⟩,
    ⟨none, (some 17), .mov (.t 16)⟩,
    ⟨(some (17, true)), (some 18), .mov (.t 1)⟩,
    ⟨(some (17, true)), (some 19), .mov (.t 0)⟩,
    ⟨(some (17, true)), (some 20), .bin .add (.t 18) (.t 19)⟩,
    ⟨(some (17, true)), (some 21), .mov (.t 2)⟩,
    ⟨(some (17, true)), (some 22), .bin .leq (.t 20) (.t 21)⟩,
    ⟨none, (some 23), .pick (.t 17) (.t 22) (.k (.bool false))⟩,
    ⟨none, (some 6), .mov (.t 23)⟩])
  .ret)))
  ntmps := 24
  res := [.tmp 6]
theorem a100_ok : compileFn P Tryd.f100 = some a100 := by kernel_rfl
def a56L0 : ACode :=
  (.seq (.region false [⟨none, (some 15), .bin .lss (.t 14) (.t 13)⟩])
  (.seq (.cond (.t 15) .skip
  (.exit 0))
  (.seq (.block 1 (.seq (.region false [⟨none, (some 16), .mov (.t 14)⟩,
    ⟨none, (some 17), .idxS 37 (.t 12) (.t 14)⟩,
    ⟨none, (some 18), .load 37 true (.t 17)⟩,
    ⟨none, (some 9), .alloc [(.int .i64 0), (.int .i64 0), (w8 0#8), (w8 0#8), (w8 0#8), (w8 0#8), (w8 0#8), (w8 0#8), (w8 0#8), (w8 0#8), (w8 0#8), (w8 0#8), (w8 0#8), (w8 0#8), (w8 0#8), (w8 0#8), (w8 0#8), (w8 0#8), (w8 0#8), (w8 0#8), (w8 0#8), (w8 0#8), (w8 0#8), (w8 0#8), (w8 0#8), (w8 0#8), (w8 0#8), (w8 0#8), (w8 0#8), (w8 0#8), (w8 0#8), (w8 0#8), (w8 0#8), (w8 0#8), (.int .i64 0), (.int .i64 0), (.int .i64 0)]⟩,
    ⟨none, (some 8), .mov (.t 16)⟩,
    ⟨none, none, .store 37 (.t 9) (.t 18)⟩])
  (.seq (.region false [⟨none, (some 10), .mov (.k (.int .i64 0))⟩])
  (.seq (.seq (.region false [⟨none, (some 19), .mov (.t 8)⟩,
    ⟨none, (some 20), .mov (.t 1)⟩,
    ⟨none, (some 21), .len (.t 20)⟩,
    ⟨none, (some 22), .bin .lss (.t 19) (.t 21)⟩])
  (.cond (.t 22) (.region false [⟨none, (some 23), .mov (.t 1)⟩,
    ⟨none, (some 24), .mov (.t 8)⟩,
    ⟨none, (some 25), .idxS 1 (.t 23) (.t 24)⟩,
    ⟨none, (some 26), .load 1 false (.t 25)⟩,
    ⟨none, (some 10), .mov (.t 26)⟩])
  .skip))
  (.seq (.region false [⟨none, (some 27), .fld 34 (.t 9)⟩,
    ⟨none, (some 28), .load 1 false (.t 27)⟩,
    ⟨none, (some 29), .bin .neq (.t 28) (.k (.int .i64 3))⟩,
    ⟨none, (some 30), .mov (.t 29)⟩,
    ⟨(some (30, true)), (some 31), .fld 36 (.t 9)⟩,
    ⟨(some (30, true)), (some 32), .load 1 false (.t 31)⟩,
    ⟨(some (30, true)), (some 33), .bin .geq (.t 32) (.k (.int .i64 0))⟩,
    ⟨none, (some 34), .pick (.t 30) (.t 33) (.k (.bool false))⟩,
    ⟨none, (some 35), .mov (.t 34)⟩,
    ⟨(some (35, true)), (some 36), .fld 36 (.t 9)⟩,
    ⟨(some (35, true)), (some 37), .load 1 false (.t 36)⟩,
    ⟨(some (35, true)), (some 38), .mov (.t 10)⟩,
    ⟨(some (35, true)), (some 39), .mov (.t 2)⟩,
    ⟨(some (35, true)), (some 40), .call (.k (.fn (.func 100) [] [])) [(.t 37), (.t 38), (.t 39)]⟩,
    ⟨none, (some 41), .pick (.t 35) (.t 40) (.k (.bool false))⟩])
  (.cond (.t 41) (.region false [⟨none, (some 42), .mov (.t 7)⟩,
    ⟨none, (some 43), .fld 0 (.t 9)⟩,
    ⟨none, (some 44), .load 1 false (.t 43)⟩,
    ⟨none, (some 45), .bsl 1 1 [(.int .i64 0)] [(0, 1, (.t 44))]⟩,
    ⟨none, (some 46), .app 1 8 (.t 42) (.t 45)⟩,
    ⟨none, (some 7), .mov (.t 46)⟩])
  .skip))))))
  (.region false [⟨none, (some 47), .bin .add (.t 14) (.k (.int .i64 1))⟩,
    ⟨none, (some 14), .mov (.t 47)⟩]))))
def a56S0 (x1 x2 x7 x12 x13 x14 : DV) (h : List AObj) : St := ⟨[.junk, x1, x2] ++ js 4 ++ [x7] ++ js 4 ++ [x12, x13, x14] ++ js 34, h⟩
def a56 : AFn where
  code := (.seq (.region false [⟨none, (some 3), .box (.t 0)⟩,
    ⟨none, (some 6), .mov (.k .nils)⟩])
  (.seq (.region false [⟨none, (some 7), .mov (.k .nils)⟩])
  (.seq (.seq (.region false [⟨none, (some 11), .fld 1 (.t 3)⟩,
    ⟨none, (some 12), .load 1 false (.t 11)⟩,
    ⟨none, (some 13), .len (.t 12)⟩,
    ⟨none, (some 14), .mov (.k (.int .i64 0))⟩])
  (.block 0 (.loop a56L0)))
  (.seq (.region false [⟨none, (some 48), .mov (.t 7)⟩,
    ⟨none, (some 6), .mov (.t 48)⟩])
  .ret))))
  ntmps := 49
  res := [.tmp 6]
theorem a56_ok : compileFn P Tryd.f56 = some a56 := by kernel_rfl
def a89 : AFn where
  code := (.region false [⟨none, (some 4), .mov (.t 0)⟩,
    ⟨none, (some 5), .mov (.t 0)⟩,
    ⟨none, (some 6), .len (.t 5)⟩,
    ⟨none, (some 7), .mov (.t 1)⟩,
    ⟨none, (some 8), .call (.k (.fn (.func 108) [] [])) [(.t 4), (.t 6), (.t 7)]⟩])
  ntmps := 9
  res := []
theorem a89_ok : compileFn P Tryd.f89 = some a89 := by kernel_rfl
def a108L0 : ACode :=
  (.seq (.seq (.region false [⟨none, (some 11), .mov (.t 8)⟩,
    ⟨none, (some 12), .mov (.t 1)⟩,
    ⟨none, (some 13), .bin .leq (.t 11) (.t 12)⟩])
  (.cond (.t 13) .skip
  (.exit 0)))
  (.block 1 (.seq (.region false [⟨none, (some 14), .mov (.t 0)⟩,
    ⟨none, (some 15), .mov (.t 7)⟩,
    ⟨none, (some 16), .mov (.t 8)⟩,
    ⟨none, (some 17), .mov (.t 2)⟩,
    ⟨none, (some 18), .call (.k (.fn (.func 116) [] [])) [(.t 14), (.t 15), (.t 16), (.t 17)]⟩])
  (.seq (.region false [⟨none, (some 19), .mov (.t 8)⟩,
    ⟨none, (some 7), .mov (.t 19)⟩])
  (.region false [⟨none, (some 20), .mov (.t 8)⟩,
    ⟨none, (some 21), .mov (.t 6)⟩,
    ⟨none, (some 22), .bin .add (.t 20) (.t 21)⟩,
    ⟨none, (some 8), .mov (.t 22)⟩])))))
def a108S0 (x0 x1 x2 x6 x7 x8 : DV) (h : List AObj) : St := ⟨[x0, x1, x2, .junk, .junk, .junk, x6, x7, x8] ++ js 54, h⟩
def a108L2 : ACode :=
  (.seq (.seq (.region false [⟨none, (some 33), .mov (.t 8)⟩,
    ⟨none, (some 34), .mov (.t 1)⟩,
    ⟨none, (some 35), .bin .leq (.t 33) (.t 34)⟩])
  (.cond (.t 35) .skip
  (.exit 4)))
  (.block 5 (.seq (.region false [⟨none, (some 36), .mov (.t 0)⟩,
    ⟨none, (some 37), .mov (.t 7)⟩,
    ⟨none, (some 38), .mov (.t 7)⟩,
    ⟨none, (some 39), .mov (.t 6)⟩,
    ⟨none, (some 40), .bin .add (.t 38) (.t 39)⟩,
    ⟨none, (some 41), .mov (.t 8)⟩,
    ⟨none, (some 42), .mov (.t 2)⟩,
    ⟨none, (some 43), .call (.k (.fn (.func 117) [] [])) [(.t 36), (.t 37), (.t 40), (.t 41), (.t 42)]⟩])
  (.seq (.region false [⟨none, (some 44), .mov (.t 8)⟩,
    ⟨none, (some 7), .mov (.t 44)⟩])
  (.region false [⟨none, (some 45), .mov (.t 8)⟩,
    ⟨none, (some 46), .mov (.t 6)⟩,
    ⟨none, (some 47), .bin .mul (.k (.int .i64 2)) (.t 46)⟩,
    ⟨none, (some 48), .bin .add (.t 45) (.t 47)⟩,
    ⟨none, (some 8), .mov (.t 48)⟩])))))
def a108L1 : ACode :=
  (.seq (.seq (.region false [⟨none, (some 28), .mov (.t 6)⟩,
    ⟨none, (some 29), .mov (.t 1)⟩,
    ⟨none, (some 30), .bin .lss (.t 28) (.t 29)⟩])
  (.cond (.t 30) .skip
  (.exit 2)))
  (.block 3 (.seq (.region false [⟨none, (some 31), .mov (.t 6)⟩,
    ⟨none, (some 32), .bin .mul (.k (.int .i64 2)) (.t 31)⟩,
    ⟨none, (some 7), .mov (.k (.int .i64 0))⟩,
    ⟨none, (some 8), .mov (.t 32)⟩])
  (.seq (.block 4 (.loop a108L2))
  (.seq (.seq (.region false [⟨none, (some 49), .mov (.t 7)⟩,
    ⟨none, (some 50), .mov (.t 6)⟩,
    ⟨none, (some 51), .bin .add (.t 49) (.t 50)⟩,
    ⟨none, (some 9), .mov (.t 51)⟩])
  (.seq (.region false [⟨none, (some 52), .mov (.t 9)⟩,
    ⟨none, (some 53), .mov (.t 1)⟩,
    ⟨none, (some 54), .bin .lss (.t 52) (.t 53)⟩])
  (.cond (.t 54) (.region false [⟨none, (some 55), .mov (.t 0)⟩,
    ⟨none, (some 56), .mov (.t 7)⟩,
    ⟨none, (some 57), .mov (.t 9)⟩,
    ⟨none, (some 58), .mov (.t 1)⟩,
    ⟨none, (some 59), .mov (.t 2)⟩,
    ⟨none, (some 60), .call (.k (.fn (.func 117) [] [])) [(.t 55), (.t 56), (.t 57), (.t 58), (.t 59)]⟩])
  .skip)))
  (.region false [⟨none, (some 61), .mov (.t 6)⟩,
    ⟨none, (some 62), .bin .mul (.t 61) (.k (.int .i64 2))⟩,
    ⟨none, (some 6), .mov (.t 62)⟩]))))))
def a108S1 (x0 x1 x2 x6 : DV) (h : List AObj) : St := ⟨[x0, x1, x2, .junk, .junk, .junk, x6] ++ js 56, h⟩
def a108 : AFn where
  code := (.seq (.region false [⟨none, (some 6), .mov (.k (.int .i64 20))⟩])
  (.seq (.region false [⟨none, (some 10), .mov (.t 6)⟩,
    ⟨none, (some 7), .mov (.k (.int .i64 0))⟩,
    ⟨none, (some 8), .mov (.t 10)⟩])
  (.seq (.block 0 (.loop a108L0))
  (.seq (.region false [⟨none, (some 23), .mov (.t 0)⟩,
    ⟨none, (some 24), .mov (.t 7)⟩,
    ⟨none, (some 25), .mov (.t 1)⟩,
    ⟨none, (some 26), .mov (.t 2)⟩,
    ⟨none, (some 27), .call (.k (.fn (.func 116) [] [])) [(.t 23), (.t 24), (.t 25), (.t 26)]⟩])
  (.block 2 (.loop a108L1))))))
  ntmps := 63
  res := []
theorem a108_ok : compileFn P Tryd.f108 = some a108 := by kernel_rfl
def a116L1 : ACode :=
  (.seq (.seq (.region true [⟨none, (some 18), .mov (.t 9)⟩,
    ⟨none, (some 19), .mov (.t 1)⟩,
    ⟨none, (some 20), .bin .gtr (.t 18) (.t 19)⟩,
    ⟨none, (some 21), .mov (.t 20)⟩,
    ⟨(some (21, true)), (some 22), .mov (.t 3)⟩,
    ⟨(some (21, true)), (some 23), .mov (.t 0)⟩,
    ⟨(some (21, true)), (some 24), .mov (.t 9)⟩,
    ⟨(some (21, true)), (some 25), .idxS 1 (.t 23) (.t 24)⟩,
    ⟨(some (21, true)), (some 26), .load 1 false (.t 25)⟩,
    ⟨(some (21, true)), (some 27), .mov (.t 0)⟩,
    ⟨(some (21, true)), (some 28), .mov (.t 9)⟩,
    ⟨(some (21, true)), (some 29), .bin .sub (.t 28) (.k (.int .i64 1))⟩,
    ⟨(some (21, true)), (some 30), .idxS 1 (.t 27) (.t 29)⟩,
    ⟨(some (21, true)), (some 31), .load 1 false (.t 30)⟩,
    ⟨(some (21, true)), (some 32), .callN (.t 22) [(.t 26), (.t 31)]⟩,
    ⟨(some (21, true)), (some 33), .bin .lss (.t 32) (.k (.int .i64 0))⟩,
    ⟨none, (some 34), .pick (.t 21) (.t 33) (.k (.bool false))⟩])
  (.cond (.t 34) .skip
  (.exit 2)))
  (.seq (.block 3 (.region true [⟨none, (some 37), .mov (.t 0)⟩,
    ⟨none, (some 38), .mov (.t 9)⟩,
    ⟨none, (some 39), .mov (.t 0)⟩,
    ⟨none, (some 40), .mov (.t 9)⟩,
    ⟨none, (some 41), .bin .sub (.t 40) (.k (.int .i64 1))⟩,
    ⟨none, (some 42), .mov (.t 0)⟩,
    ⟨none, (some 43), .mov (.t 9)⟩,
    ⟨none, (some 44), .bin .sub (.t 43) (.k (.int .i64 1))⟩,
    ⟨none, (some 45), .idxS 1 (.t 42) (.t 44)⟩,
    ⟨none, (some 46), .load 1 false (.t 45)⟩,
    ⟨none, (some 47), .mov (.t 0)⟩,
    ⟨none, (some 48), .mov (.t 9)⟩,
    ⟨none, (some 49), .idxS 1 (.t 47) (.t 48)⟩,
    ⟨none, (some 50), .load 1 false (.t 49)⟩,
    ⟨none, (some 51), .idxS 1 (.t 37) (.t 38)⟩,
    ⟨none, none, .store 1 (.t 51) (.t 46)⟩,
    ⟨none, (some 52), .idxS 1 (.t 39) (.t 41)⟩,
    ⟨none, none, .store 1 (.t 52) (.t 50)⟩]))
  (.region false [⟨none, (some 35), .mov (.t 9)⟩,
    ⟨none, (some 36), .bin .sub (.t 35) (.k (.int .i64 1))⟩,
    ⟨none, (some 9), .mov (.t 36)⟩])))
def a116S1 (x0 x1 x2 x3 x8 x9 : DV) (h : List AObj) : St := ⟨[x0, x1, x2, x3] ++ js 4 ++ [x8, x9] ++ js 43, h⟩
def a116L0 : ACode :=
  (.seq (.seq (.region false [⟨none, (some 12), .mov (.t 8)⟩,
    ⟨none, (some 13), .mov (.t 2)⟩,
    ⟨none, (some 14), .bin .lss (.t 12) (.t 13)⟩])
  (.cond (.t 14) .skip
  (.exit 0)))
  (.seq (.block 1 (.seq (.region false [⟨none, (some 17), .mov (.t 8)⟩,
    ⟨none, (some 9), .mov (.t 17)⟩])
  (.block 2 (.loop a116L1))))
  (.region false [⟨none, (some 15), .mov (.t 8)⟩,
    ⟨none, (some 16), .bin .add (.t 15) (.k (.int .i64 1))⟩,
    ⟨none, (some 8), .mov (.t 16)⟩])))
def a116S0 (x0 x1 x2 x3 x8 : DV) (h : List AObj) : St := ⟨[x0, x1, x2, x3] ++ js 4 ++ [x8] ++ js 44, h⟩
def a116 : AFn where
  code := (.seq (.region false [⟨none, (some 10), .mov (.t 1)⟩,
    ⟨none, (some 11), .bin .add (.t 10) (.k (.int .i64 1))⟩,
    ⟨none, (some 8), .mov (.t 11)⟩])
  (.block 0 (.loop a116L0)))
  ntmps := 53
  res := []
theorem a116_ok : compileFn P Tryd.f116 = some a116 := by kernel_rfl
def a97L0 : ACode :=
  (.seq (.seq (.region false [⟨none, (some 7), .mov (.t 2)⟩,
    ⟨none, (some 8), .mov (.t 3)⟩,
    ⟨none, (some 9), .bin .lss (.t 7) (.t 8)⟩])
  (.cond (.t 9) .skip
  (.exit 0)))
  (.seq (.block 1 (.region true [⟨none, (some 14), .mov (.t 0)⟩,
    ⟨none, (some 15), .mov (.t 2)⟩,
    ⟨none, (some 16), .mov (.t 0)⟩,
    ⟨none, (some 17), .mov (.t 3)⟩,
    ⟨none, (some 18), .mov (.t 0)⟩,
    ⟨none, (some 19), .mov (.t 3)⟩,
    ⟨none, (some 20), .idxS 1 (.t 18) (.t 19)⟩,
    ⟨none, (some 21), .load 1 false (.t 20)⟩,
    ⟨none, (some 22), .mov (.t 0)⟩,
    ⟨none, (some 23), .mov (.t 2)⟩,
    ⟨none, (some 24), .idxS 1 (.t 22) (.t 23)⟩,
    ⟨none, (some 25), .load 1 false (.t 24)⟩,
    ⟨none, (some 26), .idxS 1 (.t 14) (.t 15)⟩,
    ⟨none, none, .store 1 (.t 26) (.t 21)⟩,
    ⟨none, (some 27), .idxS 1 (.t 16) (.t 17)⟩,
    ⟨none, none, .store 1 (.t 27) (.t 25)⟩]))
  (.region false [⟨none, (some 10), .mov (.t 2)⟩,
    ⟨none, (some 11), .bin .add (.t 10) (.k (.int .i64 1))⟩,
    ⟨none, (some 12), .mov (.t 3)⟩,
    ⟨none, (some 13), .bin .sub (.t 12) (.k (.int .i64 1))⟩,
    ⟨none, (some 2), .mov (.t 11)⟩,
    ⟨none, (some 3), .mov (.t 13)⟩])))
def a97S0 (x0 x2 x3 : DV) (h : List AObj) : St := ⟨[x0, .junk, x2, x3] ++ js 24, h⟩
def a97 : AFn where
  code := (.seq (.region false [⟨none, (some 4), .mov (.t 0)⟩,
    ⟨none, (some 5), .len (.t 4)⟩,
    ⟨none, (some 6), .bin .sub (.t 5) (.k (.int .i64 1))⟩,
    ⟨none, (some 2), .mov (.k (.int .i64 0))⟩,
    ⟨none, (some 3), .mov (.t 6)⟩])
  (.block 0 (.loop a97L0)))
  ntmps := 28
  res := []
theorem a97_ok : compileFn P Tryd.f97 = some a97 := by kernel_rfl
def a98L0 : ACode :=
  (.seq (.region false [⟨none, (some 12), .bin .lss (.t 11) (.t 10)⟩])
  (.seq (.cond (.t 12) .skip
  (.exit 0))
  (.seq (.block 1 (.seq (.region false [⟨none, (some 13), .idxS 1 (.t 9) (.t 11)⟩,
    ⟨none, (some 14), .load 1 false (.t 13)⟩,
    ⟨none, (some 5), .mov (.t 14)⟩])
  (.seq (.region false [⟨none, (some 15), .mov (.t 3)⟩,
    ⟨none, (some 16), .mov (.t 5)⟩,
    ⟨none, (some 17), .len (.t 16)⟩,
    ⟨none, (some 18), .bin .add (.t 15) (.t 17)⟩,
    ⟨none, (some 3), .mov (.t 18)⟩])
  (.seq (.region false [⟨none, (some 19), .mov (.t 3)⟩,
    ⟨none, (some 20), .bin .lss (.t 19) (.k (.int .i64 0))⟩])
  (.cond (.t 20) (.region false [⟨none, (some 21), .ext (.k .junk) 0⟩,
    ⟨none, none, .ext (.k .junk) 0⟩])
  .skip)))))
  (.region false [⟨none, (some 22), .bin .add (.t 11) (.k (.int .i64 1))⟩,
    ⟨none, (some 11), .mov (.t 22)⟩]))))
def a98S0 (x0 x3 x9 x10 x11 : DV) (h : List AObj) : St := ⟨[x0, .junk, .junk, x3] ++ js 5 ++ [x9, x10, x11] ++ js 24, h⟩
def a98L1 : ACode :=
  (.seq (.region false [⟨none, (some 28), .bin .lss (.t 27) (.t 26)⟩])
  (.seq (.cond (.t 28) .skip
  (.exit 2))
  (.seq (.block 3 (.seq (.region false [⟨none, (some 29), .idxS 1 (.t 25) (.t 27)⟩,
    ⟨none, (some 30), .load 1 false (.t 29)⟩,
    ⟨none, (some 8), .mov (.t 30)⟩])
  (.region false [⟨none, (some 31), .mov (.t 6)⟩,
    ⟨none, (some 32), .mov (.t 8)⟩,
    ⟨none, (some 33), .app 1 8 (.t 31) (.t 32)⟩,
    ⟨none, (some 6), .mov (.t 33)⟩])))
  (.region false [⟨none, (some 34), .bin .add (.t 27) (.k (.int .i64 1))⟩,
    ⟨none, (some 27), .mov (.t 34)⟩]))))
def a98S1 (x6 x25 x26 x27 : DV) (h : List AObj) : St := ⟨js 6 ++ [x6] ++ js 18 ++ [x25, x26, x27] ++ js 8, h⟩
def a98 : AFn where
  code := (.seq (.region false [⟨none, (some 2), .mov (.k .nils)⟩])
  (.seq (.region false [⟨none, (some 3), .mov (.k (.int .i64 0))⟩])
  (.seq (.seq (.region false [⟨none, (some 9), .mov (.t 0)⟩,
    ⟨none, (some 10), .len (.t 9)⟩,
    ⟨none, (some 11), .mov (.k (.int .i64 0))⟩])
  (.block 0 (.loop a98L0)))
  (.seq (.region false [⟨none, (some 23), .mov (.t 3)⟩,
    ⟨none, (some 24), .call (.k (.fn (.func 112) [] [])) [(.k .nils), (.t 23)]⟩,
    ⟨none, (some 6), .mov (.t 24)⟩])
  (.seq (.seq (.region false [⟨none, (some 25), .mov (.t 0)⟩,
    ⟨none, (some 26), .len (.t 25)⟩,
    ⟨none, (some 27), .mov (.k (.int .i64 0))⟩])
  (.block 2 (.loop a98L1)))
  (.seq (.region false [⟨none, (some 35), .mov (.t 6)⟩,
    ⟨none, (some 2), .mov (.t 35)⟩])
  .ret))))))
  ntmps := 36
  res := [.tmp 2]
theorem a98_ok : compileFn P Tryd.f98 = some a98 := by kernel_rfl
def a91L0 : ACode :=
  (.seq (.region false [⟨none, (some 9), .bin .lss (.t 8) (.t 7)⟩])
  (.seq (.cond (.t 9) .skip
  (.exit 0))
  (.seq (.block 1 (.seq (.region false [⟨none, (some 10), .idxS 1 (.t 6) (.t 8)⟩,
    ⟨none, (some 11), .load 1 false (.t 10)⟩,
    ⟨none, (some 5), .mov (.t 11)⟩])
  (.seq (.region false [⟨none, (some 12), .mov (.t 5)⟩,
    ⟨none, (some 13), .mov (.t 3)⟩,
    ⟨none, (some 14), .bin .neq (.t 12) (.t 13)⟩])
  (.cond (.t 14) (.seq (.region false [⟨none, (some 15), .mov (.t 5)⟩,
    ⟨none, (some 2), .mov (.t 15)⟩])
  .ret)
  .skip))))
  (.region false [⟨none, (some 16), .bin .add (.t 8) (.k (.int .i64 1))⟩,
    ⟨none, (some 8), .mov (.t 16)⟩]))))
def a91S0 (x3 x6 x7 x8 : DV) (h : List AObj) : St := ⟨[.junk, .junk, .junk, x3, .junk, .junk, x6, x7, x8] ++ js 9, h⟩
def a91 : AFn where
  code := (.seq (.region false [⟨none, (some 2), .mov (.k (.int .i64 0))⟩])
  (.seq (.region false [⟨none, (some 3), .mov (.k (.int .i64 0))⟩])
  (.seq (.seq (.region false [⟨none, (some 6), .mov (.t 0)⟩,
    ⟨none, (some 7), .len (.t 6)⟩,
    ⟨none, (some 8), .mov (.k (.int .i64 0))⟩])
  (.block 0 (.loop a91L0)))
  (.seq (.region false [⟨none, (some 17), .mov (.t 3)⟩,
    ⟨none, (some 2), .mov (.t 17)⟩])
  .ret))))
  ntmps := 18
  res := [.tmp 2]
theorem a91_ok : compileFn P Tryd.f91 = some a91 := by kernel_rfl
def a94 : AFn where
  code := (.seq (.region false [⟨none, (some 4), .mov (.k (.int .i64 0))⟩])
  (.seq (.region false [⟨none, (some 7), .mov (.t 0)⟩,
    ⟨none, (some 8), .call (.k (.fn (.func 111) [] [])) [(.t 7)]⟩,
    ⟨none, (some 5), .mov (.t 8)⟩])
  (.seq (.region false [⟨none, (some 9), .mov (.t 1)⟩,
    ⟨none, (some 10), .call (.k (.fn (.func 111) [] [])) [(.t 9)]⟩,
    ⟨none, (some 6), .mov (.t 10)⟩])
  (.seq (.seq (.region false [⟨none, (some 11), .mov (.t 5)⟩])
  (.cond (.t 11) (.seq (.seq (.region false [⟨none, (some 12), .mov (.t 6)⟩])
  (.cond (.t 12) (.seq (.region false [⟨none, (some 4), .mov (.k (.int .i64 0))⟩])
  .ret)
  .skip))
  (.seq (.region false [⟨none, (some 4), .mov (.k (.int .i64 (-1)))⟩])
  .ret))
  .skip))
  (.seq (.seq (.region false [⟨none, (some 13), .mov (.t 6)⟩])
  (.cond (.t 13) (.seq (.region false [⟨none, (some 4), .mov (.k (.int .i64 1))⟩])
  .ret)
  .skip))
  (.seq (.seq (.region false [⟨none, (some 14), .mov (.t 0)⟩,
    ⟨none, (some 15), .mov (.t 1)⟩,
    ⟨none, (some 16), .bin .lss (.t 14) (.t 15)⟩])
  (.cond (.t 16) (.seq (.region false [⟨none, (some 4), .mov (.k (.int .i64 (-1)))⟩])
  .ret)
  .skip))
  (.seq (.seq (.region false [⟨none, (some 17), .mov (.t 0)⟩,
    ⟨none, (some 18), .mov (.t 1)⟩,
    ⟨none, (some 19), .bin .gtr (.t 17) (.t 18)⟩])
  (.cond (.t 19) (.seq (.region false [⟨none, (some 4), .mov (.k (.int .i64 1))⟩])
  .ret)
  .skip))
  (.seq (.region false [⟨none, (some 4), .mov (.k (.int .i64 0))⟩])
  .ret))))))))
  ntmps := 20
  res := [.tmp 4]
theorem a94_ok : compileFn P Tryd.f94 = some a94 := by kernel_rfl
def a92 : AFn where
  code := (.seq (.region false [⟨none, (some 4), .mov (.k (.int .i64 0))⟩])
  (.seq (.region false [⟨none, (some 7), .mov (.t 0)⟩,
    ⟨none, (some 8), .call (.k (.fn (.func 109) [] [])) [(.t 7)]⟩,
    ⟨none, (some 5), .mov (.t 8)⟩])
  (.seq (.region false [⟨none, (some 9), .mov (.t 1)⟩,
    ⟨none, (some 10), .call (.k (.fn (.func 109) [] [])) [(.t 9)]⟩,
    ⟨none, (some 6), .mov (.t 10)⟩])
  (.seq (.seq (.region false [⟨none, (some 11), .mov (.t 5)⟩])
  (.cond (.t 11) (.seq (.seq (.region false [⟨none, (some 12), .mov (.t 6)⟩])
  (.cond (.t 12) (.seq (.region false [⟨none, (some 4), .mov (.k (.int .i64 0))⟩])
  .ret)
  .skip))
  (.seq (.region false [⟨none, (some 4), .mov (.k (.int .i64 (-1)))⟩])
  .ret))
  .skip))
  (.seq (.seq (.region false [⟨none, (some 13), .mov (.t 6)⟩])
  (.cond (.t 13) (.seq (.region false [⟨none, (some 4), .mov (.k (.int .i64 1))⟩])
  .ret)
  .skip))
  (.seq (.seq (.region false [⟨none, (some 14), .mov (.t 0)⟩,
    ⟨none, (some 15), .mov (.t 1)⟩,
    ⟨none, (some 16), .bin .lss (.t 14) (.t 15)⟩])
  (.cond (.t 16) (.seq (.region false [⟨none, (some 4), .mov (.k (.int .i64 (-1)))⟩])
  .ret)
  .skip))
  (.seq (.seq (.region false [⟨none, (some 17), .mov (.t 0)⟩,
    ⟨none, (some 18), .mov (.t 1)⟩,
    ⟨none, (some 19), .bin .gtr (.t 17) (.t 18)⟩])
  (.cond (.t 19) (.seq (.region false [⟨none, (some 4), .mov (.k (.int .i64 1))⟩])
  .ret)
  .skip))
  (.seq (.region false [⟨none, (some 4), .mov (.k (.int .i64 0))⟩])
  .ret))))))))
  ntmps := 20
  res := [.tmp 4]
theorem a92_ok : compileFn P Tryd.f92 = some a92 := by kernel_rfl
def a111 : AFn where
  code := (.seq (.region false [⟨none, (some 2), .mov (.k (.bool false))⟩])
  (.seq (.region false [⟨none, (some 3), .mov (.t 0)⟩,
    ⟨none, (some 4), .mov (.t 0)⟩,
    ⟨none, (some 5), .bin .neq (.t 3) (.t 4)⟩,
    ⟨none, (some 2), .mov (.t 5)⟩])
  .ret))
  ntmps := 6
  res := [.tmp 2]
theorem a111_ok : compileFn P Tryd.f111 = some a111 := by kernel_rfl
def a109 : AFn where
  code := (.seq (.region false [⟨none, (some 2), .mov (.k (.bool false))⟩])
  (.seq (.region false [⟨none, (some 3), .mov (.t 0)⟩,
    ⟨none, (some 4), .mov (.t 0)⟩,
    ⟨none, (some 5), .bin .neq (.t 3) (.t 4)⟩,
    ⟨none, (some 2), .mov (.t 5)⟩])
  .ret))
  ntmps := 6
  res := [.tmp 2]
theorem a109_ok : compileFn P Tryd.f109 = some a109 := by kernel_rfl
end Go.Proofs.YtjhakjeioppijaaDoor
set_option linter.unusedSimpArgs false
set_option linter.unusedVariables false
namespace Go.Proofs.YtjhakjeioppijaaDoor
open Go Go.Am
noncomputable def cSel (p : Grp → Ins → Bool) : List DV → Option DV := con (fun _ => True) (fun a : Grp × Ins => [.agg (grC a.1), .agg (inC a.2)]) (fun a => .bool (p a.1 a.2))
theorem cSel_eq {p : Grp → Ins → Bool} {g : Grp} {x : Ins} : cSel p [.agg (grC g), .agg (inC x)] = some (.bool (p g x)) :=
  con_inj (f := fun a : Grp × Ins => [.agg (grC a.1), .agg (inC a.2)]) (by
    rintro ⟨a, b⟩ ⟨c, d⟩ e
    simp only [List.cons.injEq, DV.agg.injEq, and_true] at e
    rw [grC_inj e.1, inC_inj e.2]) (g, x)
theorem cSel_sound {k : FuncId} {p : Grp → Ins → Bool} (h : ∀ g x, Am.Sem P k [.agg (grC g), .agg (inC x)] (.bool (p g x))) : (Con.pure (cSel p)).Sound P k := con_sound fun a _ => h a.1 a.2
theorem runs_running (g : Grp) (x : Ins) : Runs tbl0 a84 [.agg (grC g), .agg (inC x)] (.bool (sLive g x)) := by
  refine ⟨?_⟩
  by_cases h : x.state = 2
  · simp (disch := first | omega | (simp [-List.map_take, -List.map_drop, -List.map_set, -List.map_append, -List.drop_one] <;> omega) | fail) [-List.map_take, -List.map_drop, -List.map_set, -List.map_append, -List.drop_one, a84, sLive, h]
  · simp (disch := first | omega | (simp [-List.map_take, -List.map_drop, -List.map_set, -List.map_append, -List.drop_one] <;> omega) | fail) [-List.map_take, -List.map_drop, -List.map_set, -List.map_append, -List.drop_one, a84, sLive, h]
noncomputable def T200 : Tbl := addT 61 (.pure (cDgs hasB)) tbl0
theorem T200_c : T200 61 = .pure (cDgs hasB) := by simp [T200]
theorem T200_sound : T200.Sound P := addT_sound (con_sound fun p _ => sem_runs mix T100_sound Tryd.func61 a61_ok (runs_contdg p.1 p.2)) tbl0_sound
theorem runs_chosen (g : Grp) (x : Ins) : Runs T200 a87 [.agg (grC g), .agg (inC x)] (.bool (chos g x)) := by
  refine ⟨?_⟩
  by_cases h : x.den < 0
  · simp (disch := first | omega | (simp [-List.map_take, -List.map_drop, -List.map_set, -List.map_append, -List.drop_one] <;> omega) | fail) [-List.map_take, -List.map_drop, -List.map_set, -List.map_append, -List.drop_one, a87, chos, h, T200_c, cDgs_eq, hasB]
  · simp (disch := first | omega | (simp [-List.map_take, -List.map_drop, -List.map_set, -List.map_append, -List.drop_one] <;> omega) | fail) [-List.map_take, -List.map_drop, -List.map_set, -List.map_append, -List.drop_one, a87, chos, h]
noncomputable def T201 : Tbl := addT 84 (.pure (cSel sLive)) (addT 87 (.pure (cSel chos)) tbl0)
theorem T201_r : T201 84 = .pure (cSel sLive) := by simp [T201]
theorem T201_c : T201 87 = .pure (cSel chos) := by simp [T201]
theorem running_sound : (Con.pure (cSel sLive)).Sound P 84 := cSel_sound fun g x => sem_runs mix tbl0_sound Tryd.func84 a84_ok (runs_running g x)
theorem T201_sound : T201.Sound P := addT_sound running_sound (addT_sound (cSel_sound fun g x => sem_runs mix T200_sound Tryd.func87 a87_ok (runs_chosen g x)) tbl0_sound)
theorem runs_good1 (g : Grp) (x : Ins) : Runs T201 a86 [.agg (grC g), .agg (inC x)] (.bool (sGood g x)) := by
  refine ⟨?_⟩
  by_cases h : x.state = 3
  · simp (disch := first | omega | (simp [-List.map_take, -List.map_drop, -List.map_set, -List.map_append, -List.drop_one] <;> omega) | fail) [-List.map_take, -List.map_drop, -List.map_set, -List.map_append, -List.drop_one, a86, sGood, h, T201_c, cSel_eq]
  · simp (disch := first | omega | (simp [-List.map_take, -List.map_drop, -List.map_set, -List.map_append, -List.drop_one] <;> omega) | fail) [-List.map_take, -List.map_drop, -List.map_set, -List.map_append, -List.drop_one, a86, sGood, h, T201_c, cSel_eq]
theorem runs_vic1 (g : Grp) (x : Ins) : Runs T201 a88 [.agg (grC g), .agg (inC x)] (.bool (sDen g x)) := by
  refine ⟨?_⟩
  by_cases h : x.state = 2
  · simp (disch := first | omega | (simp [-List.map_take, -List.map_drop, -List.map_set, -List.map_append, -List.drop_one] <;> omega) | fail) [-List.map_take, -List.map_drop, -List.map_set, -List.map_append, -List.drop_one, a88, sDen, sLive, h, T201_r, cSel_eq]
  · simp (disch := first | omega | (simp [-List.map_take, -List.map_drop, -List.map_set, -List.map_append, -List.drop_one] <;> omega) | fail) [-List.map_take, -List.map_drop, -List.map_set, -List.map_append, -List.drop_one, a88, sDen, sLive, h, T201_r, cSel_eq]
theorem runs_vic3 (g : Grp) (x : Ins) : Runs T201 a95 [.agg (grC g), .agg (inC x)] (.bool (sRep g x)) := by
  refine ⟨?_⟩
  by_cases h : x.state = 2
  · by_cases h1 : x.den < 0
    · simp (disch := first | omega | (simp [-List.map_take, -List.map_drop, -List.map_set, -List.map_append, -List.drop_one] <;> omega) | fail) [-List.map_take, -List.map_drop, -List.map_set, -List.map_append, -List.drop_one, a95, sRep, sLive, h, h1, T201_r, T201_c, cSel_eq]
    · simp (disch := first | omega | (simp [-List.map_take, -List.map_drop, -List.map_set, -List.map_append, -List.drop_one] <;> omega) | fail) [-List.map_take, -List.map_drop, -List.map_set, -List.map_append, -List.drop_one, a95, sRep, sLive, h, h1, T201_r, T201_c, cSel_eq]
  · simp (disch := first | omega | (simp [-List.map_take, -List.map_drop, -List.map_set, -List.map_append, -List.drop_one] <;> omega) | fail) [-List.map_take, -List.map_drop, -List.map_set, -List.map_append, -List.drop_one, a95, sRep, sLive, h, T201_r, cSel_eq]
theorem runs_vic4 (g : Grp) (x : Ins) : Runs T201 a96 [.agg (grC g), .agg (inC x)] (.bool (sSpare g x)) := by
  refine ⟨?_⟩
  by_cases h : x.state = 2
  · simp (disch := first | omega | (simp [-List.map_take, -List.map_drop, -List.map_set, -List.map_append, -List.drop_one] <;> omega) | fail) [-List.map_take, -List.map_drop, -List.map_set, -List.map_append, -List.drop_one, a96, sSpare, sLive, h, T201_r, T201_c, cSel_eq]
  · simp (disch := first | omega | (simp [-List.map_take, -List.map_drop, -List.map_set, -List.map_append, -List.drop_one] <;> omega) | fail) [-List.map_take, -List.map_drop, -List.map_set, -List.map_append, -List.drop_one, a96, sSpare, sLive, h, T201_r, cSel_eq]
inductive W5 where
  | live | good | den | rep | spare
def W5.fid : W5 → Nat
  | .live => 84
  | .good => 86
  | .den => 88
  | .rep => 95
  | .spare => 96
def W5.sel : W5 → Grp → Ins → Bool
  | .live => sLive
  | .good => sGood
  | .den => sDen
  | .rep => sRep
  | .spare => sSpare
theorem W5.inj {a b : W5} (h : a.fid = b.fid) : a = b := by cases a <;> cases b <;> first | rfl | (simp [W5.fid] at h)
noncomputable def T202 : Tbl := addT 84 (.pure (cSel sLive)) (addT 86 (.pure (cSel sGood)) (addT 88 (.pure (cSel sDen)) (addT 95 (.pure (cSel sRep)) (addT 96 (.pure (cSel sSpare)) tbl0))))
theorem T202_w (w : W5) : T202 w.fid = .pure (cSel w.sel) := by cases w <;> simp [T202, W5.fid, W5.sel]
theorem T202_sound : T202.Sound P := addT_sound running_sound (addT_sound (cSel_sound fun g x => sem_runs mix T201_sound Tryd.func86 a86_ok (runs_good1 g x)) (addT_sound (cSel_sound fun g x => sem_runs mix T201_sound Tryd.func88 a88_ok (runs_vic1 g x)) (addT_sound (cSel_sound fun g x => sem_runs mix T201_sound Tryd.func95 a95_ok (runs_vic3 g x)) (addT_sound (cSel_sound fun g x => sem_runs mix T201_sound Tryd.func96 a96_ok (runs_vic4 g x)) tbl0_sound))))
def cmpI (a b : Int) : Int := if a < b then -1 else if b < a then 1 else 0
def orI (a b : Int) : Int := if a = 0 then b else a
noncomputable def cNaN : List DV → Option DV := con (fun _ => True) (fun a : Int => [.int .i64 a]) (fun _ => .bool false)
theorem cNaN_eq {a : Int} : cNaN [.int .i64 a] = some (.bool false) :=
  con_inj (f := fun a : Int => [.int .i64 a]) (g := fun _ => .bool false) (by intro a b e; simpa using e) a
theorem runs_nan64 (a : Int) : Runs tbl0 a109 [.int .i64 a] (.bool false) := by
  refine ⟨?_⟩
  simp (disch := first | omega | (simp [-List.map_take, -List.map_drop, -List.map_set, -List.map_append, -List.drop_one] <;> omega) | fail) [-List.map_take, -List.map_drop, -List.map_set, -List.map_append, -List.drop_one, a109]
theorem runs_nan (a : Int) : Runs tbl0 a111 [.int .i64 a] (.bool false) := by
  refine ⟨?_⟩
  simp (disch := first | omega | (simp [-List.map_take, -List.map_drop, -List.map_set, -List.map_append, -List.drop_one] <;> omega) | fail) [-List.map_take, -List.map_drop, -List.map_set, -List.map_append, -List.drop_one, a111]
noncomputable def T203 : Tbl := addT 109 (.pure cNaN) (addT 111 (.pure cNaN) tbl0)
theorem T203_a : T203 109 = .pure cNaN := by simp [T203]
theorem T203_b : T203 111 = .pure cNaN := by simp [T203]
theorem T203_sound : T203.Sound P := addT_sound (con_sound fun a _ => sem_runs mix tbl0_sound Tryd.func109 a109_ok (runs_nan64 a)) (addT_sound (con_sound fun a _ => sem_runs mix tbl0_sound Tryd.func111 a111_ok (runs_nan a)) tbl0_sound)
noncomputable def cII (f : Int → Int → DV) : List DV → Option DV := con (fun _ => True) (fun a : Int × Int => [.int .i64 a.1, .int .i64 a.2]) (fun a => f a.1 a.2)
theorem cII_eq {f : Int → Int → DV} {a b : Int} : cII f [.int .i64 a, .int .i64 b] = some (f a b) :=
  con_inj (f := fun a : Int × Int => [.int .i64 a.1, .int .i64 a.2]) (g := fun a => f a.1 a.2) (by
    rintro ⟨a, b⟩ ⟨c, d⟩ e
    simp only [List.cons.injEq, DV.int.injEq, and_true, true_and] at e
    rw [e.1, e.2]) (a, b)
theorem runs_cmp64 (a b : Int) : Runs T203 a92 [.int .i64 a, .int .i64 b] (.int .i64 (cmpI a b)) := by
  refine ⟨?_⟩
  by_cases h : a < b
  · simp (disch := first | omega | (simp [-List.map_take, -List.map_drop, -List.map_set, -List.map_append, -List.drop_one] <;> omega) | fail) [-List.map_take, -List.map_drop, -List.map_set, -List.map_append, -List.drop_one, a92, T203_a, cNaN_eq, cmpI, h]
  · by_cases h' : b < a
    · simp (disch := first | omega | (simp [-List.map_take, -List.map_drop, -List.map_set, -List.map_append, -List.drop_one] <;> omega) | fail) [-List.map_take, -List.map_drop, -List.map_set, -List.map_append, -List.drop_one, a92, T203_a, cNaN_eq, cmpI, h, h']
    · simp (disch := first | omega | (simp [-List.map_take, -List.map_drop, -List.map_set, -List.map_append, -List.drop_one] <;> omega) | fail) [-List.map_take, -List.map_drop, -List.map_set, -List.map_append, -List.drop_one, a92, T203_a, cNaN_eq, cmpI, h, h']
theorem runs_cmp (a b : Int) : Runs T203 a94 [.int .i64 a, .int .i64 b] (.int .i64 (cmpI a b)) := by
  refine ⟨?_⟩
  by_cases h : a < b
  · simp (disch := first | omega | (simp [-List.map_take, -List.map_drop, -List.map_set, -List.map_append, -List.drop_one] <;> omega) | fail) [-List.map_take, -List.map_drop, -List.map_set, -List.map_append, -List.drop_one, a94, T203_b, cNaN_eq, cmpI, h]
  · by_cases h' : b < a
    · simp (disch := first | omega | (simp [-List.map_take, -List.map_drop, -List.map_set, -List.map_append, -List.drop_one] <;> omega) | fail) [-List.map_take, -List.map_drop, -List.map_set, -List.map_append, -List.drop_one, a94, T203_b, cNaN_eq, cmpI, h, h']
    · simp (disch := first | omega | (simp [-List.map_take, -List.map_drop, -List.map_set, -List.map_append, -List.drop_one] <;> omega) | fail) [-List.map_take, -List.map_drop, -List.map_set, -List.map_append, -List.drop_one, a94, T203_b, cNaN_eq, cmpI, h, h']
noncomputable def cOr : List DV → Option DV := con (fun _ => True) (fun a : Int × Int => [.sl true 1 2 [.int .i64 a.1, .int .i64 a.2]]) (fun a => .int .i64 (orI a.1 a.2))
theorem cOr_eq {a b : Int} : cOr [.sl true 1 2 [.int .i64 a, .int .i64 b]] = some (.int .i64 (orI a b)) :=
  con_inj (f := fun a : Int × Int => [.sl true 1 2 [.int .i64 a.1, .int .i64 a.2]]) (g := fun a => .int .i64 (orI a.1 a.2)) (by
    rintro ⟨a, b⟩ ⟨c, d⟩ e
    simp only [List.cons.injEq, DV.sl.injEq, DV.int.injEq, and_true, true_and] at e
    rw [e.1, e.2]) (a, b)
def S204 (a b : Int) (i : Nat) : St := a91S0 (.int .i64 0) (.sl true 1 2 [.int .i64 a, .int .i64 b]) (.int .i64 2) (.int .i64 i) []
theorem runs_or (a b : Int) : Runs tbl0 a91 [.sl true 1 2 [.int .i64 a, .int .i64 b]] (.int .i64 (orI a b)) := by
  refine ⟨?_⟩
  simp (disch := first | omega | (simp [-List.map_take, -List.map_drop, -List.map_set, -List.map_append, -List.drop_one] <;> omega) | fail) [-List.map_take, -List.map_drop, -List.map_set, -List.map_append, -List.drop_one, a91]
  refine W_loop (S204 a b) (fun i => 2 - i) (fun i => i ≤ 2 ∧ (0 < i → a = 0) ∧ (1 < i → b = 0)) 0 (weak_same (by simp (disch := first | omega | (simp [-List.map_take, -List.map_drop, -List.map_set, -List.map_append, -List.drop_one] <;> omega) | fail) [-List.map_take, -List.map_drop, -List.map_set, -List.map_append, -List.drop_one]) (by simp (disch := first | omega | (simp [-List.map_take, -List.map_drop, -List.map_set, -List.map_append, -List.drop_one] <;> omega) | fail) [-List.map_take, -List.map_drop, -List.map_set, -List.map_append, -List.drop_one])) ⟨by omega, fun h => by omega, fun h => by omega⟩ (fun i hi => ?_)
  obtain ⟨h1, h2, h3⟩ := hi
  simp (disch := first | omega | (simp [-List.map_take, -List.map_drop, -List.map_set, -List.map_append, -List.drop_one] <;> omega) | fail) [-List.map_take, -List.map_drop, -List.map_set, -List.map_append, -List.drop_one, a91L0, a91S0, S204]
  rcases (show i = 0 ∨ i = 1 ∨ i = 2 by omega) with rfl | rfl | rfl
  · by_cases e : a = 0
    · simp (disch := first | omega | (simp [-List.map_take, -List.map_drop, -List.map_set, -List.map_append, -List.drop_one] <;> omega) | fail) [-List.map_take, -List.map_drop, -List.map_set, -List.map_append, -List.drop_one, e]
      refine ⟨1, weak_same (by simp (disch := first | omega | (simp [-List.map_take, -List.map_drop, -List.map_set, -List.map_append, -List.drop_one] <;> omega) | fail) [-List.map_take, -List.map_drop, -List.map_set, -List.map_append, -List.drop_one]) (by simp (disch := first | omega | (simp [-List.map_take, -List.map_drop, -List.map_set, -List.map_append, -List.drop_one] <;> omega) | fail) [-List.map_take, -List.map_drop, -List.map_set, -List.map_append, -List.drop_one]), ?_⟩
      simp [e]
    · simp (disch := first | omega | (simp [-List.map_take, -List.map_drop, -List.map_set, -List.map_append, -List.drop_one] <;> omega) | fail) [-List.map_take, -List.map_drop, -List.map_set, -List.map_append, -List.drop_one, e, orI]
  · have ha := h2 (by omega)
    by_cases e : b = 0
    · simp (disch := first | omega | (simp [-List.map_take, -List.map_drop, -List.map_set, -List.map_append, -List.drop_one] <;> omega) | fail) [-List.map_take, -List.map_drop, -List.map_set, -List.map_append, -List.drop_one, e]
      refine ⟨2, weak_same (by simp (disch := first | omega | (simp [-List.map_take, -List.map_drop, -List.map_set, -List.map_append, -List.drop_one] <;> omega) | fail) [-List.map_take, -List.map_drop, -List.map_set, -List.map_append, -List.drop_one]) (by simp (disch := first | omega | (simp [-List.map_take, -List.map_drop, -List.map_set, -List.map_append, -List.drop_one] <;> omega) | fail) [-List.map_take, -List.map_drop, -List.map_set, -List.map_append, -List.drop_one]), ?_⟩
      simp [e, ha]
    · simp (disch := first | omega | (simp [-List.map_take, -List.map_drop, -List.map_set, -List.map_append, -List.drop_one] <;> omega) | fail) [-List.map_take, -List.map_drop, -List.map_set, -List.map_append, -List.drop_one, e, orI, ha]
  · have ha := h2 (by omega)
    have hb := h3 (by omega)
    simp (disch := first | omega | (simp [-List.map_take, -List.map_drop, -List.map_set, -List.map_append, -List.drop_one] <;> omega) | fail) [-List.map_take, -List.map_drop, -List.map_set, -List.map_append, -List.drop_one, orI, ha, hb]
end Go.Proofs.YtjhakjeioppijaaDoor
set_option linter.unusedSimpArgs false
set_option linter.unusedVariables false
namespace Go.Proofs.YtjhakjeioppijaaDoor
open Go Go.Am
def idsL (c : Clu) (k : Int) (p : Grp → Ins → Bool) : List Ins := match grAt c k with
  | some g => selL c.i.l k (p g)
  | none => []
theorem idsP_eq {c : Clu} {k : Int} {p : Grp → Ins → Bool} : idsP c k p = (idsL c k p).map Ins.id := by unfold idsP idsL; cases grAt c k <;> rfl
def idC (l : List Ins) : List DV := (l.map Ins.id).flatMap inI
theorem idC_len (l : List Ins) : (idC l).length = l.length := by
  have := fm_len len_inI (l.map Ins.id)
  rw [idC, this]; simp
theorem idC_pure (l : List Ins) : pureL (idC l) = true := fm_pure pure_inI _
theorem belowL_id {n : Nat} {l : List Ins} : belowL n (idC l) = true := belowL_pure n _ (idC_pure l)
theorem belowL_idA {n : Nat} {l : List Ins} {y : Int} : belowL n (idC l ++ [.int .i64 y]) = true := belowL_pure n _ (pureL_append (idC_pure l) rfl)
theorem idC_app (l : List Ins) (x : Ins) : idC l ++ [.int .i64 x.id] = idC (l ++ [x]) := by simp [idC, inI]
theorem idC_one (x : Ins) : idC [x] = [.int .i64 x.id] := rfl
def idV (n : Nat) (l : List Ins) : DV := if l = [] then .nils else .ms n l.length 0 1 l.length l.length
def idO (c : Clu) (l : List Ins) : List AObj := match l with
  | [] => [.cells (clC c)]
  | x :: r => [.cells (clC c), .cells (inC x), .cells (idC (x :: r))]
theorem idV_nil {n : Nat} : idV n [] = .nils := rfl
theorem idV_ne {n : Nat} {l : List Ins} (h : l ≠ []) : idV n l = .ms n l.length 0 1 l.length l.length := if_neg h
theorem idO_nil {c : Clu} : idO c [] = [.cells (clC c)] := rfl
theorem idO_cons {c : Clu} {x : Ins} {r : List Ins} : idO c (x :: r) = [.cells (clC c), .cells (inC x), .cells (idC (x :: r))] := rfl
structure DSi where
  i : Nat
  l : List Ins
def S210 (c : Clu) (k : Int) (f : DV) (a : DSi) : St := a83S0 (.int .i64 k) f (.mp 0 3 0) (idV 2 a.l) (c.i.dv 37 inC) (.int .i64 c.i.l.length) (.int .i64 a.i) (idO c a.l)
theorem selL_take {l : List Ins} {k : Int} {p : Ins → Bool} {i : Nat} (h : i < l.length) : selL (l.take (i + 1)) k p = selL (l.take i) k p ++ (if decide (l[i].grp = k) && p l[i] then [l[i]] else []) := by
  rw [List.take_succ_eq_append_getElem h, selL, List.filter_append]
  congr 1
  simp only [List.filter_cons, List.filter_nil]
theorem appX_id {h : List AObj} {l : List Ins} {c : List DV} {o x : AObj} {y : Int} (hl : 0 < l.length) (hb : l.length < 4294967296) : appX [o, x, .cells (idC l), .cells c] 1 8 (.ms 2 l.length 0 1 l.length l.length) 1 [.int .i64 y] = some (.ms 2 (l.length + 1) 0 1 (l.length + 1) (l.length + 1), [o, x, .cells (idC l ++ [.int .i64 y]), .cells c]) := by
  have := idC_len l
  rw [appX_own (by simp) (by omega) (by omega) (by simp) (by omega) (by simp [DV.one])]
  simp [objV, objAt, this]
set_option maxHeartbeats 1000000 in
theorem runs_ids (c : Clu) (k : Int) (w : W5) : RunsH T202 a83 [.agg (clC c), .int .i64 k, .fn (.func w.fid) [] []] [] (idV 2 (idsL c k w.sel)) (idO c (idsL c k w.sel)) := by
  refine ⟨?_⟩
  obtain ⟨f, hf⟩ : ∃ f, w.fid = f := ⟨_, rfl⟩
  have hT := T202_w w
  rw [hf] at hT
  rw [hf]
  obtain ⟨p, hp⟩ : ∃ p, w.sel = p := ⟨_, rfl⟩
  rw [hp] at hT
  rw [hp]
  by_cases h0 : k < 0
  · have hg : grAt c k = none := if_neg (by omega)
    simp (disch := first | omega | (simp [-List.map_take, -List.map_drop, -List.map_set, -List.map_append, -List.drop_one] <;> omega) | fail) [-List.map_take, -List.map_drop, -List.map_set, -List.map_append, -List.drop_one, a83, h0, idsL, hg, idV, idO]
  obtain ⟨K, rfl⟩ : ∃ K : Nat, k = K := ⟨k.toNat, by omega⟩
  by_cases h1 : c.g.l.length ≤ K
  · have hg : grAt c K = none := by
      rw [grAt, if_pos (by omega), Int.toNat_natCast, List.getElem?_eq_none_iff]; exact h1
    have h1' : (c.g.l.length : Int) ≤ K := by omega
    simp (disch := first | omega | (simp [-List.map_take, -List.map_drop, -List.map_set, -List.map_append, -List.drop_one] <;> omega) | fail) [-List.map_take, -List.map_drop, -List.map_set, -List.map_append, -List.drop_one, a83, h0, h1, h1', idsL, hg, idV, idO]
  have h2 : K < c.g.l.length := by omega
  have hg : grAt c K = some c.g.l[K] := by rw [grAt, if_pos (by omega), Int.toNat_natCast, List.getElem?_eq_getElem h2]
  have h1' : ¬ (c.g.l.length : Int) ≤ K := by omega
  have hG := fun h => idxSD_dv (x := c.g) (h := h) len_grC h2
  have hL : idsL c K p = selL c.i.l K (p c.g.l[K]) := by unfold idsL; rw [hg]
  rw [hL]
  obtain ⟨G, hGe⟩ : ∃ G, c.g.l[K] = G := ⟨_, rfl⟩
  rw [hGe] at hG
  rw [hGe]
  have hib := c.i.b
  simp (disch := first | omega | (simp [-List.map_take, -List.map_drop, -List.map_set, -List.map_append, -List.drop_one] <;> omega) | fail) [-List.map_take, -List.map_drop, -List.map_set, -List.map_append, -List.drop_one, a83, h0, h1, h1']
  refine W_loop (S210 c K (.fn (.func f) [] [])) (fun a => c.i.l.length - a.i) (fun a => a.i ≤ c.i.l.length ∧ a.l = selL (c.i.l.take a.i) K (p G)) ⟨0, []⟩ (weak_same (by simp (disch := first | omega | (simp [-List.map_take, -List.map_drop, -List.map_set, -List.map_append, -List.drop_one] <;> omega) | fail) [-List.map_take, -List.map_drop, -List.map_set, -List.map_append, -List.drop_one, S210, a83S0, idV_nil]) (by simp (disch := first | omega | (simp [-List.map_take, -List.map_drop, -List.map_set, -List.map_append, -List.drop_one] <;> omega) | fail) [-List.map_take, -List.map_drop, -List.map_set, -List.map_append, -List.drop_one, S210, idO_nil])) ⟨by simp, by simp [selL]⟩ (fun a ha => ?_)
  obtain ⟨i, l⟩ := a
  obtain ⟨r1, r2⟩ := ha
  simp only at r1 r2
  simp (disch := first | omega | (simp [-List.map_take, -List.map_drop, -List.map_set, -List.map_append, -List.drop_one] <;> omega) | fail) [-List.map_take, -List.map_drop, -List.map_set, -List.map_append, -List.drop_one, a83L0, a83S0, S210]
  by_cases h : i < c.i.l.length
  · have h' : (i : Int) < c.i.l.length := by omega
    have hi := fun H => idxSD_dv (x := c.i) (h := H) len_inC h
    have hs := selL_take (k := K) (p := p G) h
    obtain ⟨x, hx⟩ : ∃ x, c.i.l[i] = x := ⟨_, rfl⟩
    rw [hx] at hs
    have hll : l.length ≤ i := by rw [r2]; exact Nat.le_trans (List.length_filter_le _ _) (by simp; omega)
    have hc := idC_len l
    rw [← r2] at hs
    by_cases e1 : x.grp = K
    · cases e2 : p G x with
      | true =>
        have hs' : selL (c.i.l.take (i + 1)) K (p G) = l ++ [x] := by rw [hs]; simp [e1, e2]
        cases l with
        | nil =>
          simp (disch := first | omega | (simp [-List.map_take, -List.map_drop, -List.map_set, -List.map_append, -List.drop_one] <;> omega) | fail) [-List.map_take, -List.map_drop, -List.map_set, -List.map_append, -List.drop_one, idV_nil, idO_nil, h, h', hi, hx, hG, hT, cSel_eq, e1, e2]
          refine ⟨⟨i + 1, [x]⟩, weak_same (by simp (disch := first | omega | (simp [-List.map_take, -List.map_drop, -List.map_set, -List.map_append, -List.drop_one] <;> omega) | fail) [-List.map_take, -List.map_drop, -List.map_set, -List.map_append, -List.drop_one, S210, a83S0, idV]) (by simp (disch := first | omega | (simp [-List.map_take, -List.map_drop, -List.map_set, -List.map_append, -List.drop_one] <;> omega) | fail) [-List.map_take, -List.map_drop, -List.map_set, -List.map_append, -List.drop_one, S210, idO_cons, idC_one]), by simp; omega, by simp; omega, by simpa using hs'.symm⟩
        | cons y l =>
          have hne : idV 2 (y :: l) = .ms 2 (y :: l).length 0 1 (y :: l).length (y :: l).length := rfl
          obtain ⟨L, hL⟩ : ∃ L, y :: l = L := ⟨_, rfl⟩
          have hLl : 0 < L.length := by rw [← hL]; simp
          have hO : ∀ z, idO c (L ++ [z]) = [.cells (clC c), .cells (inC y), .cells (idC L ++ [.int .i64 z.id])] := fun z => by rw [idC_app, ← hL]; rfl
          rw [hne, idO_cons]
          rw [hL] at hll hc hs' ⊢
          have hap := fun H o z c y => appX_id (h := H) (l := L) (o := o) (x := z) (c := c) (y := y) hLl (by omega)
          simp (disch := first | omega | (simp [-List.map_take, -List.map_drop, -List.map_set, -List.map_append, -List.drop_one] <;> omega) | fail) [-List.map_take, -List.map_drop, -List.map_set, -List.map_append, -List.drop_one, h, h', hi, hx, hG, hT, cSel_eq, e1, e2, hap, hc]
          refine ⟨⟨i + 1, L ++ [x]⟩, weak_drop (tail := [.cells (inC x)]) (by simp (disch := first | omega | (simp [-List.map_take, -List.map_drop, -List.map_set, -List.map_append, -List.drop_one] <;> omega) | fail) [-List.map_take, -List.map_drop, -List.map_set, -List.map_append, -List.drop_one, S210, a83S0, idV]) (by simp (disch := first | omega | (simp [-List.map_take, -List.map_drop, -List.map_set, -List.map_append, -List.drop_one] <;> omega) | fail) [-List.map_take, -List.map_drop, -List.map_set, -List.map_append, -List.drop_one, S210, hO]) (by simp [S210, a83S0, hO]) (by simp [S210, a83S0, hO, idV, belowL, Am.below]) (by simp [S210, a83S0, hO, belowH, belowL_id, belowL_idA]), by simp; omega, by simp; omega, by simpa using hs'.symm⟩
      | false =>
        have hs' : selL (c.i.l.take (i + 1)) K (p G) = l := by rw [hs]; simp [e2]
        cases l with
        | nil =>
          simp (disch := first | omega | (simp [-List.map_take, -List.map_drop, -List.map_set, -List.map_append, -List.drop_one] <;> omega) | fail) [-List.map_take, -List.map_drop, -List.map_set, -List.map_append, -List.drop_one, idV_nil, idO_nil, h, h', hi, hx, hG, hT, cSel_eq, e1, e2]
          refine ⟨⟨i + 1, []⟩, weak_drop (tail := [.cells (inC x)]) (by simp (disch := first | omega | (simp [-List.map_take, -List.map_drop, -List.map_set, -List.map_append, -List.drop_one] <;> omega) | fail) [-List.map_take, -List.map_drop, -List.map_set, -List.map_append, -List.drop_one, S210, a83S0, idV]) (by simp (disch := first | omega | (simp [-List.map_take, -List.map_drop, -List.map_set, -List.map_append, -List.drop_one] <;> omega) | fail) [-List.map_take, -List.map_drop, -List.map_set, -List.map_append, -List.drop_one, S210, idO_nil]) (by simp [S210, a83S0, idO_nil]) (by simp [S210, a83S0, idO_nil, idV, belowL, Am.below]) (by simp [S210, a83S0, idO_nil, belowH, belowL_id]), by simp; omega, by simp; omega, by simpa using hs'.symm⟩
        | cons y l =>
          simp (disch := first | omega | (simp [-List.map_take, -List.map_drop, -List.map_set, -List.map_append, -List.drop_one] <;> omega) | fail) [-List.map_take, -List.map_drop, -List.map_set, -List.map_append, -List.drop_one, idV, idO_cons, h, h', hi, hx, hG, hT, cSel_eq, e1, e2]
          refine ⟨⟨i + 1, y :: l⟩, weak_drop (tail := [.cells (inC x)]) (by simp (disch := first | omega | (simp [-List.map_take, -List.map_drop, -List.map_set, -List.map_append, -List.drop_one] <;> omega) | fail) [-List.map_take, -List.map_drop, -List.map_set, -List.map_append, -List.drop_one, S210, a83S0, idV]) (by simp (disch := first | omega | (simp [-List.map_take, -List.map_drop, -List.map_set, -List.map_append, -List.drop_one] <;> omega) | fail) [-List.map_take, -List.map_drop, -List.map_set, -List.map_append, -List.drop_one, S210, idO_cons]) (by simp [S210, a83S0, idO_cons]) (by simp [S210, a83S0, idO_cons, idV, belowL, Am.below]) (by simp [S210, a83S0, idO_cons, belowH, belowL_id]), by simp; omega, by simp; omega, by simpa using hs'.symm⟩
    · have hs' : selL (c.i.l.take (i + 1)) K (p G) = l := by rw [hs]; simp [e1]
      cases l with
      | nil =>
        simp (disch := first | omega | (simp [-List.map_take, -List.map_drop, -List.map_set, -List.map_append, -List.drop_one] <;> omega) | fail) [-List.map_take, -List.map_drop, -List.map_set, -List.map_append, -List.drop_one, idV_nil, idO_nil, h, h', hi, hx, hG, hT, cSel_eq, e1]
        refine ⟨⟨i + 1, []⟩, weak_drop (tail := [.cells (inC x)]) (by simp (disch := first | omega | (simp [-List.map_take, -List.map_drop, -List.map_set, -List.map_append, -List.drop_one] <;> omega) | fail) [-List.map_take, -List.map_drop, -List.map_set, -List.map_append, -List.drop_one, S210, a83S0, idV]) (by simp (disch := first | omega | (simp [-List.map_take, -List.map_drop, -List.map_set, -List.map_append, -List.drop_one] <;> omega) | fail) [-List.map_take, -List.map_drop, -List.map_set, -List.map_append, -List.drop_one, S210, idO_nil]) (by simp [S210, a83S0, idO_nil]) (by simp [S210, a83S0, idO_nil, idV, belowL, Am.below]) (by simp [S210, a83S0, idO_nil, belowH, belowL_id]), by simp; omega, by simp; omega, by simpa using hs'.symm⟩
      | cons y l =>
        simp (disch := first | omega | (simp [-List.map_take, -List.map_drop, -List.map_set, -List.map_append, -List.drop_one] <;> omega) | fail) [-List.map_take, -List.map_drop, -List.map_set, -List.map_append, -List.drop_one, idV, idO_cons, h, h', hi, hx, hG, hT, cSel_eq, e1]
        refine ⟨⟨i + 1, y :: l⟩, weak_drop (tail := [.cells (inC x)]) (by simp (disch := first | omega | (simp [-List.map_take, -List.map_drop, -List.map_set, -List.map_append, -List.drop_one] <;> omega) | fail) [-List.map_take, -List.map_drop, -List.map_set, -List.map_append, -List.drop_one, S210, a83S0, idV]) (by simp (disch := first | omega | (simp [-List.map_take, -List.map_drop, -List.map_set, -List.map_append, -List.drop_one] <;> omega) | fail) [-List.map_take, -List.map_drop, -List.map_set, -List.map_append, -List.drop_one, S210, idO_cons]) (by simp [S210, a83S0, idO_cons]) (by simp [S210, a83S0, idO_cons, idV, belowL, Am.below]) (by simp [S210, a83S0, idO_cons, belowH, belowL_id]), by simp; omega, by simp; omega, by simpa using hs'.symm⟩
  · have h' : ¬ (i : Int) < c.i.l.length := by omega
    have e : selL c.i.l K (p G) = l := by rw [r2, List.take_of_length_le (by omega)]
    simp (disch := first | omega | (simp [-List.map_take, -List.map_drop, -List.map_set, -List.map_append, -List.drop_one] <;> omega) | fail) [-List.map_take, -List.map_drop, -List.map_set, -List.map_append, -List.drop_one, h, h', e]
end Go.Proofs.YtjhakjeioppijaaDoor
set_option linter.unusedSimpArgs false
set_option linter.unusedVariables false
namespace Go.Proofs.YtjhakjeioppijaaDoor
open Go Go.Am
def liV (l : List Int) : DV := if l = [] then .nils else .sl false 1 l.length (l.flatMap inI)
theorem liV_nil : liV [] = .nils := rfl
theorem liV_ne {l : List Int} (h : l ≠ []) : liV l = .sl false 1 l.length (l.flatMap inI) := if_neg h
theorem liV_pure (l : List Int) : pureD (liV l) = true := by
  unfold liV; split
  · rfl
  · show pureL _ = true; exact fm_pure pure_inI l
theorem liV_len (H : List AObj) (l : List Int) : lenD H (liV l) = some (.int .i64 l.length) := by
  unfold liV; split
  · rename_i h; subst h; rfl
  · rfl
theorem liV_idx (H : List AObj) {l : List Int} {i : Nat} (hi : i < l.length) : idxSD H 1 (liV l) i = some (.ref [.int .i64 l[i]]) := by
  unfold liV; split
  · rename_i h; subst h; simp at hi
  · rw [idxSD_sl (by omega) (by omega), Int.toNat_natCast, fm_get len_inI hi]; rfl
theorem liV_one (l : List Int) : (liV l).one = true := by unfold liV; split <;> rfl
theorem liV_known (l : List Int) : (liV l).known = true := by unfold liV; split <;> rfl
theorem liV_cells (l : List Int) : (liV l).cells = [liV l] := by unfold liV; split <;> rfl
theorem liV_inj {a b : List Int} (h : liV a = liV b) : a = b := by
  unfold liV at h
  split at h <;> split at h
  · rename_i h1 h2; rw [h1, h2]
  · simp at h
  · simp at h
  · simp only [DV.sl.injEq] at h; exact inI_inj h.2.2.2
theorem liV_fz (n k : Nat) (H : List AObj) (l : List Int) : fz n H k (liV l) = some (liV l) := fz_clean (liV_pure l)
theorem liV_snap (k : Nat) (H : List AObj) (l : List Int) : snap H k (liV l) = some (liV l) := snap_clean (liV_pure l)
theorem liV_below (n : Nat) (l : List Int) : Am.below n (liV l) = true := below_pure n _ (liV_pure l)
attribute [simp] liV_pure liV_len liV_one liV_known liV_cells liV_fz liV_snap liV_below
theorem idV_sh {n m : Nat} {l : List Ins} : shD n (idV m l) = idV (n + m) l := by
  unfold idV; split <;> rfl
theorem idO_sh {n : Nat} {c : Clu} {l : List Ins} : (idO c l).map (shO n) = idO c l := by
  cases l with
  | nil => rw [idO_nil]; simp only [List.map_cons, List.map_nil, shO_cells, shL_pure n _ (pure_clC c)]
  | cons x r => rw [idO_cons]; simp only [List.map_cons, List.map_nil, shO_cells, shL_pure n _ (pure_clC c), shL_pure n _ (pure_inC x), shL_pure n _ (idC_pure _)]
noncomputable def cIds : List DV → Nat → Option (DV × List AObj) := conN (fun _ => True) (fun a : Clu × Int × W5 => [.agg (clC a.1), .int .i64 a.2.1, .fn (.func a.2.2.fid) [] []]) (fun a => (idV 2 (idsL a.1 a.2.1 a.2.2.sel), idO a.1 (idsL a.1 a.2.1 a.2.2.sel)))
theorem cIds_eq {c : Clu} {k : Int} (w : W5) {n : Nat} : cIds [.agg (clC c), .int .i64 k, .fn (.func w.fid) [] []] n = some (idV (n + 2) (idsL c k w.sel), idO c (idsL c k w.sel)) := by
  have := conN_eq (A := fun _ => True) (f := fun a : Clu × Int × W5 => [.agg (clC a.1), .int .i64 a.2.1, .fn (.func a.2.2.fid) [] []]) (g := fun a => (idV 2 (idsL a.1 a.2.1 a.2.2.sel), idO a.1 (idsL a.1 a.2.1 a.2.2.sel))) (by
    rintro ⟨a, b, c⟩ ⟨a', b', c'⟩ e
    simp only [List.cons.injEq, DV.agg.injEq, DV.int.injEq, DV.fn.injEq, Fn.func.injEq, and_true, true_and] at e
    rw [clC_inj e.1, e.2.1, W5.inj e.2.2]) (c, k, w) trivial n
  rw [idV_sh, idO_sh] at this
  exact this
theorem ids_sound : (Con.new cIds).Sound P 83 := conN_sound (fun a _ => by simp [pureL, pureD, pure_clC]) fun a _ => calls_runs mix T202_sound Tryd.func83 a83_ok (runs_ids a.1 a.2.1 a.2.2)
noncomputable def T211 : Tbl := addT 83 (.new cIds) tbl0
theorem T211_i : T211 83 = .new cIds := by simp [T211]
theorem T211_sound : T211.Sound P := addT_sound ids_sound tbl0_sound
theorem cIds_live {c : Clu} {k : Int} {n : Nat} : cIds [.agg (clC c), .int .i64 k, .fn (.func 84) [] []] n = some (idV (n + 2) (idsL c k sLive), idO c (idsL c k sLive)) := cIds_eq .live
theorem cIds_good {c : Clu} {k : Int} {n : Nat} : cIds [.agg (clC c), .int .i64 k, .fn (.func 86) [] []] n = some (idV (n + 2) (idsL c k sGood), idO c (idsL c k sGood)) := cIds_eq .good
theorem cIds_den {c : Clu} {k : Int} {n : Nat} : cIds [.agg (clC c), .int .i64 k, .fn (.func 88) [] []] n = some (idV (n + 2) (idsL c k sDen), idO c (idsL c k sDen)) := cIds_eq .den
theorem cIds_rep {c : Clu} {k : Int} {n : Nat} : cIds [.agg (clC c), .int .i64 k, .fn (.func 95) [] []] n = some (idV (n + 2) (idsL c k sRep), idO c (idsL c k sRep)) := cIds_eq .rep
theorem cIds_spare {c : Clu} {k : Int} {n : Nat} : cIds [.agg (clC c), .int .i64 k, .fn (.func 96) [] []] n = some (idV (n + 2) (idsL c k sSpare), idO c (idsL c k sSpare)) := cIds_eq .spare
theorem runs_live (c : Clu) (k : Int) : Runs T211 a45 [.agg (clC c), .int .i64 k] (.int .i64 (liveP c k)) := by
  refine ⟨?_⟩
  have e : liveP c k = (idsL c k sLive).length := by rw [liveP, idsP_eq, List.length_map]
  rw [e]
  cases hl : idsL c k sLive with
  | nil => simp (disch := first | omega | (simp [-List.map_take, -List.map_drop, -List.map_set, -List.map_append, -List.drop_one] <;> omega) | fail) [-List.map_take, -List.map_drop, -List.map_set, -List.map_append, -List.drop_one, a45, T211_i, cIds_live, hl, idV_nil, idO_nil]
  | cons x r =>
    have h1 := idC_len (x :: r)
    simp only [List.length_cons] at h1
    have h2 : idV 3 (x :: r) = .ms 3 (r.length + 1) 0 1 (r.length + 1) (r.length + 1) := rfl
    simp (disch := first | omega | (simp [-List.map_take, -List.map_drop, -List.map_set, -List.map_append, -List.drop_one] <;> omega) | fail) [-List.map_take, -List.map_drop, -List.map_set, -List.map_append, -List.drop_one, a45, T211_i, cIds_live, hl, h2, idO_cons, h1]
theorem idC_take (l : List Ins) : (idC l).take l.length = idC l := List.take_of_length_le (by rw [idC_len]; omega)
theorem runs_good (c : Clu) (k : Int) : Runs T211 a48 [.agg (clC c), .int .i64 k] (liV (goodP c k)) := by
  refine ⟨?_⟩
  have e : goodP c k = (idsL c k sGood).map Ins.id := by rw [goodP, idsP_eq]
  rw [e]
  cases hl : idsL c k sGood with
  | nil => simp (disch := first | omega | (simp [-List.map_take, -List.map_drop, -List.map_set, -List.map_append, -List.drop_one] <;> omega) | fail) [-List.map_take, -List.map_drop, -List.map_set, -List.map_append, -List.drop_one, a48, T211_i, cIds_good, hl, idV_nil, idO_nil, liV_nil]
  | cons x r =>
    have h1 := idC_len (x :: r)
    have h3 := idC_take (x :: r)
    simp only [List.length_cons] at h1 h3
    have h2 : idV 3 (x :: r) = .ms 3 (r.length + 1) 0 1 (r.length + 1) (r.length + 1) := rfl
    have h4 : liV (x.id :: r.map Ins.id) = .sl false 1 (r.length + 1) (idC (x :: r)) := by
      have : liV ((x :: r).map Ins.id) = .sl false 1 ((x :: r).map Ins.id).length (idC (x :: r)) := rfl
      simpa using this
    simp (disch := first | omega | (simp [-List.map_take, -List.map_drop, -List.map_set, -List.map_append, -List.drop_one] <;> omega) | fail) [-List.map_take, -List.map_drop, -List.map_set, -List.map_append, -List.drop_one, a48, T211_i, cIds_good, hl, h2, idO_cons, h1, h3, h4, snapL_clean (idC_pure _)]
noncomputable def cCk (f : Clu → Int → DV) : List DV → Option DV := con (fun _ => True) (fun a : Clu × Int => [.agg (clC a.1), .int .i64 a.2]) (fun a => f a.1 a.2)
theorem cCk_eq {f : Clu → Int → DV} {c : Clu} {k : Int} : cCk f [.agg (clC c), .int .i64 k] = some (f c k) :=
  con_inj (f := fun a : Clu × Int => [.agg (clC a.1), .int .i64 a.2]) (g := fun a => f a.1 a.2) (by
    rintro ⟨a, b⟩ ⟨c, d⟩ e
    simp only [List.cons.injEq, DV.agg.injEq, DV.int.injEq, and_true, true_and] at e
    rw [clC_inj e.1, e.2]) (c, k)
def liveD (c : Clu) (k : Int) : DV := .int .i64 (liveP c k)
def goodD (c : Clu) (k : Int) : DV := liV (goodP c k)
def roomD (c : Clu) (k : Int) : DV := .int .i64 (roomP c k)
noncomputable def T212 : Tbl := addT 45 (.pure (cCk liveD)) (addT 48 (.pure (cCk goodD)) tbl0)
theorem T212_l : T212 45 = .pure (cCk liveD) := by simp [T212]
theorem live_sound : (Con.pure (cCk liveD)).Sound P 45 := con_sound fun a _ => sem_runs mix T211_sound Tryd.func45 a45_ok (runs_live a.1 a.2)
theorem good_sound : (Con.pure (cCk goodD)).Sound P 48 := con_sound fun a _ => sem_runs mix T211_sound Tryd.func48 a48_ok (runs_good a.1 a.2)
theorem T212_sound : T212.Sound P := addT_sound live_sound (addT_sound good_sound tbl0_sound)
theorem grAt_neg {c : Clu} {k : Int} (h : k < 0) : grAt c k = none := if_neg (by omega)
theorem grAt_big {c : Clu} {K : Nat} (h : c.g.l.length ≤ K) : grAt c K = none := by
  rw [grAt, if_pos (by omega), Int.toNat_natCast, List.getElem?_eq_none_iff]; exact h
theorem grAt_in {c : Clu} {K : Nat} (h : K < c.g.l.length) : grAt c K = some c.g.l[K] := by rw [grAt, if_pos (by omega), Int.toNat_natCast, List.getElem?_eq_getElem h]
def LimOK (g : Grp) : Prop := (-1000000000 ≤ g.want ∧ g.want ≤ 1000000000) ∧ (-1000000000 ≤ g.least ∧ g.least ≤ 1000000000) ∧ -1000000000 ≤ g.down ∧ g.down ≤ 1000000000
theorem live_le {c : Clu} {k : Int} : liveP c k ≤ c.i.l.length := by
  unfold liveP idsP
  split
  · rw [List.length_map]; exact List.length_filter_le _ _
  · simp
theorem good_le {c : Clu} {k : Int} : (goodP c k).length ≤ c.i.l.length := by
  unfold goodP idsP
  split
  · rw [List.length_map]; exact List.length_filter_le _ _
  · simp
theorem runs_room (c : Clu) (k : Int) (hL : ∀ g ∈ c.g.l, LimOK g) : Runs T212 a50 [.agg (clC c), .int .i64 k] (roomD c k) := by
  refine ⟨?_⟩
  by_cases h0 : k < 0
  · have hr : roomP c k = 0 := by rw [roomP, grAt_neg h0]
    simp (disch := first | omega | (simp [-List.map_take, -List.map_drop, -List.map_set, -List.map_append, -List.drop_one] <;> omega) | fail) [-List.map_take, -List.map_drop, -List.map_set, -List.map_append, -List.drop_one, a50, h0, roomD, hr]
  obtain ⟨K, rfl⟩ : ∃ K : Nat, k = K := ⟨k.toNat, by omega⟩
  by_cases h1 : c.g.l.length ≤ K
  · have hr : roomP c K = 0 := by rw [roomP, grAt_big h1]
    have h1' : (c.g.l.length : Int) ≤ K := by omega
    simp (disch := first | omega | (simp [-List.map_take, -List.map_drop, -List.map_set, -List.map_append, -List.drop_one] <;> omega) | fail) [-List.map_take, -List.map_drop, -List.map_set, -List.map_append, -List.drop_one, a50, h0, h1, h1', roomD, hr]
  have h2 : K < c.g.l.length := by omega
  have h1' : ¬ (c.g.l.length : Int) ≤ K := by omega
  have hG := fun h => idxSD_dv (x := c.g) (h := h) len_grC h2
  have hlim := hL _ (List.getElem_mem h2)
  have hr : roomP c K = max ((liveP c K : Int) - max c.g.l[K].least (c.g.l[K].want - c.g.l[K].down)) 0 := by rw [roomP, grAt_in h2]
  obtain ⟨G, hGe⟩ : ∃ G, c.g.l[K] = G := ⟨_, rfl⟩
  rw [hGe] at hG hlim hr
  obtain ⟨⟨w1, w2⟩, ⟨l1, l2⟩, d1, d2⟩ := hlim
  have hll := live_le (c := c) (k := K)
  have hib := c.i.b
  obtain ⟨M, hM⟩ : ∃ M, max G.least (G.want - G.down) = M := ⟨_, rfl⟩
  rw [hM] at hr
  have m1 : -2000000000 ≤ M ∧ M ≤ 2000000000 := by omega
  simp (disch := first | omega | (simp [-List.map_take, -List.map_drop, -List.map_set, -List.map_append, -List.drop_one] <;> omega) | fail) [-List.map_take, -List.map_drop, -List.map_set, -List.map_append, -List.drop_one, a50, h0, h1, h1', hG, T212_l, cCk_eq, liveD, roomD, hr, storeO_gr, hM, E_mm2, mm2_max]
end Go.Proofs.YtjhakjeioppijaaDoor
set_option linter.unusedSimpArgs false
set_option linter.unusedVariables false
namespace Go.Proofs.YtjhakjeioppijaaDoor
open Go Go.Am
theorem runs_since1 (x : Ins) (id : Int) : Runs tbl0 a110 [.agg (inC x), .ref [.int .i64 id]] (.bool (decide (x.id = id))) := by
  refine ⟨?_⟩
  simp (disch := first | omega | (simp [-List.map_take, -List.map_drop, -List.map_set, -List.map_append, -List.drop_one] <;> omega) | fail) [-List.map_take, -List.map_drop, -List.map_set, -List.map_append, -List.drop_one, a110]
noncomputable def T213 : Tbl := addT 110 (.pure cFi1) tbl0
theorem T213_g : T213 110 = .pure cFi1 := by simp [T213]
theorem T213_sound : T213.Sound P := addT_sound (con_sound fun p _ => sem_runs mix tbl0_sound Tryd.func110 a110_ok (runs_since1 p.1 p.2)) tbl0_sound
abbrev fS (id : Int) : DV := .fn (.func 110) [] [.ref [.int .i64 id]]
def S213 (x : Sl Ins) (id : Int) (i : Nat) : St := a68S0 (x.dv 37 inC) (fS id) (.int .i64 x.l.length) (.int .i64 i) []
theorem runs_ixinS (x : Sl Ins) (id : Int) : Runs T213 a68 [x.dv 37 inC, fS id] (.int .i64 (findIx x.l id)) := by
  refine ⟨?_⟩
  have hb := x.b
  simp (disch := first | omega | (simp [-List.map_take, -List.map_drop, -List.map_set, -List.map_append, -List.drop_one] <;> omega) | fail) [-List.map_take, -List.map_drop, -List.map_set, -List.map_append, -List.drop_one, a68]
  refine W_loop (S213 x id) (fun i => x.l.length - i) (fun i => i ≤ x.l.length ∧ ∀ j (hj : j < x.l.length), j < i → decide (x.l[j].id = id) = false) 0 (weak_same (by simp (disch := first | omega | (simp [-List.map_take, -List.map_drop, -List.map_set, -List.map_append, -List.drop_one] <;> omega) | fail) [-List.map_take, -List.map_drop, -List.map_set, -List.map_append, -List.drop_one]) (by simp (disch := first | omega | (simp [-List.map_take, -List.map_drop, -List.map_set, -List.map_append, -List.drop_one] <;> omega) | fail) [-List.map_take, -List.map_drop, -List.map_set, -List.map_append, -List.drop_one])) ⟨by omega, fun j _ hj => by omega⟩ (fun i hi => ?_)
  obtain ⟨h1, h2⟩ := hi
  simp (disch := first | omega | (simp [-List.map_take, -List.map_drop, -List.map_set, -List.map_append, -List.drop_one] <;> omega) | fail) [-List.map_take, -List.map_drop, -List.map_set, -List.map_append, -List.drop_one, a68L0, a68S0, S213]
  by_cases h : i < x.l.length
  · have h' : (i : Int) < x.l.length := by omega
    have hg := idxSD_dv (x := x) (h := []) len_inC h
    by_cases e : x.l[i].id = id
    · have hr : findIx x.l id = i := ixI_at h (by simp [e]) h2
      simp (disch := first | omega | (simp [-List.map_take, -List.map_drop, -List.map_set, -List.map_append, -List.drop_one] <;> omega) | fail) [-List.map_take, -List.map_drop, -List.map_set, -List.map_append, -List.drop_one, h', h, hg, T213_g, cFi1_eq, e, hr]
    · simp (disch := first | omega | (simp [-List.map_take, -List.map_drop, -List.map_set, -List.map_append, -List.drop_one] <;> omega) | fail) [-List.map_take, -List.map_drop, -List.map_set, -List.map_append, -List.drop_one, h', h, hg, T213_g, cFi1_eq, e]
      refine ⟨i + 1, weak_same (by simp (disch := first | omega | (simp [-List.map_take, -List.map_drop, -List.map_set, -List.map_append, -List.drop_one] <;> omega) | fail) [-List.map_take, -List.map_drop, -List.map_set, -List.map_append, -List.drop_one]) (by simp (disch := first | omega | (simp [-List.map_take, -List.map_drop, -List.map_set, -List.map_append, -List.drop_one] <;> omega) | fail) [-List.map_take, -List.map_drop, -List.map_set, -List.map_append, -List.drop_one]), by omega, by omega, fun j hj hji => ?_⟩
      by_cases ej : j = i
      · subst ej; exact e
      · simpa using h2 j hj (by omega)
  · have h' : ¬ (i : Int) < x.l.length := by omega
    have hr : findIx x.l id = -1 := ixI_none (fun j hj => h2 j hj (by omega))
    simp (disch := first | omega | (simp [-List.map_take, -List.map_drop, -List.map_set, -List.map_append, -List.drop_one] <;> omega) | fail) [-List.map_take, -List.map_drop, -List.map_set, -List.map_append, -List.drop_one, h, h', hr]
noncomputable def cIxS : List DV → Option DV := con (fun _ => True) (fun p : Sl Ins × Int => [p.1.dv 37 inC, fS p.2]) (fun p => .int .i64 (findIx p.1.l p.2))
theorem cIxS_eq {x : Sl Ins} {id : Int} : cIxS [x.dv 37 inC, fS id] = some (.int .i64 (findIx x.l id)) :=
  con_inj (f := fun p : Sl Ins × Int => [p.1.dv 37 inC, fS p.2]) (by
    rintro ⟨a, b⟩ ⟨a', b'⟩ e
    simp only [List.cons.injEq, DV.fn.injEq, DV.ref.injEq, DV.int.injEq, and_true, true_and] at e
    rw [dv_inj len_inC (by decide) (fun _ _ => inC_inj) e.1, e.2]) (x, id)
noncomputable def T214 : Tbl := addT 68 (.pure cIxS) tbl0
theorem T214_g : T214 68 = .pure cIxS := by simp [T214]
theorem T214_sound : T214.Sound P := addT_sound (con_sound fun p _ => sem_runs mix T213_sound Tryd.func68 a68_ok (runs_ixinS p.1 p.2)) tbl0_sound
theorem since_ix {c : Clu} {id : Int} (h : 0 ≤ findIx c.i.l id) : ∃ (i : Nat) (hi : i < c.i.l.length), findIx c.i.l id = i ∧ c.i.l[i].den = sinceP c id := by
  obtain ⟨i, hi, e, p1, p2⟩ := ixI_pos h
  refine ⟨i, hi, e, ?_⟩
  have : c.i.l.find? (fun x => decide (x.id = id)) = some c.i.l[i] := by
    rw [List.find?_eq_some_iff_getElem]
    exact ⟨p1, i, hi, rfl, fun j hj => by simpa using p2 j (by omega) hj⟩
  rw [sinceP, this]
theorem runs_since (c : Clu) (id : Int) (h : 0 ≤ findIx c.i.l id) : Runs T214 a93 [.agg (clC c), .int .i64 id] (.int .i64 (sinceP c id)) := by
  refine ⟨?_⟩
  obtain ⟨i, hi, e1, e2⟩ := since_ix h
  have hg := fun H => idxSD_dv (x := c.i) (h := H) len_inC hi
  simp (disch := first | omega | (simp [-List.map_take, -List.map_drop, -List.map_set, -List.map_append, -List.drop_one] <;> omega) | fail) [-List.map_take, -List.map_drop, -List.map_set, -List.map_append, -List.drop_one, a93, T214_g, cIxS_eq, e1, hg, e2]
noncomputable def cSi : List DV → Option DV := con (fun a : Clu × Int => 0 ≤ findIx a.1.i.l a.2) (fun a : Clu × Int => [.agg (clC a.1), .int .i64 a.2]) (fun a => .int .i64 (sinceP a.1 a.2))
theorem cSi_eq {c : Clu} {id : Int} (h : 0 ≤ findIx c.i.l id) : cSi [.agg (clC c), .int .i64 id] = some (.int .i64 (sinceP c id)) :=
  con_eq (f := fun a : Clu × Int => [.agg (clC a.1), .int .i64 a.2]) (g := fun a => .int .i64 (sinceP a.1 a.2)) (by
    rintro ⟨a, b⟩ ⟨c, d⟩ e
    simp only [List.cons.injEq, DV.agg.injEq, DV.int.injEq, and_true, true_and] at e
    rw [clC_inj e.1, e.2]) (c, id) h
noncomputable def T215 : Tbl := addT 93 (.pure cSi) (addT 92 (.pure (cII fun a b => .int .i64 (cmpI a b))) (addT 94 (.pure (cII fun a b => .int .i64 (cmpI a b))) (addT 91 (.pure cOr) tbl0)))
theorem T215_s : T215 93 = .pure cSi := by simp [T215]
theorem T215_a : T215 92 = .pure (cII fun a b => .int .i64 (cmpI a b)) := by simp [T215]
theorem T215_b : T215 94 = .pure (cII fun a b => .int .i64 (cmpI a b)) := by simp [T215]
theorem T215_o : T215 91 = .pure cOr := by simp [T215]
theorem T215_sound : T215.Sound P := addT_sound (con_sound fun p h => sem_runs mix T214_sound Tryd.func93 a93_ok (runs_since p.1 p.2 h)) (addT_sound (con_sound fun p _ => sem_runs mix T203_sound Tryd.func92 a92_ok (runs_cmp64 p.1 p.2)) (addT_sound (con_sound fun p _ => sem_runs mix T203_sound Tryd.func94 a94_ok (runs_cmp p.1 p.2)) (addT_sound (con_sound fun p _ => sem_runs mix tbl0_sound Tryd.func91 a91_ok (runs_or p.1 p.2)) tbl0_sound)))
def cmpV (c : Clu) (a b : Int) : Int := orI (cmpI (sinceP c a) (sinceP c b)) (cmpI a b)
theorem cmpV_lt {c : Clu} {a b : Int} : cmpV c a b < 0 ↔ ltV c a b = true := by
  simp only [cmpV, orI, cmpI, ltV, Bool.or_eq_true, Bool.and_eq_true, decide_eq_true_eq]
  split <;> (try split at *) <;> (try split) <;> (try split) <;> omega
theorem runs_vic2 (c : Clu) (a b : Int) (ha : 0 ≤ findIx c.i.l a) (hb : 0 ≤ findIx c.i.l b) : Runs T215 a90 [.int .i64 a, .int .i64 b, .ref (clC c)] (.int .i64 (cmpV c a b)) := by
  refine ⟨?_⟩
  have h1 := cSi_eq ha
  have h2 := cSi_eq hb
  simp (disch := first | omega | (simp [-List.map_take, -List.map_drop, -List.map_set, -List.map_append, -List.drop_one] <;> omega) | fail) [-List.map_take, -List.map_drop, -List.map_set, -List.map_append, -List.drop_one, a90, T215_s, T215_a, T215_b, T215_o, h1, h2, cII_eq, cOr_eq, cmpV]
end Go.Proofs.YtjhakjeioppijaaDoor
set_option linter.unusedSimpArgs false
set_option linter.unusedVariables false
namespace Go.Proofs.YtjhakjeioppijaaDoor
open Go Go.Am
noncomputable def cV2 : List DV → Option DV := con (fun a : Clu × Int × Int => 0 ≤ findIx a.1.i.l a.2.1 ∧ 0 ≤ findIx a.1.i.l a.2.2) (fun a : Clu × Int × Int => [.int .i64 a.2.1, .int .i64 a.2.2, .ref (clC a.1)]) (fun a => .int .i64 (cmpV a.1 a.2.1 a.2.2))
theorem cV2_eq {c : Clu} {a b : Int} (ha : 0 ≤ findIx c.i.l a) (hb : 0 ≤ findIx c.i.l b) : cV2 [.int .i64 a, .int .i64 b, .ref (clC c)] = some (.int .i64 (cmpV c a b)) :=
  con_eq (f := fun a : Clu × Int × Int => [.int .i64 a.2.1, .int .i64 a.2.2, .ref (clC a.1)]) (g := fun a => .int .i64 (cmpV a.1 a.2.1 a.2.2)) (by
    rintro ⟨a, b, c⟩ ⟨d, e, f⟩ h
    simp only [List.cons.injEq, DV.ref.injEq, DV.int.injEq, and_true, true_and] at h
    rw [clC_inj h.2.2, h.1, h.2.1]) (c, a, b) ⟨ha, hb⟩
noncomputable def T216 : Tbl := addT 90 (.pure cV2) tbl0
theorem T216_v : T216 90 = .pure cV2 := by simp [T216]
theorem T216_sound : T216.Sound P := addT_sound (con_sound fun p h => sem_runs mix T215_sound Tryd.func90 a90_ok (runs_vic2 p.1 p.2.1 p.2.2 h.1 h.2)) tbl0_sound
theorem objV_pre0 {pre l : List AObj} {ver : Nat} : objV (pre ++ l) pre.length ver = objV l 0 ver := by
  unfold objV objAt; rw [List.getElem?_append_right (by omega), Nat.sub_self]
theorem set_pre0 {pre l : List AObj} {o : AObj} : (pre ++ l).set pre.length o = pre ++ l.set 0 o := by rw [List.set_append_right _ _ (by omega)]; simp
abbrev fV2 : DV := .fn (.func 90) [] [.mp 0 3 0]
structure IP where
  A : List Int
  B : List Int
def S220 (pre : List AObj) (P : Nat) (n : Nat) (l : List Int) (lt : Int → Int → Bool) (i : Nat) : St := a116S0 (.ms P n 0 1 n n) (.int .i64 0) (.int .i64 n) fV2 (.int .i64 i) (pre ++ [.cells ((sortR lt (l.take i) ++ l.drop i).map (.int .i64))])
def S221 (pre : List AObj) (P : Nat) (n i : Nat) (x : Int) (R : List Int) (a : IP) : St := a116S1 (.ms P n 0 1 n n) (.int .i64 0) (.int .i64 n) fV2 (.int .i64 i) (.int .i64 a.A.length) (pre ++ [.cells ((a.A ++ x :: (a.B ++ R)).map (.int .i64))])
theorem sortR_len {lt : Int → Int → Bool} (l : List Int) : (sortR lt l).length = l.length := (sortR_perm l).length_eq
theorem sortR_one {lt : Int → Int → Bool} {l : List Int} (h : l.length ≤ 1) : sortR lt l = l := by
  match l, h with
  | [], _ => rfl
  | [a], _ => rfl
theorem swap_set {A B R : List Int} {x y : Int} : ((A ++ [y] ++ x :: (B ++ R)).set (A.length + 1) y).set A.length x = A ++ x :: (y :: B ++ R) := by
  rw [List.append_assoc, List.set_append_right _ _ (by omega), show A.length + 1 - A.length = 1 by omega, List.set_append_right _ _ (by omega), Nat.sub_self]
  rfl
theorem runs_ins (c : Clu) (pre : List AObj) (l : List Int) (hpre : ∀ X, objV (pre ++ X) 0 3 = some (clC c)) (hl : ∀ a ∈ l, 0 ≤ findIx c.i.l a) (hb : l.length ≤ 1000000) :
    RunsH T216 a116 [.ms pre.length l.length 0 1 l.length l.length, .int .i64 0, .int .i64 l.length, fV2] (pre ++ [.cells (l.map (.int .i64))]) (.tup []) (pre ++ [.cells ((sortR (ltV c) l).map (.int .i64))]) := by
  refine ⟨?_⟩
  obtain ⟨n, hn⟩ : ∃ n, l.length = n := ⟨_, rfl⟩
  obtain ⟨P0, hP⟩ : ∃ p, pre.length = p := ⟨_, rfl⟩
  obtain ⟨lt, hlt⟩ : ∃ lt, ltV c = lt := ⟨_, rfl⟩
  rw [hn, hlt]
  rw [hn] at hb
  simp (disch := first | omega | (simp [-List.map_take, -List.map_drop, -List.map_set, -List.map_append, -List.drop_one] <;> omega) | fail) [-List.map_take, -List.map_drop, -List.map_set, -List.map_append, -List.drop_one, a116]
  refine W_loop (S220 pre pre.length n l lt) (fun i => n + 1 - i) (fun i => 1 ≤ i ∧ (i ≤ n ∨ n = 0)) 1 (weak_same (by simp (disch := first | omega | (simp [-List.map_take, -List.map_drop, -List.map_set, -List.map_append, -List.drop_one] <;> omega) | fail) [-List.map_take, -List.map_drop, -List.map_set, -List.map_append, -List.drop_one, S220, a116S0]) ?_) ⟨by omega, by omega⟩ (fun i hi => ?_)
  · simp (disch := first | omega | (simp [-List.map_take, -List.map_drop, -List.map_set, -List.map_append, -List.drop_one] <;> omega) | fail) [-List.map_take, -List.map_drop, -List.map_set, -List.map_append, -List.drop_one, S220, a116S0]
    rw [sortR_one (by simp; omega), List.take_append_drop]
  obtain ⟨h1, h2⟩ := hi
  simp (disch := first | omega | (simp [-List.map_take, -List.map_drop, -List.map_set, -List.map_append, -List.drop_one] <;> omega) | fail) [-List.map_take, -List.map_drop, -List.map_set, -List.map_append, -List.drop_one, a116L0, a116S0, S220]
  by_cases h : i < n
  · have h' : (i : Int) < n := by omega
    have hil : i < l.length := by omega
    obtain ⟨x, hx⟩ : ∃ x, l[i] = x := ⟨_, rfl⟩
    have hd : l.drop i = x :: l.drop (i + 1) := by rw [List.drop_eq_getElem_cons hil, hx]
    obtain ⟨Q, hQ⟩ : ∃ Q, sortR lt (l.take i) = Q := ⟨_, rfl⟩
    have hQl : Q.length = i := by rw [← hQ, sortR_len]; simp; omega
    have hnext : sortR lt (l.take (i + 1)) = insR lt x Q := by rw [List.take_succ_eq_append_getElem hil, sortR_snoc, hQ, hx]
    have hQm : ∀ y ∈ Q, 0 ≤ findIx c.i.l y := fun y hy => hl y (List.mem_of_mem_take ((sortR_perm _).mem_iff.1 (hQ ▸ hy)))
    have hxm : 0 ≤ findIx c.i.l x := hl x (hx ▸ List.getElem_mem hil)
    obtain ⟨R, hR⟩ : ∃ R, l.drop (i + 1) = R := ⟨_, rfl⟩
    have hRl : R.length = n - (i + 1) := by rw [← hR]; simp; omega
    rw [hd, hQ, hR]
    simp (disch := first | omega | (simp [-List.map_take, -List.map_drop, -List.map_set, -List.map_append, -List.drop_one] <;> omega) | fail) [-List.map_take, -List.map_drop, -List.map_set, -List.map_append, -List.drop_one, h, h']
    refine W_loop (S221 pre pre.length n i x R) (fun a => a.A.length) (fun a => a.A ++ a.B = Q ∧ ∀ b ∈ a.B, lt x b = true) ⟨Q, []⟩ (weak_same (by simp (disch := first | omega | (simp [-List.map_take, -List.map_drop, -List.map_set, -List.map_append, -List.drop_one] <;> omega) | fail) [-List.map_take, -List.map_drop, -List.map_set, -List.map_append, -List.drop_one, S221, a116S1, hQl]) (by simp (disch := first | omega | (simp [-List.map_take, -List.map_drop, -List.map_set, -List.map_append, -List.drop_one] <;> omega) | fail) [-List.map_take, -List.map_drop, -List.map_set, -List.map_append, -List.drop_one, S221, a116S1])) ⟨by simp, by simp⟩ (fun a ha => ?_)
    obtain ⟨A, B⟩ := a
    obtain ⟨r1, r2⟩ := ha
    simp only at r1 r2
    simp (disch := first | omega | (simp [-List.map_take, -List.map_drop, -List.map_set, -List.map_append, -List.drop_one] <;> omega) | fail) [-List.map_take, -List.map_drop, -List.map_set, -List.map_append, -List.drop_one, a116L1, a116S1, S221]
    rcases (List.eq_nil_or_concat A) with rfl | ⟨A', y, rfl⟩
    · have e : insR lt x Q = x :: B := by rw [← r1]; exact insR_at r2 (.inl rfl)
      have hfin : sortR lt (l.take (i + 1)) ++ l.drop (i + 1) = x :: (B ++ R) := by rw [hnext, e, hR]; rfl
      simp (disch := first | omega | (simp [-List.map_take, -List.map_drop, -List.map_set, -List.map_append, -List.drop_one] <;> omega) | fail) [-List.map_take, -List.map_drop, -List.map_set, -List.map_append, -List.drop_one]
      refine ⟨i + 1, weak_same (by simp (disch := first | omega | (simp [-List.map_take, -List.map_drop, -List.map_set, -List.map_append, -List.drop_one] <;> omega) | fail) [-List.map_take, -List.map_drop, -List.map_set, -List.map_append, -List.drop_one, S220, a116S0]) (by simp (disch := first | omega | (simp [-List.map_take, -List.map_drop, -List.map_set, -List.map_append, -List.drop_one] <;> omega) | fail) [-List.map_take, -List.map_drop, -List.map_set, -List.map_append, -List.drop_one, S220, a116S0, hfin]), by omega, by omega, by omega⟩
    · rw [List.concat_eq_append] at r1
      have hly : 0 ≤ findIx c.i.l y := hQm y (by rw [← r1]; simp)
      have hAl : A'.length + 1 + B.length = i := by rw [← hQl, ← r1]; simp; omega
      obtain ⟨L, hL⟩ : ∃ L, A' ++ [y] ++ x :: (B ++ R) = L := ⟨_, rfl⟩
      have hLl : L.length = n := by rw [← hL]; simp; omega
      have g1 : ∀ h : A'.length < L.length, L[A'.length] = y := fun h => by subst hL; simp
      have g2 : ∀ h : A'.length + 1 < L.length, L[A'.length + 1] = x := fun h => by subst hL; simp [List.getElem_append_right]
      have hs := swap_set (A := A') (B := B) (R := R) (x := x) (y := y)
      rw [hL] at hs
      have hv := cV2_eq hxm hly
      have hq := cmpV_lt (c := c) (a := x) (b := y)
      rw [hlt] at hq
      cases hc : lt x y with
      | true =>
        have hq' : cmpV c x y < 0 := hq.2 hc
        simp (disch := first | omega | (simp [-List.map_take, -List.map_drop, -List.map_set, -List.map_append, -List.drop_one] <;> omega) | fail) [-List.map_take, -List.map_drop, -List.map_set, -List.map_append, -List.drop_one, hL, hLl, g1, g2, T216_v, hv, hpre, objV_pre0, set_pre0, hq', storeO_1_int, hs]
        refine ⟨⟨A', y :: B⟩, weak_same (by simp (disch := first | omega | (simp [-List.map_take, -List.map_drop, -List.map_set, -List.map_append, -List.drop_one] <;> omega) | fail) [-List.map_take, -List.map_drop, -List.map_set, -List.map_append, -List.drop_one, S221, a116S1]) (by simp (disch := first | omega | (simp [-List.map_take, -List.map_drop, -List.map_set, -List.map_append, -List.drop_one] <;> omega) | fail) [-List.map_take, -List.map_drop, -List.map_set, -List.map_append, -List.drop_one, S221, a116S1]), by simp, by simpa using r1, fun b hb => ?_⟩
        rcases List.mem_cons.1 hb with rfl | hb
        · exact hc
        · exact r2 b hb
      | false =>
        have hq' : ¬ cmpV c x y < 0 := fun q => by rw [hq.1 q] at hc; cases hc
        simp (disch := first | omega | (simp [-List.map_take, -List.map_drop, -List.map_set, -List.map_append, -List.drop_one] <;> omega) | fail) [-List.map_take, -List.map_drop, -List.map_set, -List.map_append, -List.drop_one, hL, hLl, g1, g2, T216_v, hv, hpre, objV_pre0, set_pre0, hq']
        have e : insR lt x Q = A' ++ [y] ++ x :: B := by rw [← r1]; exact insR_at r2 (.inr ⟨A', y, rfl, hc⟩)
        have hfin : sortR lt (l.take (i + 1)) ++ l.drop (i + 1) = L := by rw [hnext, e, hR, ← hL]; simp
        refine ⟨i + 1, weak_same (by simp (disch := first | omega | (simp [-List.map_take, -List.map_drop, -List.map_set, -List.map_append, -List.drop_one] <;> omega) | fail) [-List.map_take, -List.map_drop, -List.map_set, -List.map_append, -List.drop_one, S220, a116S0]) (by simp (disch := first | omega | (simp [-List.map_take, -List.map_drop, -List.map_set, -List.map_append, -List.drop_one] <;> omega) | fail) [-List.map_take, -List.map_drop, -List.map_set, -List.map_append, -List.drop_one, S220, a116S0, hfin]), by omega, by omega, by omega⟩
  · have h' : ¬ (i : Int) < n := by omega
    have e1 : l.drop i = [] := List.drop_of_length_le (by omega)
    have e2 : l.take i = l := List.take_of_length_le (by omega)
    simp (disch := first | omega | (simp [-List.map_take, -List.map_drop, -List.map_set, -List.map_append, -List.drop_one] <;> omega) | fail) [-List.map_take, -List.map_drop, -List.map_set, -List.map_append, -List.drop_one, h, h', e1, e2]
end Go.Proofs.YtjhakjeioppijaaDoor
set_option linter.unusedSimpArgs false
set_option linter.unusedVariables false
namespace Go.Proofs.YtjhakjeioppijaaDoor
open Go Go.RowKit Go.Am
theorem infoInt : (P.info? 3).map (fun i => (i.zero, i.size, i.bytes)) = some (some (.int .i64 0), 1, 8) := by kernel_rfl
set_option maxHeartbeats 2000000 in
set_option maxRecDepth 100000 in
theorem grow_zero (w : World) : Calls Tryd.prog 112 #[.slice none 0 0, .int .i64 0] w fun e w' => e = .returned (.slice none 0 0) ∧ w' = w := by
  go_enter Tryd.func112, Tryd.ntmps112
  go_wp2
  go_ret
  exact ⟨rfl, rfl⟩
set_option maxHeartbeats 2000000 in
set_option maxRecDepth 100000 in
theorem grow_pos (n : Nat) (w : World) (hn : 1 ≤ n) (hb : n ≤ 1000000) : Calls Tryd.prog 112 #[.slice none 0 0, .int .i64 n] w fun e w' =>
    ∃ cap, n ≤ cap ∧ e = .returned (.slice (some ⟨w.heap.size, 0, none⟩) 0 cap) ∧ w' = w.drew.alloc (.cells (Builtin.zeroCells (Value.int .i64 0).cells n ++ Builtin.zeroCells (Value.int .i64 0).cells (cap - n)) 3) := by
  obtain ⟨i0, hi, hz0, hz1, hz2⟩ := info_parts infoInt
  have happ := Lib.run_append_nil_zeros (P := P) w 35 3 35 3 i0 (.int .i64 0) .i64 .i64 Tryd.underlying35 Tryd.underlying3 hi hz0 n (by omega) (by omega) (by omega) (by rw [hz2]; omega)
  generalize hcap : grownCap w n 0 3 = cap2 at happ
  have hcapge : n ≤ cap2 := by rw [← hcap]; exact grownCap_ge w _ 0 3
  generalize hZ : (Builtin.zeroCells (Value.int .i64 0).cells n ++ Builtin.zeroCells (Value.int .i64 0).cells (cap2 - n)) = Z at happ
  go_enter Tryd.func112, Tryd.ntmps112
  go_wp2_with (at_builtin; refine Lib.wpList_append_run _ rfl _ _ _ _ rfl _ _ rfl rfl _ _ happ ?_)
  go_wp2
  go_ret
  exact ⟨cap2, hcapge, rfl, by rw [hZ]; rfl⟩
def growV (p n : Nat) : DV := if n = 0 then .nils else .ms p n 0 1 0 n
def growO (n : Nat) : List AObj := if n = 0 then [] else [.cells (reps n [.int .i64 0])]
theorem reps1_len (n : Nat) : (reps n [DV.int .i64 0]).length = n := by
  induction n with
  | zero => rfl
  | succ n ih => simp only [reps, List.length_append, ih]; simp; try omega
theorem calls_grow (n : Nat) (hb : n ≤ 1000000) : CallsA P 112 [.nils, .int .i64 n] [] (fun d h => d = growV 0 n ∧ h = growO n) := by
  refine fun X0 base w E vs hh hr => ?_
  obtain ⟨v1, v2, hv⟩ : ∃ v1 v2, vs = #[v1, v2] := by
    have h1 : vs.toList.length = 2 := hr.1
    match hq : vs.toList, h1 with
    | [v1, v2], _ => exact ⟨v1, v2, Array.ext' (by simpa using hq)⟩
  subst hv
  have r1 : Rep E (FX X0 E) w v1 .nils := hr.2 0 (by simp) (by simp)
  have r2 : Rep E (FX X0 E) w v2 (.int .i64 n) := hr.2 1 (by simp) (by simp)
  cases r1
  cases r2
  refine Does.of_ent (ent_of Tryd.func112 (by kernel_rfl) rfl) ?_
  by_cases h0 : n = 0
  · subst h0
    refine (grow_zero w).mono ?_
    rintro e w' ⟨rfl, rfl⟩
    exact ⟨_, .nils, [], E, rfl, ⟨rfl, rfl⟩, hh, .nils, .refl _ _ _ _⟩
  · refine (grow_pos n w (by omega) hb).mono ?_
    rintro e w' ⟨cap, hc, rfl, rfl⟩
    have hz : ∀ (E : Env) (X : Forb) (w : World), RepA E X w (Value.int .i64 0).cells.toList [.int .i64 0] := fun E X w => by
      refine ⟨rfl, fun i h1 h2 => ?_⟩
      have : i = 0 := by simp at h2; omega
      subst this
      exact .int _ _
    have hR := zeroCells_rep (hz E (FX X0 E) w.drew) (s := 1) rfl (by decide) n
    have hn := obj_new hh.drew hR (Builtin.zeroCells (Value.int .i64 0).cells (cap - n)).toList 3
    have he : ((Builtin.zeroCells (Value.int .i64 0).cells n).toList ++ (Builtin.zeroCells (Value.int .i64 0).cells (cap - n)).toList).toArray = Builtin.zeroCells (Value.int .i64 0).cells n ++ Builtin.zeroCells (Value.int .i64 0).cells (cap - n) := by apply Array.ext'; simp
    rw [he] at hn
    have hE : E = [] := List.eq_nil_of_length_eq_zero (by simpa using hh.len)
    subst hE
    refine ⟨_, .ms 0 n 0 1 0 n, [.cells (reps n [.int .i64 0])], _, rfl, ⟨by simp [growV, h0], by simp [growO, h0]⟩, hn.1, ?_, (trans_drew X0 base [] w).trans hn.2⟩
    have hl := reps1_len n
    have hs : (Builtin.zeroCells (Value.int .i64 0).cells n ++ Builtin.zeroCells (Value.int .i64 0).cells (cap - n)).size = cap := by
      simp [size_zeros, Value.cells]; omega
    exact ms_mk (b := w.drew.heap.size) (L := (reps n [DV.int .i64 0]).length) (arr := Builtin.zeroCells (Value.int .i64 0).cells n ++ Builtin.zeroCells (Value.int .i64 0).cells (cap - n)) (t := 3) (by simp) hl.symm (heap_alloc_new w.drew _) (by omega) (by omega) (fun _ => rfl) (by omega) (by rw [hs]; omega)
noncomputable def cGrow : List DV → Nat → Option (DV × List AObj) := conN (fun n : Nat => n ≤ 1000000) (fun n => [.nils, .int .i64 n]) (fun n => (growV 0 n, growO n))
theorem growV_sh {k n : Nat} : shD k (growV 0 n) = growV k n := by unfold growV; split <;> rfl
theorem growO_sh {k n : Nat} : (growO n).map (shO k) = growO n := by
  unfold growO; split
  · rfl
  · simp only [List.map_cons, List.map_nil, shO_cells]
    rw [shL_pure k _ ?_]
    induction n with
    | zero => rfl
    | succ n ih =>
      by_cases h : n = 0
      · subst h; rfl
      · exact pureL_append rfl (ih h)
theorem cGrow_eq {n k : Nat} (h : n ≤ 1000000) : cGrow [.nils, .int .i64 n] k = some (growV k n, growO n) := by
  have := conN_eq (A := fun n : Nat => n ≤ 1000000) (f := fun n => [.nils, .int .i64 n]) (g := fun n => (growV 0 n, growO n)) (fun a b e => by
    simp only [List.cons.injEq, DV.int.injEq, and_true, true_and, Int.natCast_inj] at e
    rw [e]) n h k
  rw [growV_sh, growO_sh] at this
  exact this
theorem grow_sound : (Con.new cGrow).Sound P 112 := conN_sound (fun n _ => rfl) fun n h => calls_grow n h
end Go.Proofs.YtjhakjeioppijaaDoor
set_option linter.unusedSimpArgs false
set_option linter.unusedVariables false
namespace Go.Proofs.YtjhakjeioppijaaDoor
open Go Go.Am
def srtV (p : Nat) (l : List Int) : DV := if l = [] then .nils else .ms p l.length 0 1 l.length l.length
def srtH (pre : List AObj) (l : List Int) : List AObj := if l = [] then pre else pre ++ [.cells (l.map (.int .i64))]
theorem srtV_nil {p : Nat} : srtV p [] = .nils := rfl
theorem srtH_nil {pre : List AObj} : srtH pre [] = pre := rfl
theorem srtV_ne {p : Nat} {l : List Int} (h : l ≠ []) : srtV p l = .ms p l.length 0 1 l.length l.length := if_neg h
theorem srtH_ne {pre : List AObj} {l : List Int} (h : l ≠ []) : srtH pre l = pre ++ [.cells (l.map (.int .i64))] := if_neg h
theorem srt_inj {pre pre' : List AObj} {l l' : List Int} (h1 : srtV pre.length l = srtV pre'.length l') (h2 : srtH pre l = srtH pre' l') : pre = pre' ∧ l = l' := by
  by_cases e : l = []
  · by_cases e' : l' = []
    · subst e e'; exact ⟨h2, rfl⟩
    · subst e; rw [srtV_nil, srtV_ne e'] at h1; cases h1
  · by_cases e' : l' = []
    · subst e'; rw [srtV_nil, srtV_ne e] at h1; cases h1
    · rw [srtH_ne e, srtH_ne e'] at h2
      have h := List.append_inj' h2 rfl
      refine ⟨h.1, ?_⟩
      have h3 := h.2
      simp only [List.cons.injEq, AObj.cells.injEq, and_true, map_inj_i64] at h3
      exact h3
structure SrtOK (a : Clu × List AObj × List Int) : Prop where
  h : ∀ X, objV (a.2.1 ++ X) 0 3 = some (clC a.1)
  l : ∀ x ∈ a.2.2, 0 ≤ findIx a.1.i.l x
  b : a.2.2.length ≤ 19
theorem SrtOK.c {a b : Clu × List AObj × List Int} (h1 : SrtOK a) (h2 : SrtOK b) (e : a.2.1 = b.2.1) : a.1 = b.1 := by
  have q1 := h1.h []
  have q2 := h2.h []
  rw [e, q2] at q1
  exact clC_inj (Option.some.inj q1).symm
noncomputable def cSrtG (f : Clu × List AObj × List Int → List DV) : List DV → List AObj → Option (DV × List AObj) := conH SrtOK (fun a => (f a, srtH a.2.1 a.2.2)) (fun a => (.tup [], srtH a.2.1 (sortR (ltV a.1) a.2.2)))
theorem cSrtG_eq {f : Clu × List AObj × List Int → List DV} (hf : ∀ a b, f a = f b → srtV a.2.1.length a.2.2 = srtV b.2.1.length b.2.2) {a : Clu × List AObj × List Int} (h : SrtOK a) : cSrtG f (f a) (srtH a.2.1 a.2.2) = some (.tup [], srtH a.2.1 (sortR (ltV a.1) a.2.2)) :=
  conH_eq' (A := SrtOK) (f := fun a => (f a, srtH a.2.1 a.2.2)) (g := fun a => (.tup [], srtH a.2.1 (sortR (ltV a.1) a.2.2))) (fun a b h1 h2 e => by
    simp only [Prod.mk.injEq] at e
    obtain ⟨p, q⟩ := srt_inj (hf a b e.1) e.2
    rw [p, q, h1.c h2 p]) a h
def fIns (a : Clu × List AObj × List Int) : List DV := [srtV a.2.1.length a.2.2, .int .i64 0, .int .i64 a.2.2.length, fV2]
def fStb (a : Clu × List AObj × List Int) : List DV := [srtV a.2.1.length a.2.2, .int .i64 a.2.2.length, fV2]
def fSrt (a : Clu × List AObj × List Int) : List DV := [srtV a.2.1.length a.2.2, fV2]
theorem cIns_eq {c : Clu} {pre : List AObj} {l : List Int} (h : SrtOK (c, pre, l)) : cSrtG fIns [srtV pre.length l, .int .i64 0, .int .i64 l.length, fV2] (srtH pre l) = some (.tup [], srtH pre (sortR (ltV c) l)) :=
  cSrtG_eq (f := fIns) (fun a b e => by simp only [fIns, List.cons.injEq] at e; exact e.1) h
theorem cStb_eq {c : Clu} {pre : List AObj} {l : List Int} (h : SrtOK (c, pre, l)) : cSrtG fStb [srtV pre.length l, .int .i64 l.length, fV2] (srtH pre l) = some (.tup [], srtH pre (sortR (ltV c) l)) :=
  cSrtG_eq (f := fStb) (fun a b e => by simp only [fStb, List.cons.injEq] at e; exact e.1) h
theorem cSrt_eq {c : Clu} {pre : List AObj} {l : List Int} (h : SrtOK (c, pre, l)) : cSrtG fSrt [srtV pre.length l, fV2] (srtH pre l) = some (.tup [], srtH pre (sortR (ltV c) l)) :=
  cSrtG_eq (f := fSrt) (fun a b e => by simp only [fSrt, List.cons.injEq] at e; exact e.1) h
theorem sortR_ne {lt : Int → Int → Bool} {l : List Int} (h : l ≠ []) : sortR lt l ≠ [] := fun e => h (List.eq_nil_of_length_eq_zero (by rw [← sortR_len (lt := lt), e]; rfl))
theorem runs_ins0 (pre : List AObj) : RunsH T216 a116 [.nils, .int .i64 0, .int .i64 0, fV2] pre (.tup []) pre := by
  refine ⟨?_⟩
  simp (disch := first | omega | (simp [-List.map_take, -List.map_drop, -List.map_set, -List.map_append, -List.drop_one] <;> omega) | fail) [-List.map_take, -List.map_drop, -List.map_set, -List.map_append, -List.drop_one, a116]
  refine W_loop (fun _ : Unit => a116S0 .nils (.int .i64 0) (.int .i64 0) fV2 (.int .i64 1) pre) (fun _ => 0) (fun _ => True) () (weak_same (by simp (disch := first | omega | (simp [-List.map_take, -List.map_drop, -List.map_set, -List.map_append, -List.drop_one] <;> omega) | fail) [-List.map_take, -List.map_drop, -List.map_set, -List.map_append, -List.drop_one, a116S0]) (by simp (disch := first | omega | (simp [-List.map_take, -List.map_drop, -List.map_set, -List.map_append, -List.drop_one] <;> omega) | fail) [-List.map_take, -List.map_drop, -List.map_set, -List.map_append, -List.drop_one, a116S0])) trivial (fun i hi => ?_)
  simp (disch := first | omega | (simp [-List.map_take, -List.map_drop, -List.map_set, -List.map_append, -List.drop_one] <;> omega) | fail) [-List.map_take, -List.map_drop, -List.map_set, -List.map_append, -List.drop_one, a116L0, a116S0]
theorem runs_insG {a : Clu × List AObj × List Int} (h : SrtOK a) : RunsH T216 a116 (fIns a) (srtH a.2.1 a.2.2) (.tup []) (srtH a.2.1 (sortR (ltV a.1) a.2.2)) := by
  obtain ⟨c, pre, l⟩ := a
  by_cases e : l = []
  · subst e; exact runs_ins0 pre
  · have := runs_ins c pre l h.h h.l (by have := h.b; simp at this; omega)
    simp only [fIns, srtV_ne e, srtH_ne e, srtH_ne (sortR_ne e)]
    exact this
noncomputable def T217 : Tbl := addT 116 (.heap (cSrtG fIns)) tbl0
theorem T217_i : T217 116 = .heap (cSrtG fIns) := by simp [T217]
theorem T217_sound : T217.Sound P := addT_sound (conH_sound fun a h => calls_runs mix T216_sound Tryd.func116 a116_ok (runs_insG h)) tbl0_sound
theorem lenD_srt {pre : List AObj} {l : List Int} : lenD (srtH pre l) (srtV pre.length l) = some (.int .i64 l.length) := by
  by_cases e : l = []
  · subst e; rfl
  · rw [srtV_ne e, srtH_ne e]
    simp [objV_last]
theorem runs_stb {a : Clu × List AObj × List Int} (h : SrtOK a) : RunsH T217 a108 (fStb a) (srtH a.2.1 a.2.2) (.tup []) (srtH a.2.1 (sortR (ltV a.1) a.2.2)) := by
  obtain ⟨c, pre, l⟩ := a
  refine ⟨?_⟩
  have hb := h.b
  have he := cIns_eq h
  simp only at hb he ⊢
  obtain ⟨n, hn⟩ : ∃ n, l.length = n := ⟨_, rfl⟩
  rw [hn] at hb he
  simp only [fStb, hn]
  obtain ⟨V, hV⟩ : ∃ V, srtV pre.length l = V := ⟨_, rfl⟩
  rw [hV] at he ⊢
  obtain ⟨H, hH⟩ : ∃ H, srtH pre l = H := ⟨_, rfl⟩
  rw [hH] at he ⊢
  obtain ⟨K, hK⟩ : ∃ K, srtH pre (sortR (ltV c) l) = K := ⟨_, rfl⟩
  rw [hK] at he ⊢
  have h1 : ¬ (20 : Int) ≤ n := by omega
  have h2 : ¬ (20 : Int) < n := by omega
  simp (disch := first | omega | (simp [-List.map_take, -List.map_drop, -List.map_set, -List.map_append, -List.drop_one] <;> omega) | fail) [-List.map_take, -List.map_drop, -List.map_set, -List.map_append, -List.drop_one, a108]
  refine W_loop (fun _ : Unit => a108S0 V (.int .i64 n) fV2 (.int .i64 20) (.int .i64 0) (.int .i64 20) H) (fun _ => 0) (fun _ => True) () (weak_same (by simp (disch := first | omega | (simp [-List.map_take, -List.map_drop, -List.map_set, -List.map_append, -List.drop_one] <;> omega) | fail) [-List.map_take, -List.map_drop, -List.map_set, -List.map_append, -List.drop_one, a108S0]) (by simp (disch := first | omega | (simp [-List.map_take, -List.map_drop, -List.map_set, -List.map_append, -List.drop_one] <;> omega) | fail) [-List.map_take, -List.map_drop, -List.map_set, -List.map_append, -List.drop_one, a108S0])) trivial (fun i hi => ?_)
  simp (disch := first | omega | (simp [-List.map_take, -List.map_drop, -List.map_set, -List.map_append, -List.drop_one] <;> omega) | fail) [-List.map_take, -List.map_drop, -List.map_set, -List.map_append, -List.drop_one, a108L0, a108S0, h1, T217_i, he]
  refine W_loop (fun _ : Unit => a108S1 V (.int .i64 n) fV2 (.int .i64 20) K) (fun _ => 0) (fun _ => True) () ?_ trivial (fun i hi => ?_)
  · exact weak_same (by simp (disch := first | omega | (simp [-List.map_take, -List.map_drop, -List.map_set, -List.map_append, -List.drop_one] <;> omega) | fail) [-List.map_take, -List.map_drop, -List.map_set, -List.map_append, -List.drop_one, a108S1]) (by simp (disch := first | omega | (simp [-List.map_take, -List.map_drop, -List.map_set, -List.map_append, -List.drop_one] <;> omega) | fail) [-List.map_take, -List.map_drop, -List.map_set, -List.map_append, -List.drop_one, a108S1])
  simp (disch := first | omega | (simp [-List.map_take, -List.map_drop, -List.map_set, -List.map_append, -List.drop_one] <;> omega) | fail) [-List.map_take, -List.map_drop, -List.map_set, -List.map_append, -List.drop_one, a108L1, a108S1, h2]
end Go.Proofs.YtjhakjeioppijaaDoor
set_option linter.unusedSimpArgs false
set_option linter.unusedVariables false
namespace Go.Proofs.YtjhakjeioppijaaDoor
open Go Go.Am
noncomputable def T218 : Tbl := addT 108 (.heap (cSrtG fStb)) tbl0
theorem T218_s : T218 108 = .heap (cSrtG fStb) := by simp [T218]
theorem T218_sound : T218.Sound P := addT_sound (conH_sound fun a h => calls_runs mix T217_sound Tryd.func108 a108_ok (runs_stb h)) tbl0_sound
theorem runs_srt {a : Clu × List AObj × List Int} (h : SrtOK a) : RunsH T218 a89 (fSrt a) (srtH a.2.1 a.2.2) (.tup []) (srtH a.2.1 (sortR (ltV a.1) a.2.2)) := by
  obtain ⟨c, pre, l⟩ := a
  refine ⟨?_⟩
  have he := cStb_eq h
  have hl := lenD_srt (pre := pre) (l := l)
  simp only at he hl ⊢
  simp only [fSrt]
  obtain ⟨V, hV⟩ : ∃ V, srtV pre.length l = V := ⟨_, rfl⟩
  rw [hV] at he hl ⊢
  obtain ⟨H, hH⟩ : ∃ H, srtH pre l = H := ⟨_, rfl⟩
  rw [hH] at he hl ⊢
  simp (disch := first | omega | (simp [-List.map_take, -List.map_drop, -List.map_set, -List.map_append, -List.drop_one] <;> omega) | fail) [-List.map_take, -List.map_drop, -List.map_set, -List.map_append, -List.drop_one, a89, T218_s, he, hl]
theorem sort_sound : (Con.heap (cSrtG fSrt)).Sound P 89 := conH_sound fun a h => calls_runs mix T218_sound Tryd.func89 a89_ok (runs_srt h)
structure RS where
  i : Nat
  j : Nat
  L : List Int
def S230 (pre : List AObj) (P n : Nat) (a : RS) : St := a97S0 (.ms P n 0 1 n n) (.int .i64 a.i) (.int .i64 a.j) (pre ++ [.cells (a.L.map (.int .i64))])
structure RInv (l : List Int) (n : Nat) (a : RS) : Prop where
  s : a.i + a.j + 1 = n
  ln : a.L.length = n
  g : ∀ k, k < n → a.L[k]? = if k < a.i ∨ a.j < k then l[n - 1 - k]? else l[k]?
theorem rinv_end {l : List Int} {n : Nat} {a : RS} (hl : l.length = n) (h : RInv l n a) (he : a.j ≤ a.i) : a.L = l.reverse := by
  apply List.ext_getElem?
  intro k
  by_cases hk : k < n
  · rw [h.g k hk, List.getElem?_reverse (by omega), hl]
    split
    · rfl
    · have := h.s
      have : n - 1 - k = k := by omega
      rw [this]
  · rw [List.getElem?_eq_none (by rw [h.ln]; omega), List.getElem?_eq_none (by rw [List.length_reverse]; omega)]
theorem rinv_next {l : List Int} {n : Nat} {i j : Nat} {L : List Int} (hl : l.length = n) (h : RInv l n ⟨i, j, L⟩) (hi : i < j) (x y : Int) (hx : L[i]? = some x) (hy : L[j]? = some y) : RInv l n ⟨i + 1, j - 1, (L.set i y).set j x⟩ := by
  obtain ⟨h1, h2, h3⟩ := h
  simp only at h1 h2 h3
  refine ⟨by simp only; omega, by simpa using h2, fun k hk => ?_⟩
  have gx := h3 i (by omega)
  have gy := h3 j (by omega)
  rw [if_neg (by omega), hx] at gx
  rw [if_neg (by omega), hy] at gy
  have hLk := h3 k hk
  simp only [List.getElem?_set, List.length_set]
  by_cases e1 : j = k
  · subst e1
    rw [if_pos rfl, if_pos (by omega), if_pos (by omega), show n - 1 - j = i by omega]
    exact gx
  · rw [if_neg e1]
    by_cases e2 : i = k
    · subst e2
      rw [if_pos rfl, if_pos (by omega), if_pos (by omega), show n - 1 - i = j by omega]
      exact gy
    · rw [if_neg e2, hLk]
      by_cases e3 : k < i ∨ j < k
      · rw [if_pos e3, if_pos (by omega)]
      · rw [if_neg e3, if_neg (by omega)]
theorem runs_rev (pre : List AObj) (l : List Int) (h0 : l ≠ []) (hb : l.length ≤ 1000000) : RunsH tbl0 a97 [.ms pre.length l.length 0 1 l.length l.length] (pre ++ [.cells (l.map (.int .i64))]) (.tup []) (pre ++ [.cells (l.reverse.map (.int .i64))]) := by
  refine ⟨?_⟩
  obtain ⟨n, hn⟩ : ∃ n, l.length = n := ⟨_, rfl⟩
  rw [hn] at hb ⊢
  obtain ⟨m, rfl⟩ : ∃ m, n = m + 1 := ⟨n - 1, by cases l with | nil => exact absurd rfl h0 | cons a l => simp at hn; omega⟩
  simp (disch := first | omega | (simp [-List.map_take, -List.map_drop, -List.map_set, -List.map_append, -List.drop_one] <;> omega) | fail) [-List.map_take, -List.map_drop, -List.map_set, -List.map_append, -List.drop_one, a97, objV_pre0, hn]
  refine W_loop (S230 pre pre.length (m + 1)) (fun a => a.j + 1 - a.i) (fun a => RInv l (m + 1) a) ⟨0, m, l⟩ (weak_same (by simp (disch := first | omega | (simp [-List.map_take, -List.map_drop, -List.map_set, -List.map_append, -List.drop_one] <;> omega) | fail) [-List.map_take, -List.map_drop, -List.map_set, -List.map_append, -List.drop_one, S230, a97S0]) (by simp (disch := first | omega | (simp [-List.map_take, -List.map_drop, -List.map_set, -List.map_append, -List.drop_one] <;> omega) | fail) [-List.map_take, -List.map_drop, -List.map_set, -List.map_append, -List.drop_one, S230, a97S0])) ⟨by simp, hn, fun k hk => by rw [if_neg (by simp only; omega)]⟩ (fun a ha => ?_)
  obtain ⟨i, j, L⟩ := a
  have hs := ha.s
  have hl := ha.ln
  simp only at hs hl
  simp (disch := first | omega | (simp [-List.map_take, -List.map_drop, -List.map_set, -List.map_append, -List.drop_one] <;> omega) | fail) [-List.map_take, -List.map_drop, -List.map_set, -List.map_append, -List.drop_one, a97L0, a97S0, S230]
  by_cases h : i < j
  · have h' : (i : Int) < j := by omega
    have hi : i < L.length := by omega
    have hj : j < L.length := by omega
    have hij : j < (L.set i L[j]).length := by rw [List.length_set]; exact hj
    have hj1 : ((j - 1 : Nat) : Int) = (j : Int) - 1 := by omega
    have hnx := rinv_next hn ha h L[i] L[j] (List.getElem?_eq_getElem hi) (List.getElem?_eq_getElem hj)
    simp (disch := first | omega | (simp [-List.map_take, -List.map_drop, -List.map_set, -List.map_append, -List.drop_one] <;> omega) | fail) [-List.map_take, -List.map_drop, -List.map_set, -List.map_append, -List.drop_one, h, h', hl, hi, hj, objV_pre0, set_pre0, storeO_1_int, List.length_set]
    refine ⟨⟨i + 1, j - 1, (L.set i L[j]).set j L[i]⟩, weak_same (by simp (disch := first | omega | (simp [-List.map_take, -List.map_drop, -List.map_set, -List.map_append, -List.drop_one] <;> omega) | fail) [-List.map_take, -List.map_drop, -List.map_set, -List.map_append, -List.drop_one, S230, a97S0, hj1]) (by simp (disch := first | omega | (simp [-List.map_take, -List.map_drop, -List.map_set, -List.map_append, -List.drop_one] <;> omega) | fail) [-List.map_take, -List.map_drop, -List.map_set, -List.map_append, -List.drop_one, S230, a97S0]), by simp only; omega, hnx⟩
  · have h' : ¬ (i : Int) < j := by omega
    have e := rinv_end hn ha (by simp only; omega)
    simp only at e
    simp (disch := first | omega | (simp [-List.map_take, -List.map_drop, -List.map_set, -List.map_append, -List.drop_one] <;> omega) | fail) [-List.map_take, -List.map_drop, -List.map_set, -List.map_append, -List.drop_one, h, h', e]
theorem runs_rev0 (pre : List AObj) : RunsH tbl0 a97 [.nils] pre (.tup []) pre := by
  refine ⟨?_⟩
  simp (disch := first | omega | (simp [-List.map_take, -List.map_drop, -List.map_set, -List.map_append, -List.drop_one] <;> omega) | fail) [-List.map_take, -List.map_drop, -List.map_set, -List.map_append, -List.drop_one, a97]
  refine W_loop (fun _ : Unit => a97S0 .nils (.int .i64 0) (.int .i64 (-1)) pre) (fun _ => 0) (fun _ => True) () (weak_same (by simp (disch := first | omega | (simp [-List.map_take, -List.map_drop, -List.map_set, -List.map_append, -List.drop_one] <;> omega) | fail) [-List.map_take, -List.map_drop, -List.map_set, -List.map_append, -List.drop_one, a97S0]) (by simp (disch := first | omega | (simp [-List.map_take, -List.map_drop, -List.map_set, -List.map_append, -List.drop_one] <;> omega) | fail) [-List.map_take, -List.map_drop, -List.map_set, -List.map_append, -List.drop_one, a97S0])) trivial (fun i hi => ?_)
  simp (disch := first | omega | (simp [-List.map_take, -List.map_drop, -List.map_set, -List.map_append, -List.drop_one] <;> omega) | fail) [-List.map_take, -List.map_drop, -List.map_set, -List.map_append, -List.drop_one, a97L0, a97S0]
noncomputable def cRev : List DV → List AObj → Option (DV × List AObj) := conH (fun a : List AObj × List Int => a.2.length ≤ 1000000) (fun a => ([srtV a.1.length a.2], srtH a.1 a.2)) (fun a => (.tup [], srtH a.1 a.2.reverse))
theorem cRev_eq {pre : List AObj} {l : List Int} (h : l.length ≤ 1000000) : cRev [srtV pre.length l] (srtH pre l) = some (.tup [], srtH pre l.reverse) :=
  conH_eq (A := fun a : List AObj × List Int => a.2.length ≤ 1000000) (f := fun a => ([srtV a.1.length a.2], srtH a.1 a.2)) (g := fun a => (.tup [], srtH a.1 a.2.reverse)) (fun a b e => by
    simp only [Prod.mk.injEq, List.cons.injEq, and_true] at e
    obtain ⟨p, q⟩ := srt_inj e.1 e.2
    rw [p, q]) (pre, l) h
theorem rev_sound : (Con.heap cRev).Sound P 97 := conH_sound fun a h => calls_runs mix tbl0_sound Tryd.func97 a97_ok (by
  obtain ⟨pre, l⟩ := a
  by_cases e : l = []
  · subst e; exact runs_rev0 pre
  · have := runs_rev pre l e h
    simp only [srtV_ne e, srtH_ne e, srtH_ne (show l.reverse ≠ [] by simpa using e)]
    exact this)
end Go.Proofs.YtjhakjeioppijaaDoor
set_option linter.unusedSimpArgs false
set_option linter.unusedVariables false
namespace Go.Proofs.YtjhakjeioppijaaDoor
open Go Go.Am
structure VisL (h : List AObj) (x : DV) (l : List Int) : Prop where
  len : ∀ X, lenD (h ++ X) x = some (.int .i64 l.length)
  vis : ∀ X, visY (h ++ X) x = some (l.length, l.map (.int .i64))
  one : x.one = true
structure CA where
  h : List AObj
  x : DV
  y : DV
  z : DV
  lx : List Int
  ly : List Int
  lz : List Int
structure CAOK (a : CA) : Prop where
  x : VisL a.h a.x a.lx
  y : VisL a.h a.y a.ly
  z : VisL a.h a.z a.lz
  b : a.lx.length + a.ly.length + a.lz.length ≤ 1000000
def newV (p n k : Nat) : DV := if n = 0 then .nils else .ms p n 0 1 k n
def newH (pre : List AObj) (n : Nat) (u : List Int) : List AObj := if n = 0 then pre else pre ++ [.cells ((u ++ List.replicate (n - u.length) 0).map (.int .i64))]
theorem newH_form (pre : List AObj) (n : Nat) (u : List Int) : ∃ X, newH pre n u = pre ++ X := by
  unfold newH; split
  · exact ⟨[], by simp⟩
  · exact ⟨_, rfl⟩
theorem splice_mid {u v : List Int} {m : Nat} (hm : v.length ≤ m) : splice ((u ++ List.replicate m 0).map (DV.int .i64)) u.length (v.map (.int .i64)) = (u ++ v ++ List.replicate (m - v.length) 0).map (DV.int .i64) := by
  unfold splice
  rw [← List.map_take, ← List.map_drop, List.take_left' rfl, List.length_map, ← List.drop_drop, List.drop_left' rfl, List.drop_replicate, ← List.map_append, ← List.map_append]
theorem appX_new {pre : List AObj} {n : Nat} {u v : List Int} (h : u.length + v.length ≤ n) (hn : n ≤ 1000000) : appX (newH pre n u) 1 8 (newV pre.length n u.length) v.length (v.map (.int .i64)) = some (newV pre.length n (u.length + v.length), newH pre n (u ++ v)) := by
  by_cases h0 : n = 0
  · subst h0
    have hu : u = [] := List.eq_nil_of_length_eq_zero (by omega)
    have hv : v = [] := List.eq_nil_of_length_eq_zero (by omega)
    subst hu hv
    exact appX_nils0 (by decide) (by decide)
  · simp only [newV, newH, if_neg h0]
    have hl : ((u ++ List.replicate (n - u.length) 0).map (DV.int .i64)).length = n := by simp; omega
    have ho : objAt (pre ++ [.cells ((u ++ List.replicate (n - u.length) 0).map (DV.int .i64))]) pre.length = some ((u ++ List.replicate (n - u.length) 0).map (DV.int .i64)) := by simp [objAt]
    have hs := splice_mid (u := u) (v := v) (m := n - u.length) (by omega)
    have ha : (v.map (DV.int .i64)).all DV.one = true := by simp [DV.one]
    unfold appX
    rw [if_neg (by simp)]
    simp only [ho, Option.bind_some, hl, ha, and_true, if_true]
    by_cases hv : v.length = 0
    · have hv' : v = [] := List.eq_nil_of_length_eq_zero hv
      subst hv'
      simp
    · rw [if_neg hv, if_pos (by omega)]
      rw [set_pre0]
      simp only [Nat.zero_add, Nat.mul_one, hs, List.set_cons_zero, List.length_append, show n - u.length - v.length = n - (u.length + v.length) by omega]
theorem newV_zero {p n : Nat} : newV p n 0 = growV p n := rfl
theorem newH_zero {pre : List AObj} {n : Nat} : newH pre n [] = pre ++ growO n := by
  unfold newH growO; split
  · simp
  · have : reps n [DV.int .i64 0] = (List.replicate n 0).map (.int .i64) := by
      induction n with
      | zero => rfl
      | succ n ih =>
        by_cases h : n = 0
        · subst h; rfl
        · have := ih h
          simp only [reps] at this ⊢
          rw [List.replicate_succ, List.flatten_cons, this, List.replicate_succ]; rfl
    rw [this]; simp
noncomputable def T219 : Tbl := addT 112 (.new cGrow) tbl0
theorem T219_g : T219 112 = .new cGrow := by simp [T219]
theorem T219_sound : T219.Sound P := addT_sound grow_sound tbl0_sound
def sumTo (a b c : Nat) : Nat → Nat
  | 0 => 0
  | 1 => a
  | 2 => a + b
  | _ => a + b + c
def catTo (a b c : List Int) : Nat → List Int
  | 0 => []
  | 1 => a
  | 2 => a ++ b
  | _ => a ++ (b ++ c)
def S240 (a : CA) (i : Nat) : St := a98S0 (.sl true 1 3 [a.x, a.y, a.z]) (.int .i64 (sumTo a.lx.length a.ly.length a.lz.length i)) (.sl true 1 3 [a.x, a.y, a.z]) (.int .i64 3) (.int .i64 i) a.h
def S241 (a : CA) (n : Nat) (i : Nat) : St := a98S1 (newV a.h.length n (catTo a.lx a.ly a.lz i).length) (.sl true 1 3 [a.x, a.y, a.z]) (.int .i64 3) (.int .i64 i) (newH a.h n (catTo a.lx a.ly a.lz i))
set_option maxHeartbeats 1000000 in
theorem runs_concat (a : CA) (h : CAOK a) : RunsH T219 a98 [.sl true 1 3 [a.x, a.y, a.z]] a.h (srtV a.h.length (a.lx ++ (a.ly ++ a.lz))) (srtH a.h (a.lx ++ (a.ly ++ a.lz))) := by
  refine ⟨?_⟩
  obtain ⟨n, hn⟩ : ∃ n, a.lx.length + a.ly.length + a.lz.length = n := ⟨_, rfl⟩
  have hb := h.b
  rw [hn] at hb
  have lx := h.x.len []
  have ly := h.y.len []
  have lz := h.z.len []
  rw [List.append_nil] at lx ly lz
  have ox := h.x.one
  have oy := h.y.one
  have oz := h.z.one
  have n1 : ¬ (a.lx.length : Int) < 0 := by omega
  have n2 : ¬ (a.lx.length : Int) + (a.ly.length : Int) < 0 := by omega
  have n3 : ¬ (a.lx.length : Int) + (a.ly.length : Int) + (a.lz.length : Int) < 0 := by omega
  have hvx : ∀ n u, visY (newH a.h n u) a.x = some (a.lx.length, a.lx.map (.int .i64)) := fun n u => by obtain ⟨X, e⟩ := newH_form a.h n u; rw [e]; exact h.x.vis X
  have hvy : ∀ n u, visY (newH a.h n u) a.y = some (a.ly.length, a.ly.map (.int .i64)) := fun n u => by obtain ⟨X, e⟩ := newH_form a.h n u; rw [e]; exact h.y.vis X
  have hvz : ∀ n u, visY (newH a.h n u) a.z = some (a.lz.length, a.lz.map (.int .i64)) := fun n u => by obtain ⟨X, e⟩ := newH_form a.h n u; rw [e]; exact h.z.vis X
  simp (disch := first | omega | (simp [-List.map_take, -List.map_drop, -List.map_set, -List.map_append, -List.drop_one] <;> omega) | fail) [-List.map_take, -List.map_drop, -List.map_set, -List.map_append, -List.drop_one, a98]
  refine W_loop (S240 a) (fun i => 3 - i) (fun i => i ≤ 3) 0 (weak_same (by simp (disch := first | omega | (simp [-List.map_take, -List.map_drop, -List.map_set, -List.map_append, -List.drop_one] <;> omega) | fail) [-List.map_take, -List.map_drop, -List.map_set, -List.map_append, -List.drop_one, S240, a98S0, sumTo]) (by simp (disch := first | omega | (simp [-List.map_take, -List.map_drop, -List.map_set, -List.map_append, -List.drop_one] <;> omega) | fail) [-List.map_take, -List.map_drop, -List.map_set, -List.map_append, -List.drop_one, S240, a98S0])) (by omega) (fun i hi => ?_)
  simp (disch := first | omega | (simp [-List.map_take, -List.map_drop, -List.map_set, -List.map_append, -List.drop_one] <;> omega) | fail) [-List.map_take, -List.map_drop, -List.map_set, -List.map_append, -List.drop_one, a98L0, a98S0, S240]
  rcases (show i = 0 ∨ i = 1 ∨ i = 2 ∨ i = 3 by omega) with rfl | rfl | rfl | rfl
  · simp (disch := first | omega | (simp [-List.map_take, -List.map_drop, -List.map_set, -List.map_append, -List.drop_one] <;> omega) | fail) [-List.map_take, -List.map_drop, -List.map_set, -List.map_append, -List.drop_one, lx, ox, sumTo, n1]
    exact ⟨1, weak_same (by simp (disch := first | omega | (simp [-List.map_take, -List.map_drop, -List.map_set, -List.map_append, -List.drop_one] <;> omega) | fail) [-List.map_take, -List.map_drop, -List.map_set, -List.map_append, -List.drop_one, S240, a98S0, sumTo]) (by simp (disch := first | omega | (simp [-List.map_take, -List.map_drop, -List.map_set, -List.map_append, -List.drop_one] <;> omega) | fail) [-List.map_take, -List.map_drop, -List.map_set, -List.map_append, -List.drop_one, S240, a98S0]), by simp⟩
  · simp (disch := first | omega | (simp [-List.map_take, -List.map_drop, -List.map_set, -List.map_append, -List.drop_one] <;> omega) | fail) [-List.map_take, -List.map_drop, -List.map_set, -List.map_append, -List.drop_one, ly, oy, sumTo, n2]
    exact ⟨2, weak_same (by simp (disch := first | omega | (simp [-List.map_take, -List.map_drop, -List.map_set, -List.map_append, -List.drop_one] <;> omega) | fail) [-List.map_take, -List.map_drop, -List.map_set, -List.map_append, -List.drop_one, S240, a98S0, sumTo]) (by simp (disch := first | omega | (simp [-List.map_take, -List.map_drop, -List.map_set, -List.map_append, -List.drop_one] <;> omega) | fail) [-List.map_take, -List.map_drop, -List.map_set, -List.map_append, -List.drop_one, S240, a98S0]), by simp⟩
  · simp (disch := first | omega | (simp [-List.map_take, -List.map_drop, -List.map_set, -List.map_append, -List.drop_one] <;> omega) | fail) [-List.map_take, -List.map_drop, -List.map_set, -List.map_append, -List.drop_one, lz, oz, sumTo, n3]
    exact ⟨3, weak_same (by simp (disch := first | omega | (simp [-List.map_take, -List.map_drop, -List.map_set, -List.map_append, -List.drop_one] <;> omega) | fail) [-List.map_take, -List.map_drop, -List.map_set, -List.map_append, -List.drop_one, S240, a98S0, sumTo]) (by simp (disch := first | omega | (simp [-List.map_take, -List.map_drop, -List.map_set, -List.map_append, -List.drop_one] <;> omega) | fail) [-List.map_take, -List.map_drop, -List.map_set, -List.map_append, -List.drop_one, S240, a98S0]), by simp⟩
  · have hg := cGrow_eq (n := n) (k := a.h.length) hb
    simp (disch := first | omega | (simp [-List.map_take, -List.map_drop, -List.map_set, -List.map_append, -List.drop_one] <;> omega) | fail) [-List.map_take, -List.map_drop, -List.map_set, -List.map_append, -List.drop_one, sumTo, hn, T219_g, hg]
    refine W_loop (S241 a n) (fun i => 3 - i) (fun i => i ≤ 3) 0 (weak_same (by simp (disch := first | omega | (simp [-List.map_take, -List.map_drop, -List.map_set, -List.map_append, -List.drop_one] <;> omega) | fail) [-List.map_take, -List.map_drop, -List.map_set, -List.map_append, -List.drop_one, S241, a98S1, catTo, newV_zero]) (by simp (disch := first | omega | (simp [-List.map_take, -List.map_drop, -List.map_set, -List.map_append, -List.drop_one] <;> omega) | fail) [-List.map_take, -List.map_drop, -List.map_set, -List.map_append, -List.drop_one, S241, a98S1, catTo, newH_zero])) (by omega) (fun i hi => ?_)
    simp (disch := first | omega | (simp [-List.map_take, -List.map_drop, -List.map_set, -List.map_append, -List.drop_one] <;> omega) | fail) [-List.map_take, -List.map_drop, -List.map_set, -List.map_append, -List.drop_one, a98L1, a98S1, S241]
    rcases (show i = 0 ∨ i = 1 ∨ i = 2 ∨ i = 3 by omega) with rfl | rfl | rfl | rfl
    · have ha := appX_new (pre := a.h) (n := n) (u := []) (v := a.lx) (by simp; omega) hb
      simp only [List.nil_append, List.length_nil, Nat.zero_add] at ha
      simp (disch := first | omega | (simp [-List.map_take, -List.map_drop, -List.map_set, -List.map_append, -List.drop_one] <;> omega) | fail) [-List.map_take, -List.map_drop, -List.map_set, -List.map_append, -List.drop_one, catTo, ox, hvx, ha]
      exact ⟨1, weak_same (by simp (disch := first | omega | (simp [-List.map_take, -List.map_drop, -List.map_set, -List.map_append, -List.drop_one] <;> omega) | fail) [-List.map_take, -List.map_drop, -List.map_set, -List.map_append, -List.drop_one, S241, a98S1, catTo]) (by simp (disch := first | omega | (simp [-List.map_take, -List.map_drop, -List.map_set, -List.map_append, -List.drop_one] <;> omega) | fail) [-List.map_take, -List.map_drop, -List.map_set, -List.map_append, -List.drop_one, S241, a98S1, catTo]), by simp⟩
    · have ha := appX_new (pre := a.h) (n := n) (u := a.lx) (v := a.ly) (by omega) hb
      simp (disch := first | omega | (simp [-List.map_take, -List.map_drop, -List.map_set, -List.map_append, -List.drop_one] <;> omega) | fail) [-List.map_take, -List.map_drop, -List.map_set, -List.map_append, -List.drop_one, catTo, oy, hvy, ha]
      exact ⟨2, weak_same (by simp (disch := first | omega | (simp [-List.map_take, -List.map_drop, -List.map_set, -List.map_append, -List.drop_one] <;> omega) | fail) [-List.map_take, -List.map_drop, -List.map_set, -List.map_append, -List.drop_one, S241, a98S1, catTo]) (by simp (disch := first | omega | (simp [-List.map_take, -List.map_drop, -List.map_set, -List.map_append, -List.drop_one] <;> omega) | fail) [-List.map_take, -List.map_drop, -List.map_set, -List.map_append, -List.drop_one, S241, a98S1, catTo]), by simp⟩
    · have ha := appX_new (pre := a.h) (n := n) (u := a.lx ++ a.ly) (v := a.lz) (by simp; omega) hb
      simp only [List.length_append, List.append_assoc, Nat.add_assoc] at ha
      simp (disch := first | omega | (simp [-List.map_take, -List.map_drop, -List.map_set, -List.map_append, -List.drop_one] <;> omega) | fail) [-List.map_take, -List.map_drop, -List.map_set, -List.map_append, -List.drop_one, catTo, oz, hvz, ha, Nat.add_assoc]
      exact ⟨3, weak_same (by simp (disch := first | omega | (simp [-List.map_take, -List.map_drop, -List.map_set, -List.map_append, -List.drop_one] <;> omega) | fail) [-List.map_take, -List.map_drop, -List.map_set, -List.map_append, -List.drop_one, S241, a98S1, catTo]) (by simp (disch := first | omega | (simp [-List.map_take, -List.map_drop, -List.map_set, -List.map_append, -List.drop_one] <;> omega) | fail) [-List.map_take, -List.map_drop, -List.map_set, -List.map_append, -List.drop_one, S241, a98S1, catTo]), by simp⟩
    · have e1 : newV a.h.length n (a.lx ++ (a.ly ++ a.lz)).length = srtV a.h.length (a.lx ++ (a.ly ++ a.lz)) := by
        have hl : (a.lx ++ (a.ly ++ a.lz)).length = n := by simp only [List.length_append]; omega
        unfold newV srtV
        by_cases e : n = 0
        · rw [if_pos e, if_pos (List.eq_nil_of_length_eq_zero (by omega))]
        · rw [if_neg e, if_neg (fun q => e (by rw [← hl, q]; rfl)), hl]
      have e2 : newH a.h n (a.lx ++ (a.ly ++ a.lz)) = srtH a.h (a.lx ++ (a.ly ++ a.lz)) := by
        have hl : (a.lx ++ (a.ly ++ a.lz)).length = n := by simp only [List.length_append]; omega
        unfold newH srtH
        by_cases e : n = 0
        · rw [if_pos e, if_pos (List.eq_nil_of_length_eq_zero (by omega))]
        · rw [if_neg e, if_neg (fun q => e (by rw [← hl, q]; rfl)), hl, Nat.sub_self, List.replicate_zero, List.append_nil]
      simp only [List.length_append] at e1
      simp (disch := first | omega | (simp [-List.map_take, -List.map_drop, -List.map_set, -List.map_append, -List.drop_one] <;> omega) | fail) [-List.map_take, -List.map_drop, -List.map_set, -List.map_append, -List.drop_one, catTo, e1, e2]
end Go.Proofs.YtjhakjeioppijaaDoor
set_option linter.unusedSimpArgs false
set_option linter.unusedVariables false
namespace Go.Proofs.YtjhakjeioppijaaDoor
open Go Go.Am
theorem concat_inj {a b : CA} (h1 : CAOK a) (h2 : CAOK b) (e : ([.sl true 1 3 [a.x, a.y, a.z]], a.h) = (([.sl true 1 3 [b.x, b.y, b.z]], b.h) : List DV × List AObj)) : (a.h, a.lx, a.ly, a.lz) = (b.h, b.lx, b.ly, b.lz) := by
  simp only [Prod.mk.injEq, List.cons.injEq, DV.sl.injEq, and_true, true_and] at e
  obtain ⟨⟨e1, e2, e3⟩, e4⟩ := e
  have f : ∀ {h : List AObj} {x : DV} {l l' : List Int}, VisL h x l → VisL h x l' → l = l' := fun p q => by
    have p1 := p.vis []
    rw [q.vis []] at p1
    simp only [Option.some.injEq, Prod.mk.injEq, map_inj_i64] at p1
    exact p1.2.symm
  have p1 := h1.x
  have p2 := h1.y
  have p3 := h1.z
  rw [e1, e4] at p1
  rw [e2, e4] at p2
  rw [e3, e4] at p3
  rw [f p1 h2.x, f p2 h2.y, f p3 h2.z, e4]
noncomputable def cCat : List DV → List AObj → Option (DV × List AObj) := conH CAOK (fun a => ([.sl true 1 3 [a.x, a.y, a.z]], a.h)) (fun a => (srtV a.h.length (a.lx ++ (a.ly ++ a.lz)), srtH a.h (a.lx ++ (a.ly ++ a.lz))))
theorem cCat_eq {a : CA} (h : CAOK a) : cCat [.sl true 1 3 [a.x, a.y, a.z]] a.h = some (srtV a.h.length (a.lx ++ (a.ly ++ a.lz)), srtH a.h (a.lx ++ (a.ly ++ a.lz))) :=
  conH_eq' (A := CAOK) (f := fun a => ([.sl true 1 3 [a.x, a.y, a.z]], a.h)) (g := fun a => (srtV a.h.length (a.lx ++ (a.ly ++ a.lz)), srtH a.h (a.lx ++ (a.ly ++ a.lz)))) (fun a b h1 h2 e => by
    have q := concat_inj h1 h2 e
    simp only [Prod.mk.injEq] at q
    obtain ⟨q1, q2, q3, q4⟩ := q
    rw [q1, q2, q3, q4]) a h
theorem cat_sound : (Con.heap cCat).Sound P 98 := conH_sound fun a h => calls_runs mix T219_sound Tryd.func98 a98_ok (runs_concat a h)
def idP (pre : List AObj) (c : Clu) (l : List Ins) : List AObj := match l with
  | [] => pre ++ [.cells (clC c)]
  | x :: _ => pre ++ [.cells (clC c), .cells (inC x)]
theorem idC_map (l : List Ins) : idC l = (l.map Ins.id).map (.int .i64) := by
  induction l with
  | nil => rfl
  | cons a l ih => simp only [idC, List.map_cons, List.flatMap_cons] at ih ⊢; rw [ih]; rfl
theorem idO_srt {pre : List AObj} {c : Clu} {l : List Ins} : pre ++ idO c l = srtH (idP pre c l) (l.map Ins.id) := by
  cases l with
  | nil => rfl
  | cons x r => rw [idO_cons, idP, srtH_ne (by simp), ← idC_map]; simp
theorem idV_srt {pre : List AObj} {c : Clu} {l : List Ins} : idV (pre.length + 2) l = srtV (idP pre c l).length (l.map Ins.id) := by
  cases l with
  | nil => rfl
  | cons x r => rw [idV_ne (by simp), srtV_ne (by simp)]; simp [idP]
theorem idP_form (pre : List AObj) (c : Clu) (l : List Ins) : ∃ X, idP pre c l = pre ++ X := by
  cases l with
  | nil => exact ⟨_, rfl⟩
  | cons x r => exact ⟨_, rfl⟩
theorem srtH_form (pre : List AObj) (l : List Int) : ∃ X, srtH pre l = pre ++ X := by
  by_cases e : l = []
  · subst e; exact ⟨[], by simp [srtH_nil]⟩
  · exact ⟨_, srtH_ne e⟩
theorem visL_srt {H : List AObj} {p : Nat} {l m : List Int} (hl : m.length = l.length) (ho : l ≠ [] → H[p]? = some (.cells (m.map (.int .i64)))) : VisL H (srtV p l) m := by
  by_cases e : l = []
  · subst e
    have := List.eq_nil_of_length_eq_zero hl
    subst this
    exact ⟨fun X => rfl, fun X => rfl, rfl⟩
  · have h1 := ho e
    have hlt : p < H.length := (List.getElem?_eq_some_iff.1 h1).1
    have h2 : ∀ X ver, ver = l.length → objV (H ++ X) p ver = some (m.map (.int .i64)) := fun X ver hv => by
      unfold objV objAt
      rw [List.getElem?_append_left hlt, h1]
      simp [hl, hv]
    rw [srtV_ne e]
    refine ⟨fun X => ?_, fun X => ?_, rfl⟩
    · simp [h2 X _ rfl, hl]
    · rw [visY_ms, h2 X _ rfl]
      simp [hl, List.take_of_length_le]
theorem visL_take {H : List AObj} {p n K : Nat} {m : List Int} (hn : m.length = n) (hK : K ≤ n) (ho : H[p]? = some (.cells (m.map (.int .i64)))) : VisL H (.ms p n 0 1 K n) (m.take K) := by
  have hlt : p < H.length := (List.getElem?_eq_some_iff.1 ho).1
  have h2 : ∀ X, objV (H ++ X) p n = some (m.map (.int .i64)) := fun X => by
    unfold objV objAt
    rw [List.getElem?_append_left hlt, ho]
    simp [hn]
  refine ⟨fun X => ?_, fun X => ?_, rfl⟩
  · simp [h2 X, hn, Nat.min_eq_left hK]
  · rw [visY_ms, h2 X, Option.map_some, List.drop_zero, Nat.mul_one, List.length_take, hn, Nat.min_eq_left hK, List.map_take]
theorem snap_srt {pre : List AObj} {l : List Int} : snap (srtH pre l) 3 (srtV pre.length l) = some (liV l) := by
  by_cases e : l = []
  · subst e; rfl
  · rw [srtV_ne e, srtH_ne e, liV_ne e, snap_ms, objV_last, if_pos (by simp)]
    have : l.flatMap inI = l.map (.int .i64) := by
      clear e
      induction l with
      | nil => rfl
      | cons a l ih => rw [List.flatMap_cons, ih]; rfl
    rw [this]
    simp only [Option.bind_some, List.drop_zero, Nat.mul_one, List.take_of_length_le (show (l.map (DV.int .i64)).length ≤ l.length by simp), snapL_i64, Option.map_some]
theorem srt_last {pre : List AObj} {l : List Int} (h : l ≠ []) : (srtH pre l)[pre.length]? = some (.cells (l.map (.int .i64))) := by rw [srtH_ne h]; simp
theorem get_form {A B : List AObj} {p : Nat} {o : AObj} (h : A[p]? = some o) (hf : ∃ X, B = A ++ X) : B[p]? = some o := by
  obtain ⟨X, rfl⟩ := hf
  rw [List.getElem?_append_left (List.getElem?_eq_some_iff.1 h).1]; exact h
theorem form_trans {A B C : List AObj} (h1 : ∃ X, B = A ++ X) (h2 : ∃ X, C = B ++ X) : ∃ X, C = A ++ X := by
  obtain ⟨X, rfl⟩ := h1
  obtain ⟨Y, rfl⟩ := h2
  exact ⟨X ++ Y, by simp⟩
theorem cons_form {a : AObj} {B : List AObj} (h : ∃ X, B = [a] ++ X) : ∀ X, ∃ Y, B ++ X = a :: Y := fun X => by
  obtain ⟨Z, rfl⟩ := h
  exact ⟨_, rfl⟩
theorem obj0_form {c : Clu} {B : List AObj} (h : ∃ X, B = [.cells (clC c)] ++ X) (X : List AObj) : objV (B ++ X) 0 3 = some (clC c) := by
  obtain ⟨Y, e⟩ := cons_form h X
  rw [e, objV_zero, if_pos (len_clC c)]
noncomputable def T220 : Tbl := addT 83 (.new cIds) (addT 89 (.heap (cSrtG fSrt)) (addT 97 (.heap cRev) (addT 48 (.pure (cCk goodD)) (addT 98 (.heap cCat) tbl0))))
theorem T220_i : T220 83 = .new cIds := by simp [T220]
theorem T220_s : T220 89 = .heap (cSrtG fSrt) := by simp [T220]
theorem T220_r : T220 97 = .heap cRev := by simp [T220]
theorem T220_g : T220 48 = .pure (cCk goodD) := by simp [T220]
theorem T220_c : T220 98 = .heap cCat := by simp [T220]
theorem T220_sound : T220.Sound P := addT_sound ids_sound (addT_sound sort_sound (addT_sound rev_sound (addT_sound good_sound (addT_sound cat_sound tbl0_sound))))
structure VicOK (c : Clu) : Prop where
  n : c.i.l.length ≤ 19
  l : ∀ g ∈ c.g.l, LimOK g
theorem idsL_le {c : Clu} {k : Int} {p : Grp → Ins → Bool} : (idsL c k p).length ≤ c.i.l.length := by
  unfold idsL
  split
  · exact List.length_filter_le _ _
  · simp
theorem idsL_sub {c : Clu} {k : Int} {p : Grp → Ins → Bool} {x : Ins} (h : x ∈ idsL c k p) : x ∈ c.i.l := by
  unfold idsL at h
  split at h
  · exact selL_sub.subset h
  · simp at h
theorem findIx_mem {l : List Ins} {x : Ins} (h : x ∈ l) : 0 ≤ findIx l x.id := by
  by_cases hn : findIx l x.id < 0
  · obtain ⟨i, hi, rfl⟩ := List.getElem_of_mem h
    have := ixI_neg hn i hi
    simp at this
  · omega
theorem cells_srt {p : Nat} {l : List Int} : (srtV p l).cells = [srtV p l] := by unfold srtV; split <;> rfl
theorem known_srt {p : Nat} {l : List Int} : (srtV p l).known = true := by unfold srtV; split <;> rfl
set_option maxHeartbeats 1000000 in
theorem runs_victims (c : Clu) (k : Int) (hv : VicOK c) : Runs T220 a52 [.agg (clC c), .int .i64 k] (liV (victimsP c k)) := by
  refine ⟨?_⟩
  by_cases h0 : k < 0
  · have hr : victimsP c k = [] := by rw [victimsP, grAt_neg h0]
    simp (disch := first | omega | (simp [-List.map_take, -List.map_drop, -List.map_set, -List.map_append, -List.drop_one] <;> omega) | fail) [-List.map_take, -List.map_drop, -List.map_set, -List.map_append, -List.drop_one, a52, h0, hr, liV_nil]
  obtain ⟨K, rfl⟩ : ∃ K : Nat, k = K := ⟨k.toNat, by omega⟩
  by_cases h1 : c.g.l.length ≤ K
  · have hr : victimsP c K = [] := by rw [victimsP, grAt_big h1]
    have h1' : (c.g.l.length : Int) ≤ K := by omega
    simp (disch := first | omega | (simp [-List.map_take, -List.map_drop, -List.map_set, -List.map_append, -List.drop_one] <;> omega) | fail) [-List.map_take, -List.map_drop, -List.map_set, -List.map_append, -List.drop_one, a52, h0, h1, h1', hr, liV_nil]
  have h2 : K < c.g.l.length := by omega
  have h1' : ¬ (c.g.l.length : Int) ≤ K := by omega
  have hG := fun h => idxSD_dv (x := c.g) (h := h) len_grC h2
  have hlim := hv.l _ (List.getElem_mem h2)
  have hr : victimsP c K = sortR (ltV c) (idsP c K sDen) ++ (idsP c K sRep ++ (idsP c K sSpare).reverse.take ((goodP c K).length - c.g.l[K].want).toNat) := by rw [victimsP, grAt_in h2]
  obtain ⟨G, hGe⟩ : ∃ G, c.g.l[K] = G := ⟨_, rfl⟩
  rw [hGe] at hG hlim hr
  obtain ⟨⟨w1, w2⟩, -, -⟩ := hlim
  have hgl := good_le (c := c) (k := K)
  have hn := hv.n
  rw [idsP_eq, idsP_eq, idsP_eq] at hr
  -- the lists
  have bD := idsL_le (c := c) (k := K) (p := sDen)
  have bR := idsL_le (c := c) (k := K) (p := sRep)
  have bS := idsL_le (c := c) (k := K) (p := sSpare)
  have mD : ∀ x ∈ (idsL c K sDen).map Ins.id, 0 ≤ findIx c.i.l x := fun x hx => by
    obtain ⟨y, hy, rfl⟩ := List.mem_map.1 hx
    exact findIx_mem (idsL_sub hy)
  obtain ⟨D, hD⟩ : ∃ D, idsL c K sDen = D := ⟨_, rfl⟩
  obtain ⟨R, hR⟩ : ∃ R, idsL c K sRep = R := ⟨_, rfl⟩
  obtain ⟨S, hS⟩ : ∃ S, idsL c K sSpare = S := ⟨_, rfl⟩
  rw [hD] at hr bD mD
  rw [hR] at hr bR
  rw [hS] at hr bS
  obtain ⟨lD, hlD⟩ : ∃ l, D.map Ins.id = l := ⟨_, rfl⟩
  obtain ⟨lR, hlR⟩ : ∃ l, R.map Ins.id = l := ⟨_, rfl⟩
  obtain ⟨lS, hlS⟩ : ∃ l, S.map Ins.id = l := ⟨_, rfl⟩
  have nD : lD.length = D.length := by rw [← hlD, List.length_map]
  have nR : lR.length = R.length := by rw [← hlR, List.length_map]
  have nS : lS.length = S.length := by rw [← hlS, List.length_map]
  rw [hlD, hlR, hlS] at hr
  rw [hlD] at mD
  -- the heaps
  obtain ⟨preD, hpD⟩ : ∃ p, idP [.cells (clC c)] c D = p := ⟨_, rfl⟩
  have fD : ∃ X, preD = [.cells (clC c)] ++ X := hpD ▸ idP_form _ _ _
  have eD : AObj.cells (clC c) :: idO c D = srtH preD lD := by rw [← hpD, ← hlD]; exact idO_srt (pre := [.cells (clC c)])
  have vD : idV 3 D = srtV preD.length lD := by rw [← hpD, ← hlD]; exact idV_srt (pre := [.cells (clC c)])
  obtain ⟨sD, hsD⟩ : ∃ s, sortR (ltV c) lD = s := ⟨_, rfl⟩
  have nsD : sD.length = lD.length := by rw [← hsD, sortR_len]
  have hsort := cSrt_eq (c := c) (pre := preD) (l := lD) ⟨obj0_form fD, mD, by simp only; omega⟩
  rw [hsD] at hsort
  obtain ⟨V1, hV1⟩ : ∃ v, srtV preD.length lD = v := ⟨_, rfl⟩
  rw [hV1] at vD hsort
  obtain ⟨H0, hH0⟩ : ∃ h, srtH preD lD = h := ⟨_, rfl⟩
  rw [hH0] at eD hsort
  obtain ⟨H1, hH1⟩ : ∃ h, srtH preD sD = h := ⟨_, rfl⟩
  rw [hH1] at hsort
  have f1 : ∃ X, H1 = preD ++ X := hH1 ▸ srtH_form _ _
  obtain ⟨preR, hpR⟩ : ∃ p, idP H1 c R = p := ⟨_, rfl⟩
  have eR : H1 ++ idO c R = srtH preR lR := by rw [← hpR, ← hlR]; exact idO_srt
  have vR : idV (H1.length + 2) R = srtV preR.length lR := by rw [← hpR, ← hlR]; exact idV_srt
  obtain ⟨H2, hH2⟩ : ∃ h, srtH preR lR = h := ⟨_, rfl⟩
  rw [hH2] at eR
  have f2 : ∃ X, H2 = H1 ++ X := form_trans (hpR ▸ idP_form _ _ _) (hH2 ▸ srtH_form _ _)
  obtain ⟨V2, hV2⟩ : ∃ v, srtV preR.length lR = v := ⟨_, rfl⟩
  rw [hV2] at vR
  obtain ⟨preS, hpS⟩ : ∃ p, idP H2 c S = p := ⟨_, rfl⟩
  have eS : H2 ++ idO c S = srtH preS lS := by rw [← hpS, ← hlS]; exact idO_srt
  have vS : idV (H2.length + 2) S = srtV preS.length lS := by rw [← hpS, ← hlS]; exact idV_srt
  have hrev := cRev_eq (pre := preS) (l := lS) (by omega)
  obtain ⟨H3, hH3⟩ : ∃ h, srtH preS lS = h := ⟨_, rfl⟩
  rw [hH3] at eS hrev
  obtain ⟨H4, hH4⟩ : ∃ h, srtH preS lS.reverse = h := ⟨_, rfl⟩
  rw [hH4] at hrev
  have f4 : ∃ X, H4 = H2 ++ X := form_trans (hpS ▸ idP_form _ _ _) (hH4 ▸ srtH_form _ _)
  have f14 := form_trans f2 f4
  have o1 := obj0_form (form_trans fD f1) []
  have o2 := obj0_form (form_trans (form_trans fD f1) f2) []
  have o4 := obj0_form (form_trans (form_trans fD f1) f14) []
  rw [List.append_nil] at o1 o2 o4
  obtain ⟨V3, hV3⟩ : ∃ v, srtV preS.length lS = v := ⟨_, rfl⟩
  rw [hV3] at vS hrev
  -- how many
  obtain ⟨e, he⟩ : ∃ e, max ((goodP c K).length - G.want : Int) 0 = e := ⟨_, rfl⟩
  obtain ⟨m, hm⟩ : ∃ m : Nat, min e (lS.length : Int) = m := ⟨(min e (lS.length : Int)).toNat, by omega⟩
  have hml : m ≤ lS.length := by omega
  have htake : lS.reverse.take ((goodP c K).length - G.want).toNat = lS.reverse.take m := by
    by_cases q : ((goodP c K).length - G.want).toNat ≤ lS.length
    · rw [show ((goodP c K).length - G.want).toNat = m by omega]
    · rw [List.take_of_length_le (by simp; omega), List.take_of_length_le (by simp; omega)]
  rw [htake] at hr
  -- what is read at the end
  have L1 : VisL H4 V1 sD := by
    rw [← hV1]
    exact visL_srt nsD fun q => get_form (hH1 ▸ srt_last (fun q' => q (List.eq_nil_of_length_eq_zero (by rw [← nsD, q']; rfl)))) f14
  have L2 : VisL H4 V2 lR := by
    rw [← hV2]
    exact visL_srt rfl fun q => get_form (hH2 ▸ srt_last q) f4
  have L3 : lenD H4 V3 = some (.int .i64 lS.length) := by
    have : VisL H4 V3 lS.reverse := by
      rw [← hV3]
      exact visL_srt (by simp) fun q => by
        have := srt_last (pre := preS) (l := lS.reverse) (by simpa using q)
        rw [hH4] at this; exact this
    have := this.len []
    simpa using this
  obtain ⟨Z, hZ, hZv, hZk, hZc⟩ : ∃ Z, slcSD H4 1 V3 none (some (.int .i64 m)) none = some Z ∧ VisL H4 Z (lS.reverse.take m) ∧ Z.known = true ∧ Z.cells = [Z] := by
    by_cases q : lS = []
    · subst q
      have : m = 0 := by simpa using hml
      subst this
      refine ⟨.nils, ?_, ⟨fun X => rfl, fun X => rfl, rfl⟩, rfl, rfl⟩
      rw [← hV3, srtV_nil]
      exact slcSD_nils (boundsD_h (by omega) (by omega))
    · have hl := srt_last (pre := preS) (l := lS.reverse) (by simpa using q)
      rw [hH4] at hl
      have hvv := visL_take (n := lS.length) (K := m) (by simp) hml hl
      refine ⟨_, ?_, hvv, rfl, rfl⟩
      have ho : objV H4 preS.length lS.length = some (lS.reverse.map (.int .i64)) := by
        unfold objV objAt; rw [hl]; simp
      rw [← hV3, srtV_ne q, slcSD_ms (boundsD_h (by omega) (by omega)), ho]
      simp
  have hcat := cCat_eq (a := ⟨H4, V1, V2, Z, sD, lR, lS.reverse.take m⟩) ⟨L1, L2, hZv, by simp; omega⟩
  simp only at hcat
  have k1 : V1.known = true := hV1 ▸ known_srt
  have k2 : V2.known = true := hV2 ▸ known_srt
  have c1 : V1.cells = [V1] := hV1 ▸ cells_srt
  have c2 : V2.cells = [V2] := hV2 ▸ cells_srt
  have hbsl : bslD 1 3 [.nils] [(0, 1, V1), (1, 1, V2), (2, 1, Z)] = some (.sl true 1 3 [V1, V2, Z]) := by
    rw [bslD_of (by simp [k1, k2, hZk]) (by simp [seqD, c1, c2, hZc])]
    simp [seqD, c1, c2, hZc]
  rw [hr]
  have hsnap := snap_srt (pre := H4) (l := sD ++ (lR ++ lS.reverse.take m))
  rw [hsD]
  obtain ⟨A, hA⟩ : ∃ a, sD ++ (lR ++ lS.reverse.take m) = a := ⟨_, rfl⟩
  rw [hA] at hcat hsnap ⊢
  obtain ⟨V4, hV4⟩ : ∃ v, srtV H4.length A = v := ⟨_, rfl⟩
  obtain ⟨H5, hH5⟩ : ∃ h, srtH H4 A = h := ⟨_, rfl⟩
  rw [hV4, hH5] at hcat hsnap
  have hge : -2000000000 ≤ ((goodP c K).length : Int) - G.want ∧ ((goodP c K).length : Int) - G.want ≤ 2000000000 := by omega
  simp (disch := first | omega | (simp [-List.map_take, -List.map_drop, -List.map_set, -List.map_append, -List.drop_one] <;> omega) | fail) [-List.map_take, -List.map_drop, -List.map_set, -List.map_append, -List.drop_one, a52, h0, h1, h1', T220_i, T220_s, T220_r, T220_g, T220_c, cIds_den, cIds_rep, cIds_spare, hD, hR, hS, eD, vD, hsort, eR, vR, eS, vS, hrev, o1, o2, o4, hG, cCk_eq, goodD, E_mm2, mm2_max, mm2_min, he, hm, L3, hZ, k1, k2, hZk, hbsl, hcat, hsnap]
end Go.Proofs.YtjhakjeioppijaaDoor
set_option linter.unusedSimpArgs false
set_option linter.unusedVariables false
namespace Go.Proofs.YtjhakjeioppijaaDoor
open Go Go.Am
theorem nl_len (H : List AObj) (x : Nl) : lenD H x.dv = some (.int .i64 x.l.length) := sl_len ⟨x.k, x.l, x.h, 0⟩ H
theorem nl_idx (H : List AObj) (x : Nl) {i : Nat} (hi : i < x.l.length) : idxSD H 1 x.dv i = some (.ref [.int .i64 x.l[i]]) := sl_idx ⟨x.k, x.l, x.h, 0⟩ H hi
theorem nl_one (x : Nl) : x.dv.one = true := sl_one ⟨x.k, x.l, x.h, 0⟩
theorem nl_known (x : Nl) : x.dv.known = true := sl_known ⟨x.k, x.l, x.h, 0⟩
theorem nl_cells (x : Nl) : x.dv.cells = [x.dv] := sl_cells ⟨x.k, x.l, x.h, 0⟩
theorem below_nl {n : Nat} {x : Nl} : Am.below n x.dv = true := below_pure n _ (nl_pure x)
attribute [simp] below_nl nl_len nl_one nl_known nl_cells nl_pure
def okT (t : Int) : Prop := -2199023255552 ≤ t ∧ t ≤ 2199023255552
def ok64 (n : Int) : Prop := -9223372036854775808 ≤ n ∧ n ≤ 9223372036854775807
theorem runs_elapsed (s n t : Int) (h1 : 0 ≤ s ∧ okT s) (h2 : ok64 n) (h3 : okT t) : Runs tbl0 a100 [.int .i64 s, .int .i64 n, .int .i64 t] (.bool (decide (n ≤ t - s))) := by
  refine ⟨?_⟩
  obtain ⟨p0, p1, p2⟩ := h1
  obtain ⟨q1, q2⟩ := h2
  obtain ⟨r1, r2⟩ := h3
  by_cases h : s ≤ t
  · simp (disch := first | omega | (simp [-List.map_take, -List.map_drop, -List.map_set, -List.map_append, -List.drop_one] <;> omega) | fail) [-List.map_take, -List.map_drop, -List.map_set, -List.map_append, -List.drop_one, a100, h]
  · by_cases hn : n < 0
    · have e : decide (n + s ≤ t) = decide (n ≤ t - s) := decide_eq_decide.2 (by omega)
      simp (disch := first | omega | (simp [-List.map_take, -List.map_drop, -List.map_set, -List.map_append, -List.drop_one] <;> omega) | fail) [-List.map_take, -List.map_drop, -List.map_set, -List.map_append, -List.drop_one, a100, h, hn, e]
    · have e : decide (n ≤ t - s) = false := by simp; omega
      simp (disch := first | omega | (simp [-List.map_take, -List.map_drop, -List.map_set, -List.map_append, -List.drop_one] <;> omega) | fail) [-List.map_take, -List.map_drop, -List.map_set, -List.map_append, -List.drop_one, a100, h, hn, e]
noncomputable def cEla : List DV → Option DV := con (fun a : Int × Int × Int => (0 ≤ a.1 ∧ okT a.1) ∧ ok64 a.2.1 ∧ okT a.2.2) (fun a : Int × Int × Int => [.int .i64 a.1, .int .i64 a.2.1, .int .i64 a.2.2]) (fun a => .bool (decide (a.2.1 ≤ a.2.2 - a.1)))
theorem cEla_eq {s n t : Int} (h1 : 0 ≤ s ∧ okT s) (h2 : ok64 n) (h3 : okT t) : cEla [.int .i64 s, .int .i64 n, .int .i64 t] = some (.bool (decide (n ≤ t - s))) :=
  con_eq (f := fun a : Int × Int × Int => [.int .i64 a.1, .int .i64 a.2.1, .int .i64 a.2.2]) (g := fun a => .bool (decide (a.2.1 ≤ a.2.2 - a.1))) (by
    rintro ⟨a, b, c⟩ ⟨d, e, f⟩ h
    simp only [List.cons.injEq, DV.int.injEq, and_true, true_and] at h
    rw [h.1, h.2.1, h.2.2]) (s, n, t) ⟨h1, h2, h3⟩
noncomputable def T230 : Tbl := addT 100 (.pure cEla) tbl0
theorem T230_e : T230 100 = .pure cEla := by simp [T230]
theorem T230_sound : T230.Sound P := addT_sound (con_sound fun a h => sem_runs mix tbl0_sound Tryd.func100 a100_ok (runs_elapsed a.1 a.2.1 a.2.2 h.1 h.2.1 h.2.2)) tbl0_sound
theorem overP_snoc {x : Ins} {gr : List Int} {t : Int} : ∀ {l : List Ins} {j : Nat}, overP (l ++ [x]) j gr t = overP l j gr t ++ (if overB x (gr.getD (j + l.length) 0) t = true then [x.id] else [])
  | [], j => by simp only [List.nil_append, overP, List.length_nil, Nat.add_zero]
  | y :: l, j => by
    have ih := overP_snoc (x := x) (gr := gr) (t := t) (l := l) (j := j + 1)
    have e : j + 1 + l.length = j + (y :: l).length := by simp; omega
    rw [e] at ih
    simp only [List.cons_append, overP, ih]
    split <;> simp
theorem overP_len {gr : List Int} {t : Int} : ∀ {l : List Ins} {j : Nat}, (overP l j gr t).length ≤ l.length
  | [], _ => by simp [overP]
  | x :: l, j => by
    have := overP_len (gr := gr) (t := t) (l := l) (j := j + 1)
    rw [overP]
    split <;> simp <;> omega
structure OvOK (a : Clu × Nl × Int) : Prop where
  d : ∀ x ∈ a.1.i.l, okT x.den
  g : ∀ n ∈ a.2.1.l, ok64 n
  t : okT a.2.2
structure OS where
  i : Nat
  L : List Int
  x : Ins
def ovH (c : Clu) (a : OS) : List AObj := if a.L = [] then [.cells (clC c)] else [.cells (clC c), .cells (inC a.x), .cells (a.L.map (.int .i64))]
theorem ovH_nil {c : Clu} {i : Nat} {x : Ins} : ovH c ⟨i, [], x⟩ = [.cells (clC c)] := rfl
theorem ovH_ne {c : Clu} {i : Nat} {L : List Int} {x : Ins} (h : L ≠ []) : ovH c ⟨i, L, x⟩ = [.cells (clC c), .cells (inC x), .cells (L.map (.int .i64))] := if_neg h
theorem belowL_map64 {n : Nat} {l : List Int} : belowL n (l.map (.int .i64)) = true := belowL_i64
theorem appX_li {h : List AObj} {l : List Int} {c : List DV} {o x : AObj} {y : Int} (hl : 0 < l.length) (hb : l.length < 4294967296) : appX [o, x, .cells (l.map (.int .i64)), .cells c] 1 8 (.ms 2 l.length 0 1 l.length l.length) 1 [.int .i64 y] = some (.ms 2 (l.length + 1) 0 1 (l.length + 1) (l.length + 1), [o, x, .cells ((l ++ [y]).map (.int .i64)), .cells c]) := by
  have ho : objV [o, x, .cells (l.map (.int .i64)), .cells c] 2 l.length = some (l.map (.int .i64)) := by simp [objV, objAt]
  rw [appX_own (by simp) (by omega) (by omega) (by simp) (by omega) (by simp [DV.one]), ho, Option.map_some, List.map_append]
  rfl
def S231 (c : Clu) (g : Nl) (t : Int) (a : OS) : St := a56S0 g.dv (.int .i64 t) (srtV 2 a.L) (c.i.dv 37 inC) (.int .i64 c.i.l.length) (.int .i64 a.i) (ovH c a)
set_option maxHeartbeats 1000000 in
theorem runs_overdue (c : Clu) (g : Nl) (t : Int) (hv : OvOK (c, g, t)) : Runs T230 a56 [.agg (clC c), g.dv, .int .i64 t] (liV (overP c.i.l 0 g.l t)) := by
  refine ⟨?_⟩
  have hib := c.i.b
  have hgb := g.b
  simp (disch := first | omega | (simp [-List.map_take, -List.map_drop, -List.map_set, -List.map_append, -List.drop_one] <;> omega) | fail) [-List.map_take, -List.map_drop, -List.map_set, -List.map_append, -List.drop_one, a56]
  refine W_loop (S231 c g t) (fun a => c.i.l.length - a.i) (fun a => a.i ≤ c.i.l.length ∧ a.L = overP (c.i.l.take a.i) 0 g.l t) ⟨0, [], ⟨0, 0, dg0, 0, 0, 0⟩⟩ (weak_same (by simp (disch := first | omega | (simp [-List.map_take, -List.map_drop, -List.map_set, -List.map_append, -List.drop_one] <;> omega) | fail) [-List.map_take, -List.map_drop, -List.map_set, -List.map_append, -List.drop_one, S231, a56S0, srtV_nil]) (by simp (disch := first | omega | (simp [-List.map_take, -List.map_drop, -List.map_set, -List.map_append, -List.drop_one] <;> omega) | fail) [-List.map_take, -List.map_drop, -List.map_set, -List.map_append, -List.drop_one, S231, a56S0, ovH_nil])) ⟨by simp, by simp [overP]⟩ (fun a ha => ?_)
  obtain ⟨i, L, z⟩ := a
  obtain ⟨r1, r2⟩ := ha
  simp only at r1 r2
  simp (disch := first | omega | (simp [-List.map_take, -List.map_drop, -List.map_set, -List.map_append, -List.drop_one] <;> omega) | fail) [-List.map_take, -List.map_drop, -List.map_set, -List.map_append, -List.drop_one, a56L0, a56S0, S231]
  by_cases h : i < c.i.l.length
  · have h' : (i : Int) < c.i.l.length := by omega
    have hi := fun H => idxSD_dv (x := c.i) (h := H) len_inC h
    have hxd := hv.d _ (List.getElem_mem h)
    have hs : overP (c.i.l.take (i + 1)) 0 g.l t = L ++ (if overB c.i.l[i] (g.l.getD i 0) t = true then [c.i.l[i].id] else []) := by
      rw [List.take_succ_eq_append_getElem h, overP_snoc, ← r2]
      simp only [List.length_take, Nat.zero_add, Nat.min_eq_left (Nat.le_of_lt h)]
    have hll : L.length ≤ i := by rw [r2]; exact Nat.le_trans overP_len (by simp; omega)
    obtain ⟨x, hx⟩ : ∃ x, c.i.l[i] = x := ⟨_, rfl⟩
    simp only [hx] at hi hxd hs
    have hg : (i < g.l.length ∧ ∀ H, idxSD H 1 g.dv i = some (.ref [.int .i64 (g.l.getD i 0)])) ∨ ¬ i < g.l.length ∧ g.l.getD i 0 = 0 := by
      by_cases q : i < g.l.length
      · refine .inl ⟨q, fun H => ?_⟩
        rw [nl_idx H g q, List.getD_eq_getElem?_getD, List.getElem?_eq_getElem q]; rfl
      · refine .inr ⟨q, ?_⟩
        rw [List.getD_eq_getElem?_getD, List.getElem?_eq_none (by omega)]; rfl
    have hgo : ok64 (g.l.getD i 0) := by
      rw [List.getD_eq_getElem?_getD]
      by_cases q : i < g.l.length
      · rw [List.getElem?_eq_getElem q]; exact hv.g _ (List.getElem_mem q)
      · rw [List.getElem?_eq_none (by omega)]; exact ⟨by decide, by decide⟩
    obtain ⟨G, hG⟩ : ∃ G, g.l.getD i 0 = G := ⟨_, rfl⟩
    rw [hG] at hg hgo hs
    have hel := fun q : 0 ≤ x.den => cEla_eq (s := x.den) (n := G) (t := t) ⟨q, hxd⟩ hgo hv.t
    have hsn : overB x G t = (decide (x.state ≠ 3) && (decide (0 ≤ x.den) && decide (G ≤ t - x.den))) := rfl
    by_cases c1 : x.state = 3
    · have hB : overB x G t = false := by rw [hsn]; simp [c1]
      rcases hg with ⟨g1, g2⟩ | ⟨g1, g2⟩
      · have g1' : (i : Int) < g.l.length := by omega
        have hs' : overP (c.i.l.take (i + 1)) 0 g.l t = L := by rw [hs, hB]; simp
        by_cases hL : L = []
        · subst hL
          simp (disch := first | omega | (simp [-List.map_take, -List.map_drop, -List.map_set, -List.map_append, -List.drop_one] <;> omega) | fail) [-List.map_take, -List.map_drop, -List.map_set, -List.map_append, -List.drop_one, h, h', hi, srtV_nil, ovH_nil, T230_e, g1, g1', g2, c1]
          refine ⟨⟨i + 1, [], x⟩, weak_drop (tail := [.cells (inC x)]) (by simp (disch := first | omega | (simp [-List.map_take, -List.map_drop, -List.map_set, -List.map_append, -List.drop_one] <;> omega) | fail) [-List.map_take, -List.map_drop, -List.map_set, -List.map_append, -List.drop_one, S231, a56S0, srtV]) (by simp (disch := first | omega | (simp [-List.map_take, -List.map_drop, -List.map_set, -List.map_append, -List.drop_one] <;> omega) | fail) [-List.map_take, -List.map_drop, -List.map_set, -List.map_append, -List.drop_one, S231, a56S0, ovH]) (by simp [S231, a56S0, ovH]) (by simp [S231, a56S0, ovH, srtV, belowL, Am.below]) (by simp [S231, a56S0, ovH, belowH]), by simp; omega, by simp; omega, by rw [hs']⟩
        · have hSV := srtV_ne (p := 2) hL
          have hLp : 0 < L.length := by cases L with | nil => exact absurd rfl hL | cons a l => simp
          have hap := fun H o z c y => appX_li (h := H) (l := L) (o := o) (x := z) (c := c) (y := y) hLp (by omega)
          simp (disch := first | omega | (simp [-List.map_take, -List.map_drop, -List.map_set, -List.map_append, -List.drop_one] <;> omega) | fail) [-List.map_take, -List.map_drop, -List.map_set, -List.map_append, -List.drop_one, h, h', hi, hSV, ovH_ne hL, T230_e, hap, g1, g1', g2, c1]
          refine ⟨⟨i + 1, L, z⟩, weak_drop (tail := [.cells (inC x)]) (by simp (disch := first | omega | (simp [-List.map_take, -List.map_drop, -List.map_set, -List.map_append, -List.drop_one] <;> omega) | fail) [-List.map_take, -List.map_drop, -List.map_set, -List.map_append, -List.drop_one, S231, a56S0, srtV, hL]) (by simp (disch := first | omega | (simp [-List.map_take, -List.map_drop, -List.map_set, -List.map_append, -List.drop_one] <;> omega) | fail) [-List.map_take, -List.map_drop, -List.map_set, -List.map_append, -List.drop_one, S231, a56S0, ovH, hL]) (by simp [S231, a56S0, ovH, hL]) (by simp [S231, a56S0, ovH, hL, srtV, belowL, Am.below]) (by simp [S231, a56S0, ovH, hL, belowH, belowL_map64]), by simp; omega, by simp; omega, by rw [hs']⟩
      · subst g2
        have g1' : ¬ (i : Int) < g.l.length := by omega
        have hs' : overP (c.i.l.take (i + 1)) 0 g.l t = L := by rw [hs, hB]; simp
        by_cases hL : L = []
        · subst hL
          simp (disch := first | omega | (simp [-List.map_take, -List.map_drop, -List.map_set, -List.map_append, -List.drop_one] <;> omega) | fail) [-List.map_take, -List.map_drop, -List.map_set, -List.map_append, -List.drop_one, h, h', hi, srtV_nil, ovH_nil, T230_e, g1, g1', c1]
          refine ⟨⟨i + 1, [], x⟩, weak_drop (tail := [.cells (inC x)]) (by simp (disch := first | omega | (simp [-List.map_take, -List.map_drop, -List.map_set, -List.map_append, -List.drop_one] <;> omega) | fail) [-List.map_take, -List.map_drop, -List.map_set, -List.map_append, -List.drop_one, S231, a56S0, srtV]) (by simp (disch := first | omega | (simp [-List.map_take, -List.map_drop, -List.map_set, -List.map_append, -List.drop_one] <;> omega) | fail) [-List.map_take, -List.map_drop, -List.map_set, -List.map_append, -List.drop_one, S231, a56S0, ovH]) (by simp [S231, a56S0, ovH]) (by simp [S231, a56S0, ovH, srtV, belowL, Am.below]) (by simp [S231, a56S0, ovH, belowH]), by simp; omega, by simp; omega, by rw [hs']⟩
        · have hSV := srtV_ne (p := 2) hL
          have hLp : 0 < L.length := by cases L with | nil => exact absurd rfl hL | cons a l => simp
          have hap := fun H o z c y => appX_li (h := H) (l := L) (o := o) (x := z) (c := c) (y := y) hLp (by omega)
          simp (disch := first | omega | (simp [-List.map_take, -List.map_drop, -List.map_set, -List.map_append, -List.drop_one] <;> omega) | fail) [-List.map_take, -List.map_drop, -List.map_set, -List.map_append, -List.drop_one, h, h', hi, hSV, ovH_ne hL, T230_e, hap, g1, g1', c1]
          refine ⟨⟨i + 1, L, z⟩, weak_drop (tail := [.cells (inC x)]) (by simp (disch := first | omega | (simp [-List.map_take, -List.map_drop, -List.map_set, -List.map_append, -List.drop_one] <;> omega) | fail) [-List.map_take, -List.map_drop, -List.map_set, -List.map_append, -List.drop_one, S231, a56S0, srtV, hL]) (by simp (disch := first | omega | (simp [-List.map_take, -List.map_drop, -List.map_set, -List.map_append, -List.drop_one] <;> omega) | fail) [-List.map_take, -List.map_drop, -List.map_set, -List.map_append, -List.drop_one, S231, a56S0, ovH, hL]) (by simp [S231, a56S0, ovH, hL]) (by simp [S231, a56S0, ovH, hL, srtV, belowL, Am.below]) (by simp [S231, a56S0, ovH, hL, belowH, belowL_map64]), by simp; omega, by simp; omega, by rw [hs']⟩
    by_cases c2 : 0 ≤ x.den
    case neg =>
      have hB : overB x G t = false := by rw [hsn]; simp [c2]
      rcases hg with ⟨g1, g2⟩ | ⟨g1, g2⟩
      · have g1' : (i : Int) < g.l.length := by omega
        have hs' : overP (c.i.l.take (i + 1)) 0 g.l t = L := by rw [hs, hB]; simp
        by_cases hL : L = []
        · subst hL
          simp (disch := first | omega | (simp [-List.map_take, -List.map_drop, -List.map_set, -List.map_append, -List.drop_one] <;> omega) | fail) [-List.map_take, -List.map_drop, -List.map_set, -List.map_append, -List.drop_one, h, h', hi, srtV_nil, ovH_nil, T230_e, g1, g1', g2, c1, c2]
          refine ⟨⟨i + 1, [], x⟩, weak_drop (tail := [.cells (inC x)]) (by simp (disch := first | omega | (simp [-List.map_take, -List.map_drop, -List.map_set, -List.map_append, -List.drop_one] <;> omega) | fail) [-List.map_take, -List.map_drop, -List.map_set, -List.map_append, -List.drop_one, S231, a56S0, srtV]) (by simp (disch := first | omega | (simp [-List.map_take, -List.map_drop, -List.map_set, -List.map_append, -List.drop_one] <;> omega) | fail) [-List.map_take, -List.map_drop, -List.map_set, -List.map_append, -List.drop_one, S231, a56S0, ovH]) (by simp [S231, a56S0, ovH]) (by simp [S231, a56S0, ovH, srtV, belowL, Am.below]) (by simp [S231, a56S0, ovH, belowH]), by simp; omega, by simp; omega, by rw [hs']⟩
        · have hSV := srtV_ne (p := 2) hL
          have hLp : 0 < L.length := by cases L with | nil => exact absurd rfl hL | cons a l => simp
          have hap := fun H o z c y => appX_li (h := H) (l := L) (o := o) (x := z) (c := c) (y := y) hLp (by omega)
          simp (disch := first | omega | (simp [-List.map_take, -List.map_drop, -List.map_set, -List.map_append, -List.drop_one] <;> omega) | fail) [-List.map_take, -List.map_drop, -List.map_set, -List.map_append, -List.drop_one, h, h', hi, hSV, ovH_ne hL, T230_e, hap, g1, g1', g2, c1, c2]
          refine ⟨⟨i + 1, L, z⟩, weak_drop (tail := [.cells (inC x)]) (by simp (disch := first | omega | (simp [-List.map_take, -List.map_drop, -List.map_set, -List.map_append, -List.drop_one] <;> omega) | fail) [-List.map_take, -List.map_drop, -List.map_set, -List.map_append, -List.drop_one, S231, a56S0, srtV, hL]) (by simp (disch := first | omega | (simp [-List.map_take, -List.map_drop, -List.map_set, -List.map_append, -List.drop_one] <;> omega) | fail) [-List.map_take, -List.map_drop, -List.map_set, -List.map_append, -List.drop_one, S231, a56S0, ovH, hL]) (by simp [S231, a56S0, ovH, hL]) (by simp [S231, a56S0, ovH, hL, srtV, belowL, Am.below]) (by simp [S231, a56S0, ovH, hL, belowH, belowL_map64]), by simp; omega, by simp; omega, by rw [hs']⟩
      · subst g2
        have g1' : ¬ (i : Int) < g.l.length := by omega
        have hs' : overP (c.i.l.take (i + 1)) 0 g.l t = L := by rw [hs, hB]; simp
        by_cases hL : L = []
        · subst hL
          simp (disch := first | omega | (simp [-List.map_take, -List.map_drop, -List.map_set, -List.map_append, -List.drop_one] <;> omega) | fail) [-List.map_take, -List.map_drop, -List.map_set, -List.map_append, -List.drop_one, h, h', hi, srtV_nil, ovH_nil, T230_e, g1, g1', c1, c2]
          refine ⟨⟨i + 1, [], x⟩, weak_drop (tail := [.cells (inC x)]) (by simp (disch := first | omega | (simp [-List.map_take, -List.map_drop, -List.map_set, -List.map_append, -List.drop_one] <;> omega) | fail) [-List.map_take, -List.map_drop, -List.map_set, -List.map_append, -List.drop_one, S231, a56S0, srtV]) (by simp (disch := first | omega | (simp [-List.map_take, -List.map_drop, -List.map_set, -List.map_append, -List.drop_one] <;> omega) | fail) [-List.map_take, -List.map_drop, -List.map_set, -List.map_append, -List.drop_one, S231, a56S0, ovH]) (by simp [S231, a56S0, ovH]) (by simp [S231, a56S0, ovH, srtV, belowL, Am.below]) (by simp [S231, a56S0, ovH, belowH]), by simp; omega, by simp; omega, by rw [hs']⟩
        · have hSV := srtV_ne (p := 2) hL
          have hLp : 0 < L.length := by cases L with | nil => exact absurd rfl hL | cons a l => simp
          have hap := fun H o z c y => appX_li (h := H) (l := L) (o := o) (x := z) (c := c) (y := y) hLp (by omega)
          simp (disch := first | omega | (simp [-List.map_take, -List.map_drop, -List.map_set, -List.map_append, -List.drop_one] <;> omega) | fail) [-List.map_take, -List.map_drop, -List.map_set, -List.map_append, -List.drop_one, h, h', hi, hSV, ovH_ne hL, T230_e, hap, g1, g1', c1, c2]
          refine ⟨⟨i + 1, L, z⟩, weak_drop (tail := [.cells (inC x)]) (by simp (disch := first | omega | (simp [-List.map_take, -List.map_drop, -List.map_set, -List.map_append, -List.drop_one] <;> omega) | fail) [-List.map_take, -List.map_drop, -List.map_set, -List.map_append, -List.drop_one, S231, a56S0, srtV, hL]) (by simp (disch := first | omega | (simp [-List.map_take, -List.map_drop, -List.map_set, -List.map_append, -List.drop_one] <;> omega) | fail) [-List.map_take, -List.map_drop, -List.map_set, -List.map_append, -List.drop_one, S231, a56S0, ovH, hL]) (by simp [S231, a56S0, ovH, hL]) (by simp [S231, a56S0, ovH, hL, srtV, belowL, Am.below]) (by simp [S231, a56S0, ovH, hL, belowH, belowL_map64]), by simp; omega, by simp; omega, by rw [hs']⟩
    have hel := hel c2
    by_cases c3 : G ≤ t - x.den
    · have hB : overB x G t = true := by rw [hsn]; simp [c1, c2, c3]
      rcases hg with ⟨g1, g2⟩ | ⟨g1, g2⟩
      · have g1' : (i : Int) < g.l.length := by omega
        have hs' : overP (c.i.l.take (i + 1)) 0 g.l t = L ++ [x.id] := by rw [hs, hB]; simp
        by_cases hL : L = []
        · subst hL
          simp (disch := first | omega | (simp [-List.map_take, -List.map_drop, -List.map_set, -List.map_append, -List.drop_one] <;> omega) | fail) [-List.map_take, -List.map_drop, -List.map_set, -List.map_append, -List.drop_one, h, h', hi, srtV_nil, ovH_nil, T230_e, g1, g1', g2, c1, c2, c3, hel]
          refine ⟨⟨i + 1, [x.id], x⟩, weak_same (by simp (disch := first | omega | (simp [-List.map_take, -List.map_drop, -List.map_set, -List.map_append, -List.drop_one] <;> omega) | fail) [-List.map_take, -List.map_drop, -List.map_set, -List.map_append, -List.drop_one, S231, a56S0, srtV]) (by simp (disch := first | omega | (simp [-List.map_take, -List.map_drop, -List.map_set, -List.map_append, -List.drop_one] <;> omega) | fail) [-List.map_take, -List.map_drop, -List.map_set, -List.map_append, -List.drop_one, S231, a56S0, ovH]), by simp; omega, by simp; omega, by rw [hs']; rfl⟩
        · have hSV := srtV_ne (p := 2) hL
          have hLp : 0 < L.length := by cases L with | nil => exact absurd rfl hL | cons a l => simp
          have hap := fun H o z c y => appX_li (h := H) (l := L) (o := o) (x := z) (c := c) (y := y) hLp (by omega)
          simp (disch := first | omega | (simp [-List.map_take, -List.map_drop, -List.map_set, -List.map_append, -List.drop_one] <;> omega) | fail) [-List.map_take, -List.map_drop, -List.map_set, -List.map_append, -List.drop_one, h, h', hi, hSV, ovH_ne hL, T230_e, hap, g1, g1', g2, c1, c2, c3, hel]
          have hO : ovH c ⟨i + 1, L ++ [x.id], z⟩ = [.cells (clC c), .cells (inC z), .cells ((L ++ [x.id]).map (.int .i64))] := ovH_ne (by simp)
          have hV : srtV 2 (L ++ [x.id]) = .ms 2 (L.length + 1) 0 1 (L.length + 1) (L.length + 1) := by rw [srtV_ne (by simp), List.length_append]; rfl
          refine ⟨⟨i + 1, L ++ [x.id], z⟩, weak_drop (tail := [.cells (inC x)]) (by simp (disch := first | omega | (simp [-List.map_take, -List.map_drop, -List.map_set, -List.map_append, -List.drop_one] <;> omega) | fail) [-List.map_take, -List.map_drop, -List.map_set, -List.map_append, -List.drop_one, S231, a56S0, hV]) (by simp (disch := first | omega | (simp [-List.map_take, -List.map_drop, -List.map_set, -List.map_append, -List.drop_one] <;> omega) | fail) [-List.map_take, -List.map_drop, -List.map_set, -List.map_append, -List.drop_one, S231, a56S0, hO]) (Nat.zero_le _) (by simp (disch := first | omega | (simp [-List.map_take, -List.map_drop, -List.map_set, -List.map_append, -List.drop_one] <;> omega) | fail) [-List.map_take, -List.map_drop, -List.map_set, -List.map_append, -List.drop_one, S231, a56S0, hO, hV, belowL, Am.below]) (by simp (disch := first | omega | (simp [-List.map_take, -List.map_drop, -List.map_set, -List.map_append, -List.drop_one] <;> omega) | fail) [-List.map_take, -List.map_drop, -List.map_set, -List.map_append, -List.drop_one, S231, a56S0, hO, belowH, belowL_map64]), by simp; omega, by simp; omega, by rw [hs']⟩
      · subst g2
        have g1' : ¬ (i : Int) < g.l.length := by omega
        have c3' : x.den ≤ t := by omega
        have hs' : overP (c.i.l.take (i + 1)) 0 g.l t = L ++ [x.id] := by rw [hs, hB]; simp
        by_cases hL : L = []
        · subst hL
          simp (disch := first | omega | (simp [-List.map_take, -List.map_drop, -List.map_set, -List.map_append, -List.drop_one] <;> omega) | fail) [-List.map_take, -List.map_drop, -List.map_set, -List.map_append, -List.drop_one, h, h', hi, srtV_nil, ovH_nil, T230_e, g1, g1', c3', c1, c2, c3, hel]
          refine ⟨⟨i + 1, [x.id], x⟩, weak_same (by simp (disch := first | omega | (simp [-List.map_take, -List.map_drop, -List.map_set, -List.map_append, -List.drop_one] <;> omega) | fail) [-List.map_take, -List.map_drop, -List.map_set, -List.map_append, -List.drop_one, S231, a56S0, srtV]) (by simp (disch := first | omega | (simp [-List.map_take, -List.map_drop, -List.map_set, -List.map_append, -List.drop_one] <;> omega) | fail) [-List.map_take, -List.map_drop, -List.map_set, -List.map_append, -List.drop_one, S231, a56S0, ovH]), by simp; omega, by simp; omega, by rw [hs']; rfl⟩
        · have hSV := srtV_ne (p := 2) hL
          have hLp : 0 < L.length := by cases L with | nil => exact absurd rfl hL | cons a l => simp
          have hap := fun H o z c y => appX_li (h := H) (l := L) (o := o) (x := z) (c := c) (y := y) hLp (by omega)
          simp (disch := first | omega | (simp [-List.map_take, -List.map_drop, -List.map_set, -List.map_append, -List.drop_one] <;> omega) | fail) [-List.map_take, -List.map_drop, -List.map_set, -List.map_append, -List.drop_one, h, h', hi, hSV, ovH_ne hL, T230_e, hap, g1, g1', c3', c1, c2, c3, hel]
          have hO : ovH c ⟨i + 1, L ++ [x.id], z⟩ = [.cells (clC c), .cells (inC z), .cells ((L ++ [x.id]).map (.int .i64))] := ovH_ne (by simp)
          have hV : srtV 2 (L ++ [x.id]) = .ms 2 (L.length + 1) 0 1 (L.length + 1) (L.length + 1) := by rw [srtV_ne (by simp), List.length_append]; rfl
          refine ⟨⟨i + 1, L ++ [x.id], z⟩, weak_drop (tail := [.cells (inC x)]) (by simp (disch := first | omega | (simp [-List.map_take, -List.map_drop, -List.map_set, -List.map_append, -List.drop_one] <;> omega) | fail) [-List.map_take, -List.map_drop, -List.map_set, -List.map_append, -List.drop_one, S231, a56S0, hV]) (by simp (disch := first | omega | (simp [-List.map_take, -List.map_drop, -List.map_set, -List.map_append, -List.drop_one] <;> omega) | fail) [-List.map_take, -List.map_drop, -List.map_set, -List.map_append, -List.drop_one, S231, a56S0, hO]) (Nat.zero_le _) (by simp (disch := first | omega | (simp [-List.map_take, -List.map_drop, -List.map_set, -List.map_append, -List.drop_one] <;> omega) | fail) [-List.map_take, -List.map_drop, -List.map_set, -List.map_append, -List.drop_one, S231, a56S0, hO, hV, belowL, Am.below]) (by simp (disch := first | omega | (simp [-List.map_take, -List.map_drop, -List.map_set, -List.map_append, -List.drop_one] <;> omega) | fail) [-List.map_take, -List.map_drop, -List.map_set, -List.map_append, -List.drop_one, S231, a56S0, hO, belowH, belowL_map64]), by simp; omega, by simp; omega, by rw [hs']⟩
    · have hB : overB x G t = false := by rw [hsn]; simp [c1, c2, c3]
      rcases hg with ⟨g1, g2⟩ | ⟨g1, g2⟩
      · have g1' : (i : Int) < g.l.length := by omega
        have hs' : overP (c.i.l.take (i + 1)) 0 g.l t = L := by rw [hs, hB]; simp
        by_cases hL : L = []
        · subst hL
          simp (disch := first | omega | (simp [-List.map_take, -List.map_drop, -List.map_set, -List.map_append, -List.drop_one] <;> omega) | fail) [-List.map_take, -List.map_drop, -List.map_set, -List.map_append, -List.drop_one, h, h', hi, srtV_nil, ovH_nil, T230_e, g1, g1', g2, c1, c2, c3, hel]
          refine ⟨⟨i + 1, [], x⟩, weak_drop (tail := [.cells (inC x)]) (by simp (disch := first | omega | (simp [-List.map_take, -List.map_drop, -List.map_set, -List.map_append, -List.drop_one] <;> omega) | fail) [-List.map_take, -List.map_drop, -List.map_set, -List.map_append, -List.drop_one, S231, a56S0, srtV]) (by simp (disch := first | omega | (simp [-List.map_take, -List.map_drop, -List.map_set, -List.map_append, -List.drop_one] <;> omega) | fail) [-List.map_take, -List.map_drop, -List.map_set, -List.map_append, -List.drop_one, S231, a56S0, ovH]) (by simp [S231, a56S0, ovH]) (by simp [S231, a56S0, ovH, srtV, belowL, Am.below]) (by simp [S231, a56S0, ovH, belowH]), by simp; omega, by simp; omega, by rw [hs']⟩
        · have hSV := srtV_ne (p := 2) hL
          have hLp : 0 < L.length := by cases L with | nil => exact absurd rfl hL | cons a l => simp
          have hap := fun H o z c y => appX_li (h := H) (l := L) (o := o) (x := z) (c := c) (y := y) hLp (by omega)
          simp (disch := first | omega | (simp [-List.map_take, -List.map_drop, -List.map_set, -List.map_append, -List.drop_one] <;> omega) | fail) [-List.map_take, -List.map_drop, -List.map_set, -List.map_append, -List.drop_one, h, h', hi, hSV, ovH_ne hL, T230_e, hap, g1, g1', g2, c1, c2, c3, hel]
          refine ⟨⟨i + 1, L, z⟩, weak_drop (tail := [.cells (inC x)]) (by simp (disch := first | omega | (simp [-List.map_take, -List.map_drop, -List.map_set, -List.map_append, -List.drop_one] <;> omega) | fail) [-List.map_take, -List.map_drop, -List.map_set, -List.map_append, -List.drop_one, S231, a56S0, srtV, hL]) (by simp (disch := first | omega | (simp [-List.map_take, -List.map_drop, -List.map_set, -List.map_append, -List.drop_one] <;> omega) | fail) [-List.map_take, -List.map_drop, -List.map_set, -List.map_append, -List.drop_one, S231, a56S0, ovH, hL]) (by simp [S231, a56S0, ovH, hL]) (by simp [S231, a56S0, ovH, hL, srtV, belowL, Am.below]) (by simp [S231, a56S0, ovH, hL, belowH, belowL_map64]), by simp; omega, by simp; omega, by rw [hs']⟩
      · subst g2
        have g1' : ¬ (i : Int) < g.l.length := by omega
        have c3' : ¬ x.den ≤ t := by omega
        have hs' : overP (c.i.l.take (i + 1)) 0 g.l t = L := by rw [hs, hB]; simp
        by_cases hL : L = []
        · subst hL
          simp (disch := first | omega | (simp [-List.map_take, -List.map_drop, -List.map_set, -List.map_append, -List.drop_one] <;> omega) | fail) [-List.map_take, -List.map_drop, -List.map_set, -List.map_append, -List.drop_one, h, h', hi, srtV_nil, ovH_nil, T230_e, g1, g1', c3', c1, c2, c3, hel]
          refine ⟨⟨i + 1, [], x⟩, weak_drop (tail := [.cells (inC x)]) (by simp (disch := first | omega | (simp [-List.map_take, -List.map_drop, -List.map_set, -List.map_append, -List.drop_one] <;> omega) | fail) [-List.map_take, -List.map_drop, -List.map_set, -List.map_append, -List.drop_one, S231, a56S0, srtV]) (by simp (disch := first | omega | (simp [-List.map_take, -List.map_drop, -List.map_set, -List.map_append, -List.drop_one] <;> omega) | fail) [-List.map_take, -List.map_drop, -List.map_set, -List.map_append, -List.drop_one, S231, a56S0, ovH]) (by simp [S231, a56S0, ovH]) (by simp [S231, a56S0, ovH, srtV, belowL, Am.below]) (by simp [S231, a56S0, ovH, belowH]), by simp; omega, by simp; omega, by rw [hs']⟩
        · have hSV := srtV_ne (p := 2) hL
          have hLp : 0 < L.length := by cases L with | nil => exact absurd rfl hL | cons a l => simp
          have hap := fun H o z c y => appX_li (h := H) (l := L) (o := o) (x := z) (c := c) (y := y) hLp (by omega)
          simp (disch := first | omega | (simp [-List.map_take, -List.map_drop, -List.map_set, -List.map_append, -List.drop_one] <;> omega) | fail) [-List.map_take, -List.map_drop, -List.map_set, -List.map_append, -List.drop_one, h, h', hi, hSV, ovH_ne hL, T230_e, hap, g1, g1', c3', c1, c2, c3, hel]
          refine ⟨⟨i + 1, L, z⟩, weak_drop (tail := [.cells (inC x)]) (by simp (disch := first | omega | (simp [-List.map_take, -List.map_drop, -List.map_set, -List.map_append, -List.drop_one] <;> omega) | fail) [-List.map_take, -List.map_drop, -List.map_set, -List.map_append, -List.drop_one, S231, a56S0, srtV, hL]) (by simp (disch := first | omega | (simp [-List.map_take, -List.map_drop, -List.map_set, -List.map_append, -List.drop_one] <;> omega) | fail) [-List.map_take, -List.map_drop, -List.map_set, -List.map_append, -List.drop_one, S231, a56S0, ovH, hL]) (by simp [S231, a56S0, ovH, hL]) (by simp [S231, a56S0, ovH, hL, srtV, belowL, Am.below]) (by simp [S231, a56S0, ovH, hL, belowH, belowL_map64]), by simp; omega, by simp; omega, by rw [hs']⟩
  · have h' : ¬ (i : Int) < c.i.l.length := by omega
    have e : overP c.i.l 0 g.l t = L := by rw [r2, List.take_of_length_le (by omega)]
    rw [e]
    by_cases hL : L = []
    · subst hL
      simp (disch := first | omega | (simp [-List.map_take, -List.map_drop, -List.map_set, -List.map_append, -List.drop_one] <;> omega) | fail) [-List.map_take, -List.map_drop, -List.map_set, -List.map_append, -List.drop_one, h, h', ovH_nil, srtV_nil, liV_nil]
    · have := snap_srt (pre := [.cells (clC c), .cells (inC z)]) (l := L)
      rw [ovH_ne hL]
      rw [srtH_ne hL] at this
      simp only [List.cons_append, List.nil_append, List.length_cons, List.length_nil, Nat.zero_add] at this
      simp (disch := first | omega | (simp [-List.map_take, -List.map_drop, -List.map_set, -List.map_append, -List.drop_one] <;> omega) | fail) [-List.map_take, -List.map_drop, -List.map_set, -List.map_append, -List.drop_one, h, h', this]
end Go.Proofs.YtjhakjeioppijaaDoor
