/-
  1 texts of mine in one.
-/
import Derived.Test.YtjhakjeioppijaaDoorC5f0ea989
import Derived.Test.YtjhakjeioppijaaDoorC950dc02d
import Derived.Test.YtjhakjeioppijaaDoorC0aefe577
import Derived.Test.YtjhakjeioppijaaDoorC3dcfe18e
import Derived.Test.YtjhakjeioppijaaDoorCe716085a
import Derived.Test.YtjhakjeioppijaaDoorC5fc3a3ce
/-
  The law DisruptionVictims: its walk.
-/
set_option linter.unusedSimpArgs false
set_option linter.unusedVariables false
namespace Go.Proofs.YtjhakjeioppijaaDoor
open Go Go.Am

theorem good_same {c : Clu} (hg : GoodI c.i.l) {k : Int} {g : Grp} (hk : grAt c k = some g) : goodP c k = (selL c.i.l k (sGoodR g)).map Ins.id := by
  unfold goodP idsP; rw [hk]
  refine congrArg _ (selL_congr fun x hx => ?_)
  obtain ⟨h1, h2, h3⟩ := hg.s x hx
  have : decide (x.state ≠ 3) = (decide (x.state = 1) || decide (x.state = 2)) := by
    rw [← Bool.decide_or]; exact decide_eq_decide.2 (by omega)
  have hden : decide (x.den < 0) = decide (x.den = -1) := decide_eq_decide.2 (by omega)
  simp only [sGood, sGoodR, chos, hden, this]
noncomputable def T272 : Tbl := addT 26 (.new cTape) (addT 27 (.tch cClu) (addT 28 (.tch cNext) (addT 52 (.pure (cCkA VicOK vicD)) (addT 58 (.pure (cCx isGoodR)) (addT 48 (.pure (cCk goodD)) (addT 54 (.pure cTru) tbl0))))))
theorem T272_t : T272 26 = .new cTape := by simp [T272]
theorem T272_c : T272 27 = .tch cClu := by simp [T272]
theorem T272_n : T272 28 = .tch cNext := by simp [T272]
theorem T272_v : T272 52 = .pure (cCkA VicOK vicD) := by simp [T272]
theorem T272_g : T272 58 = .pure (cCx isGoodR) := by simp [T272]
theorem T272_o : T272 48 = .pure (cCk goodD) := by simp [T272]
theorem T272_a : T272 54 = .pure cTru := by simp [T272]
theorem T272_sound : T272.Sound P := addT_sound tape_sound (addT_sound clu_sound (addT_sound next_sound (addT_sound vic_sound (addT_sound isgood_sound (addT_sound good_sound (addT_sound awake38_sound tbl0_sound))))))
def badN (g : Grp) (l : List Ins) (k : Int) : Nat := (selL l k fun x => decide (x.state = 2) && !sGoodR g x).length
def gooN (g : Grp) (l : List Ins) (k : Int) (vs : List Int) : Nat := ((refSpare g l k).map fun x => vs.count x.id).sum
theorem selL_snoc {l : List Ins} {k : Int} {p : Ins → Bool} {i : Nat} (h : i < l.length) {x : Ins} (hx : l[i] = x) : selL (l.take (i + 1)) k p = selL (l.take i) k p ++ (if decide (x.grp = k) && p x then [x] else []) := by
  subst hx
  rw [List.take_succ_eq_append_getElem h, selL, List.filter_append]
  congr 1
  simp only [List.filter_cons, List.filter_nil]
def cntJ (vs : List Int) (j : Nat) (y : Int) : Nat := (vs.take j).count y
theorem cntJ_succ {vs : List Int} {j : Nat} {y : Int} (h : j < vs.length) : cntJ vs (j + 1) y = cntJ vs j y + (if vs[j] = y then 1 else 0) := by
  rw [cntJ, List.take_succ_eq_append_getElem h, List.count_append, List.count_singleton]
  simp [cntJ]
theorem cntJ_le {vs : List Int} {j : Nat} {y : Int} : cntJ vs j y ≤ vs.length := Nat.le_trans (List.count_le_length) (by simp; omega)
def S270 (t : List DV) (c : Clu) (k : Int) (vs : List Int) (g : Grp) (i : Nat) : St := a11S0 (.mp 1 3 0) (.int .i64 k) (liV vs) (.int .i64 (badN g (c.i.l.take i) k)) (.int .i64 (gooN g (c.i.l.take i) k vs)) (.int .i64 i) [.cells t, .cells (clC c)]
def S271 (t : List DV) (c : Clu) (k : Int) (vs : List Int) (b o : Nat) (i : Nat) (x : Ins) (j : Nat) : St := a11S1 (.mp 1 3 0) (.int .i64 k) (liV vs) (.int .i64 b) (.int .i64 o) (.int .i64 i) (.mp 2 37 0) (.int .i64 (cntJ vs j x.id)) (.int .i64 j) [.cells t, .cells (clC c), .cells (inC x)]
def S272 (t : List DV) (c : Clu) (k : Int) (vs : List Int) (b o : Nat) (g : Grp) (i : Nat) : St := a11S2 (.mp 1 3 0) (.int .i64 k) (liV vs) (.int .i64 b) (.int .i64 o) (.int .i64 (refSpare g (c.i.l.take i) k).length) (.int .i64 i) [.cells t, .cells (clC c)]
theorem gooN_le {g : Grp} {l : List Ins} {k : Int} {vs : List Int} (h : ∀ x ∈ l, x.grp = k → x.state = 2 → sGoodR g x = true → vs.count x.id ≤ 1) : gooN g l k vs ≤ l.length := by
  have : ∀ (m : List Ins), (∀ x ∈ m, vs.count x.id ≤ 1) → (m.map fun x => vs.count x.id).sum ≤ m.length := by
    intro m
    induction m with
    | nil => intro _; simp
    | cons a m ih =>
      intro h
      have h1 := h a (by simp)
      have h2 := ih fun x hx => h x (by simp [hx])
      simp only [List.map_cons, List.sum_cons, List.length_cons]; omega
  refine Nat.le_trans (this _ fun x hx => ?_) (List.length_filter_le _ _)
  rw [refSpare, mem_selL] at hx
  obtain ⟨q1, q2, q3⟩ := hx
  simp only [Bool.and_eq_true, decide_eq_true_eq] at q3
  exact h x q1 q2 q3.1 q3.2
set_option maxHeartbeats 2000000 in
theorem runs_lawvic (x : Nl) : Runs T272 a11 [x.dv] (.bool true) := by
  refine ⟨?_⟩
  obtain ⟨u, hu⟩ : ∃ u, tp0 x 200 = u := ⟨_, rfl⟩
  have hua : u.at_ = 0 := by rw [← hu]; rfl
  obtain ⟨hv, hg⟩ := clusterV_ok u 9 (by decide) (by decide)
  have hn9 := clusterV_len u 9 (by decide) (by decide)
  have hat := clusterV_at u 9 (by decide) (by decide)
  obtain ⟨c, hc⟩ : ∃ c, (clusterV u 9).1 = c := ⟨_, rfl⟩
  obtain ⟨w, hw⟩ : ∃ w, (clusterV u 9).2 = w := ⟨_, rfl⟩
  rw [hc] at hv hg hn9
  rw [hw] at hat
  have hT := fun m => cTape_eq (x := x) (n := 200) (by decide) m
  rw [hu] at hT
  simp only [show ((200 : Nat) : Int) = 200 from rfl] at hT
  have hC : cClu [.int .i64 9] (tpC u) = some (.agg (clC c), tpC w) := by rw [cClu_eq (by omega) (by decide) (by decide), hc, hw]
  have hng : 1 ≤ (c.g.l.length : Int) := by have := List.length_pos_iff.2 hg; omega
  have hgb := hv.ng
  have hN := cNext_pos (t := w) (n := c.g.l.length) (by omega) (by omega) hng
  have k0 := tpN_lo w c.g.l.length
  have k1 := tpN_hi w hng
  obtain ⟨k, hk⟩ : ∃ k : Nat, tpN w c.g.l.length = k := ⟨(tpN w c.g.l.length).toNat, by omega⟩
  rw [hk] at hN k0 k1
  have hkl : k < c.g.l.length := by omega
  have hgk := grAt_in hkl
  have hG := fun h => idxSD_dv (x := c.g) (h := h) len_grC hkl
  have hlim := limC_of hv _ (List.getElem_mem hkl)
  obtain ⟨g, hge⟩ : ∃ g, c.g.l[k] = g := ⟨_, rfl⟩
  rw [hge] at hgk hG hlim
  obtain ⟨⟨w1, w2⟩, -, -⟩ := hlim
  have hgi := good_of hv
  have hV := vic_same hgi hgk
  have hvic := cCkA_eq (A := VicOK) (f := vicD) (c := c) (k := k) (vicOK_of hv (by omega))
  have hVl := refVic_len (g := g) (l := c.i.l) (k := k)
  obtain ⟨f1, f2, f3, f4⟩ := vic_facts hgi (k := k) (g := g)
  have hgo := good_same hgi hgk
  rw [vicD, hV] at hvic
  obtain ⟨vs, hvs⟩ : ∃ vs, (refVic g c.i.l k).map Ins.id = vs := ⟨_, rfl⟩
  have hvl : vs.length ≤ 27 := by rw [← hvs, List.length_map]; omega
  simp only [hvs] at hvic f1 f2 f3 f4
  have hx := nl_pure x
  obtain ⟨n, hn⟩ : ∃ n, c.i.l.length = n := ⟨_, rfl⟩
  have hnn : n ≤ 9 := by omega
  simp (disch := first | omega | (simp [-List.map_take, -List.map_drop, -List.map_set, -List.map_append, -List.drop_one] <;> omega) | fail) [-List.map_take, -List.map_drop, -List.map_set, -List.map_append, -List.drop_one, a11, T272_t, T272_c, T272_n, T272_v, hT, hC, hN, hvic]
  refine W_loop (S270 (tpC (w.adv 1)) c k vs g) (fun i => n - i) (fun i => i ≤ n) 0 (weak_same (by simp (disch := first | omega | (simp [-List.map_take, -List.map_drop, -List.map_set, -List.map_append, -List.drop_one] <;> omega) | fail) [-List.map_take, -List.map_drop, -List.map_set, -List.map_append, -List.drop_one, S270, a11S0, badN, gooN, selL, refSpare]) (by simp (disch := first | omega | (simp [-List.map_take, -List.map_drop, -List.map_set, -List.map_append, -List.drop_one] <;> omega) | fail) [-List.map_take, -List.map_drop, -List.map_set, -List.map_append, -List.drop_one, S270, a11S0])) (by omega) (fun i hi => ?_)
  simp (disch := first | omega | (simp [-List.map_take, -List.map_drop, -List.map_set, -List.map_append, -List.drop_one] <;> omega) | fail) [-List.map_take, -List.map_drop, -List.map_set, -List.map_append, -List.drop_one, a11L0, a11S0, S270, hn]
  by_cases h : i < n
  · have h' : (i : Int) < n := by omega
    have hi2 : i < c.i.l.length := by omega
    have hxi := fun H => idxSD_dv (x := c.i) (h := H) len_inC hi2
    have hmem := List.getElem_mem hi2
    obtain ⟨y, hy⟩ : ∃ y, c.i.l[i] = y := ⟨_, rfl⟩
    have hb := fun p => selL_snoc (k := k) (p := p) hi2 hy
    rw [hy] at hmem
    simp only [hy] at hxi
    have f1 := f1 y hmem
    have f2' := f2 y hmem
    have bl : badN g (c.i.l.take i) k ≤ 9 := Nat.le_trans (List.length_filter_le _ _) (by simp; omega)
    have gl : gooN g (c.i.l.take i) k vs ≤ 9 := Nat.le_trans (gooN_le fun z hz => f2 z (List.mem_of_mem_take hz)) (by simp; omega)
    have hbs : badN g (c.i.l.take (i + 1)) k = badN g (c.i.l.take i) k + (if decide (y.grp = k) && (decide (y.state = 2) && !sGoodR g y) then 1 else 0) := by
      unfold badN; rw [hb, List.length_append]; split <;> rfl
    have hgs : gooN g (c.i.l.take (i + 1)) k vs = gooN g (c.i.l.take i) k vs + (if decide (y.grp = k) && (decide (y.state = 2) && sGoodR g y) then vs.count y.id else 0) := by
      unfold gooN refSpare; rw [hb, List.map_append, List.sum_append]; split <;> simp
    obtain ⟨b, hbe⟩ : ∃ b, badN g (c.i.l.take i) k = b := ⟨_, rfl⟩
    obtain ⟨o, hoe⟩ : ∃ o, gooN g (c.i.l.take i) k vs = o := ⟨_, rfl⟩
    rw [hbe] at hbs bl
    rw [hoe] at hgs gl
    rw [hbe, hoe]
    by_cases e1 : y.grp = k
    case neg =>
      have hbs' : badN g (c.i.l.take (i + 1)) k = b := by rw [hbs]; simp [e1]
      have hgs' : gooN g (c.i.l.take (i + 1)) k vs = o := by rw [hgs]; simp [e1]
      simp (disch := first | omega | (simp [-List.map_take, -List.map_drop, -List.map_set, -List.map_append, -List.drop_one] <;> omega) | fail) [-List.map_take, -List.map_drop, -List.map_set, -List.map_append, -List.drop_one, h, h', hxi, e1]
      exact ⟨i + 1, weak_drop (tail := [.cells (inC y)]) (by simp (disch := first | omega | (simp [-List.map_take, -List.map_drop, -List.map_set, -List.map_append, -List.drop_one] <;> omega) | fail) [-List.map_take, -List.map_drop, -List.map_set, -List.map_append, -List.drop_one, S270, a11S0, hbs', hgs']) (by simp (disch := first | omega | (simp [-List.map_take, -List.map_drop, -List.map_set, -List.map_append, -List.drop_one] <;> omega) | fail) [-List.map_take, -List.map_drop, -List.map_set, -List.map_append, -List.drop_one, S270, a11S0]) (by simp [S270, a11S0]) (by simp [S270, a11S0, belowL, Am.below]) (by simp [S270, a11S0, belowH, belowL_tp]), by omega, by omega⟩
    by_cases e2 : y.state = 2
    case neg =>
      have hbs' : badN g (c.i.l.take (i + 1)) k = b := by rw [hbs]; simp [e2]
      have hgs' : gooN g (c.i.l.take (i + 1)) k vs = o := by rw [hgs]; simp [e2]
      simp (disch := first | omega | (simp [-List.map_take, -List.map_drop, -List.map_set, -List.map_append, -List.drop_one] <;> omega) | fail) [-List.map_take, -List.map_drop, -List.map_set, -List.map_append, -List.drop_one, h, h', hxi, e1, e2]
      exact ⟨i + 1, weak_drop (tail := [.cells (inC y)]) (by simp (disch := first | omega | (simp [-List.map_take, -List.map_drop, -List.map_set, -List.map_append, -List.drop_one] <;> omega) | fail) [-List.map_take, -List.map_drop, -List.map_set, -List.map_append, -List.drop_one, S270, a11S0, hbs', hgs']) (by simp (disch := first | omega | (simp [-List.map_take, -List.map_drop, -List.map_set, -List.map_append, -List.drop_one] <;> omega) | fail) [-List.map_take, -List.map_drop, -List.map_set, -List.map_append, -List.drop_one, S270, a11S0]) (by simp [S270, a11S0]) (by simp [S270, a11S0, belowL, Am.below]) (by simp [S270, a11S0, belowH, belowL_tp]), by omega, by omega⟩
    simp (disch := first | omega | (simp [-List.map_take, -List.map_drop, -List.map_set, -List.map_append, -List.drop_one] <;> omega) | fail) [-List.map_take, -List.map_drop, -List.map_set, -List.map_append, -List.drop_one, h, h', hxi, e1, e2]
    refine W_loop (S271 (tpC (w.adv 1)) c k vs b o i y) (fun j => vs.length - j) (fun j => j ≤ vs.length) 0 (weak_same (by simp (disch := first | omega | (simp [-List.map_take, -List.map_drop, -List.map_set, -List.map_append, -List.drop_one] <;> omega) | fail) [-List.map_take, -List.map_drop, -List.map_set, -List.map_append, -List.drop_one, S271, a11S1, cntJ]) (by simp (disch := first | omega | (simp [-List.map_take, -List.map_drop, -List.map_set, -List.map_append, -List.drop_one] <;> omega) | fail) [-List.map_take, -List.map_drop, -List.map_set, -List.map_append, -List.drop_one, S271, a11S1])) (by omega) (fun j hj => ?_)
    simp (disch := first | omega | (simp [-List.map_take, -List.map_drop, -List.map_set, -List.map_append, -List.drop_one] <;> omega) | fail) [-List.map_take, -List.map_drop, -List.map_set, -List.map_append, -List.drop_one, a11L1, a11S1, S271]
    by_cases hj2 : j < vs.length
    · have hj' : (j : Int) < vs.length := by omega
      have hjx := fun H => liV_idx H hj2
      have hcs := cntJ_succ (y := y.id) hj2
      have hcl := cntJ_le (vs := vs) (j := j) (y := y.id)
      by_cases e3 : vs[j] = y.id
      · rw [if_pos e3] at hcs
        simp (disch := first | omega | (simp [-List.map_take, -List.map_drop, -List.map_set, -List.map_append, -List.drop_one] <;> omega) | fail) [-List.map_take, -List.map_drop, -List.map_set, -List.map_append, -List.drop_one, hj2, hj', hjx, e3]
        exact ⟨j + 1, weak_same (by simp (disch := first | omega | (simp [-List.map_take, -List.map_drop, -List.map_set, -List.map_append, -List.drop_one] <;> omega) | fail) [-List.map_take, -List.map_drop, -List.map_set, -List.map_append, -List.drop_one, S271, a11S1, hcs]) (by simp (disch := first | omega | (simp [-List.map_take, -List.map_drop, -List.map_set, -List.map_append, -List.drop_one] <;> omega) | fail) [-List.map_take, -List.map_drop, -List.map_set, -List.map_append, -List.drop_one, S271, a11S1]), by omega, by omega⟩
      · rw [if_neg e3] at hcs
        simp (disch := first | omega | (simp [-List.map_take, -List.map_drop, -List.map_set, -List.map_append, -List.drop_one] <;> omega) | fail) [-List.map_take, -List.map_drop, -List.map_set, -List.map_append, -List.drop_one, hj2, hj', hjx, e3]
        exact ⟨j + 1, weak_same (by simp (disch := first | omega | (simp [-List.map_take, -List.map_drop, -List.map_set, -List.map_append, -List.drop_one] <;> omega) | fail) [-List.map_take, -List.map_drop, -List.map_set, -List.map_append, -List.drop_one, S271, a11S1, hcs]) (by simp (disch := first | omega | (simp [-List.map_take, -List.map_drop, -List.map_set, -List.map_append, -List.drop_one] <;> omega) | fail) [-List.map_take, -List.map_drop, -List.map_set, -List.map_append, -List.drop_one, S271, a11S1]), by omega, by omega⟩
    · have hj' : ¬ (j : Int) < vs.length := by omega
      have hce : cntJ vs j y.id = vs.count y.id := by rw [cntJ, List.take_of_length_le (by omega)]
      have hig := isGood_at hgk e1
      cases e4 : sGoodR g y with
      | true =>
        rw [e4] at hig
        have hle := f2' e1 e2 e4
        obtain ⟨q, hq⟩ : ∃ q, vs.count y.id = q := ⟨_, rfl⟩
        rw [hq] at hce hgs hle
        have hbs' : badN g (c.i.l.take (i + 1)) k = b := by rw [hbs]; simp [e4]
        have hgs' : gooN g (c.i.l.take (i + 1)) k vs = o + q := by rw [hgs]; simp [e1, e2, e4]
        have hq1 : ¬ (1 : Int) < q := by omega
        simp (disch := first | omega | (simp [-List.map_take, -List.map_drop, -List.map_set, -List.map_append, -List.drop_one] <;> omega) | fail) [-List.map_take, -List.map_drop, -List.map_set, -List.map_append, -List.drop_one, hj2, hj', hce, T272_g, cCx_eq, hig, hq1]
        exact ⟨i + 1, weak_drop (tail := [.cells (inC y)]) (by simp (disch := first | omega | (simp [-List.map_take, -List.map_drop, -List.map_set, -List.map_append, -List.drop_one] <;> omega) | fail) [-List.map_take, -List.map_drop, -List.map_set, -List.map_append, -List.drop_one, S270, a11S0, hbs', hgs']) (by simp (disch := first | omega | (simp [-List.map_take, -List.map_drop, -List.map_set, -List.map_append, -List.drop_one] <;> omega) | fail) [-List.map_take, -List.map_drop, -List.map_set, -List.map_append, -List.drop_one, S270, a11S0]) (by simp [S270, a11S0]) (by simp [S270, a11S0, belowL, Am.below]) (by simp [S270, a11S0, belowH, belowL_tp]), by omega, by omega⟩
      | false =>
        rw [e4] at hig
        have hone := f1 e1 e2 e4
        rw [hone] at hce
        have hbs' : badN g (c.i.l.take (i + 1)) k = b + 1 := by rw [hbs]; simp [e1, e2, e4]
        have hgs' : gooN g (c.i.l.take (i + 1)) k vs = o := by rw [hgs]; simp [e4]
        simp (disch := first | omega | (simp [-List.map_take, -List.map_drop, -List.map_set, -List.map_append, -List.drop_one] <;> omega) | fail) [-List.map_take, -List.map_drop, -List.map_set, -List.map_append, -List.drop_one, hj2, hj', hce, T272_g, cCx_eq, hig]
        exact ⟨i + 1, weak_drop (tail := [.cells (inC y)]) (by simp (disch := first | omega | (simp [-List.map_take, -List.map_drop, -List.map_set, -List.map_append, -List.drop_one] <;> omega) | fail) [-List.map_take, -List.map_drop, -List.map_set, -List.map_append, -List.drop_one, S270, a11S0, hbs', hgs']) (by simp (disch := first | omega | (simp [-List.map_take, -List.map_drop, -List.map_set, -List.map_append, -List.drop_one] <;> omega) | fail) [-List.map_take, -List.map_drop, -List.map_set, -List.map_append, -List.drop_one, S270, a11S0]) (by simp [S270, a11S0]) (by simp [S270, a11S0, belowL, Am.below]) (by simp [S270, a11S0, belowH, belowL_tp]), by omega, by omega⟩
  · have h' : ¬ (i : Int) < n := by omega
    have e : c.i.l.take i = c.i.l := List.take_of_length_le (by omega)
    rw [e]
    obtain ⟨b, hbe⟩ : ∃ b, badN g c.i.l k = b := ⟨_, rfl⟩
    obtain ⟨o, hoe⟩ : ∃ o, gooN g c.i.l k vs = o := ⟨_, rfl⟩
    have hf3 : o = min ((selL c.i.l k (sGoodR g)).length - g.want).toNat (refSpare g c.i.l k).length := by rw [← hoe]; exact f3
    have hf4 : vs.length = b + o := by rw [← hbe, ← hoe]; exact f4
    rw [hbe, hoe]
    simp (disch := first | omega | (simp [-List.map_take, -List.map_drop, -List.map_set, -List.map_append, -List.drop_one] <;> omega) | fail) [-List.map_take, -List.map_drop, -List.map_set, -List.map_append, -List.drop_one, h, h']
    refine W_loop (S272 (tpC (w.adv 1)) c k vs b o g) (fun i => n - i) (fun i => i ≤ n) 0 (weak_same (by simp (disch := first | omega | (simp [-List.map_take, -List.map_drop, -List.map_set, -List.map_append, -List.drop_one] <;> omega) | fail) [-List.map_take, -List.map_drop, -List.map_set, -List.map_append, -List.drop_one, S272, a11S2, selL, refSpare]) (by simp (disch := first | omega | (simp [-List.map_take, -List.map_drop, -List.map_set, -List.map_append, -List.drop_one] <;> omega) | fail) [-List.map_take, -List.map_drop, -List.map_set, -List.map_append, -List.drop_one, S272, a11S2])) (by omega) (fun i hi => ?_)
    simp (disch := first | omega | (simp [-List.map_take, -List.map_drop, -List.map_set, -List.map_append, -List.drop_one] <;> omega) | fail) [-List.map_take, -List.map_drop, -List.map_set, -List.map_append, -List.drop_one, a11L2, a11S2, S272, hn]
    by_cases h : i < n
    · have h' : (i : Int) < n := by omega
      have hi2 : i < c.i.l.length := by omega
      have hxi := fun H => idxSD_dv (x := c.i) (h := H) len_inC hi2
      obtain ⟨y, hy⟩ : ∃ y, c.i.l[i] = y := ⟨_, rfl⟩
      have hb := fun p => selL_snoc (k := k) (p := p) hi2 hy
      simp only [hy] at hxi
      have hrl : (refSpare g (c.i.l.take i) k).length ≤ 9 := Nat.le_trans (List.length_filter_le _ _) (by simp; omega)
      have hrs : (refSpare g (c.i.l.take (i + 1)) k).length = (refSpare g (c.i.l.take i) k).length + (if decide (y.grp = k) && (decide (y.state = 2) && sGoodR g y) then 1 else 0) := by
        unfold refSpare; rw [hb, List.length_append]; split <;> rfl
      obtain ⟨r, hre⟩ : ∃ r, (refSpare g (c.i.l.take i) k).length = r := ⟨_, rfl⟩
      rw [hre] at hrl hrs
      rw [hre]
      by_cases e1 : y.grp = k
      · have hig := isGood_at hgk e1
        by_cases e2 : y.state = 2
        · cases e4 : sGoodR g y with
          | true =>
            rw [e4] at hig
            have hrs' : (refSpare g (c.i.l.take (i + 1)) k).length = r + 1 := by rw [hrs]; simp [e1, e2, e4]
            simp (disch := first | omega | (simp [-List.map_take, -List.map_drop, -List.map_set, -List.map_append, -List.drop_one] <;> omega) | fail) [-List.map_take, -List.map_drop, -List.map_set, -List.map_append, -List.drop_one, h, h', hxi, e1, e2, T272_g, cCx_eq, hig]
            exact ⟨i + 1, weak_drop (tail := [.cells (inC y)]) (by simp (disch := first | omega | (simp [-List.map_take, -List.map_drop, -List.map_set, -List.map_append, -List.drop_one] <;> omega) | fail) [-List.map_take, -List.map_drop, -List.map_set, -List.map_append, -List.drop_one, S272, a11S2, hrs']) (by simp (disch := first | omega | (simp [-List.map_take, -List.map_drop, -List.map_set, -List.map_append, -List.drop_one] <;> omega) | fail) [-List.map_take, -List.map_drop, -List.map_set, -List.map_append, -List.drop_one, S272, a11S2]) (by simp [S272, a11S2]) (by simp [S272, a11S2, belowL, Am.below]) (by simp [S272, a11S2, belowH, belowL_tp]), by omega, by omega⟩
          | false =>
            rw [e4] at hig
            have hrs' : (refSpare g (c.i.l.take (i + 1)) k).length = r := by rw [hrs]; simp [e4]
            simp (disch := first | omega | (simp [-List.map_take, -List.map_drop, -List.map_set, -List.map_append, -List.drop_one] <;> omega) | fail) [-List.map_take, -List.map_drop, -List.map_set, -List.map_append, -List.drop_one, h, h', hxi, e1, e2, T272_g, cCx_eq, hig]
            exact ⟨i + 1, weak_drop (tail := [.cells (inC y)]) (by simp (disch := first | omega | (simp [-List.map_take, -List.map_drop, -List.map_set, -List.map_append, -List.drop_one] <;> omega) | fail) [-List.map_take, -List.map_drop, -List.map_set, -List.map_append, -List.drop_one, S272, a11S2, hrs']) (by simp (disch := first | omega | (simp [-List.map_take, -List.map_drop, -List.map_set, -List.map_append, -List.drop_one] <;> omega) | fail) [-List.map_take, -List.map_drop, -List.map_set, -List.map_append, -List.drop_one, S272, a11S2]) (by simp [S272, a11S2]) (by simp [S272, a11S2, belowL, Am.below]) (by simp [S272, a11S2, belowH, belowL_tp]), by omega, by omega⟩
        · have hrs' : (refSpare g (c.i.l.take (i + 1)) k).length = r := by rw [hrs]; simp [e2]
          simp (disch := first | omega | (simp [-List.map_take, -List.map_drop, -List.map_set, -List.map_append, -List.drop_one] <;> omega) | fail) [-List.map_take, -List.map_drop, -List.map_set, -List.map_append, -List.drop_one, h, h', hxi, e1, e2]
          exact ⟨i + 1, weak_drop (tail := [.cells (inC y)]) (by simp (disch := first | omega | (simp [-List.map_take, -List.map_drop, -List.map_set, -List.map_append, -List.drop_one] <;> omega) | fail) [-List.map_take, -List.map_drop, -List.map_set, -List.map_append, -List.drop_one, S272, a11S2, hrs']) (by simp (disch := first | omega | (simp [-List.map_take, -List.map_drop, -List.map_set, -List.map_append, -List.drop_one] <;> omega) | fail) [-List.map_take, -List.map_drop, -List.map_set, -List.map_append, -List.drop_one, S272, a11S2]) (by simp [S272, a11S2]) (by simp [S272, a11S2, belowL, Am.below]) (by simp [S272, a11S2, belowH, belowL_tp]), by omega, by omega⟩
      · have hrs' : (refSpare g (c.i.l.take (i + 1)) k).length = r := by rw [hrs]; simp [e1]
        simp (disch := first | omega | (simp [-List.map_take, -List.map_drop, -List.map_set, -List.map_append, -List.drop_one] <;> omega) | fail) [-List.map_take, -List.map_drop, -List.map_set, -List.map_append, -List.drop_one, h, h', hxi, e1]
        exact ⟨i + 1, weak_drop (tail := [.cells (inC y)]) (by simp (disch := first | omega | (simp [-List.map_take, -List.map_drop, -List.map_set, -List.map_append, -List.drop_one] <;> omega) | fail) [-List.map_take, -List.map_drop, -List.map_set, -List.map_append, -List.drop_one, S272, a11S2, hrs']) (by simp (disch := first | omega | (simp [-List.map_take, -List.map_drop, -List.map_set, -List.map_append, -List.drop_one] <;> omega) | fail) [-List.map_take, -List.map_drop, -List.map_set, -List.map_append, -List.drop_one, S272, a11S2]) (by simp [S272, a11S2]) (by simp [S272, a11S2, belowL, Am.below]) (by simp [S272, a11S2, belowH, belowL_tp]), by omega, by omega⟩
    · have h' : ¬ (i : Int) < n := by omega
      have e : c.i.l.take i = c.i.l := List.take_of_length_le (by omega)
      rw [e]
      have hgl : (goodP c k).length = (selL c.i.l k (sGoodR g)).length := by rw [hgo, List.length_map]
      have hgle : (selL c.i.l k (sGoodR g)).length ≤ 9 := Nat.le_trans (List.length_filter_le _ _) (by omega)
      obtain ⟨G, hGe⟩ : ∃ G, (selL c.i.l k (sGoodR g)).length = G := ⟨_, rfl⟩
      obtain ⟨r, hre⟩ : ∃ r, (refSpare g c.i.l k).length = r := ⟨_, rfl⟩
      rw [hGe] at hf3 hgl hgle
      rw [hre] at hf3
      rw [hre]
      have hm3 : min (max ((G : Int) - g.want) 0) (r : Int) = (o : Int) := by omega
      have hm4 : min (max 0 ((G : Int) - g.want)) (r : Int) = (o : Int) := by omega
      have hf4' : (vs.length : Int) = (b : Int) + o := by omega
      simp (disch := first | omega | (simp [-List.map_take, -List.map_drop, -List.map_set, -List.map_append, -List.drop_one] <;> omega) | fail) [-List.map_take, -List.map_drop, -List.map_set, -List.map_append, -List.drop_one, h, h', T272_o, cCk_eq, goodD, hgl, hG, E_mm2, mm2_max, mm2_min, hm3, hm4, hf4', T272_a, cTru]
namespace disruptionVictims
theorem law_holds (dvs) (h : Ty.Args [.sl (.int .i64)] dvs) : Am.Sem P 11 dvs (.bool true) := by
  obtain ⟨d1, l1, rfl, h1, rfl⟩ := h
  obtain ⟨x, _, hx⟩ := ok_nl h1
  cases hx
  exact sem_runs mix T272_sound Tryd.func11 a11_ok (runs_lawvic x)
end disruptionVictims
end Go.Proofs.YtjhakjeioppijaaDoor
