/-
  1 texts of mine in one.
-/
import Derived.Test.YtjhakjeioppijaaDoorC5f0ea989
import Derived.Test.YtjhakjeioppijaaDoorC950dc02d
import Derived.Test.YtjhakjeioppijaaDoorC0aefe577
import Derived.Test.YtjhakjeioppijaaDoorC3dcfe18e
import Derived.Test.YtjhakjeioppijaaDoorCe716085a
import Derived.Test.YtjhakjeioppijaaDoorC5436102a
/-
  The law DisruptionRoom.
-/
set_option linter.unusedSimpArgs false
set_option linter.unusedVariables false
namespace Go.Proofs.YtjhakjeioppijaaDoor
open Go Go.Am

theorem room_le {c : Clu} {k : Int} {g : Grp} (hk : grAt c k = some g) (hl : 0 ≤ g.least) : 0 ≤ roomP c k ∧ roomP c k ≤ liveP c k := by
  unfold roomP; rw [hk]; simp only; omega
noncomputable def cSt3 : List DV → Option DV := con (fun _ => True) (fun p : Clu × Int × Int => [.agg (clC p.1), .int .i64 p.2.1, .int .i64 p.2.2]) (fun p => changeB p.1 p.2.1 p.2.2 3)
theorem cSt3_eq {c : Clu} {id t : Int} : cSt3 [.agg (clC c), .int .i64 id, .int .i64 t] = some (changeB c id t 3) :=
  con_inj (f := fun p : Clu × Int × Int => [.agg (clC p.1), .int .i64 p.2.1, .int .i64 p.2.2]) (g := fun p => changeB p.1 p.2.1 p.2.2 3) (by
    rintro ⟨a, b, c⟩ ⟨a', b', c'⟩ e
    simp only [List.cons.injEq, DV.agg.injEq, DV.int.injEq, and_true, true_and] at e
    rw [clC_inj e.1, e.2.1, e.2.2]) (c, id, t)
theorem stop_sound : (Con.pure cSt3).Sound P 40 := con_sound fun p _ => sem_runs mix T115_sound Tryd.func40 a40_ok (runs_stop p.1 p.2.1 p.2.2)
noncomputable def T280 : Tbl := addT 26 (.new cTape) (addT 27 (.tch cClu) (addT 28 (.tch cNext) (addT 45 (.pure (cCk liveD)) (addT 50 (.pure (cCkA LimC roomD)) (addT 40 (.pure cSt3) (addT 54 (.pure cTru) tbl0))))))
theorem T280_t : T280 26 = .new cTape := by simp [T280]
theorem T280_c : T280 27 = .tch cClu := by simp [T280]
theorem T280_n : T280 28 = .tch cNext := by simp [T280]
theorem T280_l : T280 45 = .pure (cCk liveD) := by simp [T280]
theorem T280_r : T280 50 = .pure (cCkA LimC roomD) := by simp [T280]
theorem T280_s : T280 40 = .pure cSt3 := by simp [T280]
theorem T280_a : T280 54 = .pure cTru := by simp [T280]
theorem T280_sound : T280.Sound P := addT_sound tape_sound (addT_sound clu_sound (addT_sound next_sound (addT_sound live_sound (addT_sound room_sound (addT_sound stop_sound (addT_sound awake38_sound tbl0_sound))))))
structure RmS where
  i : Nat
  d : Clu
def S280 (t : List DV) (c : Clu) (k : Nat) (g : Grp) (R : Nat) (a : RmS) : St := a14S0 (.mp 1 3 0) (.int .i64 k) (.mp 2 6 0) (.int .i64 R) (.mp 3 3 0) (.int .i64 (cntR k (c.i.l.take a.i))) (.int .i64 a.i) [.cells t, .cells (clC c), .cells (grC g), .cells (clC a.d)]
set_option maxHeartbeats 2000000 in
set_option maxRecDepth 20000 in
theorem runs_lawroom (x : Nl) : Runs T280 a14 [x.dv] (.bool true) := by
  refine ⟨?_⟩
  obtain ⟨u, hu⟩ : ∃ u, tp0 x 200 = u := ⟨_, rfl⟩
  have hua : u.at_ = 0 := by rw [← hu]; rfl
  obtain ⟨hv, hg⟩ := clusterV_ok u 9 (by decide) (by decide)
  have hn9 := clusterV_len u 9 (by decide) (by decide)
  have hat := clusterV_at u 9 (by decide) (by decide)
  obtain ⟨c, hc⟩ : ∃ c, (clusterV u 9).1 = c := ⟨_, rfl⟩
  obtain ⟨w, hw⟩ : ∃ w, (clusterV u 9).2 = w := ⟨_, rfl⟩
  rw [hc] at hv hg hn9
  rw [hw] at hat
  have hT := fun m => cTape_eq (x := x) (n := 200) (by decide) m
  rw [hu] at hT
  simp only [show ((200 : Nat) : Int) = 200 from rfl] at hT
  have hC : cClu [.int .i64 9] (tpC u) = some (.agg (clC c), tpC w) := by rw [cClu_eq (by omega) (by decide) (by decide), hc, hw]
  have hng : 1 ≤ (c.g.l.length : Int) := by have := List.length_pos_iff.2 hg; omega
  have hgb := hv.ng
  have hN := cNext_pos (t := w) (n := c.g.l.length) (by omega) (by omega) hng
  have k0 := tpN_lo w c.g.l.length
  have k1 := tpN_hi w hng
  obtain ⟨k, hk⟩ : ∃ k : Nat, tpN w c.g.l.length = k := ⟨(tpN w c.g.l.length).toNat, by omega⟩
  rw [hk] at hN k0 k1
  have hkl : k < c.g.l.length := by omega
  have hgk := grAt_in hkl
  have hG := fun h => idxSD_dv (x := c.g) (h := h) len_grC hkl
  have hlim := limC_of hv _ (List.getElem_mem hkl)
  have hgv := (hv.g k hkl).1
  obtain ⟨g, hge⟩ : ∃ g, c.g.l[k] = g := ⟨_, rfl⟩
  rw [hge] at hgk hG hlim hgv
  obtain ⟨⟨w1, w2⟩, ⟨l1, l2⟩, d1, d2⟩ := hlim
  obtain ⟨r0, r1⟩ := room_le hgk hgv.l0
  have hroom := cCkA_eq (A := LimC) (f := roomD) (c := c) (k := k) (limC_of hv)
  have hlle := live_le (c := c) (k := k)
  have hlc := live_cnt hgk
  have hlaw := fun d h => room_law (d := d) hv hgk h
  obtain ⟨R, hR⟩ : ∃ R : Nat, roomP c k = R := ⟨(roomP c k).toNat, by omega⟩
  have hRn : (roomP c k).toNat = R := by omega
  rw [roomD, hR] at hroom
  simp only [hRn, hR] at hlaw
  rw [hR] at r0 r1
  obtain ⟨L, hL⟩ : ∃ L, liveP c k = L := ⟨_, rfl⟩
  rw [hL] at hlle hlc r1
  have hRL : ¬ (L : Int) < R := by omega
  have hR0 : ¬ (R : Int) < 0 := by omega
  have hx := nl_pure x
  obtain ⟨n, hn⟩ : ∃ n, c.i.l.length = n := ⟨_, rfl⟩
  have hnn : n ≤ 9 := by omega
  simp (disch := first | omega | (simp [-List.map_take, -List.map_drop, -List.map_set, -List.map_append, -List.drop_one] <;> omega) | fail) [-List.map_take, -List.map_drop, -List.map_set, -List.map_append, -List.drop_one, a14, T280_t, T280_c, T280_n, T280_l, T280_r, hT, hC, hN, hG, hroom, cCk_eq, liveD, hL, hRL, hR0, storeO_gr]
  refine W_loop (S280 (tpC (w.adv 1)) c k g R) (fun a => n - a.i) (fun a => a.i ≤ n ∧ cntR k (c.i.l.take a.i) ≤ R ∧ Stp c a.d k (cntR k (c.i.l.take a.i))) ⟨0, c⟩ (weak_same (by simp (disch := first | omega | (simp [-List.map_take, -List.map_drop, -List.map_set, -List.map_append, -List.drop_one] <;> omega) | fail) [-List.map_take, -List.map_drop, -List.map_set, -List.map_append, -List.drop_one, S280, a14S0, cntR]) (by simp (disch := first | omega | (simp [-List.map_take, -List.map_drop, -List.map_set, -List.map_append, -List.drop_one] <;> omega) | fail) [-List.map_take, -List.map_drop, -List.map_set, -List.map_append, -List.drop_one, S280, a14S0])) ⟨by simp, by simp [cntR], by simpa [cntR] using stp_zero hv⟩ (fun a ha => ?_)
  obtain ⟨i, d⟩ := a
  obtain ⟨h1, h2, h3⟩ := ha
  simp only at h1 h2 h3
  simp (disch := first | omega | (simp [-List.map_take, -List.map_drop, -List.map_set, -List.map_append, -List.drop_one] <;> omega) | fail) [-List.map_take, -List.map_drop, -List.map_set, -List.map_append, -List.drop_one, a14L0, a14S0, S280, hn]
  obtain ⟨m, hm⟩ : ∃ m, cntR k (c.i.l.take i) = m := ⟨_, rfl⟩
  rw [hm] at h2 h3
  rw [hm]
  by_cases h : i < n ∧ m < R
  · obtain ⟨ha, hb⟩ := h
    have ha' : (i : Int) < n := by omega
    have hb' : (m : Int) < R := by omega
    have hi2 : i < c.i.l.length := by omega
    have hxi := fun H => idxSD_dv (x := c.i) (h := H) len_inC hi2
    have hcs := cnt_take (k := k) hi2
    rw [hm] at hcs
    obtain ⟨y, hy⟩ : ∃ y, c.i.l[i] = y := ⟨_, rfl⟩
    simp only [hy] at hxi hcs
    by_cases hr : runB k y = true
    · rw [if_pos hr] at hcs
      obtain ⟨q1, q2⟩ := stp_next hv h3 hi2 (by rw [hy]; exact hr) hm
      rw [hy] at q1 q2
      simp only [runB, Bool.and_eq_true, decide_eq_true_eq] at hr
      obtain ⟨e1, e2⟩ := hr
      obtain ⟨d', hd'⟩ : ∃ d', (changeP d y.id 50 3).1 = d' := ⟨_, rfl⟩
      rw [hd'] at q2
      simp (disch := first | omega | (simp [-List.map_take, -List.map_drop, -List.map_set, -List.map_append, -List.drop_one] <;> omega) | fail) [-List.map_take, -List.map_drop, -List.map_set, -List.map_append, -List.drop_one, ha, ha', hb, hb', hxi, e1, e2, T280_s, cSt3_eq, changeB, q1, hd']
      refine ⟨⟨i + 1, d'⟩, weak_drop (tail := [.cells (clC d')]) (by simp (disch := first | omega | (simp [-List.map_take, -List.map_drop, -List.map_set, -List.map_append, -List.drop_one] <;> omega) | fail) [-List.map_take, -List.map_drop, -List.map_set, -List.map_append, -List.drop_one, S280, a14S0, hcs]) (by simp (disch := first | omega | (simp [-List.map_take, -List.map_drop, -List.map_set, -List.map_append, -List.drop_one] <;> omega) | fail) [-List.map_take, -List.map_drop, -List.map_set, -List.map_append, -List.drop_one, S280, a14S0]) (by simp [S280, a14S0]) (by simp [S280, a14S0, belowL, Am.below]) (by simp [S280, a14S0, belowH, belowL_tp]), by simp only; omega, by simp only; omega, by simp only; omega, by simp only; rw [hcs]; exact q2⟩
    · rw [if_neg hr] at hcs
      simp only [runB, Bool.and_eq_true, decide_eq_true_eq] at hr
      by_cases e1 : y.grp = k
      · have e2 : ¬ y.state = 2 := fun q => hr ⟨e1, q⟩
        simp (disch := first | omega | (simp [-List.map_take, -List.map_drop, -List.map_set, -List.map_append, -List.drop_one] <;> omega) | fail) [-List.map_take, -List.map_drop, -List.map_set, -List.map_append, -List.drop_one, ha, ha', hb, hb', hxi, e1, e2]
        exact ⟨⟨i + 1, d⟩, weak_same (by simp (disch := first | omega | (simp [-List.map_take, -List.map_drop, -List.map_set, -List.map_append, -List.drop_one] <;> omega) | fail) [-List.map_take, -List.map_drop, -List.map_set, -List.map_append, -List.drop_one, S280, a14S0, hcs]) (by simp (disch := first | omega | (simp [-List.map_take, -List.map_drop, -List.map_set, -List.map_append, -List.drop_one] <;> omega) | fail) [-List.map_take, -List.map_drop, -List.map_set, -List.map_append, -List.drop_one, S280, a14S0]), by simp only; omega, by simp only; omega, by simp only; omega, by simp only; rw [hcs]; exact h3⟩
      · simp (disch := first | omega | (simp [-List.map_take, -List.map_drop, -List.map_set, -List.map_append, -List.drop_one] <;> omega) | fail) [-List.map_take, -List.map_drop, -List.map_set, -List.map_append, -List.drop_one, ha, ha', hb, hb', hxi, e1]
        exact ⟨⟨i + 1, d⟩, weak_same (by simp (disch := first | omega | (simp [-List.map_take, -List.map_drop, -List.map_set, -List.map_append, -List.drop_one] <;> omega) | fail) [-List.map_take, -List.map_drop, -List.map_set, -List.map_append, -List.drop_one, S280, a14S0, hcs]) (by simp (disch := first | omega | (simp [-List.map_take, -List.map_drop, -List.map_set, -List.map_append, -List.drop_one] <;> omega) | fail) [-List.map_take, -List.map_drop, -List.map_set, -List.map_append, -List.drop_one, S280, a14S0]), by simp only; omega, by simp only; omega, by simp only; omega, by simp only; rw [hcs]; exact h3⟩
  · have hmR : m = R := by
      by_cases q : i < n
      · omega
      · have : cntR k (c.i.l.take i) = cntR k c.i.l := by rw [List.take_of_length_le (by omega)]
        omega
    subst hmR
    obtain ⟨-, -, p3, p4, p5⟩ := hlaw d h3
    have hdl : ∀ g ∈ d.g.l, LimOK g := limC_of h3.v
    have hroomd := cCkA_eq (A := LimC) (f := roomD) (c := d) (k := k) (limC_of h3.v)
    rw [roomD, p4] at hroomd
    have hlled := live_le (c := d) (k := k)
    have hdn : d.i.l.length = n := by rw [h3.i, stopL_len, hn]
    obtain ⟨l, hl⟩ : ∃ l, liveP d k = l := ⟨_, rfl⟩
    rw [hl] at p3 p5 hlled
    by_cases q : i < n
    · have q' : (i : Int) < n := by omega
      by_cases hp : 0 < (m : Int)
      · obtain ⟨p31, p32⟩ := p3 hp
        have hpn : 0 < m := by omega
        have p31' : ¬ (l : Int) < g.least := by omega
        have p32' : ¬ g.down < g.want - (l : Int) := by omega
        by_cases hp5 : (l : Int) - 1 < g.least
        · simp (disch := first | omega | (simp [-List.map_take, -List.map_drop, -List.map_set, -List.map_append, -List.drop_one] <;> omega) | fail) [-List.map_take, -List.map_drop, -List.map_set, -List.map_append, -List.drop_one, q, q', hpn, p31', p32', hp5, T280_l, T280_r, T280_a, cCk_eq, liveD, hl, hroomd, cTru]
        · have hp6 : g.down < g.want - ((l : Int) - 1) := p5.resolve_left hp5
          simp (disch := first | omega | (simp [-List.map_take, -List.map_drop, -List.map_set, -List.map_append, -List.drop_one] <;> omega) | fail) [-List.map_take, -List.map_drop, -List.map_set, -List.map_append, -List.drop_one, q, q', hpn, p31', p32', hp5, hp6, T280_l, T280_r, T280_a, cCk_eq, liveD, hl, hroomd, cTru]
      · have hpn : ¬ 0 < m := by omega
        by_cases hp5 : (l : Int) - 1 < g.least
        · simp (disch := first | omega | (simp [-List.map_take, -List.map_drop, -List.map_set, -List.map_append, -List.drop_one] <;> omega) | fail) [-List.map_take, -List.map_drop, -List.map_set, -List.map_append, -List.drop_one, q, q', hpn, hp5, T280_l, T280_r, T280_a, cCk_eq, liveD, hl, hroomd, cTru]
        · have hp6 : g.down < g.want - ((l : Int) - 1) := p5.resolve_left hp5
          simp (disch := first | omega | (simp [-List.map_take, -List.map_drop, -List.map_set, -List.map_append, -List.drop_one] <;> omega) | fail) [-List.map_take, -List.map_drop, -List.map_set, -List.map_append, -List.drop_one, q, q', hpn, hp5, hp6, T280_l, T280_r, T280_a, cCk_eq, liveD, hl, hroomd, cTru]
    · have q' : ¬ (i : Int) < n := by omega
      by_cases hp : 0 < (m : Int)
      · obtain ⟨p31, p32⟩ := p3 hp
        have hpn : 0 < m := by omega
        have p31' : ¬ (l : Int) < g.least := by omega
        have p32' : ¬ g.down < g.want - (l : Int) := by omega
        by_cases hp5 : (l : Int) - 1 < g.least
        · simp (disch := first | omega | (simp [-List.map_take, -List.map_drop, -List.map_set, -List.map_append, -List.drop_one] <;> omega) | fail) [-List.map_take, -List.map_drop, -List.map_set, -List.map_append, -List.drop_one, q, q', hpn, p31', p32', hp5, T280_l, T280_r, T280_a, cCk_eq, liveD, hl, hroomd, cTru]
        · have hp6 : g.down < g.want - ((l : Int) - 1) := p5.resolve_left hp5
          simp (disch := first | omega | (simp [-List.map_take, -List.map_drop, -List.map_set, -List.map_append, -List.drop_one] <;> omega) | fail) [-List.map_take, -List.map_drop, -List.map_set, -List.map_append, -List.drop_one, q, q', hpn, p31', p32', hp5, hp6, T280_l, T280_r, T280_a, cCk_eq, liveD, hl, hroomd, cTru]
      · have hpn : ¬ 0 < m := by omega
        by_cases hp5 : (l : Int) - 1 < g.least
        · simp (disch := first | omega | (simp [-List.map_take, -List.map_drop, -List.map_set, -List.map_append, -List.drop_one] <;> omega) | fail) [-List.map_take, -List.map_drop, -List.map_set, -List.map_append, -List.drop_one, q, q', hpn, hp5, T280_l, T280_r, T280_a, cCk_eq, liveD, hl, hroomd, cTru]
        · have hp6 : g.down < g.want - ((l : Int) - 1) := p5.resolve_left hp5
          simp (disch := first | omega | (simp [-List.map_take, -List.map_drop, -List.map_set, -List.map_append, -List.drop_one] <;> omega) | fail) [-List.map_take, -List.map_drop, -List.map_set, -List.map_append, -List.drop_one, q, q', hpn, hp5, hp6, T280_l, T280_r, T280_a, cCk_eq, liveD, hl, hroomd, cTru]
namespace disruptionRoom
theorem law_holds (dvs) (h : Ty.Args [.sl (.int .i64)] dvs) : Am.Sem P 14 dvs (.bool true) := by
  obtain ⟨d1, l1, rfl, h1, rfl⟩ := h
  obtain ⟨x, _, hx⟩ := ok_nl h1
  cases hx
  exact sem_runs mix T280_sound Tryd.func14 a14_ok (runs_lawroom x)
end disruptionRoom
end Go.Proofs.YtjhakjeioppijaaDoor
