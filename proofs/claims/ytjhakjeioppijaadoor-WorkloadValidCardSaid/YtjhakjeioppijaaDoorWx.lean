/-
  Whether a group, an instance, a cluster is valid: the reference.
-/
import Derived.Test.YtjhakjeioppijaaDoorWe
import Derived.Test.YtjhakjeioppijaaDoorWh
import Derived.Test.YtjhakjeioppijaaDoorWp
set_option linter.unusedSimpArgs false
set_option linter.unusedVariables false
namespace Go.Proofs.YtjhakjeioppijaaDoor
open Go Go.Am

def S120 (x : Sl Dg) (d : Dg) (i : Nat) : St := a63S0 (x.dv 32 dgC) (.mp 0 32 0) (.int .i64 i) [.cells (dgC d)]
theorem runs_refhas (x : Sl Dg) (d : Dg) : Runs tbl0 a63 [x.dv 32 dgC, .agg (dgC d)] (hasB x d) := by
  refine ⟨?_⟩
  have hb := x.b
  simp (disch := first | omega | (simp [-List.map_take, -List.map_drop, -List.map_set, -List.map_append, -List.drop_one] <;> omega) | fail) [-List.map_take, -List.map_drop, -List.map_set, -List.map_append, -List.drop_one, a63]
  refine W_loop (S120 x d) (fun i => x.l.length - i) (fun i => i ≤ x.l.length ∧ ∀ j (hj : j < x.l.length), j < i → ¬ x.l[j] = d) 0 (weak_same (by simp (disch := first | omega | (simp [-List.map_take, -List.map_drop, -List.map_set, -List.map_append, -List.drop_one] <;> omega) | fail) [-List.map_take, -List.map_drop, -List.map_set, -List.map_append, -List.drop_one]) (by simp (disch := first | omega | (simp [-List.map_take, -List.map_drop, -List.map_set, -List.map_append, -List.drop_one] <;> omega) | fail) [-List.map_take, -List.map_drop, -List.map_set, -List.map_append, -List.drop_one])) ⟨by omega, fun j _ hj => by omega⟩ (fun i hi => ?_)
  obtain ⟨h1, h2⟩ := hi
  simp (disch := first | omega | (simp [-List.map_take, -List.map_drop, -List.map_set, -List.map_append, -List.drop_one] <;> omega) | fail) [-List.map_take, -List.map_drop, -List.map_set, -List.map_append, -List.drop_one, a63L0, a63S0, S120]
  by_cases h : i < x.l.length
  · have h' : (i : Int) < x.l.length := by omega
    have hg : ∀ H, idxSD H 32 (x.dv 32 dgC) i = some (.ref (dgC x.l[i])) := fun H => idxSD_dv len_dgC h
    by_cases e : x.l[i] = d
    · have hm : d ∈ x.l := e ▸ List.getElem_mem h
      simp (disch := first | omega | (simp [-List.map_take, -List.map_drop, -List.map_set, -List.map_append, -List.drop_one] <;> omega) | fail) [-List.map_take, -List.map_drop, -List.map_set, -List.map_append, -List.drop_one, h', h, hg, e, hasB, hm]
    · simp (disch := first | omega | (simp [-List.map_take, -List.map_drop, -List.map_set, -List.map_append, -List.drop_one] <;> omega) | fail) [-List.map_take, -List.map_drop, -List.map_set, -List.map_append, -List.drop_one, h', h, hg, e]
      refine ⟨i + 1, weak_same (by simp (disch := first | omega | (simp [-List.map_take, -List.map_drop, -List.map_set, -List.map_append, -List.drop_one] <;> omega) | fail) [-List.map_take, -List.map_drop, -List.map_set, -List.map_append, -List.drop_one]) (by simp (disch := first | omega | (simp [-List.map_take, -List.map_drop, -List.map_set, -List.map_append, -List.drop_one] <;> omega) | fail) [-List.map_take, -List.map_drop, -List.map_set, -List.map_append, -List.drop_one]), by omega, by omega, fun j hj hji => ?_⟩
      by_cases ej : j = i
      · subst ej; exact e
      · exact h2 j hj (by omega)
  · have h' : ¬ (i : Int) < x.l.length := by omega
    have hm : ¬ d ∈ x.l := fun hm => by
      obtain ⟨j, hj, e⟩ := List.getElem_of_mem hm
      exact h2 j hj (by omega) e
    simp (disch := first | omega | (simp [-List.map_take, -List.map_drop, -List.map_set, -List.map_append, -List.drop_one] <;> omega) | fail) [-List.map_take, -List.map_drop, -List.map_set, -List.map_append, -List.drop_one, h, h', hasB, hm]
theorem runs_instant (t : Int) : Runs tbl0 a77 [.int .i64 t] (.bool (tv (timeOK t))) := by
  refine ⟨?_⟩
  by_cases h0 : 0 ≤ t
  · by_cases h1 : t ≤ 1099511627776
    · simp (disch := first | omega | (simp [-List.map_take, -List.map_drop, -List.map_set, -List.map_append, -List.drop_one] <;> omega) | fail) [-List.map_take, -List.map_drop, -List.map_set, -List.map_append, -List.drop_one, a77, h0, h1, tv_true (show timeOK t from ⟨h0, h1⟩)]
    · simp (disch := first | omega | (simp [-List.map_take, -List.map_drop, -List.map_set, -List.map_append, -List.drop_one] <;> omega) | fail) [-List.map_take, -List.map_drop, -List.map_set, -List.map_append, -List.drop_one, a77, h0, h1, tv_false (show ¬ timeOK t from fun h => h1 h.2)]
  · simp (disch := first | omega | (simp [-List.map_take, -List.map_drop, -List.map_set, -List.map_append, -List.drop_one] <;> omega) | fail) [-List.map_take, -List.map_drop, -List.map_set, -List.map_append, -List.drop_one, a77, h0, tv_false (show ¬ timeOK t from fun h => h0 h.1)]
noncomputable def T120 : Tbl := addT 62 (.pure (cS pathB)) (addT 63 (.pure (cDgs hasB)) (addT 77 (.pure cTm) tbl0))
theorem T120_p : T120 62 = .pure (cS pathB) := by simp [T120]
theorem T120_h : T120 63 = .pure (cDgs hasB) := by simp [T120]
theorem T120_t : T120 77 = .pure cTm := by simp [T120]
theorem T120_sound : T120.Sound P := addT_sound (cS_sound fun s => sem_runs mix T73_sound Tryd.func62 a62_ok (runs_refpath s)) (addT_sound (con_sound fun p _ => sem_runs mix tbl0_sound Tryd.func63 a63_ok (runs_refhas p.1 p.2)) (addT_sound (cTm_sound fun t => sem_runs mix tbl0_sound Tryd.func77 a77_ok (runs_instant t)) tbl0_sound))
def S121 (c : Clu) (ns im : List UInt8) (i : Nat) : St := a23S0 (.str ns) (.str im) (.mp 0 3 0) (.int .i64 i) [.cells (clC c)]
theorem runs_refgroup (c : Clu) (ns im : List UInt8) : Runs tbl0 a23 [.agg (clC c), .str ns, .str im] (grpD c ns im) := by
  refine ⟨?_⟩
  have hb := c.g.b
  simp (disch := first | omega | (simp [-List.map_take, -List.map_drop, -List.map_set, -List.map_append, -List.drop_one] <;> omega) | fail) [-List.map_take, -List.map_drop, -List.map_set, -List.map_append, -List.drop_one, a23]
  refine W_loop (S121 c ns im) (fun i => c.g.l.length - i) (fun i => i ≤ c.g.l.length ∧ ∀ j (hj : j < c.g.l.length), j < i → fitG ns im c.g.l[j] = false) 0 (weak_same (by simp (disch := first | omega | (simp [-List.map_take, -List.map_drop, -List.map_set, -List.map_append, -List.drop_one] <;> omega) | fail) [-List.map_take, -List.map_drop, -List.map_set, -List.map_append, -List.drop_one]) (by simp (disch := first | omega | (simp [-List.map_take, -List.map_drop, -List.map_set, -List.map_append, -List.drop_one] <;> omega) | fail) [-List.map_take, -List.map_drop, -List.map_set, -List.map_append, -List.drop_one])) ⟨by omega, fun j _ hj => by omega⟩ (fun i hi => ?_)
  obtain ⟨h1, h2⟩ := hi
  simp (disch := first | omega | (simp [-List.map_take, -List.map_drop, -List.map_set, -List.map_append, -List.drop_one] <;> omega) | fail) [-List.map_take, -List.map_drop, -List.map_set, -List.map_append, -List.drop_one, a23L0, a23S0, S121]
  by_cases h : i < c.g.l.length
  · have h' : (i : Int) < c.g.l.length := by omega
    have hg : ∀ H, idxSD H 6 (c.g.dv 6 grC) i = some (.ref (grC c.g.l[i])) := fun H => idxSD_dv len_grC h
    by_cases e1 : c.g.l[i].ns = ns
    · by_cases e2 : c.g.l[i].im = im
      · have hr : grpIx c.g.l ns im = i := ixI_at h (by simp [fitG, e1, e2]) h2
        simp (disch := first | omega | (simp [-List.map_take, -List.map_drop, -List.map_set, -List.map_append, -List.drop_one] <;> omega) | fail) [-List.map_take, -List.map_drop, -List.map_set, -List.map_append, -List.drop_one, h', h, hg, e1, e2, grpD, hr]
      · simp (disch := first | omega | (simp [-List.map_take, -List.map_drop, -List.map_set, -List.map_append, -List.drop_one] <;> omega) | fail) [-List.map_take, -List.map_drop, -List.map_set, -List.map_append, -List.drop_one, h', h, hg, e1, e2]
        refine ⟨i + 1, weak_same (by simp (disch := first | omega | (simp [-List.map_take, -List.map_drop, -List.map_set, -List.map_append, -List.drop_one] <;> omega) | fail) [-List.map_take, -List.map_drop, -List.map_set, -List.map_append, -List.drop_one]) (by simp (disch := first | omega | (simp [-List.map_take, -List.map_drop, -List.map_set, -List.map_append, -List.drop_one] <;> omega) | fail) [-List.map_take, -List.map_drop, -List.map_set, -List.map_append, -List.drop_one]), by omega, by omega, fun j hj hji => ?_⟩
        by_cases ej : j = i
        · subst ej; simp [fitG, e2]
        · exact h2 j hj (by omega)
    · simp (disch := first | omega | (simp [-List.map_take, -List.map_drop, -List.map_set, -List.map_append, -List.drop_one] <;> omega) | fail) [-List.map_take, -List.map_drop, -List.map_set, -List.map_append, -List.drop_one, h', h, hg, e1]
      refine ⟨i + 1, weak_same (by simp (disch := first | omega | (simp [-List.map_take, -List.map_drop, -List.map_set, -List.map_append, -List.drop_one] <;> omega) | fail) [-List.map_take, -List.map_drop, -List.map_set, -List.map_append, -List.drop_one]) (by simp (disch := first | omega | (simp [-List.map_take, -List.map_drop, -List.map_set, -List.map_append, -List.drop_one] <;> omega) | fail) [-List.map_take, -List.map_drop, -List.map_set, -List.map_append, -List.drop_one]), by omega, by omega, fun j hj hji => ?_⟩
      by_cases ej : j = i
      · subst ej; simp [fitG, e1]
      · exact h2 j hj (by omega)
  · have h' : ¬ (i : Int) < c.g.l.length := by omega
    have hr : grpIx c.g.l ns im = -1 := ixI_none (fun j hj => h2 j hj (by omega))
    simp (disch := first | omega | (simp [-List.map_take, -List.map_drop, -List.map_set, -List.map_append, -List.drop_one] <;> omega) | fail) [-List.map_take, -List.map_drop, -List.map_set, -List.map_append, -List.drop_one, h, h', grpD, hr]
def S122 (c : Clu) (id : Int) (i : Nat) : St := a25S0 (.int .i64 id) (.mp 0 3 0) (.int .i64 i) [.cells (clC c)]
theorem runs_reffind (c : Clu) (id : Int) : Runs tbl0 a25 [.agg (clC c), .int .i64 id] (.int .i64 (findIx c.i.l id)) := by
  refine ⟨?_⟩
  have hb := c.i.b
  simp (disch := first | omega | (simp [-List.map_take, -List.map_drop, -List.map_set, -List.map_append, -List.drop_one] <;> omega) | fail) [-List.map_take, -List.map_drop, -List.map_set, -List.map_append, -List.drop_one, a25]
  refine W_loop (S122 c id) (fun i => c.i.l.length - i) (fun i => i ≤ c.i.l.length ∧ ∀ j (hj : j < c.i.l.length), j < i → decide (c.i.l[j].id = id) = false) 0 (weak_same (by simp (disch := first | omega | (simp [-List.map_take, -List.map_drop, -List.map_set, -List.map_append, -List.drop_one] <;> omega) | fail) [-List.map_take, -List.map_drop, -List.map_set, -List.map_append, -List.drop_one]) (by simp (disch := first | omega | (simp [-List.map_take, -List.map_drop, -List.map_set, -List.map_append, -List.drop_one] <;> omega) | fail) [-List.map_take, -List.map_drop, -List.map_set, -List.map_append, -List.drop_one])) ⟨by omega, fun j _ hj => by omega⟩ (fun i hi => ?_)
  obtain ⟨h1, h2⟩ := hi
  simp (disch := first | omega | (simp [-List.map_take, -List.map_drop, -List.map_set, -List.map_append, -List.drop_one] <;> omega) | fail) [-List.map_take, -List.map_drop, -List.map_set, -List.map_append, -List.drop_one, a25L0, a25S0, S122]
  by_cases h : i < c.i.l.length
  · have h' : (i : Int) < c.i.l.length := by omega
    have hg : ∀ H, idxSD H 37 (c.i.dv 37 inC) i = some (.ref (inC c.i.l[i])) := fun H => idxSD_dv len_inC h
    by_cases e : c.i.l[i].id = id
    · have hr : findIx c.i.l id = i := ixI_at h (by simp [e]) h2
      simp (disch := first | omega | (simp [-List.map_take, -List.map_drop, -List.map_set, -List.map_append, -List.drop_one] <;> omega) | fail) [-List.map_take, -List.map_drop, -List.map_set, -List.map_append, -List.drop_one, h', h, hg, e, hr]
    · simp (disch := first | omega | (simp [-List.map_take, -List.map_drop, -List.map_set, -List.map_append, -List.drop_one] <;> omega) | fail) [-List.map_take, -List.map_drop, -List.map_set, -List.map_append, -List.drop_one, h', h, hg, e]
      refine ⟨i + 1, weak_same (by simp (disch := first | omega | (simp [-List.map_take, -List.map_drop, -List.map_set, -List.map_append, -List.drop_one] <;> omega) | fail) [-List.map_take, -List.map_drop, -List.map_set, -List.map_append, -List.drop_one]) (by simp (disch := first | omega | (simp [-List.map_take, -List.map_drop, -List.map_set, -List.map_append, -List.drop_one] <;> omega) | fail) [-List.map_take, -List.map_drop, -List.map_set, -List.map_append, -List.drop_one]), by omega, by omega, fun j hj hji => ?_⟩
      by_cases ej : j = i
      · subst ej; exact e
      · simpa using h2 j hj (by omega)
  · have h' : ¬ (i : Int) < c.i.l.length := by omega
    have hr : findIx c.i.l id = -1 := ixI_none (fun j hj => h2 j hj (by omega))
    simp (disch := first | omega | (simp [-List.map_take, -List.map_drop, -List.map_set, -List.map_append, -List.drop_one] <;> omega) | fail) [-List.map_take, -List.map_drop, -List.map_set, -List.map_append, -List.drop_one, h, h', hr]
set_option maxHeartbeats 1000000 in
theorem runs_refinstance (c : Clu) (x : Ins) : Runs T120 a65 [.agg (clC c), .agg (inC x)] (soundB c x) := by
  refine ⟨?_⟩
  by_cases k0 : 1 ≤ x.id
  case neg =>
    have hn : ¬ SoundI c.g.l.length c.next x := fun h => k0 h.id0
    simp (disch := first | omega | (simp [-List.map_take, -List.map_drop, -List.map_set, -List.map_append, -List.drop_one] <;> omega) | fail) [-List.map_take, -List.map_drop, -List.map_set, -List.map_append, -List.drop_one, a65, T120_t, cTm_eq, soundB, tv_false hn, k0]
  by_cases k1 : x.id < c.next
  case neg =>
    have hn : ¬ SoundI c.g.l.length c.next x := fun h => k1 h.id1
    simp (disch := first | omega | (simp [-List.map_take, -List.map_drop, -List.map_set, -List.map_append, -List.drop_one] <;> omega) | fail) [-List.map_take, -List.map_drop, -List.map_set, -List.map_append, -List.drop_one, a65, T120_t, cTm_eq, soundB, tv_false hn, k0, k1]
  by_cases k2 : 0 ≤ x.grp
  case neg =>
    have hn : ¬ SoundI c.g.l.length c.next x := fun h => k2 h.g0
    simp (disch := first | omega | (simp [-List.map_take, -List.map_drop, -List.map_set, -List.map_append, -List.drop_one] <;> omega) | fail) [-List.map_take, -List.map_drop, -List.map_set, -List.map_append, -List.drop_one, a65, T120_t, cTm_eq, soundB, tv_false hn, k0, k1, k2]
  by_cases k3 : x.grp < c.g.l.length
  case neg =>
    have hn : ¬ SoundI c.g.l.length c.next x := fun h => k3 h.g1
    simp (disch := first | omega | (simp [-List.map_take, -List.map_drop, -List.map_set, -List.map_append, -List.drop_one] <;> omega) | fail) [-List.map_take, -List.map_drop, -List.map_set, -List.map_append, -List.drop_one, a65, T120_t, cTm_eq, soundB, tv_false hn, k0, k1, k2, k3]
  by_cases k4 : ¬ x.art = dg0
  case neg =>
    have k4 : x.art = dg0 := Classical.not_not.1 k4
    have hn : ¬ SoundI c.g.l.length c.next x := fun h => h.art k4
    simp (disch := first | omega | (simp [-List.map_take, -List.map_drop, -List.map_set, -List.map_append, -List.drop_one] <;> omega) | fail) [-List.map_take, -List.map_drop, -List.map_set, -List.map_append, -List.drop_one, a65, T120_t, cTm_eq, soundB, tv_false hn, k0, k1, k2, k3, k4]
  by_cases k5 : 1 ≤ x.state
  case neg =>
    have hn : ¬ SoundI c.g.l.length c.next x := fun h => k5 h.s0
    simp (disch := first | omega | (simp [-List.map_take, -List.map_drop, -List.map_set, -List.map_append, -List.drop_one] <;> omega) | fail) [-List.map_take, -List.map_drop, -List.map_set, -List.map_append, -List.drop_one, a65, T120_t, cTm_eq, soundB, tv_false hn, k0, k1, k2, k3, k4, k5]
  by_cases k6 : x.state ≤ 3
  case neg =>
    have hn : ¬ SoundI c.g.l.length c.next x := fun h => k6 h.s1
    simp (disch := first | omega | (simp [-List.map_take, -List.map_drop, -List.map_set, -List.map_append, -List.drop_one] <;> omega) | fail) [-List.map_take, -List.map_drop, -List.map_set, -List.map_append, -List.drop_one, a65, T120_t, cTm_eq, soundB, tv_false hn, k0, k1, k2, k3, k4, k5, k6]
  by_cases k7 : timeOK x.since
  case neg =>
    have hn : ¬ SoundI c.g.l.length c.next x := fun h => k7 h.si
    simp (disch := first | omega | (simp [-List.map_take, -List.map_drop, -List.map_set, -List.map_append, -List.drop_one] <;> omega) | fail) [-List.map_take, -List.map_drop, -List.map_set, -List.map_append, -List.drop_one, a65, T120_t, cTm_eq, soundB, tv_false hn, k0, k1, k2, k3, k4, k5, k6, tv_false k7]
  by_cases k8 : -1 ≤ x.den
  case neg =>
    have hn : ¬ SoundI c.g.l.length c.next x := fun h => by rcases h.de with h | h <;> omega
    simp (disch := first | omega | (simp [-List.map_take, -List.map_drop, -List.map_set, -List.map_append, -List.drop_one] <;> omega) | fail) [-List.map_take, -List.map_drop, -List.map_set, -List.map_append, -List.drop_one, a65, T120_t, cTm_eq, soundB, tv_false hn, k0, k1, k2, k3, k4, k5, k6, tv_true k7, k8]
  by_cases k9 : x.den ≤ 1099511627776
  · have hy : SoundI c.g.l.length c.next x := ⟨k0, k1, k2, k3, k4, k5, k6, k7, by
      by_cases h : x.den = -1
      · exact .inl h
      · exact .inr ⟨by omega, k9⟩⟩
    simp (disch := first | omega | (simp [-List.map_take, -List.map_drop, -List.map_set, -List.map_append, -List.drop_one] <;> omega) | fail) [-List.map_take, -List.map_drop, -List.map_set, -List.map_append, -List.drop_one, a65, T120_t, cTm_eq, soundB, tv_true hy, k0, k1, k2, k3, k4, k5, k6, tv_true k7, k8, k9]
  · have hn : ¬ SoundI c.g.l.length c.next x := fun h => by rcases h.de with h | h <;> omega
    simp (disch := first | omega | (simp [-List.map_take, -List.map_drop, -List.map_set, -List.map_append, -List.drop_one] <;> omega) | fail) [-List.map_take, -List.map_drop, -List.map_set, -List.map_append, -List.drop_one, a65, T120_t, cTm_eq, soundB, tv_false hn, k0, k1, k2, k3, k4, k5, k6, tv_true k7, k8, k9]
def S123 (g : Grp) (i : Nat) : St := a19S0 (.mp 0 6 0) (.int .i64 i) [.cells (grC g)]
set_option maxHeartbeats 1000000 in
theorem runs_refvalidgroup (g : Grp) : Runs T120 a19 [.agg (grC g)] (validGB g) := by
  refine ⟨?_⟩
  have hb := g.ch.b
  by_cases k0 : pathD g.ns = true
  case neg =>
    have hn : ¬ ValidG g := fun h => k0 h.ns
    have k0 : pathD g.ns = false := by simpa using k0
    simp (disch := first | omega | (simp [-List.map_take, -List.map_drop, -List.map_set, -List.map_append, -List.drop_one] <;> omega) | fail) [-List.map_take, -List.map_drop, -List.map_set, -List.map_append, -List.drop_one, a19, T120_p, cS_eq, pathB, validGB, tv_false hn, k0]
  by_cases k1 : pathD g.im = true
  case neg =>
    have hn : ¬ ValidG g := fun h => k1 h.im
    have k1 : pathD g.im = false := by simpa using k1
    simp (disch := first | omega | (simp [-List.map_take, -List.map_drop, -List.map_set, -List.map_append, -List.drop_one] <;> omega) | fail) [-List.map_take, -List.map_drop, -List.map_set, -List.map_append, -List.drop_one, a19, T120_p, cS_eq, pathB, validGB, tv_false hn, k0, k1]
  by_cases k2 : 0 ≤ g.want
  case neg =>
    have hn : ¬ ValidG g := fun h => k2 h.w0
    have k2' : g.want < 0 := by omega
    simp (disch := first | omega | (simp [-List.map_take, -List.map_drop, -List.map_set, -List.map_append, -List.drop_one] <;> omega) | fail) [-List.map_take, -List.map_drop, -List.map_set, -List.map_append, -List.drop_one, a19, T120_p, cS_eq, pathB, validGB, tv_false hn, k0, k1, k2, k2']
  have k2' : ¬ g.want < 0 := by omega
  by_cases k3 : g.want ≤ 8
  case neg =>
    have hn : ¬ ValidG g := fun h => k3 h.w1
    have k3' : 8 < g.want := by omega
    simp (disch := first | omega | (simp [-List.map_take, -List.map_drop, -List.map_set, -List.map_append, -List.drop_one] <;> omega) | fail) [-List.map_take, -List.map_drop, -List.map_set, -List.map_append, -List.drop_one, a19, T120_p, cS_eq, pathB, validGB, tv_false hn, k0, k1, k2, k2', k3, k3']
  have k3' : ¬ 8 < g.want := by omega
  by_cases k4 : 0 ≤ g.least
  case neg =>
    have hn : ¬ ValidG g := fun h => k4 h.l0
    have k4' : g.least < 0 := by omega
    simp (disch := first | omega | (simp [-List.map_take, -List.map_drop, -List.map_set, -List.map_append, -List.drop_one] <;> omega) | fail) [-List.map_take, -List.map_drop, -List.map_set, -List.map_append, -List.drop_one, a19, T120_p, cS_eq, pathB, validGB, tv_false hn, k0, k1, k2, k2', k3, k3', k4, k4']
  have k4' : ¬ g.least < 0 := by omega
  by_cases k5 : g.least ≤ g.want
  case neg =>
    have hn : ¬ ValidG g := fun h => k5 h.l1
    have k5' : g.want < g.least := by omega
    simp (disch := first | omega | (simp [-List.map_take, -List.map_drop, -List.map_set, -List.map_append, -List.drop_one] <;> omega) | fail) [-List.map_take, -List.map_drop, -List.map_set, -List.map_append, -List.drop_one, a19, T120_p, cS_eq, pathB, validGB, tv_false hn, k0, k1, k2, k2', k3, k3', k4, k4', k5, k5']
  have k5' : ¬ g.want < g.least := by omega
  by_cases k6 : 0 ≤ g.down
  case neg =>
    have hn : ¬ ValidG g := fun h => k6 h.d0
    have k6' : g.down < 0 := by omega
    simp (disch := first | omega | (simp [-List.map_take, -List.map_drop, -List.map_set, -List.map_append, -List.drop_one] <;> omega) | fail) [-List.map_take, -List.map_drop, -List.map_set, -List.map_append, -List.drop_one, a19, T120_p, cS_eq, pathB, validGB, tv_false hn, k0, k1, k2, k2', k3, k3', k4, k4', k5, k5', k6, k6']
  have k6' : ¬ g.down < 0 := by omega
  by_cases k7 : g.down ≤ g.want
  case neg =>
    have hn : ¬ ValidG g := fun h => k7 h.d1
    have k7' : g.want < g.down := by omega
    simp (disch := first | omega | (simp [-List.map_take, -List.map_drop, -List.map_set, -List.map_append, -List.drop_one] <;> omega) | fail) [-List.map_take, -List.map_drop, -List.map_set, -List.map_append, -List.drop_one, a19, T120_p, cS_eq, pathB, validGB, tv_false hn, k0, k1, k2, k2', k3, k3', k4, k4', k5, k5', k6, k6', k7, k7']
  have k7' : ¬ g.want < g.down := by omega
  by_cases k8 : g.ch.l.length ≤ 6
  case neg =>
    have hn : ¬ ValidG g := fun h => k8 h.n
    have k8' : ¬ (g.ch.l.length : Int) ≤ 6 := by omega
    have k8'' : (6 : Int) < g.ch.l.length := by omega
    simp (disch := first | omega | (simp [-List.map_take, -List.map_drop, -List.map_set, -List.map_append, -List.drop_one] <;> omega) | fail) [-List.map_take, -List.map_drop, -List.map_set, -List.map_append, -List.drop_one, a19, T120_p, cS_eq, pathB, validGB, tv_false hn, k0, k1, k2, k2', k3, k3', k4, k4', k5, k5', k6, k6', k7, k7', k8, k8', k8'']
  have k8' : (g.ch.l.length : Int) ≤ 6 := by omega
  have k8'' : ¬ (6 : Int) < g.ch.l.length := by omega
  simp (disch := first | omega | (simp [-List.map_take, -List.map_drop, -List.map_set, -List.map_append, -List.drop_one] <;> omega) | fail) [-List.map_take, -List.map_drop, -List.map_set, -List.map_append, -List.drop_one, a19, T120_p, cS_eq, pathB, k0, k1, k2, k2', k3, k3', k4, k4', k5, k5', k6, k6', k7, k7', k8, k8', k8'']
  refine W_loop (S123 g) (fun i => g.ch.l.length - i) (fun i => i ≤ g.ch.l.length ∧ ∀ j (hj : j < g.ch.l.length), j < i → g.ch.l[j] ≠ dg0 ∧ g.ch.l[j] ∉ g.ch.l.take j) 0 (weak_same (by simp (disch := first | omega | (simp [-List.map_take, -List.map_drop, -List.map_set, -List.map_append, -List.drop_one] <;> omega) | fail) [-List.map_take, -List.map_drop, -List.map_set, -List.map_append, -List.drop_one]) (by simp (disch := first | omega | (simp [-List.map_take, -List.map_drop, -List.map_set, -List.map_append, -List.drop_one] <;> omega) | fail) [-List.map_take, -List.map_drop, -List.map_set, -List.map_append, -List.drop_one])) ⟨by omega, fun j _ hj => by omega⟩ (fun i hi => ?_)
  obtain ⟨h1, h2⟩ := hi
  simp (disch := first | omega | (simp [-List.map_take, -List.map_drop, -List.map_set, -List.map_append, -List.drop_one] <;> omega) | fail) [-List.map_take, -List.map_drop, -List.map_set, -List.map_append, -List.drop_one, a19L0, a19S0, S123]
  by_cases h : i < g.ch.l.length
  · have h' : (i : Int) < g.ch.l.length := by omega
    have hg : ∀ H, idxSD H 32 (g.ch.dv 32 dgC) i = some (.ref (dgC g.ch.l[i])) := fun H => idxSD_dv len_dgC h
    have hsl : ∀ H, slcSD H 32 (g.ch.dv 32 dgC) none (some (.int .i64 i)) none = some ((g.ch.part 0 i (i == g.ch.l.length)).dv 32 dgC) := fun H => slc_dv len_dgC (by omega)
    by_cases e : g.ch.l[i] = dg0
    · have hn : ¬ ValidG g := fun hv => (hv.ch i h).1 e
      simp (disch := first | omega | (simp [-List.map_take, -List.map_drop, -List.map_set, -List.map_append, -List.drop_one] <;> omega) | fail) [-List.map_take, -List.map_drop, -List.map_set, -List.map_append, -List.drop_one, h', h, hg, e, validGB, tv_false hn]
    · by_cases e2 : g.ch.l[i] ∈ g.ch.l.take i
      · have hn : ¬ ValidG g := fun hv => (hv.ch i h).2 e2
        simp (disch := first | omega | (simp [-List.map_take, -List.map_drop, -List.map_set, -List.map_append, -List.drop_one] <;> omega) | fail) [-List.map_take, -List.map_drop, -List.map_set, -List.map_append, -List.drop_one, h', h, hg, hsl, e, T120_h, cDgs_eq, hasB, part_l, e2, validGB, tv_false hn]
      · simp (disch := first | omega | (simp [-List.map_take, -List.map_drop, -List.map_set, -List.map_append, -List.drop_one] <;> omega) | fail) [-List.map_take, -List.map_drop, -List.map_set, -List.map_append, -List.drop_one, h', h, hg, hsl, e, T120_h, cDgs_eq, hasB, part_l, e2]
        refine ⟨i + 1, weak_same (by simp (disch := first | omega | (simp [-List.map_take, -List.map_drop, -List.map_set, -List.map_append, -List.drop_one] <;> omega) | fail) [-List.map_take, -List.map_drop, -List.map_set, -List.map_append, -List.drop_one]) (by simp (disch := first | omega | (simp [-List.map_take, -List.map_drop, -List.map_set, -List.map_append, -List.drop_one] <;> omega) | fail) [-List.map_take, -List.map_drop, -List.map_set, -List.map_append, -List.drop_one]), by omega, by omega, fun j hj hji => ?_⟩
        by_cases ej : j = i
        · subst ej; exact ⟨e, e2⟩
        · exact h2 j hj (by omega)
  · have h' : ¬ (i : Int) < g.ch.l.length := by omega
    have hy : ValidG g := ⟨k0, k1, k2, k3, k4, k5, k6, k7, k8, fun j hj => h2 j hj (by omega)⟩
    simp (disch := first | omega | (simp [-List.map_take, -List.map_drop, -List.map_set, -List.map_append, -List.drop_one] <;> omega) | fail) [-List.map_take, -List.map_drop, -List.map_set, -List.map_append, -List.drop_one, h, h', validGB, tv_true hy]
noncomputable def T121 : Tbl := addT 19 (.pure (cG1 validGB)) (addT 23 (.pure (cCSS grpD)) (addT 65 (.pure (cCI soundB)) tbl0))
theorem T121_v : T121 19 = .pure (cG1 validGB) := by simp [T121]
theorem T121_g : T121 23 = .pure (cCSS grpD) := by simp [T121]
theorem T121_s : T121 65 = .pure (cCI soundB) := by simp [T121]
theorem T121_sound : T121.Sound P := addT_sound (con_sound fun x _ => sem_runs mix T120_sound Tryd.func19 a19_ok (runs_refvalidgroup x)) (addT_sound (con_sound fun x _ => sem_runs mix tbl0_sound Tryd.func23 a23_ok (runs_refgroup x.1 x.2.1 x.2.2)) (addT_sound (con_sound fun x _ => sem_runs mix T120_sound Tryd.func65 a65_ok (runs_refinstance x.1 x.2)) tbl0_sound))
def S124 (c : Clu) (i : Nat) : St := a21S0 (.mp 0 3 0) (.int .i64 i) [.cells (clC c)]
def S125 (c : Clu) (i : Nat) : St := a21S1 (.mp 0 3 0) (.int .i64 i) [.cells (clC c)]
set_option maxHeartbeats 2000000 in
theorem runs_refvalid (c : Clu) : Runs T121 a21 [.agg (clC c)] (validCB c) := by
  refine ⟨?_⟩
  have hbg := c.g.b
  have hbi := c.i.b
  by_cases k0 : (16 : Int) < c.g.l.length
  · have hn : ¬ ValidC c := fun h => by have := h.ng; omega
    simp (disch := first | omega | (simp [-List.map_take, -List.map_drop, -List.map_set, -List.map_append, -List.drop_one] <;> omega) | fail) [-List.map_take, -List.map_drop, -List.map_set, -List.map_append, -List.drop_one, a21, k0, validCB, tv_false hn]
  by_cases k1 : (200 : Int) < c.i.l.length
  · have hn : ¬ ValidC c := fun h => by have := h.ni; omega
    simp (disch := first | omega | (simp [-List.map_take, -List.map_drop, -List.map_set, -List.map_append, -List.drop_one] <;> omega) | fail) [-List.map_take, -List.map_drop, -List.map_set, -List.map_append, -List.drop_one, a21, k0, k1, validCB, tv_false hn]
  by_cases k2 : c.next < 1
  · have hn : ¬ ValidC c := fun h => by have := h.n0; omega
    simp (disch := first | omega | (simp [-List.map_take, -List.map_drop, -List.map_set, -List.map_append, -List.drop_one] <;> omega) | fail) [-List.map_take, -List.map_drop, -List.map_set, -List.map_append, -List.drop_one, a21, k0, k1, k2, validCB, tv_false hn]
  by_cases k3 : 1099511627776 < c.next
  · have hn : ¬ ValidC c := fun h => by have := h.n1; omega
    simp (disch := first | omega | (simp [-List.map_take, -List.map_drop, -List.map_set, -List.map_append, -List.drop_one] <;> omega) | fail) [-List.map_take, -List.map_drop, -List.map_set, -List.map_append, -List.drop_one, a21, k0, k1, k2, k3, validCB, tv_false hn]
  simp (disch := first | omega | (simp [-List.map_take, -List.map_drop, -List.map_set, -List.map_append, -List.drop_one] <;> omega) | fail) [-List.map_take, -List.map_drop, -List.map_set, -List.map_append, -List.drop_one, a21, k0, k1, k2, k3]
  refine W_loop (S124 c) (fun i => c.g.l.length - i) (fun i => i ≤ c.g.l.length ∧ ∀ j (hj : j < c.g.l.length), j < i → ValidG c.g.l[j] ∧ grpIx c.g.l c.g.l[j].ns c.g.l[j].im = j) 0 (weak_same (by simp (disch := first | omega | (simp [-List.map_take, -List.map_drop, -List.map_set, -List.map_append, -List.drop_one] <;> omega) | fail) [-List.map_take, -List.map_drop, -List.map_set, -List.map_append, -List.drop_one]) (by simp (disch := first | omega | (simp [-List.map_take, -List.map_drop, -List.map_set, -List.map_append, -List.drop_one] <;> omega) | fail) [-List.map_take, -List.map_drop, -List.map_set, -List.map_append, -List.drop_one])) ⟨by omega, fun j _ hj => by omega⟩ (fun i hi => ?_)
  obtain ⟨h1, h2⟩ := hi
  simp (disch := first | omega | (simp [-List.map_take, -List.map_drop, -List.map_set, -List.map_append, -List.drop_one] <;> omega) | fail) [-List.map_take, -List.map_drop, -List.map_set, -List.map_append, -List.drop_one, a21L0, a21S0, S124]
  by_cases h : i < c.g.l.length
  · have h' : (i : Int) < c.g.l.length := by omega
    have hg : ∀ H, idxSD H 6 (c.g.dv 6 grC) i = some (.ref (grC c.g.l[i])) := fun H => idxSD_dv len_grC h
    by_cases e : ValidG c.g.l[i]
    · by_cases e2 : grpIx c.g.l c.g.l[i].ns c.g.l[i].im = i
      · simp (disch := first | omega | (simp [-List.map_take, -List.map_drop, -List.map_set, -List.map_append, -List.drop_one] <;> omega) | fail) [-List.map_take, -List.map_drop, -List.map_set, -List.map_append, -List.drop_one, h', h, hg, T121_v, cG1_eq, validGB, tv_true e, T121_g, cCSS_eq, grpD, e2]
        refine ⟨i + 1, weak_same (by simp (disch := first | omega | (simp [-List.map_take, -List.map_drop, -List.map_set, -List.map_append, -List.drop_one] <;> omega) | fail) [-List.map_take, -List.map_drop, -List.map_set, -List.map_append, -List.drop_one]) (by simp (disch := first | omega | (simp [-List.map_take, -List.map_drop, -List.map_set, -List.map_append, -List.drop_one] <;> omega) | fail) [-List.map_take, -List.map_drop, -List.map_set, -List.map_append, -List.drop_one]), by omega, by omega, fun j hj hji => ?_⟩
        by_cases ej : j = i
        · subst ej; exact ⟨e, e2⟩
        · exact h2 j hj (by omega)
      · have hn : ¬ ValidC c := fun hv => e2 (hv.g i h).2
        simp (disch := first | omega | (simp [-List.map_take, -List.map_drop, -List.map_set, -List.map_append, -List.drop_one] <;> omega) | fail) [-List.map_take, -List.map_drop, -List.map_set, -List.map_append, -List.drop_one, h', h, hg, T121_v, cG1_eq, validGB, tv_true e, T121_g, cCSS_eq, grpD, e2, validCB, tv_false hn]
    · have hn : ¬ ValidC c := fun hv => e (hv.g i h).1
      simp (disch := first | omega | (simp [-List.map_take, -List.map_drop, -List.map_set, -List.map_append, -List.drop_one] <;> omega) | fail) [-List.map_take, -List.map_drop, -List.map_set, -List.map_append, -List.drop_one, h', h, hg, T121_v, cG1_eq, validGB, tv_false e, validCB, tv_false hn]
  have h' : ¬ (i : Int) < c.g.l.length := by omega
  have hG : ∀ j (hj : j < c.g.l.length), ValidG c.g.l[j] ∧ grpIx c.g.l c.g.l[j].ns c.g.l[j].im = j := fun j hj => h2 j hj (by omega)
  simp (disch := first | omega | (simp [-List.map_take, -List.map_drop, -List.map_set, -List.map_append, -List.drop_one] <;> omega) | fail) [-List.map_take, -List.map_drop, -List.map_set, -List.map_append, -List.drop_one, h, h']
  refine W_loop (S125 c) (fun i => c.i.l.length - i) (fun i => i ≤ c.i.l.length ∧ ∀ j (hj : j < c.i.l.length), j < i → SoundI c.g.l.length c.next c.i.l[j] ∧ (∀ h0 : 0 < j, c.i.l[j - 1].id < c.i.l[j].id)) 0 (weak_same (by simp (disch := first | omega | (simp [-List.map_take, -List.map_drop, -List.map_set, -List.map_append, -List.drop_one] <;> omega) | fail) [-List.map_take, -List.map_drop, -List.map_set, -List.map_append, -List.drop_one]) (by simp (disch := first | omega | (simp [-List.map_take, -List.map_drop, -List.map_set, -List.map_append, -List.drop_one] <;> omega) | fail) [-List.map_take, -List.map_drop, -List.map_set, -List.map_append, -List.drop_one])) ⟨by omega, fun j _ hj => by omega⟩ (fun i hi => ?_)
  obtain ⟨h1, h2⟩ := hi
  simp (disch := first | omega | (simp [-List.map_take, -List.map_drop, -List.map_set, -List.map_append, -List.drop_one] <;> omega) | fail) [-List.map_take, -List.map_drop, -List.map_set, -List.map_append, -List.drop_one, a21L1, a21S1, S125]
  by_cases h : i < c.i.l.length
  · have h' : (i : Int) < c.i.l.length := by omega
    have hg : ∀ H, idxSD H 37 (c.i.dv 37 inC) i = some (.ref (inC c.i.l[i])) := fun H => idxSD_dv len_inC h
    by_cases e : SoundI c.g.l.length c.next c.i.l[i]
    · by_cases e0 : i = 0
      · have e0' : ¬ (0 : Int) < i := by omega
        have e0'' : ¬ 0 < i := by omega
        simp (disch := first | omega | (simp [-List.map_take, -List.map_drop, -List.map_set, -List.map_append, -List.drop_one] <;> omega) | fail) [-List.map_take, -List.map_drop, -List.map_set, -List.map_append, -List.drop_one, h', h, hg, T121_s, cCI_eq, soundB, tv_true e, e0', e0'']
        refine ⟨i + 1, weak_same (by simp (disch := first | omega | (simp [-List.map_take, -List.map_drop, -List.map_set, -List.map_append, -List.drop_one] <;> omega) | fail) [-List.map_take, -List.map_drop, -List.map_set, -List.map_append, -List.drop_one]) (by simp (disch := first | omega | (simp [-List.map_take, -List.map_drop, -List.map_set, -List.map_append, -List.drop_one] <;> omega) | fail) [-List.map_take, -List.map_drop, -List.map_set, -List.map_append, -List.drop_one]), by omega, by omega, fun j hj hji => ?_⟩
        obtain rfl : j = i := by omega
        exact ⟨e, fun h0 => by omega⟩
      · have e0' : (0 : Int) < i := by omega
        have e0'' : 0 < i := by omega
        have em : (i : Int) - 1 = (i - 1 : Nat) := by omega
        have hg2 : ∀ H, idxSD H 37 (c.i.dv 37 inC) ((i - 1 : Nat) : Int) = some (.ref (inC c.i.l[i - 1])) := fun H => idxSD_dv len_inC (by omega)
        by_cases e2 : c.i.l[i].id ≤ c.i.l[i - 1].id
        · have hn : ¬ ValidC c := fun hv => by have := (hv.i i h).2 (by omega); omega
          simp (disch := first | omega | (simp [-List.map_take, -List.map_drop, -List.map_set, -List.map_append, -List.drop_one] <;> omega) | fail) [-List.map_take, -List.map_drop, -List.map_set, -List.map_append, -List.drop_one, h', h, hg, T121_s, cCI_eq, soundB, tv_true e, e0', e0'', em, hg2, e2, validCB, tv_false hn]
        · simp (disch := first | omega | (simp [-List.map_take, -List.map_drop, -List.map_set, -List.map_append, -List.drop_one] <;> omega) | fail) [-List.map_take, -List.map_drop, -List.map_set, -List.map_append, -List.drop_one, h', h, hg, T121_s, cCI_eq, soundB, tv_true e, e0', e0'', em, hg2, e2]
          refine ⟨i + 1, weak_same (by simp (disch := first | omega | (simp [-List.map_take, -List.map_drop, -List.map_set, -List.map_append, -List.drop_one] <;> omega) | fail) [-List.map_take, -List.map_drop, -List.map_set, -List.map_append, -List.drop_one]) (by simp (disch := first | omega | (simp [-List.map_take, -List.map_drop, -List.map_set, -List.map_append, -List.drop_one] <;> omega) | fail) [-List.map_take, -List.map_drop, -List.map_set, -List.map_append, -List.drop_one]), by omega, by omega, fun j hj hji => ?_⟩
          by_cases ej : j = i
          · subst ej; exact ⟨e, fun _ => by omega⟩
          · exact h2 j hj (by omega)
    · have hn : ¬ ValidC c := fun hv => e (hv.i i h).1
      simp (disch := first | omega | (simp [-List.map_take, -List.map_drop, -List.map_set, -List.map_append, -List.drop_one] <;> omega) | fail) [-List.map_take, -List.map_drop, -List.map_set, -List.map_append, -List.drop_one, h', h, hg, T121_s, cCI_eq, soundB, tv_false e, validCB, tv_false hn]
  · have h' : ¬ (i : Int) < c.i.l.length := by omega
    have hy : ValidC c := ⟨by omega, by omega, by omega, by omega, hG, fun j hj => h2 j hj (by omega)⟩
    simp (disch := first | omega | (simp [-List.map_take, -List.map_drop, -List.map_set, -List.map_append, -List.drop_one] <;> omega) | fail) [-List.map_take, -List.map_drop, -List.map_set, -List.map_append, -List.drop_one, h, h', validCB, tv_true hy]
end Go.Proofs.YtjhakjeioppijaaDoor
