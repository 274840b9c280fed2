/-
  Whether a group, an instance, a cluster is valid: the program.
-/
import Derived.Test.YtjhakjeioppijaaDoorWl
set_option linter.unusedSimpArgs false
set_option linter.unusedVariables false
namespace Go.Proofs.YtjhakjeioppijaaDoor
open Go Go.Am

theorem runs_timed (t : Int) : Runs tbl0 a70 [.int .i64 t] (.bool (tv (timeOK t))) := by
  refine ⟨?_⟩
  by_cases h0 : 0 ≤ t
  · by_cases h1 : t ≤ 1099511627776
    · simp (disch := first | omega | (simp [-List.map_take, -List.map_drop, -List.map_set, -List.map_append, -List.drop_one] <;> omega) | fail) [-List.map_take, -List.map_drop, -List.map_set, -List.map_append, -List.drop_one, a70, h0, h1, tv_true (show timeOK t from ⟨h0, h1⟩)]
    · simp (disch := first | omega | (simp [-List.map_take, -List.map_drop, -List.map_set, -List.map_append, -List.drop_one] <;> omega) | fail) [-List.map_take, -List.map_drop, -List.map_set, -List.map_append, -List.drop_one, a70, h0, h1, tv_false (show ¬ timeOK t from fun h => h1 h.2)]
  · simp (disch := first | omega | (simp [-List.map_take, -List.map_drop, -List.map_set, -List.map_append, -List.drop_one] <;> omega) | fail) [-List.map_take, -List.map_drop, -List.map_set, -List.map_append, -List.drop_one, a70, h0, tv_false (show ¬ timeOK t from fun h => h0 h.1)]
noncomputable def cTm : List DV → Option DV
  | [.int .i64 t] => some (.bool (tv (timeOK t))) | _ => none
theorem cTm_eq {t : Int} : cTm [.int .i64 t] = some (.bool (tv (timeOK t))) := rfl
theorem cTm_sound {f : Nat} (h : ∀ t, Am.Sem P f [.int .i64 t] (.bool (tv (timeOK t)))) : (Con.pure cTm).Sound P f := by
  intro args v e
  unfold cTm at e
  split at e
  · simp at e; subst e; exact h _
  · simp at e
noncomputable def T105 : Tbl := addT 70 (.pure cTm) tbl0
theorem T105_t : T105 70 = .pure cTm := by simp [T105]
theorem T105_sound : T105.Sound P := addT_sound (cTm_sound fun t => sem_runs mix tbl0_sound Tryd.func70 a70_ok (runs_timed t)) tbl0_sound
theorem all_dgC {d : Dg} : (dgC d).all DV.one = true := all_w8
theorem storeO_dg {h : List AObj} {id : Nat} {d : Dg} {l : List DV} (hl : l.length = 32) : storeO h id 32 0 (.agg (dgC d)) (some l) = some (.junk, h.set id (.cells (dgC d))) := storeO_agg (len_dgC d) hl all_w8
theorem storeO_in {h : List AObj} {id : Nat} {x : Ins} {l : List DV} (hl : l.length = 37) : storeO h id 37 0 (.agg (inC x)) (some l) = some (.junk, h.set id (.cells (inC x))) := storeO_agg (len_inC x) hl (by simp only [inC, List.all_cons, List.all_append, all_dgC, one_int, List.all_nil, Bool.and_self])
theorem storeO_gr {h : List AObj} {id : Nat} {x : Grp} {l : List DV} (hl : l.length = 6) : storeO h id 6 0 (.agg (grC x)) (some l) = some (.junk, h.set id (.cells (grC x))) := storeO_agg (len_grC x) hl (by simp only [grC, List.all_cons, one_int, one_str, dv_one, List.all_nil, Bool.and_self])
theorem storeO_cl {h : List AObj} {id : Nat} {x : Clu} {l : List DV} (hl : l.length = 3) : storeO h id 3 0 (.agg (clC x)) (some l) = some (.junk, h.set id (.cells (clC x))) := storeO_agg (len_clC x) hl (by simp only [clC, List.all_cons, one_int, dv_one, List.all_nil, Bool.and_self])
mutual
theorem below_pure (n : Nat) : ∀ (d : DV), pureD d = true → Am.below n d = true
  | .agg cs, h => by simp only [pureD] at h; simp only [Am.below]; exact belowL_pure n cs h
  | .tup cs, h => by simp only [pureD] at h; simp only [Am.below]; exact belowL_pure n cs h
  | .sl _ _ _ cs, h => by simp only [pureD] at h; simp only [Am.below]; exact belowL_pure n cs h
  | .ref cs, h => by simp only [pureD] at h; simp only [Am.below]; exact belowL_pure n cs h
  | .fn _ a b, h => by simp only [pureD, Bool.and_eq_true] at h; simp only [Am.below, Bool.and_eq_true]; exact ⟨belowL_pure n a h.1, belowL_pure n b h.2⟩
  | .iface _ v, h => by simp only [pureD] at h; simp only [Am.below]; exact below_pure n v h
  | .ms .., h => by simp [pureD] at h
  | .mp .., h => by simp [pureD] at h
  | .int .., _ => rfl
  | .bool .., _ => rfl
  | .str .., _ => rfl
  | .nilp, _ => rfl
  | .nilm, _ => rfl
  | .nilf, _ => rfl
  | .nili, _ => rfl
  | .nils, _ => rfl
  | .junk, _ => rfl
theorem belowL_pure (n : Nat) : ∀ (l : List DV), pureL l = true → belowL n l = true
  | [], _ => rfl
  | d :: r, h => by simp only [pureL, Bool.and_eq_true] at h; simp only [belowL, Bool.and_eq_true]; exact ⟨below_pure n d h.1, belowL_pure n r h.2⟩
end
theorem belowL_gr {n : Nat} {g : Grp} : belowL n (grC g) = true := belowL_pure n _ (pure_grC g)
theorem belowL_cl {n : Nat} {g : Clu} : belowL n (clC g) = true := belowL_pure n _ (pure_clC g)
theorem belowL_in {n : Nat} {g : Ins} : belowL n (inC g) = true := belowL_pure n _ (pure_inC g)
theorem belowL_dg {n : Nat} {g : Dg} : belowL n (dgC g) = true := belowL_pure n _ (pure_dgC g)
theorem below_dv32 {n : Nat} {x : Sl Dg} : Am.below n (x.dv 32 dgC) = true := below_pure n _ (pure_dv32 x)
theorem below_dv6 {n : Nat} {x : Sl Grp} : Am.below n (x.dv 6 grC) = true := below_pure n _ (pure_dv6 x)
theorem below_dv37 {n : Nat} {x : Sl Ins} : Am.below n (x.dv 37 inC) = true := below_pure n _ (pure_dv37 x)
attribute [simp] belowL_gr belowL_cl belowL_in belowL_dg below_dv32 below_dv6 below_dv37 storeO_dg storeO_in storeO_gr storeO_cl
theorem ne_dg0 {d : Dg} (h : ¬ d = dg0) : (!decide (d = dg0)) = true := by simp [h]
noncomputable abbrev soundB (c : Clu) (x : Ins) : DV := .bool (tv (SoundI c.g.l.length c.next x))
set_option maxHeartbeats 1000000 in
theorem runs_sound (c : Clu) (x : Ins) : Runs T105 a64 [.agg (clC c), .agg (inC x)] (soundB c x) := by
  refine ⟨?_⟩
  by_cases k0 : 1 ≤ x.id
  case neg =>
    have hn : ¬ SoundI c.g.l.length c.next x := fun h => k0 h.id0
    simp (disch := first | omega | (simp [-List.map_take, -List.map_drop, -List.map_set, -List.map_append, -List.drop_one] <;> omega) | fail) [-List.map_take, -List.map_drop, -List.map_set, -List.map_append, -List.drop_one, a64, T105_t, cTm_eq, soundB, tv_false hn, k0]
  by_cases k1 : x.id < c.next
  case neg =>
    have hn : ¬ SoundI c.g.l.length c.next x := fun h => k1 h.id1
    simp (disch := first | omega | (simp [-List.map_take, -List.map_drop, -List.map_set, -List.map_append, -List.drop_one] <;> omega) | fail) [-List.map_take, -List.map_drop, -List.map_set, -List.map_append, -List.drop_one, a64, T105_t, cTm_eq, soundB, tv_false hn, k0, k1]
  by_cases k2 : 0 ≤ x.grp
  case neg =>
    have hn : ¬ SoundI c.g.l.length c.next x := fun h => k2 h.g0
    simp (disch := first | omega | (simp [-List.map_take, -List.map_drop, -List.map_set, -List.map_append, -List.drop_one] <;> omega) | fail) [-List.map_take, -List.map_drop, -List.map_set, -List.map_append, -List.drop_one, a64, T105_t, cTm_eq, soundB, tv_false hn, k0, k1, k2]
  by_cases k3 : x.grp < c.g.l.length
  case neg =>
    have hn : ¬ SoundI c.g.l.length c.next x := fun h => k3 h.g1
    simp (disch := first | omega | (simp [-List.map_take, -List.map_drop, -List.map_set, -List.map_append, -List.drop_one] <;> omega) | fail) [-List.map_take, -List.map_drop, -List.map_set, -List.map_append, -List.drop_one, a64, T105_t, cTm_eq, soundB, tv_false hn, k0, k1, k2, k3]
  by_cases k4 : ¬ x.art = dg0
  case neg =>
    have k4 : x.art = dg0 := Classical.not_not.1 k4
    have hn : ¬ SoundI c.g.l.length c.next x := fun h => h.art k4
    simp (disch := first | omega | (simp [-List.map_take, -List.map_drop, -List.map_set, -List.map_append, -List.drop_one] <;> omega) | fail) [-List.map_take, -List.map_drop, -List.map_set, -List.map_append, -List.drop_one, a64, T105_t, cTm_eq, soundB, tv_false hn, k0, k1, k2, k3, k4]
  by_cases k5 : 1 ≤ x.state
  case neg =>
    have hn : ¬ SoundI c.g.l.length c.next x := fun h => k5 h.s0
    simp (disch := first | omega | (simp [-List.map_take, -List.map_drop, -List.map_set, -List.map_append, -List.drop_one] <;> omega) | fail) [-List.map_take, -List.map_drop, -List.map_set, -List.map_append, -List.drop_one, a64, T105_t, cTm_eq, soundB, tv_false hn, k0, k1, k2, k3, k4, k5]
  by_cases k6 : x.state ≤ 3
  case neg =>
    have hn : ¬ SoundI c.g.l.length c.next x := fun h => k6 h.s1
    simp (disch := first | omega | (simp [-List.map_take, -List.map_drop, -List.map_set, -List.map_append, -List.drop_one] <;> omega) | fail) [-List.map_take, -List.map_drop, -List.map_set, -List.map_append, -List.drop_one, a64, T105_t, cTm_eq, soundB, tv_false hn, k0, k1, k2, k3, k4, k5, k6]
  by_cases k7 : timeOK x.since
  case neg =>
    have hn : ¬ SoundI c.g.l.length c.next x := fun h => k7 h.si
    simp (disch := first | omega | (simp [-List.map_take, -List.map_drop, -List.map_set, -List.map_append, -List.drop_one] <;> omega) | fail) [-List.map_take, -List.map_drop, -List.map_set, -List.map_append, -List.drop_one, a64, T105_t, cTm_eq, soundB, tv_false hn, k0, k1, k2, k3, k4, k5, k6, tv_false k7]
  by_cases k8 : x.den = -1
  · have hy : SoundI c.g.l.length c.next x := ⟨k0, k1, k2, k3, k4, k5, k6, k7, .inl k8⟩
    simp (disch := first | omega | (simp [-List.map_take, -List.map_drop, -List.map_set, -List.map_append, -List.drop_one] <;> omega) | fail) [-List.map_take, -List.map_drop, -List.map_set, -List.map_append, -List.drop_one, a64, T105_t, cTm_eq, soundB, tv_true hy, k0, k1, k2, k3, k4, k5, k6, tv_true k7, k8]
  by_cases k9 : timeOK x.den
  · have hy : SoundI c.g.l.length c.next x := ⟨k0, k1, k2, k3, k4, k5, k6, k7, .inr k9⟩
    simp (disch := first | omega | (simp [-List.map_take, -List.map_drop, -List.map_set, -List.map_append, -List.drop_one] <;> omega) | fail) [-List.map_take, -List.map_drop, -List.map_set, -List.map_append, -List.drop_one, a64, T105_t, cTm_eq, soundB, tv_true hy, k0, k1, k2, k3, k4, k5, k6, tv_true k7, k8, tv_true k9]
  · have hn : ¬ SoundI c.g.l.length c.next x := fun h => h.de.elim k8 k9
    simp (disch := first | omega | (simp [-List.map_take, -List.map_drop, -List.map_set, -List.map_append, -List.drop_one] <;> omega) | fail) [-List.map_take, -List.map_drop, -List.map_set, -List.map_append, -List.drop_one, a64, T105_t, cTm_eq, soundB, tv_false hn, k0, k1, k2, k3, k4, k5, k6, tv_true k7, k8, tv_false k9]
noncomputable def T106 : Tbl := addT 60 (.pure (cS pathB)) (addT 61 (.pure (cDgs hasB)) tbl0)
theorem T106_p : T106 60 = .pure (cS pathB) := by simp [T106]
theorem T106_c : T106 61 = .pure (cDgs hasB) := by simp [T106]
theorem T106_sound : T106.Sound P := addT_sound (cS_sound fun s => sem_runs mix T57_sound Tryd.func60 a60_ok (runs_path s)) (addT_sound (con_sound fun p _ => sem_runs mix T100_sound Tryd.func61 a61_ok (runs_contdg p.1 p.2)) tbl0_sound)
noncomputable abbrev validGB (g : Grp) : DV := .bool (tv (ValidG g))
def S106 (g : Grp) (i : Nat) : St := a18S0 (.mp 0 6 0) (g.ch.dv 32 dgC) (.int .i64 g.ch.l.length) (.int .i64 i) [.cells (grC g)]
theorem part_l {α : Type} {x : Sl α} {j : Nat} {b : Bool} : (x.part 0 j b).l = x.l.take j := by simp [Sl.part]
theorem slc_dv {α : Type} {x : Sl α} {s : Nat} {f : α → List DV} {h : List AObj} (hu : ∀ a, (f a).length = s) {j : Nat} (hj : j ≤ x.l.length) : slcSD h s (x.dv s f) none (some (.int .i64 j)) none = some ((x.part 0 j (j == x.l.length)).dv s f) :=
  slcSD_dv hu (by
    have h1 : (j : Int) ≤ x.l.length := by omega
    simp [boundsD, iD, h1]) hj
set_option maxHeartbeats 1000000 in
theorem runs_validgroup (g : Grp) : Runs T106 a18 [.agg (grC g)] (validGB g) := by
  refine ⟨?_⟩
  have hb := g.ch.b
  by_cases k0 : pathD g.ns = true
  case neg =>
    have hn : ¬ ValidG g := fun h => k0 h.ns
    have k0 : pathD g.ns = false := by simpa using k0
    simp (disch := first | omega | (simp [-List.map_take, -List.map_drop, -List.map_set, -List.map_append, -List.drop_one] <;> omega) | fail) [-List.map_take, -List.map_drop, -List.map_set, -List.map_append, -List.drop_one, a18, T106_p, cS_eq, pathB, validGB, tv_false hn, k0]
  by_cases k1 : pathD g.im = true
  case neg =>
    have hn : ¬ ValidG g := fun h => k1 h.im
    have k1 : pathD g.im = false := by simpa using k1
    simp (disch := first | omega | (simp [-List.map_take, -List.map_drop, -List.map_set, -List.map_append, -List.drop_one] <;> omega) | fail) [-List.map_take, -List.map_drop, -List.map_set, -List.map_append, -List.drop_one, a18, T106_p, cS_eq, pathB, validGB, tv_false hn, k0, k1]
  by_cases k2 : 0 ≤ g.want
  case neg =>
    have hn : ¬ ValidG g := fun h => k2 h.w0
    have k2' : g.want < 0 := by omega
    simp (disch := first | omega | (simp [-List.map_take, -List.map_drop, -List.map_set, -List.map_append, -List.drop_one] <;> omega) | fail) [-List.map_take, -List.map_drop, -List.map_set, -List.map_append, -List.drop_one, a18, T106_p, cS_eq, pathB, validGB, tv_false hn, k0, k1, k2, k2']
  have k2' : ¬ g.want < 0 := by omega
  by_cases k3 : g.want ≤ 8
  case neg =>
    have hn : ¬ ValidG g := fun h => k3 h.w1
    have k3' : 8 < g.want := by omega
    simp (disch := first | omega | (simp [-List.map_take, -List.map_drop, -List.map_set, -List.map_append, -List.drop_one] <;> omega) | fail) [-List.map_take, -List.map_drop, -List.map_set, -List.map_append, -List.drop_one, a18, T106_p, cS_eq, pathB, validGB, tv_false hn, k0, k1, k2, k2', k3, k3']
  have k3' : ¬ 8 < g.want := by omega
  by_cases k4 : 0 ≤ g.least
  case neg =>
    have hn : ¬ ValidG g := fun h => k4 h.l0
    have k4' : g.least < 0 := by omega
    simp (disch := first | omega | (simp [-List.map_take, -List.map_drop, -List.map_set, -List.map_append, -List.drop_one] <;> omega) | fail) [-List.map_take, -List.map_drop, -List.map_set, -List.map_append, -List.drop_one, a18, T106_p, cS_eq, pathB, validGB, tv_false hn, k0, k1, k2, k2', k3, k3', k4, k4']
  have k4' : ¬ g.least < 0 := by omega
  by_cases k5 : g.least ≤ g.want
  case neg =>
    have hn : ¬ ValidG g := fun h => k5 h.l1
    have k5' : g.want < g.least := by omega
    simp (disch := first | omega | (simp [-List.map_take, -List.map_drop, -List.map_set, -List.map_append, -List.drop_one] <;> omega) | fail) [-List.map_take, -List.map_drop, -List.map_set, -List.map_append, -List.drop_one, a18, T106_p, cS_eq, pathB, validGB, tv_false hn, k0, k1, k2, k2', k3, k3', k4, k4', k5, k5']
  have k5' : ¬ g.want < g.least := by omega
  by_cases k6 : 0 ≤ g.down
  case neg =>
    have hn : ¬ ValidG g := fun h => k6 h.d0
    have k6' : g.down < 0 := by omega
    simp (disch := first | omega | (simp [-List.map_take, -List.map_drop, -List.map_set, -List.map_append, -List.drop_one] <;> omega) | fail) [-List.map_take, -List.map_drop, -List.map_set, -List.map_append, -List.drop_one, a18, T106_p, cS_eq, pathB, validGB, tv_false hn, k0, k1, k2, k2', k3, k3', k4, k4', k5, k5', k6, k6']
  have k6' : ¬ g.down < 0 := by omega
  by_cases k7 : g.down ≤ g.want
  case neg =>
    have hn : ¬ ValidG g := fun h => k7 h.d1
    have k7' : g.want < g.down := by omega
    simp (disch := first | omega | (simp [-List.map_take, -List.map_drop, -List.map_set, -List.map_append, -List.drop_one] <;> omega) | fail) [-List.map_take, -List.map_drop, -List.map_set, -List.map_append, -List.drop_one, a18, T106_p, cS_eq, pathB, validGB, tv_false hn, k0, k1, k2, k2', k3, k3', k4, k4', k5, k5', k6, k6', k7, k7']
  have k7' : ¬ g.want < g.down := by omega
  by_cases k8 : g.ch.l.length ≤ 6
  case neg =>
    have hn : ¬ ValidG g := fun h => k8 h.n
    have k8' : ¬ (g.ch.l.length : Int) ≤ 6 := by omega
    have k8'' : (6 : Int) < g.ch.l.length := by omega
    simp (disch := first | omega | (simp [-List.map_take, -List.map_drop, -List.map_set, -List.map_append, -List.drop_one] <;> omega) | fail) [-List.map_take, -List.map_drop, -List.map_set, -List.map_append, -List.drop_one, a18, T106_p, cS_eq, pathB, validGB, tv_false hn, k0, k1, k2, k2', k3, k3', k4, k4', k5, k5', k6, k6', k7, k7', k8, k8', k8'']
  have k8' : (g.ch.l.length : Int) ≤ 6 := by omega
  have k8'' : ¬ (6 : Int) < g.ch.l.length := by omega
  simp (disch := first | omega | (simp [-List.map_take, -List.map_drop, -List.map_set, -List.map_append, -List.drop_one] <;> omega) | fail) [-List.map_take, -List.map_drop, -List.map_set, -List.map_append, -List.drop_one, a18, T106_p, cS_eq, pathB, k0, k1, k2, k2', k3, k3', k4, k4', k5, k5', k6, k6', k7, k7', k8, k8', k8'']
  refine W_loop (S106 g) (fun i => g.ch.l.length - i) (fun i => i ≤ g.ch.l.length ∧ ∀ j (hj : j < g.ch.l.length), j < i → g.ch.l[j] ≠ dg0 ∧ g.ch.l[j] ∉ g.ch.l.take j) 0 (weak_same (by simp (disch := first | omega | (simp [-List.map_take, -List.map_drop, -List.map_set, -List.map_append, -List.drop_one] <;> omega) | fail) [-List.map_take, -List.map_drop, -List.map_set, -List.map_append, -List.drop_one]) (by simp (disch := first | omega | (simp [-List.map_take, -List.map_drop, -List.map_set, -List.map_append, -List.drop_one] <;> omega) | fail) [-List.map_take, -List.map_drop, -List.map_set, -List.map_append, -List.drop_one])) ⟨by omega, fun j _ hj => by omega⟩ (fun i hi => ?_)
  obtain ⟨h1, h2⟩ := hi
  simp (disch := first | omega | (simp [-List.map_take, -List.map_drop, -List.map_set, -List.map_append, -List.drop_one] <;> omega) | fail) [-List.map_take, -List.map_drop, -List.map_set, -List.map_append, -List.drop_one, a18L0, a18S0, S106]
  by_cases h : i < g.ch.l.length
  · have h' : (i : Int) < g.ch.l.length := by omega
    have hg : ∀ H, idxSD H 32 (g.ch.dv 32 dgC) i = some (.ref (dgC g.ch.l[i])) := fun H => idxSD_dv len_dgC h
    have hsl : ∀ H, slcSD H 32 (g.ch.dv 32 dgC) none (some (.int .i64 i)) none = some ((g.ch.part 0 i (i == g.ch.l.length)).dv 32 dgC) := fun H => slc_dv len_dgC (by omega)
    by_cases e : g.ch.l[i] = dg0
    · have hn : ¬ ValidG g := fun hv => (hv.ch i h).1 e
      simp (disch := first | omega | (simp [-List.map_take, -List.map_drop, -List.map_set, -List.map_append, -List.drop_one] <;> omega) | fail) [-List.map_take, -List.map_drop, -List.map_set, -List.map_append, -List.drop_one, h', h, hg, e, validGB, tv_false hn]
    · by_cases e2 : g.ch.l[i] ∈ g.ch.l.take i
      · have hn : ¬ ValidG g := fun hv => (hv.ch i h).2 e2
        simp (disch := first | omega | (simp [-List.map_take, -List.map_drop, -List.map_set, -List.map_append, -List.drop_one] <;> omega) | fail) [-List.map_take, -List.map_drop, -List.map_set, -List.map_append, -List.drop_one, h', h, hg, hsl, e, T106_c, cDgs_eq, hasB, part_l, e2, validGB, tv_false hn]
      · simp (disch := first | omega | (simp [-List.map_take, -List.map_drop, -List.map_set, -List.map_append, -List.drop_one] <;> omega) | fail) [-List.map_take, -List.map_drop, -List.map_set, -List.map_append, -List.drop_one, h', h, hg, hsl, e, T106_c, cDgs_eq, hasB, part_l, e2]
        refine ⟨i + 1, weak_drop (tail := [.cells (dgC g.ch.l[i])]) (by simp (disch := first | omega | (simp [-List.map_take, -List.map_drop, -List.map_set, -List.map_append, -List.drop_one] <;> omega) | fail) [-List.map_take, -List.map_drop, -List.map_set, -List.map_append, -List.drop_one]) (by simp (disch := first | omega | (simp [-List.map_take, -List.map_drop, -List.map_set, -List.map_append, -List.drop_one] <;> omega) | fail) [-List.map_take, -List.map_drop, -List.map_set, -List.map_append, -List.drop_one]) (by simp (disch := first | omega | (simp [-List.map_take, -List.map_drop, -List.map_set, -List.map_append, -List.drop_one] <;> omega) | fail) [-List.map_take, -List.map_drop, -List.map_set, -List.map_append, -List.drop_one]) (by simp (disch := first | omega | (simp [-List.map_take, -List.map_drop, -List.map_set, -List.map_append, -List.drop_one] <;> omega) | fail) [-List.map_take, -List.map_drop, -List.map_set, -List.map_append, -List.drop_one, belowL, Am.below]) (by simp (disch := first | omega | (simp [-List.map_take, -List.map_drop, -List.map_set, -List.map_append, -List.drop_one] <;> omega) | fail) [-List.map_take, -List.map_drop, -List.map_set, -List.map_append, -List.drop_one, belowH]), by omega, by omega, fun j hj hji => ?_⟩
        by_cases ej : j = i
        · subst ej; exact ⟨e, e2⟩
        · exact h2 j hj (by omega)
  · have h' : ¬ (i : Int) < g.ch.l.length := by omega
    have hy : ValidG g := ⟨k0, k1, k2, k3, k4, k5, k6, k7, k8, fun j hj => h2 j hj (by omega)⟩
    simp (disch := first | omega | (simp [-List.map_take, -List.map_drop, -List.map_set, -List.map_append, -List.drop_one] <;> omega) | fail) [-List.map_take, -List.map_drop, -List.map_set, -List.map_append, -List.drop_one, h, h', validGB, tv_true hy]

/-! a cluster -/
noncomputable def cG1 (g : Grp → DV) : List DV → Option DV := con (fun _ => True) (fun x : Grp => [.agg (grC x)]) g
theorem cG1_eq {g : Grp → DV} {x : Grp} : cG1 g [.agg (grC x)] = some (g x) :=
  con_inj (f := fun x : Grp => [.agg (grC x)]) (fun a b e => by simp only [List.cons.injEq, DV.agg.injEq, and_true] at e; exact grC_inj e) x
noncomputable def cC1 (g : Clu → DV) : List DV → Option DV := con (fun _ => True) (fun x : Clu => [.agg (clC x)]) g
theorem cC1_eq {g : Clu → DV} {x : Clu} : cC1 g [.agg (clC x)] = some (g x) :=
  con_inj (f := fun x : Clu => [.agg (clC x)]) (fun a b e => by simp only [List.cons.injEq, DV.agg.injEq, and_true] at e; exact clC_inj e) x
noncomputable def cCSS (g : Clu → List UInt8 → List UInt8 → DV) : List DV → Option DV := con (fun _ => True) (fun x : Clu × List UInt8 × List UInt8 => [.agg (clC x.1), .str x.2.1, .str x.2.2]) (fun x => g x.1 x.2.1 x.2.2)
theorem cCSS_eq {g : Clu → List UInt8 → List UInt8 → DV} {x : Clu} {a b : List UInt8} : cCSS g [.agg (clC x), .str a, .str b] = some (g x a b) :=
  con_inj (f := fun x : Clu × List UInt8 × List UInt8 => [.agg (clC x.1), .str x.2.1, .str x.2.2]) (by
    rintro ⟨a, b, c⟩ ⟨a', b', c'⟩ e
    simp only [List.cons.injEq, DV.agg.injEq, DV.str.injEq, and_true] at e
    rw [clC_inj e.1, e.2.1, e.2.2]) (x, a, b)
noncomputable def cCI (g : Clu → Ins → DV) : List DV → Option DV := con (fun _ => True) (fun x : Clu × Ins => [.agg (clC x.1), .agg (inC x.2)]) (fun x => g x.1 x.2)
theorem cCI_eq {g : Clu → Ins → DV} {x : Clu} {a : Ins} : cCI g [.agg (clC x), .agg (inC a)] = some (g x a) :=
  con_inj (f := fun x : Clu × Ins => [.agg (clC x.1), .agg (inC x.2)]) (by
    rintro ⟨a, b⟩ ⟨a', b'⟩ e
    simp only [List.cons.injEq, DV.agg.injEq, and_true] at e
    rw [clC_inj e.1, inC_inj e.2]) (x, a)
noncomputable def cCi (g : Clu → Int → DV) : List DV → Option DV := con (fun _ => True) (fun x : Clu × Int => [.agg (clC x.1), .int .i64 x.2]) (fun x => g x.1 x.2)
theorem cCi_eq {g : Clu → Int → DV} {x : Clu} {a : Int} : cCi g [.agg (clC x), .int .i64 a] = some (g x a) :=
  con_inj (f := fun x : Clu × Int => [.agg (clC x.1), .int .i64 x.2]) (by
    rintro ⟨a, b⟩ ⟨a', b'⟩ e
    simp only [List.cons.injEq, DV.agg.injEq, DV.int.injEq, and_true, true_and] at e
    rw [clC_inj e.1, e.2]) (x, a)
abbrev grpD (c : Clu) (ns im : List UInt8) : DV := .int .i64 (grpIx c.g.l ns im)
noncomputable def T107 : Tbl := addT 18 (.pure (cG1 validGB)) (addT 22 (.pure (cCSS grpD)) (addT 64 (.pure (cCI soundB)) tbl0))
theorem T107_v : T107 18 = .pure (cG1 validGB) := by simp [T107]
theorem T107_g : T107 22 = .pure (cCSS grpD) := by simp [T107]
theorem T107_s : T107 64 = .pure (cCI soundB) := by simp [T107]
theorem T107_sound : T107.Sound P := addT_sound (con_sound fun x _ => sem_runs mix T106_sound Tryd.func18 a18_ok (runs_validgroup x)) (addT_sound (con_sound fun x _ => sem_runs mix T102_sound Tryd.func22 a22_ok (runs_group x.1 x.2.1 x.2.2)) (addT_sound (con_sound fun x _ => sem_runs mix T105_sound Tryd.func64 a64_ok (runs_sound x.1 x.2)) tbl0_sound))
noncomputable abbrev validCB (c : Clu) : DV := .bool (tv (ValidC c))
def S107 (c : Clu) (i : Nat) : St := a20S0 (.mp 0 3 0) (c.g.dv 6 grC) (.int .i64 c.g.l.length) (.int .i64 i) [.cells (clC c)]
def S108 (c : Clu) (i : Nat) : St := a20S1 (.mp 0 3 0) (c.i.dv 37 inC) (.int .i64 c.i.l.length) (.int .i64 i) [.cells (clC c)]
set_option maxHeartbeats 2000000 in
theorem runs_valid (c : Clu) : Runs T107 a20 [.agg (clC c)] (validCB c) := by
  refine ⟨?_⟩
  have hbg := c.g.b
  have hbi := c.i.b
  by_cases k0 : (16 : Int) < c.g.l.length
  · have hn : ¬ ValidC c := fun h => by have := h.ng; omega
    simp (disch := first | omega | (simp [-List.map_take, -List.map_drop, -List.map_set, -List.map_append, -List.drop_one] <;> omega) | fail) [-List.map_take, -List.map_drop, -List.map_set, -List.map_append, -List.drop_one, a20, k0, validCB, tv_false hn]
  by_cases k1 : (200 : Int) < c.i.l.length
  · have hn : ¬ ValidC c := fun h => by have := h.ni; omega
    simp (disch := first | omega | (simp [-List.map_take, -List.map_drop, -List.map_set, -List.map_append, -List.drop_one] <;> omega) | fail) [-List.map_take, -List.map_drop, -List.map_set, -List.map_append, -List.drop_one, a20, k0, k1, validCB, tv_false hn]
  by_cases k2 : c.next < 1
  · have hn : ¬ ValidC c := fun h => by have := h.n0; omega
    simp (disch := first | omega | (simp [-List.map_take, -List.map_drop, -List.map_set, -List.map_append, -List.drop_one] <;> omega) | fail) [-List.map_take, -List.map_drop, -List.map_set, -List.map_append, -List.drop_one, a20, k0, k1, k2, validCB, tv_false hn]
  by_cases k3 : 1099511627776 < c.next
  · have hn : ¬ ValidC c := fun h => by have := h.n1; omega
    simp (disch := first | omega | (simp [-List.map_take, -List.map_drop, -List.map_set, -List.map_append, -List.drop_one] <;> omega) | fail) [-List.map_take, -List.map_drop, -List.map_set, -List.map_append, -List.drop_one, a20, k0, k1, k2, k3, validCB, tv_false hn]
  simp (disch := first | omega | (simp [-List.map_take, -List.map_drop, -List.map_set, -List.map_append, -List.drop_one] <;> omega) | fail) [-List.map_take, -List.map_drop, -List.map_set, -List.map_append, -List.drop_one, a20, k0, k1, k2, k3]
  refine W_loop (S107 c) (fun i => c.g.l.length - i) (fun i => i ≤ c.g.l.length ∧ ∀ j (hj : j < c.g.l.length), j < i → ValidG c.g.l[j] ∧ grpIx c.g.l c.g.l[j].ns c.g.l[j].im = j) 0 (weak_same (by simp (disch := first | omega | (simp [-List.map_take, -List.map_drop, -List.map_set, -List.map_append, -List.drop_one] <;> omega) | fail) [-List.map_take, -List.map_drop, -List.map_set, -List.map_append, -List.drop_one]) (by simp (disch := first | omega | (simp [-List.map_take, -List.map_drop, -List.map_set, -List.map_append, -List.drop_one] <;> omega) | fail) [-List.map_take, -List.map_drop, -List.map_set, -List.map_append, -List.drop_one])) ⟨by omega, fun j _ hj => by omega⟩ (fun i hi => ?_)
  obtain ⟨h1, h2⟩ := hi
  simp (disch := first | omega | (simp [-List.map_take, -List.map_drop, -List.map_set, -List.map_append, -List.drop_one] <;> omega) | fail) [-List.map_take, -List.map_drop, -List.map_set, -List.map_append, -List.drop_one, a20L0, a20S0, S107]
  by_cases h : i < c.g.l.length
  · have h' : (i : Int) < c.g.l.length := by omega
    have hg : ∀ H, idxSD H 6 (c.g.dv 6 grC) i = some (.ref (grC c.g.l[i])) := fun H => idxSD_dv len_grC h
    by_cases e : ValidG c.g.l[i]
    · by_cases e2 : grpIx c.g.l c.g.l[i].ns c.g.l[i].im = i
      · simp (disch := first | omega | (simp [-List.map_take, -List.map_drop, -List.map_set, -List.map_append, -List.drop_one] <;> omega) | fail) [-List.map_take, -List.map_drop, -List.map_set, -List.map_append, -List.drop_one, h', h, hg, T107_v, cG1_eq, validGB, tv_true e, T107_g, cCSS_eq, grpD, e2]
        refine ⟨i + 1, weak_drop (tail := [.cells (grC c.g.l[i])]) (by simp (disch := first | omega | (simp [-List.map_take, -List.map_drop, -List.map_set, -List.map_append, -List.drop_one] <;> omega) | fail) [-List.map_take, -List.map_drop, -List.map_set, -List.map_append, -List.drop_one]) (by simp (disch := first | omega | (simp [-List.map_take, -List.map_drop, -List.map_set, -List.map_append, -List.drop_one] <;> omega) | fail) [-List.map_take, -List.map_drop, -List.map_set, -List.map_append, -List.drop_one]) (by simp (disch := first | omega | (simp [-List.map_take, -List.map_drop, -List.map_set, -List.map_append, -List.drop_one] <;> omega) | fail) [-List.map_take, -List.map_drop, -List.map_set, -List.map_append, -List.drop_one]) (by simp (disch := first | omega | (simp [-List.map_take, -List.map_drop, -List.map_set, -List.map_append, -List.drop_one] <;> omega) | fail) [-List.map_take, -List.map_drop, -List.map_set, -List.map_append, -List.drop_one, belowL, Am.below]) (by simp (disch := first | omega | (simp [-List.map_take, -List.map_drop, -List.map_set, -List.map_append, -List.drop_one] <;> omega) | fail) [-List.map_take, -List.map_drop, -List.map_set, -List.map_append, -List.drop_one, belowH]), by omega, by omega, fun j hj hji => ?_⟩
        by_cases ej : j = i
        · subst ej; exact ⟨e, e2⟩
        · exact h2 j hj (by omega)
      · have hn : ¬ ValidC c := fun hv => e2 (hv.g i h).2
        simp (disch := first | omega | (simp [-List.map_take, -List.map_drop, -List.map_set, -List.map_append, -List.drop_one] <;> omega) | fail) [-List.map_take, -List.map_drop, -List.map_set, -List.map_append, -List.drop_one, h', h, hg, T107_v, cG1_eq, validGB, tv_true e, T107_g, cCSS_eq, grpD, e2, validCB, tv_false hn]
    · have hn : ¬ ValidC c := fun hv => e (hv.g i h).1
      simp (disch := first | omega | (simp [-List.map_take, -List.map_drop, -List.map_set, -List.map_append, -List.drop_one] <;> omega) | fail) [-List.map_take, -List.map_drop, -List.map_set, -List.map_append, -List.drop_one, h', h, hg, T107_v, cG1_eq, validGB, tv_false e, validCB, tv_false hn]
  have h' : ¬ (i : Int) < c.g.l.length := by omega
  have hG : ∀ j (hj : j < c.g.l.length), ValidG c.g.l[j] ∧ grpIx c.g.l c.g.l[j].ns c.g.l[j].im = j := fun j hj => h2 j hj (by omega)
  simp (disch := first | omega | (simp [-List.map_take, -List.map_drop, -List.map_set, -List.map_append, -List.drop_one] <;> omega) | fail) [-List.map_take, -List.map_drop, -List.map_set, -List.map_append, -List.drop_one, h, h']
  refine W_loop (S108 c) (fun i => c.i.l.length - i) (fun i => i ≤ c.i.l.length ∧ ∀ j (hj : j < c.i.l.length), j < i → SoundI c.g.l.length c.next c.i.l[j] ∧ (∀ h0 : 0 < j, c.i.l[j - 1].id < c.i.l[j].id)) 0 (weak_same (by simp (disch := first | omega | (simp [-List.map_take, -List.map_drop, -List.map_set, -List.map_append, -List.drop_one] <;> omega) | fail) [-List.map_take, -List.map_drop, -List.map_set, -List.map_append, -List.drop_one]) (by simp (disch := first | omega | (simp [-List.map_take, -List.map_drop, -List.map_set, -List.map_append, -List.drop_one] <;> omega) | fail) [-List.map_take, -List.map_drop, -List.map_set, -List.map_append, -List.drop_one])) ⟨by omega, fun j _ hj => by omega⟩ (fun i hi => ?_)
  obtain ⟨h1, h2⟩ := hi
  simp (disch := first | omega | (simp [-List.map_take, -List.map_drop, -List.map_set, -List.map_append, -List.drop_one] <;> omega) | fail) [-List.map_take, -List.map_drop, -List.map_set, -List.map_append, -List.drop_one, a20L1, a20S1, S108]
  by_cases h : i < c.i.l.length
  · have h' : (i : Int) < c.i.l.length := by omega
    have hg : ∀ H, idxSD H 37 (c.i.dv 37 inC) i = some (.ref (inC c.i.l[i])) := fun H => idxSD_dv len_inC h
    by_cases e : SoundI c.g.l.length c.next c.i.l[i]
    · by_cases e0 : i = 0
      · have e0' : ¬ (0 : Int) < i := by omega
        have e0'' : ¬ 0 < i := by omega
        simp (disch := first | omega | (simp [-List.map_take, -List.map_drop, -List.map_set, -List.map_append, -List.drop_one] <;> omega) | fail) [-List.map_take, -List.map_drop, -List.map_set, -List.map_append, -List.drop_one, h', h, hg, T107_s, cCI_eq, soundB, tv_true e, e0', e0'']
        refine ⟨i + 1, weak_drop (tail := [.cells (inC c.i.l[i])]) (by simp (disch := first | omega | (simp [-List.map_take, -List.map_drop, -List.map_set, -List.map_append, -List.drop_one] <;> omega) | fail) [-List.map_take, -List.map_drop, -List.map_set, -List.map_append, -List.drop_one]) (by simp (disch := first | omega | (simp [-List.map_take, -List.map_drop, -List.map_set, -List.map_append, -List.drop_one] <;> omega) | fail) [-List.map_take, -List.map_drop, -List.map_set, -List.map_append, -List.drop_one]) (by simp (disch := first | omega | (simp [-List.map_take, -List.map_drop, -List.map_set, -List.map_append, -List.drop_one] <;> omega) | fail) [-List.map_take, -List.map_drop, -List.map_set, -List.map_append, -List.drop_one]) (by simp (disch := first | omega | (simp [-List.map_take, -List.map_drop, -List.map_set, -List.map_append, -List.drop_one] <;> omega) | fail) [-List.map_take, -List.map_drop, -List.map_set, -List.map_append, -List.drop_one, belowL, Am.below]) (by simp (disch := first | omega | (simp [-List.map_take, -List.map_drop, -List.map_set, -List.map_append, -List.drop_one] <;> omega) | fail) [-List.map_take, -List.map_drop, -List.map_set, -List.map_append, -List.drop_one, belowH]), by omega, by omega, fun j hj hji => ?_⟩
        obtain rfl : j = i := by omega
        exact ⟨e, fun h0 => by omega⟩
      · have e0' : (0 : Int) < i := by omega
        have e0'' : 0 < i := by omega
        have em : (i : Int) - 1 = (i - 1 : Nat) := by omega
        have hg2 : ∀ H, idxSD H 37 (c.i.dv 37 inC) ((i - 1 : Nat) : Int) = some (.ref (inC c.i.l[i - 1])) := fun H => idxSD_dv len_inC (by omega)
        by_cases e2 : c.i.l[i].id ≤ c.i.l[i - 1].id
        · have hn : ¬ ValidC c := fun hv => by have := (hv.i i h).2 (by omega); omega
          simp (disch := first | omega | (simp [-List.map_take, -List.map_drop, -List.map_set, -List.map_append, -List.drop_one] <;> omega) | fail) [-List.map_take, -List.map_drop, -List.map_set, -List.map_append, -List.drop_one, h', h, hg, T107_s, cCI_eq, soundB, tv_true e, e0', e0'', em, hg2, e2, validCB, tv_false hn]
        · simp (disch := first | omega | (simp [-List.map_take, -List.map_drop, -List.map_set, -List.map_append, -List.drop_one] <;> omega) | fail) [-List.map_take, -List.map_drop, -List.map_set, -List.map_append, -List.drop_one, h', h, hg, T107_s, cCI_eq, soundB, tv_true e, e0', e0'', em, hg2, e2]
          refine ⟨i + 1, weak_drop (tail := [.cells (inC c.i.l[i])]) (by simp (disch := first | omega | (simp [-List.map_take, -List.map_drop, -List.map_set, -List.map_append, -List.drop_one] <;> omega) | fail) [-List.map_take, -List.map_drop, -List.map_set, -List.map_append, -List.drop_one]) (by simp (disch := first | omega | (simp [-List.map_take, -List.map_drop, -List.map_set, -List.map_append, -List.drop_one] <;> omega) | fail) [-List.map_take, -List.map_drop, -List.map_set, -List.map_append, -List.drop_one]) (by simp (disch := first | omega | (simp [-List.map_take, -List.map_drop, -List.map_set, -List.map_append, -List.drop_one] <;> omega) | fail) [-List.map_take, -List.map_drop, -List.map_set, -List.map_append, -List.drop_one]) (by simp (disch := first | omega | (simp [-List.map_take, -List.map_drop, -List.map_set, -List.map_append, -List.drop_one] <;> omega) | fail) [-List.map_take, -List.map_drop, -List.map_set, -List.map_append, -List.drop_one, belowL, Am.below]) (by simp (disch := first | omega | (simp [-List.map_take, -List.map_drop, -List.map_set, -List.map_append, -List.drop_one] <;> omega) | fail) [-List.map_take, -List.map_drop, -List.map_set, -List.map_append, -List.drop_one, belowH]), by omega, by omega, fun j hj hji => ?_⟩
          by_cases ej : j = i
          · subst ej; exact ⟨e, fun _ => by omega⟩
          · exact h2 j hj (by omega)
    · have hn : ¬ ValidC c := fun hv => e (hv.i i h).1
      simp (disch := first | omega | (simp [-List.map_take, -List.map_drop, -List.map_set, -List.map_append, -List.drop_one] <;> omega) | fail) [-List.map_take, -List.map_drop, -List.map_set, -List.map_append, -List.drop_one, h', h, hg, T107_s, cCI_eq, soundB, tv_false e, validCB, tv_false hn]
  · have h' : ¬ (i : Int) < c.i.l.length := by omega
    have hy : ValidC c := ⟨by omega, by omega, by omega, by omega, hG, fun j hj => h2 j hj (by omega)⟩
    simp (disch := first | omega | (simp [-List.map_take, -List.map_drop, -List.map_set, -List.map_append, -List.drop_one] <;> omega) | fail) [-List.map_take, -List.map_drop, -List.map_set, -List.map_append, -List.drop_one, h, h', validCB, tv_true hy]
end Go.Proofs.YtjhakjeioppijaaDoor
