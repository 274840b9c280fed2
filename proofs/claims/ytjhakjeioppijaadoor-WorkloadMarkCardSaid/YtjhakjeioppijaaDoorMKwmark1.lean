/-
  14 texts of mine in one.
-/
import Derived.Test.YtjhakjeioppijaaDoorM0
import Derived.Test.YtjhakjeioppijaaDoorM1
import Derived.Test.YtjhakjeioppijaaDoorM2
import Derived.Test.YtjhakjeioppijaaDoorMKwmark0
/-
  Whether a group, an instance, a cluster is valid: the program.
-/
set_option linter.unusedSimpArgs false
set_option linter.unusedVariables false
namespace Go.Proofs.YtjhakjeioppijaaDoor
open Go Go.Am

theorem runs_timed (t : Int) : Runs tbl0 a70 [.int .i64 t] (.bool (tv (timeOK t))) := by
  refine ⟨?_⟩
  by_cases h0 : 0 ≤ t
  · by_cases h1 : t ≤ 1099511627776
    · simp (disch := first | omega | (simp [-List.map_take, -List.map_drop, -List.map_set, -List.map_append, -List.drop_one] <;> omega) | fail) [-List.map_take, -List.map_drop, -List.map_set, -List.map_append, -List.drop_one, a70, h0, h1, tv_true (show timeOK t from ⟨h0, h1⟩)]
    · simp (disch := first | omega | (simp [-List.map_take, -List.map_drop, -List.map_set, -List.map_append, -List.drop_one] <;> omega) | fail) [-List.map_take, -List.map_drop, -List.map_set, -List.map_append, -List.drop_one, a70, h0, h1, tv_false (show ¬ timeOK t from fun h => h1 h.2)]
  · simp (disch := first | omega | (simp [-List.map_take, -List.map_drop, -List.map_set, -List.map_append, -List.drop_one] <;> omega) | fail) [-List.map_take, -List.map_drop, -List.map_set, -List.map_append, -List.drop_one, a70, h0, tv_false (show ¬ timeOK t from fun h => h0 h.1)]
noncomputable def cTm : List DV → Option DV
  | [.int .i64 t] => some (.bool (tv (timeOK t))) | _ => none
theorem cTm_eq {t : Int} : cTm [.int .i64 t] = some (.bool (tv (timeOK t))) := rfl
theorem cTm_sound {f : Nat} (h : ∀ t, Am.Sem P f [.int .i64 t] (.bool (tv (timeOK t)))) : (Con.pure cTm).Sound P f := by
  intro args v e
  unfold cTm at e
  split at e
  · simp at e; subst e; exact h _
  · simp at e
noncomputable def T105 : Tbl := addT 70 (.pure cTm) tbl0
theorem T105_t : T105 70 = .pure cTm := by simp [T105]
theorem T105_sound : T105.Sound P := addT_sound (cTm_sound fun t => sem_runs mix tbl0_sound Tryd.func70 a70_ok (runs_timed t)) tbl0_sound
theorem all_dgC {d : Dg} : (dgC d).all DV.one = true := all_w8
theorem storeO_dg {h : List AObj} {id : Nat} {d : Dg} {l : List DV} (hl : l.length = 32) : storeO h id 32 0 (.agg (dgC d)) (some l) = some (.junk, h.set id (.cells (dgC d))) := storeO_agg (len_dgC d) hl all_w8
theorem storeO_in {h : List AObj} {id : Nat} {x : Ins} {l : List DV} (hl : l.length = 37) : storeO h id 37 0 (.agg (inC x)) (some l) = some (.junk, h.set id (.cells (inC x))) := storeO_agg (len_inC x) hl (by simp only [inC, List.all_cons, List.all_append, all_dgC, one_int, List.all_nil, Bool.and_self])
theorem storeO_gr {h : List AObj} {id : Nat} {x : Grp} {l : List DV} (hl : l.length = 6) : storeO h id 6 0 (.agg (grC x)) (some l) = some (.junk, h.set id (.cells (grC x))) := storeO_agg (len_grC x) hl (by simp only [grC, List.all_cons, one_int, one_str, dv_one, List.all_nil, Bool.and_self])
theorem storeO_cl {h : List AObj} {id : Nat} {x : Clu} {l : List DV} (hl : l.length = 3) : storeO h id 3 0 (.agg (clC x)) (some l) = some (.junk, h.set id (.cells (clC x))) := storeO_agg (len_clC x) hl (by simp only [clC, List.all_cons, one_int, dv_one, List.all_nil, Bool.and_self])
mutual
theorem below_pure (n : Nat) : ∀ (d : DV), pureD d = true → Am.below n d = true
  | .agg cs, h => by simp only [pureD] at h; simp only [Am.below]; exact belowL_pure n cs h
  | .tup cs, h => by simp only [pureD] at h; simp only [Am.below]; exact belowL_pure n cs h
  | .sl _ _ _ cs, h => by simp only [pureD] at h; simp only [Am.below]; exact belowL_pure n cs h
  | .ref cs, h => by simp only [pureD] at h; simp only [Am.below]; exact belowL_pure n cs h
  | .fn _ a b, h => by simp only [pureD, Bool.and_eq_true] at h; simp only [Am.below, Bool.and_eq_true]; exact ⟨belowL_pure n a h.1, belowL_pure n b h.2⟩
  | .iface _ v, h => by simp only [pureD] at h; simp only [Am.below]; exact below_pure n v h
  | .ms .., h => by simp [pureD] at h
  | .mp .., h => by simp [pureD] at h
  | .int .., _ => rfl
  | .bool .., _ => rfl
  | .str .., _ => rfl
  | .nilp, _ => rfl
  | .nilm, _ => rfl
  | .nilf, _ => rfl
  | .nili, _ => rfl
  | .nils, _ => rfl
  | .junk, _ => rfl
theorem belowL_pure (n : Nat) : ∀ (l : List DV), pureL l = true → belowL n l = true
  | [], _ => rfl
  | d :: r, h => by simp only [pureL, Bool.and_eq_true] at h; simp only [belowL, Bool.and_eq_true]; exact ⟨below_pure n d h.1, belowL_pure n r h.2⟩
end
theorem belowL_gr {n : Nat} {g : Grp} : belowL n (grC g) = true := belowL_pure n _ (pure_grC g)
theorem belowL_cl {n : Nat} {g : Clu} : belowL n (clC g) = true := belowL_pure n _ (pure_clC g)
theorem belowL_in {n : Nat} {g : Ins} : belowL n (inC g) = true := belowL_pure n _ (pure_inC g)
theorem belowL_dg {n : Nat} {g : Dg} : belowL n (dgC g) = true := belowL_pure n _ (pure_dgC g)
theorem below_dv32 {n : Nat} {x : Sl Dg} : Am.below n (x.dv 32 dgC) = true := below_pure n _ (pure_dv32 x)
theorem below_dv6 {n : Nat} {x : Sl Grp} : Am.below n (x.dv 6 grC) = true := below_pure n _ (pure_dv6 x)
theorem below_dv37 {n : Nat} {x : Sl Ins} : Am.below n (x.dv 37 inC) = true := below_pure n _ (pure_dv37 x)
attribute [simp] belowL_gr belowL_cl belowL_in belowL_dg below_dv32 below_dv6 below_dv37 storeO_dg storeO_in storeO_gr storeO_cl
theorem ne_dg0 {d : Dg} (h : ¬ d = dg0) : (!decide (d = dg0)) = true := by simp [h]
noncomputable abbrev soundB (c : Clu) (x : Ins) : DV := .bool (tv (SoundI c.g.l.length c.next x))
set_option maxHeartbeats 1000000 in
theorem runs_sound (c : Clu) (x : Ins) : Runs T105 a64 [.agg (clC c), .agg (inC x)] (soundB c x) := by
  refine ⟨?_⟩
  by_cases k0 : 1 ≤ x.id
  case neg =>
    have hn : ¬ SoundI c.g.l.length c.next x := fun h => k0 h.id0
    simp (disch := first | omega | (simp [-List.map_take, -List.map_drop, -List.map_set, -List.map_append, -List.drop_one] <;> omega) | fail) [-List.map_take, -List.map_drop, -List.map_set, -List.map_append, -List.drop_one, a64, T105_t, cTm_eq, soundB, tv_false hn, k0]
  by_cases k1 : x.id < c.next
  case neg =>
    have hn : ¬ SoundI c.g.l.length c.next x := fun h => k1 h.id1
    simp (disch := first | omega | (simp [-List.map_take, -List.map_drop, -List.map_set, -List.map_append, -List.drop_one] <;> omega) | fail) [-List.map_take, -List.map_drop, -List.map_set, -List.map_append, -List.drop_one, a64, T105_t, cTm_eq, soundB, tv_false hn, k0, k1]
  by_cases k2 : 0 ≤ x.grp
  case neg =>
    have hn : ¬ SoundI c.g.l.length c.next x := fun h => k2 h.g0
    simp (disch := first | omega | (simp [-List.map_take, -List.map_drop, -List.map_set, -List.map_append, -List.drop_one] <;> omega) | fail) [-List.map_take, -List.map_drop, -List.map_set, -List.map_append, -List.drop_one, a64, T105_t, cTm_eq, soundB, tv_false hn, k0, k1, k2]
  by_cases k3 : x.grp < c.g.l.length
  case neg =>
    have hn : ¬ SoundI c.g.l.length c.next x := fun h => k3 h.g1
    simp (disch := first | omega | (simp [-List.map_take, -List.map_drop, -List.map_set, -List.map_append, -List.drop_one] <;> omega) | fail) [-List.map_take, -List.map_drop, -List.map_set, -List.map_append, -List.drop_one, a64, T105_t, cTm_eq, soundB, tv_false hn, k0, k1, k2, k3]
  by_cases k4 : ¬ x.art = dg0
  case neg =>
    have k4 : x.art = dg0 := Classical.not_not.1 k4
    have hn : ¬ SoundI c.g.l.length c.next x := fun h => h.art k4
    simp (disch := first | omega | (simp [-List.map_take, -List.map_drop, -List.map_set, -List.map_append, -List.drop_one] <;> omega) | fail) [-List.map_take, -List.map_drop, -List.map_set, -List.map_append, -List.drop_one, a64, T105_t, cTm_eq, soundB, tv_false hn, k0, k1, k2, k3, k4]
  by_cases k5 : 1 ≤ x.state
  case neg =>
    have hn : ¬ SoundI c.g.l.length c.next x := fun h => k5 h.s0
    simp (disch := first | omega | (simp [-List.map_take, -List.map_drop, -List.map_set, -List.map_append, -List.drop_one] <;> omega) | fail) [-List.map_take, -List.map_drop, -List.map_set, -List.map_append, -List.drop_one, a64, T105_t, cTm_eq, soundB, tv_false hn, k0, k1, k2, k3, k4, k5]
  by_cases k6 : x.state ≤ 3
  case neg =>
    have hn : ¬ SoundI c.g.l.length c.next x := fun h => k6 h.s1
    simp (disch := first | omega | (simp [-List.map_take, -List.map_drop, -List.map_set, -List.map_append, -List.drop_one] <;> omega) | fail) [-List.map_take, -List.map_drop, -List.map_set, -List.map_append, -List.drop_one, a64, T105_t, cTm_eq, soundB, tv_false hn, k0, k1, k2, k3, k4, k5, k6]
  by_cases k7 : timeOK x.since
  case neg =>
    have hn : ¬ SoundI c.g.l.length c.next x := fun h => k7 h.si
    simp (disch := first | omega | (simp [-List.map_take, -List.map_drop, -List.map_set, -List.map_append, -List.drop_one] <;> omega) | fail) [-List.map_take, -List.map_drop, -List.map_set, -List.map_append, -List.drop_one, a64, T105_t, cTm_eq, soundB, tv_false hn, k0, k1, k2, k3, k4, k5, k6, tv_false k7]
  by_cases k8 : x.den = -1
  · have hy : SoundI c.g.l.length c.next x := ⟨k0, k1, k2, k3, k4, k5, k6, k7, .inl k8⟩
    simp (disch := first | omega | (simp [-List.map_take, -List.map_drop, -List.map_set, -List.map_append, -List.drop_one] <;> omega) | fail) [-List.map_take, -List.map_drop, -List.map_set, -List.map_append, -List.drop_one, a64, T105_t, cTm_eq, soundB, tv_true hy, k0, k1, k2, k3, k4, k5, k6, tv_true k7, k8]
  by_cases k9 : timeOK x.den
  · have hy : SoundI c.g.l.length c.next x := ⟨k0, k1, k2, k3, k4, k5, k6, k7, .inr k9⟩
    simp (disch := first | omega | (simp [-List.map_take, -List.map_drop, -List.map_set, -List.map_append, -List.drop_one] <;> omega) | fail) [-List.map_take, -List.map_drop, -List.map_set, -List.map_append, -List.drop_one, a64, T105_t, cTm_eq, soundB, tv_true hy, k0, k1, k2, k3, k4, k5, k6, tv_true k7, k8, tv_true k9]
  · have hn : ¬ SoundI c.g.l.length c.next x := fun h => h.de.elim k8 k9
    simp (disch := first | omega | (simp [-List.map_take, -List.map_drop, -List.map_set, -List.map_append, -List.drop_one] <;> omega) | fail) [-List.map_take, -List.map_drop, -List.map_set, -List.map_append, -List.drop_one, a64, T105_t, cTm_eq, soundB, tv_false hn, k0, k1, k2, k3, k4, k5, k6, tv_true k7, k8, tv_false k9]
noncomputable def T106 : Tbl := addT 60 (.pure (cS pathB)) (addT 61 (.pure (cDgs hasB)) tbl0)
theorem T106_p : T106 60 = .pure (cS pathB) := by simp [T106]
theorem T106_c : T106 61 = .pure (cDgs hasB) := by simp [T106]
theorem T106_sound : T106.Sound P := addT_sound (cS_sound fun s => sem_runs mix T57_sound Tryd.func60 a60_ok (runs_path s)) (addT_sound (con_sound fun p _ => sem_runs mix T100_sound Tryd.func61 a61_ok (runs_contdg p.1 p.2)) tbl0_sound)
noncomputable abbrev validGB (g : Grp) : DV := .bool (tv (ValidG g))
def S106 (g : Grp) (i : Nat) : St := a18S0 (.mp 0 6 0) (g.ch.dv 32 dgC) (.int .i64 g.ch.l.length) (.int .i64 i) [.cells (grC g)]
theorem part_l {α : Type} {x : Sl α} {j : Nat} {b : Bool} : (x.part 0 j b).l = x.l.take j := by simp [Sl.part]
theorem slc_dv {α : Type} {x : Sl α} {s : Nat} {f : α → List DV} {h : List AObj} (hu : ∀ a, (f a).length = s) {j : Nat} (hj : j ≤ x.l.length) : slcSD h s (x.dv s f) none (some (.int .i64 j)) none = some ((x.part 0 j (j == x.l.length)).dv s f) :=
  slcSD_dv hu (by
    have h1 : (j : Int) ≤ x.l.length := by omega
    simp [boundsD, iD, h1]) hj
set_option maxHeartbeats 1000000 in
theorem runs_validgroup (g : Grp) : Runs T106 a18 [.agg (grC g)] (validGB g) := by
  refine ⟨?_⟩
  have hb := g.ch.b
  by_cases k0 : pathD g.ns = true
  case neg =>
    have hn : ¬ ValidG g := fun h => k0 h.ns
    have k0 : pathD g.ns = false := by simpa using k0
    simp (disch := first | omega | (simp [-List.map_take, -List.map_drop, -List.map_set, -List.map_append, -List.drop_one] <;> omega) | fail) [-List.map_take, -List.map_drop, -List.map_set, -List.map_append, -List.drop_one, a18, T106_p, cS_eq, pathB, validGB, tv_false hn, k0]
  by_cases k1 : pathD g.im = true
  case neg =>
    have hn : ¬ ValidG g := fun h => k1 h.im
    have k1 : pathD g.im = false := by simpa using k1
    simp (disch := first | omega | (simp [-List.map_take, -List.map_drop, -List.map_set, -List.map_append, -List.drop_one] <;> omega) | fail) [-List.map_take, -List.map_drop, -List.map_set, -List.map_append, -List.drop_one, a18, T106_p, cS_eq, pathB, validGB, tv_false hn, k0, k1]
  by_cases k2 : 0 ≤ g.want
  case neg =>
    have hn : ¬ ValidG g := fun h => k2 h.w0
    have k2' : g.want < 0 := by omega
    simp (disch := first | omega | (simp [-List.map_take, -List.map_drop, -List.map_set, -List.map_append, -List.drop_one] <;> omega) | fail) [-List.map_take, -List.map_drop, -List.map_set, -List.map_append, -List.drop_one, a18, T106_p, cS_eq, pathB, validGB, tv_false hn, k0, k1, k2, k2']
  have k2' : ¬ g.want < 0 := by omega
  by_cases k3 : g.want ≤ 8
  case neg =>
    have hn : ¬ ValidG g := fun h => k3 h.w1
    have k3' : 8 < g.want := by omega
    simp (disch := first | omega | (simp [-List.map_take, -List.map_drop, -List.map_set, -List.map_append, -List.drop_one] <;> omega) | fail) [-List.map_take, -List.map_drop, -List.map_set, -List.map_append, -List.drop_one, a18, T106_p, cS_eq, pathB, validGB, tv_false hn, k0, k1, k2, k2', k3, k3']
  have k3' : ¬ 8 < g.want := by omega
  by_cases k4 : 0 ≤ g.least
  case neg =>
    have hn : ¬ ValidG g := fun h => k4 h.l0
    have k4' : g.least < 0 := by omega
    simp (disch := first | omega | (simp [-List.map_take, -List.map_drop, -List.map_set, -List.map_append, -List.drop_one] <;> omega) | fail) [-List.map_take, -List.map_drop, -List.map_set, -List.map_append, -List.drop_one, a18, T106_p, cS_eq, pathB, validGB, tv_false hn, k0, k1, k2, k2', k3, k3', k4, k4']
  have k4' : ¬ g.least < 0 := by omega
  by_cases k5 : g.least ≤ g.want
  case neg =>
    have hn : ¬ ValidG g := fun h => k5 h.l1
    have k5' : g.want < g.least := by omega
    simp (disch := first | omega | (simp [-List.map_take, -List.map_drop, -List.map_set, -List.map_append, -List.drop_one] <;> omega) | fail) [-List.map_take, -List.map_drop, -List.map_set, -List.map_append, -List.drop_one, a18, T106_p, cS_eq, pathB, validGB, tv_false hn, k0, k1, k2, k2', k3, k3', k4, k4', k5, k5']
  have k5' : ¬ g.want < g.least := by omega
  by_cases k6 : 0 ≤ g.down
  case neg =>
    have hn : ¬ ValidG g := fun h => k6 h.d0
    have k6' : g.down < 0 := by omega
    simp (disch := first | omega | (simp [-List.map_take, -List.map_drop, -List.map_set, -List.map_append, -List.drop_one] <;> omega) | fail) [-List.map_take, -List.map_drop, -List.map_set, -List.map_append, -List.drop_one, a18, T106_p, cS_eq, pathB, validGB, tv_false hn, k0, k1, k2, k2', k3, k3', k4, k4', k5, k5', k6, k6']
  have k6' : ¬ g.down < 0 := by omega
  by_cases k7 : g.down ≤ g.want
  case neg =>
    have hn : ¬ ValidG g := fun h => k7 h.d1
    have k7' : g.want < g.down := by omega
    simp (disch := first | omega | (simp [-List.map_take, -List.map_drop, -List.map_set, -List.map_append, -List.drop_one] <;> omega) | fail) [-List.map_take, -List.map_drop, -List.map_set, -List.map_append, -List.drop_one, a18, T106_p, cS_eq, pathB, validGB, tv_false hn, k0, k1, k2, k2', k3, k3', k4, k4', k5, k5', k6, k6', k7, k7']
  have k7' : ¬ g.want < g.down := by omega
  by_cases k8 : g.ch.l.length ≤ 6
  case neg =>
    have hn : ¬ ValidG g := fun h => k8 h.n
    have k8' : ¬ (g.ch.l.length : Int) ≤ 6 := by omega
    have k8'' : (6 : Int) < g.ch.l.length := by omega
    simp (disch := first | omega | (simp [-List.map_take, -List.map_drop, -List.map_set, -List.map_append, -List.drop_one] <;> omega) | fail) [-List.map_take, -List.map_drop, -List.map_set, -List.map_append, -List.drop_one, a18, T106_p, cS_eq, pathB, validGB, tv_false hn, k0, k1, k2, k2', k3, k3', k4, k4', k5, k5', k6, k6', k7, k7', k8, k8', k8'']
  have k8' : (g.ch.l.length : Int) ≤ 6 := by omega
  have k8'' : ¬ (6 : Int) < g.ch.l.length := by omega
  simp (disch := first | omega | (simp [-List.map_take, -List.map_drop, -List.map_set, -List.map_append, -List.drop_one] <;> omega) | fail) [-List.map_take, -List.map_drop, -List.map_set, -List.map_append, -List.drop_one, a18, T106_p, cS_eq, pathB, k0, k1, k2, k2', k3, k3', k4, k4', k5, k5', k6, k6', k7, k7', k8, k8', k8'']
  refine W_loop (S106 g) (fun i => g.ch.l.length - i) (fun i => i ≤ g.ch.l.length ∧ ∀ j (hj : j < g.ch.l.length), j < i → g.ch.l[j] ≠ dg0 ∧ g.ch.l[j] ∉ g.ch.l.take j) 0 (weak_same (by simp (disch := first | omega | (simp [-List.map_take, -List.map_drop, -List.map_set, -List.map_append, -List.drop_one] <;> omega) | fail) [-List.map_take, -List.map_drop, -List.map_set, -List.map_append, -List.drop_one]) (by simp (disch := first | omega | (simp [-List.map_take, -List.map_drop, -List.map_set, -List.map_append, -List.drop_one] <;> omega) | fail) [-List.map_take, -List.map_drop, -List.map_set, -List.map_append, -List.drop_one])) ⟨by omega, fun j _ hj => by omega⟩ (fun i hi => ?_)
  obtain ⟨h1, h2⟩ := hi
  simp (disch := first | omega | (simp [-List.map_take, -List.map_drop, -List.map_set, -List.map_append, -List.drop_one] <;> omega) | fail) [-List.map_take, -List.map_drop, -List.map_set, -List.map_append, -List.drop_one, a18L0, a18S0, S106]
  by_cases h : i < g.ch.l.length
  · have h' : (i : Int) < g.ch.l.length := by omega
    have hg : ∀ H, idxSD H 32 (g.ch.dv 32 dgC) i = some (.ref (dgC g.ch.l[i])) := fun H => idxSD_dv len_dgC h
    have hsl : ∀ H, slcSD H 32 (g.ch.dv 32 dgC) none (some (.int .i64 i)) none = some ((g.ch.part 0 i (i == g.ch.l.length)).dv 32 dgC) := fun H => slc_dv len_dgC (by omega)
    by_cases e : g.ch.l[i] = dg0
    · have hn : ¬ ValidG g := fun hv => (hv.ch i h).1 e
      simp (disch := first | omega | (simp [-List.map_take, -List.map_drop, -List.map_set, -List.map_append, -List.drop_one] <;> omega) | fail) [-List.map_take, -List.map_drop, -List.map_set, -List.map_append, -List.drop_one, h', h, hg, e, validGB, tv_false hn]
    · by_cases e2 : g.ch.l[i] ∈ g.ch.l.take i
      · have hn : ¬ ValidG g := fun hv => (hv.ch i h).2 e2
        simp (disch := first | omega | (simp [-List.map_take, -List.map_drop, -List.map_set, -List.map_append, -List.drop_one] <;> omega) | fail) [-List.map_take, -List.map_drop, -List.map_set, -List.map_append, -List.drop_one, h', h, hg, hsl, e, T106_c, cDgs_eq, hasB, part_l, e2, validGB, tv_false hn]
      · simp (disch := first | omega | (simp [-List.map_take, -List.map_drop, -List.map_set, -List.map_append, -List.drop_one] <;> omega) | fail) [-List.map_take, -List.map_drop, -List.map_set, -List.map_append, -List.drop_one, h', h, hg, hsl, e, T106_c, cDgs_eq, hasB, part_l, e2]
        refine ⟨i + 1, weak_drop (tail := [.cells (dgC g.ch.l[i])]) (by simp (disch := first | omega | (simp [-List.map_take, -List.map_drop, -List.map_set, -List.map_append, -List.drop_one] <;> omega) | fail) [-List.map_take, -List.map_drop, -List.map_set, -List.map_append, -List.drop_one]) (by simp (disch := first | omega | (simp [-List.map_take, -List.map_drop, -List.map_set, -List.map_append, -List.drop_one] <;> omega) | fail) [-List.map_take, -List.map_drop, -List.map_set, -List.map_append, -List.drop_one]) (by simp (disch := first | omega | (simp [-List.map_take, -List.map_drop, -List.map_set, -List.map_append, -List.drop_one] <;> omega) | fail) [-List.map_take, -List.map_drop, -List.map_set, -List.map_append, -List.drop_one]) (by simp (disch := first | omega | (simp [-List.map_take, -List.map_drop, -List.map_set, -List.map_append, -List.drop_one] <;> omega) | fail) [-List.map_take, -List.map_drop, -List.map_set, -List.map_append, -List.drop_one, belowL, Am.below]) (by simp (disch := first | omega | (simp [-List.map_take, -List.map_drop, -List.map_set, -List.map_append, -List.drop_one] <;> omega) | fail) [-List.map_take, -List.map_drop, -List.map_set, -List.map_append, -List.drop_one, belowH]), by omega, by omega, fun j hj hji => ?_⟩
        by_cases ej : j = i
        · subst ej; exact ⟨e, e2⟩
        · exact h2 j hj (by omega)
  · have h' : ¬ (i : Int) < g.ch.l.length := by omega
    have hy : ValidG g := ⟨k0, k1, k2, k3, k4, k5, k6, k7, k8, fun j hj => h2 j hj (by omega)⟩
    simp (disch := first | omega | (simp [-List.map_take, -List.map_drop, -List.map_set, -List.map_append, -List.drop_one] <;> omega) | fail) [-List.map_take, -List.map_drop, -List.map_set, -List.map_append, -List.drop_one, h, h', validGB, tv_true hy]

/-! a cluster -/
noncomputable def cG1 (g : Grp → DV) : List DV → Option DV := con (fun _ => True) (fun x : Grp => [.agg (grC x)]) g
theorem cG1_eq {g : Grp → DV} {x : Grp} : cG1 g [.agg (grC x)] = some (g x) :=
  con_inj (f := fun x : Grp => [.agg (grC x)]) (fun a b e => by simp only [List.cons.injEq, DV.agg.injEq, and_true] at e; exact grC_inj e) x
noncomputable def cC1 (g : Clu → DV) : List DV → Option DV := con (fun _ => True) (fun x : Clu => [.agg (clC x)]) g
theorem cC1_eq {g : Clu → DV} {x : Clu} : cC1 g [.agg (clC x)] = some (g x) :=
  con_inj (f := fun x : Clu => [.agg (clC x)]) (fun a b e => by simp only [List.cons.injEq, DV.agg.injEq, and_true] at e; exact clC_inj e) x
noncomputable def cCSS (g : Clu → List UInt8 → List UInt8 → DV) : List DV → Option DV := con (fun _ => True) (fun x : Clu × List UInt8 × List UInt8 => [.agg (clC x.1), .str x.2.1, .str x.2.2]) (fun x => g x.1 x.2.1 x.2.2)
theorem cCSS_eq {g : Clu → List UInt8 → List UInt8 → DV} {x : Clu} {a b : List UInt8} : cCSS g [.agg (clC x), .str a, .str b] = some (g x a b) :=
  con_inj (f := fun x : Clu × List UInt8 × List UInt8 => [.agg (clC x.1), .str x.2.1, .str x.2.2]) (by
    rintro ⟨a, b, c⟩ ⟨a', b', c'⟩ e
    simp only [List.cons.injEq, DV.agg.injEq, DV.str.injEq, and_true] at e
    rw [clC_inj e.1, e.2.1, e.2.2]) (x, a, b)
noncomputable def cCI (g : Clu → Ins → DV) : List DV → Option DV := con (fun _ => True) (fun x : Clu × Ins => [.agg (clC x.1), .agg (inC x.2)]) (fun x => g x.1 x.2)
theorem cCI_eq {g : Clu → Ins → DV} {x : Clu} {a : Ins} : cCI g [.agg (clC x), .agg (inC a)] = some (g x a) :=
  con_inj (f := fun x : Clu × Ins => [.agg (clC x.1), .agg (inC x.2)]) (by
    rintro ⟨a, b⟩ ⟨a', b'⟩ e
    simp only [List.cons.injEq, DV.agg.injEq, and_true] at e
    rw [clC_inj e.1, inC_inj e.2]) (x, a)
noncomputable def cCi (g : Clu → Int → DV) : List DV → Option DV := con (fun _ => True) (fun x : Clu × Int => [.agg (clC x.1), .int .i64 x.2]) (fun x => g x.1 x.2)
theorem cCi_eq {g : Clu → Int → DV} {x : Clu} {a : Int} : cCi g [.agg (clC x), .int .i64 a] = some (g x a) :=
  con_inj (f := fun x : Clu × Int => [.agg (clC x.1), .int .i64 x.2]) (by
    rintro ⟨a, b⟩ ⟨a', b'⟩ e
    simp only [List.cons.injEq, DV.agg.injEq, DV.int.injEq, and_true, true_and] at e
    rw [clC_inj e.1, e.2]) (x, a)
abbrev grpD (c : Clu) (ns im : List UInt8) : DV := .int .i64 (grpIx c.g.l ns im)
noncomputable def T107 : Tbl := addT 18 (.pure (cG1 validGB)) (addT 22 (.pure (cCSS grpD)) (addT 64 (.pure (cCI soundB)) tbl0))
theorem T107_v : T107 18 = .pure (cG1 validGB) := by simp [T107]
theorem T107_g : T107 22 = .pure (cCSS grpD) := by simp [T107]
theorem T107_s : T107 64 = .pure (cCI soundB) := by simp [T107]
theorem T107_sound : T107.Sound P := addT_sound (con_sound fun x _ => sem_runs mix T106_sound Tryd.func18 a18_ok (runs_validgroup x)) (addT_sound (con_sound fun x _ => sem_runs mix T102_sound Tryd.func22 a22_ok (runs_group x.1 x.2.1 x.2.2)) (addT_sound (con_sound fun x _ => sem_runs mix T105_sound Tryd.func64 a64_ok (runs_sound x.1 x.2)) tbl0_sound))
noncomputable abbrev validCB (c : Clu) : DV := .bool (tv (ValidC c))
def S107 (c : Clu) (i : Nat) : St := a20S0 (.mp 0 3 0) (c.g.dv 6 grC) (.int .i64 c.g.l.length) (.int .i64 i) [.cells (clC c)]
def S108 (c : Clu) (i : Nat) : St := a20S1 (.mp 0 3 0) (c.i.dv 37 inC) (.int .i64 c.i.l.length) (.int .i64 i) [.cells (clC c)]
set_option maxHeartbeats 2000000 in
theorem runs_valid (c : Clu) : Runs T107 a20 [.agg (clC c)] (validCB c) := by
  refine ⟨?_⟩
  have hbg := c.g.b
  have hbi := c.i.b
  by_cases k0 : (16 : Int) < c.g.l.length
  · have hn : ¬ ValidC c := fun h => by have := h.ng; omega
    simp (disch := first | omega | (simp [-List.map_take, -List.map_drop, -List.map_set, -List.map_append, -List.drop_one] <;> omega) | fail) [-List.map_take, -List.map_drop, -List.map_set, -List.map_append, -List.drop_one, a20, k0, validCB, tv_false hn]
  by_cases k1 : (200 : Int) < c.i.l.length
  · have hn : ¬ ValidC c := fun h => by have := h.ni; omega
    simp (disch := first | omega | (simp [-List.map_take, -List.map_drop, -List.map_set, -List.map_append, -List.drop_one] <;> omega) | fail) [-List.map_take, -List.map_drop, -List.map_set, -List.map_append, -List.drop_one, a20, k0, k1, validCB, tv_false hn]
  by_cases k2 : c.next < 1
  · have hn : ¬ ValidC c := fun h => by have := h.n0; omega
    simp (disch := first | omega | (simp [-List.map_take, -List.map_drop, -List.map_set, -List.map_append, -List.drop_one] <;> omega) | fail) [-List.map_take, -List.map_drop, -List.map_set, -List.map_append, -List.drop_one, a20, k0, k1, k2, validCB, tv_false hn]
  by_cases k3 : 1099511627776 < c.next
  · have hn : ¬ ValidC c := fun h => by have := h.n1; omega
    simp (disch := first | omega | (simp [-List.map_take, -List.map_drop, -List.map_set, -List.map_append, -List.drop_one] <;> omega) | fail) [-List.map_take, -List.map_drop, -List.map_set, -List.map_append, -List.drop_one, a20, k0, k1, k2, k3, validCB, tv_false hn]
  simp (disch := first | omega | (simp [-List.map_take, -List.map_drop, -List.map_set, -List.map_append, -List.drop_one] <;> omega) | fail) [-List.map_take, -List.map_drop, -List.map_set, -List.map_append, -List.drop_one, a20, k0, k1, k2, k3]
  refine W_loop (S107 c) (fun i => c.g.l.length - i) (fun i => i ≤ c.g.l.length ∧ ∀ j (hj : j < c.g.l.length), j < i → ValidG c.g.l[j] ∧ grpIx c.g.l c.g.l[j].ns c.g.l[j].im = j) 0 (weak_same (by simp (disch := first | omega | (simp [-List.map_take, -List.map_drop, -List.map_set, -List.map_append, -List.drop_one] <;> omega) | fail) [-List.map_take, -List.map_drop, -List.map_set, -List.map_append, -List.drop_one]) (by simp (disch := first | omega | (simp [-List.map_take, -List.map_drop, -List.map_set, -List.map_append, -List.drop_one] <;> omega) | fail) [-List.map_take, -List.map_drop, -List.map_set, -List.map_append, -List.drop_one])) ⟨by omega, fun j _ hj => by omega⟩ (fun i hi => ?_)
  obtain ⟨h1, h2⟩ := hi
  simp (disch := first | omega | (simp [-List.map_take, -List.map_drop, -List.map_set, -List.map_append, -List.drop_one] <;> omega) | fail) [-List.map_take, -List.map_drop, -List.map_set, -List.map_append, -List.drop_one, a20L0, a20S0, S107]
  by_cases h : i < c.g.l.length
  · have h' : (i : Int) < c.g.l.length := by omega
    have hg : ∀ H, idxSD H 6 (c.g.dv 6 grC) i = some (.ref (grC c.g.l[i])) := fun H => idxSD_dv len_grC h
    by_cases e : ValidG c.g.l[i]
    · by_cases e2 : grpIx c.g.l c.g.l[i].ns c.g.l[i].im = i
      · simp (disch := first | omega | (simp [-List.map_take, -List.map_drop, -List.map_set, -List.map_append, -List.drop_one] <;> omega) | fail) [-List.map_take, -List.map_drop, -List.map_set, -List.map_append, -List.drop_one, h', h, hg, T107_v, cG1_eq, validGB, tv_true e, T107_g, cCSS_eq, grpD, e2]
        refine ⟨i + 1, weak_drop (tail := [.cells (grC c.g.l[i])]) (by simp (disch := first | omega | (simp [-List.map_take, -List.map_drop, -List.map_set, -List.map_append, -List.drop_one] <;> omega) | fail) [-List.map_take, -List.map_drop, -List.map_set, -List.map_append, -List.drop_one]) (by simp (disch := first | omega | (simp [-List.map_take, -List.map_drop, -List.map_set, -List.map_append, -List.drop_one] <;> omega) | fail) [-List.map_take, -List.map_drop, -List.map_set, -List.map_append, -List.drop_one]) (by simp (disch := first | omega | (simp [-List.map_take, -List.map_drop, -List.map_set, -List.map_append, -List.drop_one] <;> omega) | fail) [-List.map_take, -List.map_drop, -List.map_set, -List.map_append, -List.drop_one]) (by simp (disch := first | omega | (simp [-List.map_take, -List.map_drop, -List.map_set, -List.map_append, -List.drop_one] <;> omega) | fail) [-List.map_take, -List.map_drop, -List.map_set, -List.map_append, -List.drop_one, belowL, Am.below]) (by simp (disch := first | omega | (simp [-List.map_take, -List.map_drop, -List.map_set, -List.map_append, -List.drop_one] <;> omega) | fail) [-List.map_take, -List.map_drop, -List.map_set, -List.map_append, -List.drop_one, belowH]), by omega, by omega, fun j hj hji => ?_⟩
        by_cases ej : j = i
        · subst ej; exact ⟨e, e2⟩
        · exact h2 j hj (by omega)
      · have hn : ¬ ValidC c := fun hv => e2 (hv.g i h).2
        simp (disch := first | omega | (simp [-List.map_take, -List.map_drop, -List.map_set, -List.map_append, -List.drop_one] <;> omega) | fail) [-List.map_take, -List.map_drop, -List.map_set, -List.map_append, -List.drop_one, h', h, hg, T107_v, cG1_eq, validGB, tv_true e, T107_g, cCSS_eq, grpD, e2, validCB, tv_false hn]
    · have hn : ¬ ValidC c := fun hv => e (hv.g i h).1
      simp (disch := first | omega | (simp [-List.map_take, -List.map_drop, -List.map_set, -List.map_append, -List.drop_one] <;> omega) | fail) [-List.map_take, -List.map_drop, -List.map_set, -List.map_append, -List.drop_one, h', h, hg, T107_v, cG1_eq, validGB, tv_false e, validCB, tv_false hn]
  have h' : ¬ (i : Int) < c.g.l.length := by omega
  have hG : ∀ j (hj : j < c.g.l.length), ValidG c.g.l[j] ∧ grpIx c.g.l c.g.l[j].ns c.g.l[j].im = j := fun j hj => h2 j hj (by omega)
  simp (disch := first | omega | (simp [-List.map_take, -List.map_drop, -List.map_set, -List.map_append, -List.drop_one] <;> omega) | fail) [-List.map_take, -List.map_drop, -List.map_set, -List.map_append, -List.drop_one, h, h']
  refine W_loop (S108 c) (fun i => c.i.l.length - i) (fun i => i ≤ c.i.l.length ∧ ∀ j (hj : j < c.i.l.length), j < i → SoundI c.g.l.length c.next c.i.l[j] ∧ (∀ h0 : 0 < j, c.i.l[j - 1].id < c.i.l[j].id)) 0 (weak_same (by simp (disch := first | omega | (simp [-List.map_take, -List.map_drop, -List.map_set, -List.map_append, -List.drop_one] <;> omega) | fail) [-List.map_take, -List.map_drop, -List.map_set, -List.map_append, -List.drop_one]) (by simp (disch := first | omega | (simp [-List.map_take, -List.map_drop, -List.map_set, -List.map_append, -List.drop_one] <;> omega) | fail) [-List.map_take, -List.map_drop, -List.map_set, -List.map_append, -List.drop_one])) ⟨by omega, fun j _ hj => by omega⟩ (fun i hi => ?_)
  obtain ⟨h1, h2⟩ := hi
  simp (disch := first | omega | (simp [-List.map_take, -List.map_drop, -List.map_set, -List.map_append, -List.drop_one] <;> omega) | fail) [-List.map_take, -List.map_drop, -List.map_set, -List.map_append, -List.drop_one, a20L1, a20S1, S108]
  by_cases h : i < c.i.l.length
  · have h' : (i : Int) < c.i.l.length := by omega
    have hg : ∀ H, idxSD H 37 (c.i.dv 37 inC) i = some (.ref (inC c.i.l[i])) := fun H => idxSD_dv len_inC h
    by_cases e : SoundI c.g.l.length c.next c.i.l[i]
    · by_cases e0 : i = 0
      · have e0' : ¬ (0 : Int) < i := by omega
        have e0'' : ¬ 0 < i := by omega
        simp (disch := first | omega | (simp [-List.map_take, -List.map_drop, -List.map_set, -List.map_append, -List.drop_one] <;> omega) | fail) [-List.map_take, -List.map_drop, -List.map_set, -List.map_append, -List.drop_one, h', h, hg, T107_s, cCI_eq, soundB, tv_true e, e0', e0'']
        refine ⟨i + 1, weak_drop (tail := [.cells (inC c.i.l[i])]) (by simp (disch := first | omega | (simp [-List.map_take, -List.map_drop, -List.map_set, -List.map_append, -List.drop_one] <;> omega) | fail) [-List.map_take, -List.map_drop, -List.map_set, -List.map_append, -List.drop_one]) (by simp (disch := first | omega | (simp [-List.map_take, -List.map_drop, -List.map_set, -List.map_append, -List.drop_one] <;> omega) | fail) [-List.map_take, -List.map_drop, -List.map_set, -List.map_append, -List.drop_one]) (by simp (disch := first | omega | (simp [-List.map_take, -List.map_drop, -List.map_set, -List.map_append, -List.drop_one] <;> omega) | fail) [-List.map_take, -List.map_drop, -List.map_set, -List.map_append, -List.drop_one]) (by simp (disch := first | omega | (simp [-List.map_take, -List.map_drop, -List.map_set, -List.map_append, -List.drop_one] <;> omega) | fail) [-List.map_take, -List.map_drop, -List.map_set, -List.map_append, -List.drop_one, belowL, Am.below]) (by simp (disch := first | omega | (simp [-List.map_take, -List.map_drop, -List.map_set, -List.map_append, -List.drop_one] <;> omega) | fail) [-List.map_take, -List.map_drop, -List.map_set, -List.map_append, -List.drop_one, belowH]), by omega, by omega, fun j hj hji => ?_⟩
        obtain rfl : j = i := by omega
        exact ⟨e, fun h0 => by omega⟩
      · have e0' : (0 : Int) < i := by omega
        have e0'' : 0 < i := by omega
        have em : (i : Int) - 1 = (i - 1 : Nat) := by omega
        have hg2 : ∀ H, idxSD H 37 (c.i.dv 37 inC) ((i - 1 : Nat) : Int) = some (.ref (inC c.i.l[i - 1])) := fun H => idxSD_dv len_inC (by omega)
        by_cases e2 : c.i.l[i].id ≤ c.i.l[i - 1].id
        · have hn : ¬ ValidC c := fun hv => by have := (hv.i i h).2 (by omega); omega
          simp (disch := first | omega | (simp [-List.map_take, -List.map_drop, -List.map_set, -List.map_append, -List.drop_one] <;> omega) | fail) [-List.map_take, -List.map_drop, -List.map_set, -List.map_append, -List.drop_one, h', h, hg, T107_s, cCI_eq, soundB, tv_true e, e0', e0'', em, hg2, e2, validCB, tv_false hn]
        · simp (disch := first | omega | (simp [-List.map_take, -List.map_drop, -List.map_set, -List.map_append, -List.drop_one] <;> omega) | fail) [-List.map_take, -List.map_drop, -List.map_set, -List.map_append, -List.drop_one, h', h, hg, T107_s, cCI_eq, soundB, tv_true e, e0', e0'', em, hg2, e2]
          refine ⟨i + 1, weak_drop (tail := [.cells (inC c.i.l[i])]) (by simp (disch := first | omega | (simp [-List.map_take, -List.map_drop, -List.map_set, -List.map_append, -List.drop_one] <;> omega) | fail) [-List.map_take, -List.map_drop, -List.map_set, -List.map_append, -List.drop_one]) (by simp (disch := first | omega | (simp [-List.map_take, -List.map_drop, -List.map_set, -List.map_append, -List.drop_one] <;> omega) | fail) [-List.map_take, -List.map_drop, -List.map_set, -List.map_append, -List.drop_one]) (by simp (disch := first | omega | (simp [-List.map_take, -List.map_drop, -List.map_set, -List.map_append, -List.drop_one] <;> omega) | fail) [-List.map_take, -List.map_drop, -List.map_set, -List.map_append, -List.drop_one]) (by simp (disch := first | omega | (simp [-List.map_take, -List.map_drop, -List.map_set, -List.map_append, -List.drop_one] <;> omega) | fail) [-List.map_take, -List.map_drop, -List.map_set, -List.map_append, -List.drop_one, belowL, Am.below]) (by simp (disch := first | omega | (simp [-List.map_take, -List.map_drop, -List.map_set, -List.map_append, -List.drop_one] <;> omega) | fail) [-List.map_take, -List.map_drop, -List.map_set, -List.map_append, -List.drop_one, belowH]), by omega, by omega, fun j hj hji => ?_⟩
          by_cases ej : j = i
          · subst ej; exact ⟨e, fun _ => by omega⟩
          · exact h2 j hj (by omega)
    · have hn : ¬ ValidC c := fun hv => e (hv.i i h).1
      simp (disch := first | omega | (simp [-List.map_take, -List.map_drop, -List.map_set, -List.map_append, -List.drop_one] <;> omega) | fail) [-List.map_take, -List.map_drop, -List.map_set, -List.map_append, -List.drop_one, h', h, hg, T107_s, cCI_eq, soundB, tv_false e, validCB, tv_false hn]
  · have h' : ¬ (i : Int) < c.i.l.length := by omega
    have hy : ValidC c := ⟨by omega, by omega, by omega, by omega, hG, fun j hj => h2 j hj (by omega)⟩
    simp (disch := first | omega | (simp [-List.map_take, -List.map_drop, -List.map_set, -List.map_append, -List.drop_one] <;> omega) | fail) [-List.map_take, -List.map_drop, -List.map_set, -List.map_append, -List.drop_one, h, h', validCB, tv_true hy]
end Go.Proofs.YtjhakjeioppijaaDoor
/-
  Copies of lists and clusters.
-/
set_option linter.unusedSimpArgs false
set_option linter.unusedVariables false
namespace Go.Proofs.YtjhakjeioppijaaDoor
open Go Go.Am

/-- a copy as the function that made it has it -/
def mutD {α : Type} (id s : Nat) (x : Sl α) (f : α → List DV) : DV := if x.l = [] then x.clone.dv s f else .ms id (x.l.length * s) 0 s x.l.length (x.l.length * s)
def mutO {α : Type} (x : Sl α) (f : α → List DV) : List AObj := if x.l = [] then [] else [.cells (x.l.flatMap f)]
theorem mutD_nil {α : Type} {id s : Nat} {x : Sl α} {f : α → List DV} (h : x.l = []) : mutD id s x f = x.clone.dv s f := if_pos h
theorem mutD_ne {α : Type} {id s : Nat} {x : Sl α} {f : α → List DV} (h : x.l ≠ []) : mutD id s x f = .ms id (x.l.length * s) 0 s x.l.length (x.l.length * s) := if_neg h
theorem mutO_nil {α : Type} {x : Sl α} {f : α → List DV} (h : x.l = []) : mutO x f = [] := if_pos h
theorem mutO_ne {α : Type} {x : Sl α} {f : α → List DV} (h : x.l ≠ []) : mutO x f = [.cells (x.l.flatMap f)] := if_neg h
theorem fm_all {α : Type} {f : α → List DV} (h : ∀ a, (f a).all DV.one = true) : ∀ (l : List α), (l.flatMap f).all DV.one = true
  | [] => rfl
  | a :: l => by rw [List.flatMap_cons, List.all_append, h, fm_all h l]; rfl
theorem all_grC (g : Grp) : (grC g).all DV.one = true := by simp only [grC, List.all_cons, one_int, one_str, dv_one, List.all_nil, Bool.and_self]
theorem all_inC (x : Ins) : (inC x).all DV.one = true := by simp only [inC, List.all_cons, List.all_append, all_dgC, one_int, List.all_nil, Bool.and_self]
theorem runs_cloneD (x : Sl Dg) : RunsH tbl0 a75 [x.dv 32 dgC] [] (mutD 0 32 x dgC) (mutO x dgC) := by
  refine ⟨?_⟩
  obtain ⟨k, l, h, hb⟩ := x
  cases k with
  | none =>
    have hl : l = [] := h rfl
    subst hl
    simp (disch := first | omega | (simp [-List.map_take, -List.map_drop, -List.map_set, -List.map_append, -List.drop_one] <;> omega) | fail) [-List.map_take, -List.map_drop, -List.map_set, -List.map_append, -List.drop_one, a75, dv_none]
    exact ⟨by rw [mutD_nil rfl]; rfl, mutO_nil rfl⟩
  | some b =>
    have hb : l.length ≤ 4294967296 := hb
    by_cases hl : l = []
    · subst hl; simp (disch := first | omega | (simp [-List.map_take, -List.map_drop, -List.map_set, -List.map_append, -List.drop_one] <;> omega) | fail) [-List.map_take, -List.map_drop, -List.map_set, -List.map_append, -List.drop_one, a75, dv_some, mutD, mutO, Sl.clone]
    · have h1 := fm_len len_dgC l
      have h2 := fm_all (f := dgC) (fun _ => all_dgC) l
      have h3 : 0 < l.length := List.length_pos_iff.2 hl
      simp (disch := first | omega | (simp [-List.map_take, -List.map_drop, -List.map_set, -List.map_append, -List.drop_one] <;> omega) | fail) [-List.map_take, -List.map_drop, -List.map_set, -List.map_append, -List.drop_one, a75, dv_some, mutD, mutO, hl, h1, h2, h3]
theorem runs_cloneG (x : Sl Grp) : RunsH tbl0 a105 [x.dv 6 grC] [] (mutD 0 6 x grC) (mutO x grC) := by
  refine ⟨?_⟩
  obtain ⟨k, l, h, hb⟩ := x
  cases k with
  | none =>
    have hl : l = [] := h rfl
    subst hl
    simp (disch := first | omega | (simp [-List.map_take, -List.map_drop, -List.map_set, -List.map_append, -List.drop_one] <;> omega) | fail) [-List.map_take, -List.map_drop, -List.map_set, -List.map_append, -List.drop_one, a105, dv_none]
    exact ⟨by rw [mutD_nil rfl]; rfl, mutO_nil rfl⟩
  | some b =>
    have hb : l.length ≤ 4294967296 := hb
    by_cases hl : l = []
    · subst hl; simp (disch := first | omega | (simp [-List.map_take, -List.map_drop, -List.map_set, -List.map_append, -List.drop_one] <;> omega) | fail) [-List.map_take, -List.map_drop, -List.map_set, -List.map_append, -List.drop_one, a105, dv_some, mutD, mutO, Sl.clone]
    · have h1 := fm_len len_grC l
      have h2 := fm_all (f := grC) (all_grC) l
      have h3 : 0 < l.length := List.length_pos_iff.2 hl
      simp (disch := first | omega | (simp [-List.map_take, -List.map_drop, -List.map_set, -List.map_append, -List.drop_one] <;> omega) | fail) [-List.map_take, -List.map_drop, -List.map_set, -List.map_append, -List.drop_one, a105, dv_some, mutD, mutO, hl, h1, h2, h3]
theorem runs_cloneI (x : Sl Ins) : RunsH tbl0 a106 [x.dv 37 inC] [] (mutD 0 37 x inC) (mutO x inC) := by
  refine ⟨?_⟩
  obtain ⟨k, l, h, hb⟩ := x
  cases k with
  | none =>
    have hl : l = [] := h rfl
    subst hl
    simp (disch := first | omega | (simp [-List.map_take, -List.map_drop, -List.map_set, -List.map_append, -List.drop_one] <;> omega) | fail) [-List.map_take, -List.map_drop, -List.map_set, -List.map_append, -List.drop_one, a106, dv_none]
    exact ⟨by rw [mutD_nil rfl]; rfl, mutO_nil rfl⟩
  | some b =>
    have hb : l.length ≤ 4294967296 := hb
    by_cases hl : l = []
    · subst hl; simp (disch := first | omega | (simp [-List.map_take, -List.map_drop, -List.map_set, -List.map_append, -List.drop_one] <;> omega) | fail) [-List.map_take, -List.map_drop, -List.map_set, -List.map_append, -List.drop_one, a106, dv_some, mutD, mutO, Sl.clone]
    · have h1 := fm_len len_inC l
      have h2 := fm_all (f := inC) (all_inC) l
      have h3 : 0 < l.length := List.length_pos_iff.2 hl
      simp (disch := first | omega | (simp [-List.map_take, -List.map_drop, -List.map_set, -List.map_append, -List.drop_one] <;> omega) | fail) [-List.map_take, -List.map_drop, -List.map_set, -List.map_append, -List.drop_one, a106, dv_some, mutD, mutO, hl, h1, h2, h3]
end Go.Proofs.YtjhakjeioppijaaDoor
/-
  clone.
-/
set_option linter.unusedSimpArgs false
set_option linter.unusedVariables false
namespace Go.Proofs.YtjhakjeioppijaaDoor
open Go Go.Am

theorem shD_mut {α : Type} {n s : Nat} {x : Sl α} {f : α → List DV} (hp : ∀ a, pureL (f a) = true) : shD n (mutD 0 s x f) = mutD n s x f := by
  by_cases h : x.l = []
  · rw [mutD_nil h, mutD_nil h]; exact shD_pure n _ (dv_pure hp _)
  · rw [mutD_ne h, mutD_ne h]; rfl
theorem shO_mut {α : Type} {n : Nat} {x : Sl α} {f : α → List DV} (hp : ∀ a, pureL (f a) = true) : (mutO x f).map (shO n) = mutO x f := by
  by_cases h : x.l = []
  · rw [mutO_nil h]; rfl
  · rw [mutO_ne h]; simp only [List.map_cons, List.map_nil, shO_cells, shL_pure n _ (fm_pure hp _)]
noncomputable def cNG : List DV → Nat → Option (DV × List AObj) := conN (fun _ => True) (fun x : Sl Grp => [x.dv 6 grC]) (fun x => (mutD 0 6 x grC, mutO x grC))
noncomputable def cNI : List DV → Nat → Option (DV × List AObj) := conN (fun _ => True) (fun x : Sl Ins => [x.dv 37 inC]) (fun x => (mutD 0 37 x inC, mutO x inC))
theorem cNG_eq {x : Sl Grp} {n : Nat} : cNG [x.dv 6 grC] n = some (mutD n 6 x grC, mutO x grC) := by
  have := conN_eq (A := fun _ => True) (f := fun x : Sl Grp => [x.dv 6 grC]) (g := fun x => (mutD 0 6 x grC, mutO x grC)) (fun a b e => by
    simp only [List.cons.injEq, and_true] at e
    rw [dv_inj len_grC (by decide) (fun _ _ => grC_inj) e]) x trivial n
  rw [shD_mut pure_grC, shO_mut pure_grC] at this
  exact this
theorem cNI_eq {x : Sl Ins} {n : Nat} : cNI [x.dv 37 inC] n = some (mutD n 37 x inC, mutO x inC) := by
  have := conN_eq (A := fun _ => True) (f := fun x : Sl Ins => [x.dv 37 inC]) (g := fun x => (mutD 0 37 x inC, mutO x inC)) (fun a b e => by
    simp only [List.cons.injEq, and_true] at e
    rw [dv_inj len_inC (by decide) (fun _ _ => inC_inj) e]) x trivial n
  rw [shD_mut pure_inC, shO_mut pure_inC] at this
  exact this
noncomputable def cCD : List DV → Option DV := con (fun _ => True) (fun x : Sl Dg => [x.dv 32 dgC]) (fun x => x.clone.dv 32 dgC)
theorem cCD_eq {x : Sl Dg} : cCD [x.dv 32 dgC] = some (x.clone.dv 32 dgC) :=
  con_inj (f := fun x : Sl Dg => [x.dv 32 dgC]) (fun a b e => by simp only [List.cons.injEq, and_true] at e; exact dgs_inj e) x
theorem sem_cloneD (x : Sl Dg) : Am.Sem P 75 [x.dv 32 dgC] (x.clone.dv 32 dgC) :=
  sem_of_calls ((calls_runs mix tbl0_sound Tryd.func75 a75_ok (runs_cloneD x)).mono fun d h' e => by
    obtain ⟨rfl, rfl⟩ := e
    by_cases h : x.l = []
    · rw [mutD_nil h]; exact snap_dv32
    · have hl := fm_len len_dgC x.l
      have ht : (x.l.flatMap dgC).take (x.l.length * 32) = x.l.flatMap dgC := List.take_of_length_le (by omega)
      rw [mutD_ne h, mutO_ne h, snap_ms, objV_zero, if_pos hl, Option.bind_some, List.drop_zero, ht, snapL_clean (fm_pure pure_dgC _)]
      simp [Sl.clone, Sl.dv, slD, h])
noncomputable def T110 : Tbl := addT 105 (.new cNG) (addT 106 (.new cNI) (addT 75 (.pure cCD) tbl0))
theorem T110_g : T110 105 = .new cNG := by simp [T110]
theorem T110_i : T110 106 = .new cNI := by simp [T110]
theorem T110_d : T110 75 = .pure cCD := by simp [T110]
theorem T110_sound : T110.Sound P := addT_sound (conN_sound (fun x _ => by simp) fun x _ => calls_runs mix tbl0_sound Tryd.func105 a105_ok (runs_cloneG x)) (addT_sound (conN_sound (fun x _ => by simp) fun x _ => calls_runs mix tbl0_sound Tryd.func106 a106_ok (runs_cloneI x)) (addT_sound (con_sound fun x _ => sem_cloneD x) tbl0_sound))

/-! the loop -/
def gsi (l : List Grp) (i : Nat) : List Grp := (l.take i).map Grp.clone ++ l.drop i
theorem gsi_zero (l : List Grp) : gsi l 0 = l := rfl
theorem gsi_all {l : List Grp} {i : Nat} (h : l.length ≤ i) : gsi l i = l.map Grp.clone := by rw [gsi, List.take_of_length_le h, List.drop_of_length_le h, List.append_nil]
theorem gsi_len {l : List Grp} {i : Nat} : (gsi l i).length = l.length := by simp [gsi]; omega
theorem gsi_get {l : List Grp} {i : Nat} (h : i < l.length) (h' : i < (gsi l i).length) : (gsi l i)[i] = l[i] := by
  simp only [gsi]
  rw [List.getElem_append_right (by simp; omega)]
  simp [Nat.min_eq_left (Nat.le_of_lt h)]
theorem gsi_set {l : List Grp} {i : Nat} (h : i < l.length) : (gsi l i).set i l[i].clone = gsi l (i + 1) := by
  simp only [gsi]
  have hl : ((l.take i).map Grp.clone).length = i := by simp; omega
  rw [List.set_append_right _ _ (by omega), hl, Nat.sub_self, take_snoc h, List.map_append, List.drop_eq_getElem_cons h, List.set_cons_zero, List.append_assoc]
  rfl
theorem grC_take5 (g : Grp) : grC g = (grC g).take 5 ++ [g.ch.dv 32 dgC] := rfl
theorem fm_split {l : List Grp} {i : Nat} (h : i < l.length) : l.flatMap grC = (l.take i).flatMap grC ++ (grC l[i] ++ (l.drop (i + 1)).flatMap grC) := by
  rw [← List.flatMap_cons, ← List.drop_eq_getElem_cons h, ← List.flatMap_append, List.take_append_drop]
theorem one_ch {l : List Grp} {i : Nat} (h : i < l.length) : one 1 false ((l.flatMap grC).drop (i * 6 + 5)) = some (l[i].ch.dv 32 dgC) := by
  rw [← List.drop_drop, fm_drop len_grC, List.drop_eq_getElem_cons h, List.flatMap_cons]
  rfl
def Grp.withCh (g : Grp) (y : Sl Dg) : Grp := ⟨g.ns, g.im, g.want, g.least, g.down, y⟩
theorem splice_ch {l : List Grp} {i : Nat} (h : i < l.length) {y : Sl Dg} : splice (l.flatMap grC) (i * 6 + 5) [y.dv 32 dgC] = (l.set i (l[i].withCh y)).flatMap grC := by
  unfold splice
  rw [List.length_singleton, show i * 6 + 5 + 1 = (i + 1) * 6 by omega, fm_drop len_grC, List.take_add, fm_take len_grC, fm_drop len_grC, List.drop_eq_getElem_cons h, List.flatMap_cons, List.set_eq_take_append_cons_drop, if_pos h, List.flatMap_append, List.flatMap_cons]
  rw [List.take_append_of_le_length (by rw [len_grC]; omega)]
  simp only [List.append_assoc]
  rfl
theorem storeO_one {h : List AObj} {id off : Nat} {v : DV} {l : List DV} (hc : v.cells = [v]) (ho : v.one = true) (hl : off < l.length) : storeO h id 1 off v (some l) = some (.junk, h.set id (.cells (splice l off [v]))) := by
  simp only [storeO, hc, List.length_cons, List.length_nil, List.all_cons, List.all_nil, ho, Bool.and_self]
  first | done | rw [if_pos ⟨trivial, by omega, trivial⟩]
theorem splice3_0 {a b c v : DV} : splice [a, b, c] 0 [v] = [v, b, c] := rfl
theorem splice3_1 {a b c v : DV} : splice [a, b, c] 1 [v] = [a, v, c] := rfl
theorem splice3_2 {a b c v : DV} : splice [a, b, c] 2 [v] = [a, b, v] := rfl
attribute [simp] splice3_0 splice3_1 splice3_2
def I3 (c : Clu) : DV := mutD (2 + (mutO c.g grC).length) 37 c.i inC
def cloneV (c : Clu) : DV := .agg [mutD 2 6 c.clone.g grC, I3 c, .int .i64 c.next]
def cloneK (c : Clu) : List AObj := .cells [mutD 2 6 c.clone.g grC, I3 c, .int .i64 c.next] :: .cells [mutD 2 6 c.clone.g grC, I3 c, .int .i64 c.next] :: (mutO c.clone.g grC ++ mutO c.i inC)
theorem clone_gl (c : Clu) : c.clone.g.l = c.g.l.map Grp.clone := rfl
theorem clone_gne {c : Clu} (h : c.g.l ≠ []) : c.clone.g.l ≠ [] := by simpa [clone_gl] using h
theorem clone_gnil {c : Clu} (h : c.g.l = []) : c.clone.g.l = [] := by simp [clone_gl, h]
theorem clone_dvnil {c : Clu} (h : c.g.l = []) : c.clone.g.clone.dv 6 grC = c.g.clone.dv 6 grC := by
  simp [Sl.clone, Clu.clone, h, Sl.dv]
theorem one_agg3 {a b c : DV} : one 3 true [a, b, c] = some (.agg [a, b, c]) := rfl
theorem storeO_agg3 {h : List AObj} {id : Nat} {a b c : DV} {l : List DV} (hl : l.length = 3) (h1 : a.one = true) (h2 : b.one = true) (h3 : c.one = true) : storeO h id 3 0 (.agg [a, b, c]) (some l) = some (.junk, h.set id (.cells [a, b, c])) := storeO_agg rfl hl (by simp [h1, h2, h3])
attribute [simp] one_agg3 storeO_agg3
def S110 (c : Clu) (oi : List AObj) (i : Nat) : St := a71S0 (.mp 0 3 0) (.mp 1 3 0) (.int .i64 c.g.l.length) (.int .i64 i) (.cells [mutD 2 6 c.g grC, I3 c, .int .i64 c.next] :: .cells [.nils, .nils, .int .i64 0] :: .cells ((gsi c.g.l i).flatMap grC) :: oi)
theorem mut_one {α : Type} {id s : Nat} {x : Sl α} {f : α → List DV} : (mutD id s x f).one = true := by
  by_cases h : x.l = []
  · rw [mutD_nil h]; exact dv_one _
  · rw [mutD_ne h]; rfl
theorem mut_cells {α : Type} {id s : Nat} {x : Sl α} {f : α → List DV} : (mutD id s x f).cells = [mutD id s x f] := by
  by_cases h : x.l = []
  · rw [mutD_nil h]; exact dv_cells _
  · rw [mutD_ne h]; rfl
theorem mut_known {α : Type} {id s : Nat} {x : Sl α} {f : α → List DV} : (mutD id s x f).known = true := by
  by_cases h : x.l = []
  · rw [mutD_nil h]; exact dv_known _
  · rw [mutD_ne h]; rfl
attribute [simp] mut_one mut_cells mut_known
def S111 (c : Clu) : St := a71S0 (.mp 0 3 0) (.mp 1 3 0) (.int .i64 c.g.clone.l.length) (.int .i64 0) (.cells [c.g.clone.dv 6 grC, mutD 2 37 c.i inC, .int .i64 c.next] :: .cells [.nils, .nils, .int .i64 0] :: mutO c.i inC)
set_option maxHeartbeats 2000000 in
theorem runs_clone (c : Clu) : RunsH T110 a71 [.agg (clC c)] [] (cloneV c) (cloneK c) := by
  refine ⟨?_⟩
  have hbg := c.g.b
  by_cases hg : c.g.l = []
  · have e1 := mutD_nil (id := 2) (s := 6) (f := grC) hg
    have e2 := mutO_nil (f := grC) hg
    have e3 := mutD_nil (id := 2) (s := 6) (f := grC) (clone_gnil hg)
    have e4 := mutO_nil (f := grC) (clone_gnil hg)
    have e5 := clone_dvnil hg
    have e6 : c.g.clone.l.length = 0 := by rw [show c.g.clone.l = c.g.l from rfl, hg]; rfl
    simp (disch := first | omega | (simp [-List.map_take, -List.map_drop, -List.map_set, -List.map_append, -List.drop_one] <;> omega) | fail) [-List.map_take, -List.map_drop, -List.map_set, -List.map_append, -List.drop_one, a71, T110_g, T110_i, cNG_eq, cNI_eq, clC, e1, e2, storeO_one]
    refine W_loop (fun _ : Nat => S111 c) (fun _ => 0) (fun _ => True) 0 (weak_same (by simp (disch := first | omega | (simp [-List.map_take, -List.map_drop, -List.map_set, -List.map_append, -List.drop_one] <;> omega) | fail) [-List.map_take, -List.map_drop, -List.map_set, -List.map_append, -List.drop_one, S111]) (by simp (disch := first | omega | (simp [-List.map_take, -List.map_drop, -List.map_set, -List.map_append, -List.drop_one] <;> omega) | fail) [-List.map_take, -List.map_drop, -List.map_set, -List.map_append, -List.drop_one, S111])) trivial (fun _ _ => ?_)
    simp (disch := first | omega | (simp [-List.map_take, -List.map_drop, -List.map_set, -List.map_append, -List.drop_one] <;> omega) | fail) [-List.map_take, -List.map_drop, -List.map_set, -List.map_append, -List.drop_one, a71L0, a71S0, S111, e6, cloneV, cloneK, I3, e2, e3, e4, e5]
  · have e1 := mutD_ne (id := 2) (s := 6) (f := grC) hg
    have e2 := mutO_ne (f := grC) hg
    have e3 := mutD_ne (id := 2) (s := 6) (f := grC) (clone_gne hg)
    have e4 := mutO_ne (f := grC) (clone_gne hg)
    have h1 := fm_len len_grC c.g.l
    simp (disch := first | omega | (simp [-List.map_take, -List.map_drop, -List.map_set, -List.map_append, -List.drop_one] <;> omega) | fail) [-List.map_take, -List.map_drop, -List.map_set, -List.map_append, -List.drop_one, a71, T110_g, T110_i, cNG_eq, cNI_eq, clC, e1, e2, h1, storeO_one]
    refine W_loop (S110 c (mutO c.i inC)) (fun i => c.g.l.length - i) (fun i => i ≤ c.g.l.length) 0 (weak_same (by simp (disch := first | omega | (simp [-List.map_take, -List.map_drop, -List.map_set, -List.map_append, -List.drop_one] <;> omega) | fail) [-List.map_take, -List.map_drop, -List.map_set, -List.map_append, -List.drop_one, I3, e1, e2]) (by simp (disch := first | omega | (simp [-List.map_take, -List.map_drop, -List.map_set, -List.map_append, -List.drop_one] <;> omega) | fail) [-List.map_take, -List.map_drop, -List.map_set, -List.map_append, -List.drop_one, gsi_zero, I3, e1, e2])) (by omega) (fun i hi => ?_)
    have h2 := fm_len len_grC (gsi c.g.l i)
    have h3 := gsi_len (l := c.g.l) (i := i)
    rw [h3] at h2
    simp (disch := first | omega | (simp [-List.map_take, -List.map_drop, -List.map_set, -List.map_append, -List.drop_one] <;> omega) | fail) [-List.map_take, -List.map_drop, -List.map_set, -List.map_append, -List.drop_one, a71L0, a71S0, S110, e1]
    by_cases h : i < c.g.l.length
    · have h' : (i : Int) < c.g.l.length := by omega
      have hi2 : i < (gsi c.g.l i).length := by omega
      have h5 : i * 6 + 5 < c.g.l.length * 6 := by omega
      have hc := one_ch hi2
      rw [gsi_get h hi2] at hc
      have hs := splice_ch hi2 (y := c.g.l[i].ch.clone)
      rw [gsi_get h hi2, show c.g.l[i].withCh c.g.l[i].ch.clone = c.g.l[i].clone from rfl, gsi_set h] at hs
      simp (disch := first | omega | (simp [-List.map_take, -List.map_drop, -List.map_set, -List.map_append, -List.drop_one] <;> omega) | fail) [-List.map_take, -List.map_drop, -List.map_set, -List.map_append, -List.drop_one, h', h, h2, hc, T110_d, cCD_eq, storeO_one, h5, hs]
      exact ⟨i + 1, weak_same (by simp (disch := first | omega | (simp [-List.map_take, -List.map_drop, -List.map_set, -List.map_append, -List.drop_one] <;> omega) | fail) [-List.map_take, -List.map_drop, -List.map_set, -List.map_append, -List.drop_one, e1]) (by simp (disch := first | omega | (simp [-List.map_take, -List.map_drop, -List.map_set, -List.map_append, -List.drop_one] <;> omega) | fail) [-List.map_take, -List.map_drop, -List.map_set, -List.map_append, -List.drop_one, e1]), by omega, by omega⟩
    · have h' : ¬ (i : Int) < c.g.l.length := by omega
      have ha := gsi_all (l := c.g.l) (i := i) (by omega)
      simp (disch := first | omega | (simp [-List.map_take, -List.map_drop, -List.map_set, -List.map_append, -List.drop_one] <;> omega) | fail) [-List.map_take, -List.map_drop, -List.map_set, -List.map_append, -List.drop_one, h, h', ha, cloneV, cloneK, I3, e2, e3, e4, clone_gl]
end Go.Proofs.YtjhakjeioppijaaDoor
/-
  Deploy, Start of the program.
-/
set_option linter.unusedSimpArgs false
set_option linter.unusedVariables false
namespace Go.Proofs.YtjhakjeioppijaaDoor
open Go Go.Am

def clW (n : Nat) (c : Clu) : List DV := [mutD (n + 2) 6 c.clone.g grC, mutD (n + (2 + (mutO c.g grC).length)) 37 c.i inC, .int .i64 c.next]
theorem len_clW {n : Nat} {c : Clu} : (clW n c).length = 3 := rfl
theorem shD_mut' {α : Type} {n id s : Nat} {x : Sl α} {f : α → List DV} (hp : ∀ a, pureL (f a) = true) : shD n (mutD id s x f) = mutD (n + id) s x f := by
  by_cases h : x.l = []
  · rw [mutD_nil h, mutD_nil h]; exact shD_pure n _ (dv_pure hp _)
  · rw [mutD_ne h, mutD_ne h]; rfl
noncomputable def cNC : List DV → Nat → Option (DV × List AObj) := conN (fun _ => True) (fun c : Clu => [.agg (clC c)]) (fun c => (cloneV c, cloneK c))
theorem cNC_eq {c : Clu} {n : Nat} : cNC [.agg (clC c)] n = some (.agg (clW n c), .cells (clW n c) :: .cells (clW n c) :: (mutO c.clone.g grC ++ mutO c.i inC)) := by
  have := conN_eq (A := fun _ => True) (f := fun x : Clu => [.agg (clC x)]) (g := fun c => (cloneV c, cloneK c)) (fun a b e => by
    simp only [List.cons.injEq, DV.agg.injEq, and_true] at e
    rw [clC_inj e]) c trivial n
  simp only [cloneV, cloneK, I3, shD_agg, shL_cons, shL_nil, shD_mut' pure_grC, shD_mut' pure_inC, shD_int, List.map_cons, List.map_append, shO_cells, shO_mut pure_grC, shO_mut pure_inC] at this
  exact this
noncomputable def T112 : Tbl := addT 20 (.pure (cC1 validCB)) (addT 18 (.pure (cG1 validGB)) (addT 22 (.pure (cCSS grpD)) (addT 71 (.new cNC) (addT 75 (.pure cCD) (addT 70 (.pure cTm) (addT 24 (.pure (cCi fun c i => .int .i64 (findIx c.i.l i))) tbl0))))))
theorem T112_v : T112 20 = .pure (cC1 validCB) := by simp [T112]
theorem T112_vg : T112 18 = .pure (cG1 validGB) := by simp [T112]
theorem T112_g : T112 22 = .pure (cCSS grpD) := by simp [T112]
theorem T112_c : T112 71 = .new cNC := by simp [T112]
theorem T112_d : T112 75 = .pure cCD := by simp [T112]
theorem T112_t : T112 70 = .pure cTm := by simp [T112]
theorem T112_f : T112 24 = .pure (cCi fun c i => .int .i64 (findIx c.i.l i)) := by simp [T112]
theorem T112_sound : T112.Sound P := addT_sound (con_sound fun x _ => sem_runs mix T107_sound Tryd.func20 a20_ok (runs_valid x)) (addT_sound (con_sound fun x _ => sem_runs mix T106_sound Tryd.func18 a18_ok (runs_validgroup x)) (addT_sound (con_sound fun x _ => sem_runs mix T102_sound Tryd.func22 a22_ok (runs_group x.1 x.2.1 x.2.2)) (addT_sound (conN_sound (fun x _ => by simp) fun x _ => calls_runs mix T110_sound Tryd.func71 a71_ok (runs_clone x)) (addT_sound (con_sound fun x _ => sem_cloneD x) (addT_sound (cTm_sound fun t => sem_runs mix tbl0_sound Tryd.func70 a70_ok (runs_timed t)) (addT_sound (con_sound fun x _ => sem_runs mix T104_sound Tryd.func24 a24_ok (runs_find x.1 x.2)) tbl0_sound))))))
theorem clC_mk {g : Sl Grp} {i : Sl Ins} {n : Int} : clC ⟨g, i, n⟩ = [g.dv 6 grC, i.dv 37 inC, .int .i64 n] := rfl
theorem clC_clu0 : clC clu0 = [.nils, .nils, .int .i64 0] := rfl
noncomputable def deployB (c : Clu) (g : Grp) : DV := .tup [.agg (clC (deployP c g).1), .int .i64 (deployP c g).2]
theorem splice_g5 {g : Grp} {y : Sl Dg} : splice (grC g) 5 [y.dv 32 dgC] = grC (g.withCh y) := rfl
theorem with_clone {g : Grp} : g.withCh g.ch.clone = g.clone := rfl
theorem appX_clone0 {α : Type} {x : Sl α} {s b m : Nat} {f : α → List DV} {h : List AObj} {cs : List DV} (hx : x.l = []) (hb : b ≤ 16384) (h0 : 0 < s) (hm : m * s = cs.length) (hm0 : 0 < m) (hbig : m ≤ 4294967296) :
    appX h s b (x.clone.dv s f) m cs = some (.ms h.length cs.length 0 s m cs.length, h ++ [.cells cs]) := by
  obtain ⟨k, l, hk, hl⟩ := x
  cases (show l = [] from hx)
  cases k with
  | none => exact appX_nils hb h0 hm hm0 hbig
  | some q =>
    have := appX_full (h := h) (s := s) (b := b) (n := 0) (m := m) (ds := []) (cs := cs) hb h0 hm hm0 (by omega)
    simp only [List.length_nil, Nat.zero_add, List.nil_append] at this
    exact this
theorem snapL_grs {h : List AObj} {k : Nat} {l : List Grp} : snapL h k (l.flatMap grC) = some (l.flatMap grC) := snapL_clean (fm_pure pure_grC l)
theorem snapL_ins {h : List AObj} {k : Nat} {l : List Ins} : snapL h k (l.flatMap inC) = some (l.flatMap inC) := snapL_clean (fm_pure pure_inC l)
theorem take_grs {l : List Grp} {n : Nat} (h : l.length ≤ n) : (l.flatMap grC).take (n * 6) = l.flatMap grC := by rw [fm_take len_grC, List.take_of_length_le h]
theorem take_ins {l : List Ins} {n : Nat} (h : l.length ≤ n) : (l.flatMap inC).take (n * 37) = l.flatMap inC := by rw [fm_take len_inC, List.take_of_length_le h]
theorem clone_dv_ne {α : Type} {x : Sl α} {s : Nat} {f : α → List DV} (h : x.l ≠ []) : x.clone.dv s f = .sl false s x.l.length (x.l.flatMap f) := by simp [Sl.clone, Sl.dv, slD, h]
theorem storeO_grs {h : List AObj} {id off : Nat} {x : Grp} {l : List DV} (hl : off + 6 ≤ l.length) : storeO h id 6 off (.agg (grC x)) (some l) = some (.junk, h.set id (.cells (splice l off (grC x)))) := by
  have e : (DV.agg (grC x)).cells = grC x := rfl
  simp only [storeO, e, all_grC, len_grC]
  rw [if_pos ⟨trivial, hl, trivial⟩]
theorem take_gr6 {g : Grp} : (grC g).take 6 = grC g := List.take_of_length_le (by simp)
theorem take_in37 {g : Ins} : (inC g).take 37 = inC g := List.take_of_length_le (by simp)
attribute [simp] take_gr6 take_in37 snapL_grs snapL_ins all_grC all_inC all_dgC
theorem bsl_g {z : List DV} {g : Grp} (hz : z.length = 6) : bslD 6 1 z [(0, 6, .agg (grC g))] = some (.sl true 6 1 (grC g)) := by
  rw [bslD_of (by simp [DV.known]) (by simp [seqD, hz, DV.cells])]; simp [seqD, DV.cells]
set_option maxHeartbeats 4000000 in
theorem runs_deploy (c : Clu) (g : Grp) : Runs T112 a35 [.agg (clC c), .agg (grC g)] (deployB c g) := by
  refine ⟨?_⟩
  by_cases hv : ValidC c
  case neg =>
    have hd : deployP c g = (clu0, 1) := by rw [deployP, if_pos (.inl hv)]
    simp (disch := first | omega | (simp [-List.map_take, -List.map_drop, -List.map_set, -List.map_append, -List.drop_one] <;> omega) | fail) [-List.map_take, -List.map_drop, -List.map_set, -List.map_append, -List.drop_one, a35, T112_v, cC1_eq, validCB, tv_false hv, deployB, hd, clC_clu0]
  by_cases hvg : ValidG g
  case neg =>
    have hd : deployP c g = (clu0, 1) := by rw [deployP, if_pos (.inr hvg)]
    simp (disch := first | omega | (simp [-List.map_take, -List.map_drop, -List.map_set, -List.map_append, -List.drop_one] <;> omega) | fail) [-List.map_take, -List.map_drop, -List.map_set, -List.map_append, -List.drop_one, a35, T112_v, cC1_eq, validCB, tv_true hv, T112_vg, cG1_eq, validGB, tv_false hvg, deployB, hd, clC_clu0]
  have hnn : ¬ (¬ ValidC c ∨ ¬ ValidG g) := fun h => h.elim (fun h => h hv) (fun h => h hvg)
  have hng := hv.ng
  by_cases hx : grpIx c.g.l g.ns g.im < 0
  · by_cases hl : 16 ≤ c.g.l.length
    · have hl' : (16 : Int) ≤ c.g.l.length := by omega
      have hd : deployP c g = (clu0, 3) := by rw [deployP, if_neg hnn, if_pos hx, if_pos hl]
      simp (disch := first | omega | (simp [-List.map_take, -List.map_drop, -List.map_set, -List.map_append, -List.drop_one] <;> omega) | fail) [-List.map_take, -List.map_drop, -List.map_set, -List.map_append, -List.drop_one, a35, T112_v, cC1_eq, validCB, tv_true hv, T112_vg, cG1_eq, validGB, tv_true hvg, T112_g, cCSS_eq, grpD, hx, hl', hl, deployB, hd, clC_clu0]
    · have hl' : ¬ (16 : Int) ≤ c.g.l.length := by omega
      have hd : deployP c g = (⟨own (c.g.l.map Grp.clone ++ [g.clone]), c.i.clone, c.next⟩, 0) := by rw [deployP, if_neg hnn, if_pos hx, if_neg hl]
      have ho := own_dv (l := c.g.l.map Grp.clone ++ [g.clone]) (s := 6) (f := grC) (by simp; omega)
      have ha : ∀ l : List Grp, (l.flatMap grC).length = l.length * 6 := fm_len len_grC
      have hb : ∀ l : List Ins, (l.flatMap inC).length = l.length * 37 := fm_len len_inC
      have hgl : c.clone.g.l.length = c.g.l.length := by simp [clone_gl]
      by_cases hg : c.g.l = []
      · have e2 := mutO_nil (f := grC) hg
        have e3 := mutD_nil (id := 5) (s := 6) (f := grC) (clone_gnil hg)
        have e4 := mutO_nil (f := grC) (clone_gnil hg)
        have e5 := fun h cs => appX_clone0 (x := c.clone.g) (s := 6) (b := 80) (m := 1) (f := grC) (h := h) (cs := grC cs) (clone_gnil hg) (by decide) (by decide) (by simp) (by decide) (by decide)
        have hm : c.g.l.map Grp.clone = [] := by rw [hg]; rfl
        have ho : (own (c.g.l.map Grp.clone ++ [g.clone])).dv 6 grC = .sl false 6 1 (grC g.clone) := by rw [ho, hm]; simp
        by_cases hi : c.i.l = []
        · have f1 := fun id => mutD_nil (id := id) (s := 37) (f := inC) hi
          have f2 := mutO_nil (f := inC) hi
          simp (disch := first | omega | (simp [-List.map_take, -List.map_drop, -List.map_set, -List.map_append, -List.drop_one] <;> omega) | fail) [-List.map_take, -List.map_drop, -List.map_set, -List.map_append, -List.drop_one, a35, T112_v, cC1_eq, validCB, tv_true hv, T112_vg, cG1_eq, validGB, tv_true hvg, T112_g, cCSS_eq, grpD, hx, hl', hl, T112_c, cNC_eq, T112_d, cCD_eq, clW, storeO_one, splice_g5, with_clone, bsl_g, deployB, hd, clC_mk, ho, e2, e3, e4, e5, f1, f2]
        · have f1 := fun id => mutD_ne (id := id) (s := 37) (f := inC) hi
          have f2 := mutO_ne (f := inC) hi
          have f3 := clone_dv_ne (s := 37) (f := inC) hi
          have f4 := take_ins (l := c.i.l) (Nat.le_refl _)
          simp (disch := first | omega | (simp [-List.map_take, -List.map_drop, -List.map_set, -List.map_append, -List.drop_one] <;> omega) | fail) [-List.map_take, -List.map_drop, -List.map_set, -List.map_append, -List.drop_one, a35, T112_v, cC1_eq, validCB, tv_true hv, T112_vg, cG1_eq, validGB, tv_true hvg, T112_g, cCSS_eq, grpD, hx, hl', hl, T112_c, cNC_eq, T112_d, cCD_eq, clW, storeO_one, splice_g5, with_clone, bsl_g, deployB, hd, clC_mk, ho, e2, e3, e4, e5, f1, f2, f3, f4, hb]
      · have e2 := mutO_ne (f := grC) hg
        have e3 := mutD_ne (id := 5) (s := 6) (f := grC) (clone_gne hg)
        have e4 := mutO_ne (f := grC) (clone_gne hg)
        have e6 : (c.g.l.length + 1) * 6 = c.g.l.length * 6 + 6 := by omega
        have e7 : ((c.g.l.map Grp.clone).flatMap grC ++ grC g.clone).take ((c.g.l.length + 1) * 6) = (c.g.l.map Grp.clone).flatMap grC ++ grC g.clone := List.take_of_length_le (by rw [List.length_append, ha, len_grC, List.length_map]; omega)
        have e11 : ∀ H k, snapL H k ((c.g.l.map Grp.clone).flatMap grC ++ grC g.clone) = some ((c.g.l.map Grp.clone).flatMap grC ++ grC g.clone) := fun H k => snapL_clean (pureL_append (fm_pure pure_grC _) (pure_grC _))
        by_cases hi : c.i.l = []
        · have f1 := fun id => mutD_nil (id := id) (s := 37) (f := inC) hi
          have f2 := mutO_nil (f := inC) hi
          simp (disch := first | omega | (simp [-List.map_take, -List.map_drop, -List.map_set, -List.map_append, -List.drop_one] <;> omega) | fail) [-List.map_take, -List.map_drop, -List.map_set, -List.map_append, -List.drop_one, a35, T112_v, cC1_eq, validCB, tv_true hv, T112_vg, cG1_eq, validGB, tv_true hvg, T112_g, cCSS_eq, grpD, hx, hl', hl, T112_c, cNC_eq, T112_d, cCD_eq, clW, storeO_one, splice_g5, with_clone, bsl_g, deployB, hd, clC_mk, ho, e2, e3, e4, e11, f1, f2, ha, hb, clone_gl, e7]
        · have f1 := fun id => mutD_ne (id := id) (s := 37) (f := inC) hi
          have f2 := mutO_ne (f := inC) hi
          have f3 := clone_dv_ne (s := 37) (f := inC) hi
          have f4 := take_ins (l := c.i.l) (Nat.le_refl _)
          simp (disch := first | omega | (simp [-List.map_take, -List.map_drop, -List.map_set, -List.map_append, -List.drop_one] <;> omega) | fail) [-List.map_take, -List.map_drop, -List.map_set, -List.map_append, -List.drop_one, a35, T112_v, cC1_eq, validCB, tv_true hv, T112_vg, cG1_eq, validGB, tv_true hvg, T112_g, cCSS_eq, grpD, hx, hl', hl, T112_c, cNC_eq, T112_d, cCD_eq, clW, storeO_one, splice_g5, with_clone, bsl_g, deployB, hd, clC_mk, ho, e2, e3, e4, e11, f1, f2, f3, f4, ha, hb, clone_gl, e7]
  · obtain ⟨k, hk, hke, hkf, _⟩ := ixI_pos (show 0 ≤ grpIx c.g.l g.ns g.im by omega)
    have hke : grpIx c.g.l g.ns g.im = k := hke
    have hd : deployP c g = (⟨own ((c.g.l.map Grp.clone).set k g.clone), c.i.clone, c.next⟩, 0) := by rw [deployP, if_neg hnn, if_neg hx, hke]; rfl
    have ho := own_dv (l := (c.g.l.map Grp.clone).set k g.clone) (s := 6) (f := grC) (by simp; omega)
    have ha : ∀ l : List Grp, (l.flatMap grC).length = l.length * 6 := fm_len len_grC
    have hb : ∀ l : List Ins, (l.flatMap inC).length = l.length * 37 := fm_len len_inC
    have hg : c.g.l ≠ [] := by intro e; rw [e] at hk; simp at hk
    have e2 := mutO_ne (f := grC) hg
    have e3 := mutD_ne (id := 5) (s := 6) (f := grC) (clone_gne hg)
    have e4 := mutO_ne (f := grC) (clone_gne hg)
    have hx' : ¬ (k : Int) < 0 := by omega
    have hk' : (k : Int) < c.g.l.length := by omega
    have e8 : splice ((c.g.l.map Grp.clone).flatMap grC) (k * 6) (grC g.clone) = ((c.g.l.map Grp.clone).set k g.clone).flatMap grC := fm_set len_grC (by simpa using hk) _
    have e9 := take_grs (l := (c.g.l.map Grp.clone).set k g.clone) (n := c.g.l.length) (by simp)
    have e10 : ∀ H id, storeO H id 6 (k * 6) (.agg (grC g.clone)) (some ((c.g.l.map Grp.clone).flatMap grC)) = some (.junk, H.set id (.cells (((c.g.l.map Grp.clone).set k g.clone).flatMap grC))) := fun H id => by
      rw [storeO_grs (by rw [ha, List.length_map]; omega), e8]
    by_cases hi : c.i.l = []
    · have f1 := fun id => mutD_nil (id := id) (s := 37) (f := inC) hi
      have f2 := mutO_nil (f := inC) hi
      simp (disch := first | omega | (simp [-List.map_take, -List.map_drop, -List.map_set, -List.map_append, -List.drop_one] <;> omega) | fail) [-List.map_take, -List.map_drop, -List.map_set, -List.map_append, -List.drop_one, a35, T112_v, cC1_eq, validCB, tv_true hv, T112_vg, cG1_eq, validGB, tv_true hvg, T112_g, cCSS_eq, grpD, hke, hx', hk', hk, T112_c, cNC_eq, T112_d, cCD_eq, clW, storeO_one, splice_g5, with_clone, deployB, hd, clC_mk, ho, e2, e3, e4, e9, e10, f1, f2, ha, hb, clone_gl]
    · have f1 := fun id => mutD_ne (id := id) (s := 37) (f := inC) hi
      have f2 := mutO_ne (f := inC) hi
      have f3 := clone_dv_ne (s := 37) (f := inC) hi
      have f4 := take_ins (l := c.i.l) (Nat.le_refl _)
      simp (disch := first | omega | (simp [-List.map_take, -List.map_drop, -List.map_set, -List.map_append, -List.drop_one] <;> omega) | fail) [-List.map_take, -List.map_drop, -List.map_set, -List.map_append, -List.drop_one, a35, T112_v, cC1_eq, validCB, tv_true hv, T112_vg, cG1_eq, validGB, tv_true hvg, T112_g, cCSS_eq, grpD, hke, hx', hk', hk, T112_c, cNC_eq, T112_d, cCD_eq, clW, storeO_one, splice_g5, with_clone, deployB, hd, clC_mk, ho, e2, e3, e4, e9, e10, f1, f2, f3, f4, ha, hb, clone_gl]
end Go.Proofs.YtjhakjeioppijaaDoor
/-
  Start, Started, Stop of the program.
-/
set_option linter.unusedSimpArgs false
set_option linter.unusedVariables false
namespace Go.Proofs.YtjhakjeioppijaaDoor
open Go Go.Am

theorem clone_g_dv {c : Clu} : c.clone.g.clone.dv 6 grC = c.clone.g.dv 6 grC := by
  by_cases h : c.g.l = []
  · simp only [Sl.clone, Clu.clone, Sl.dv, h, List.map_nil, if_true]
    cases c.g.k <;> rfl
  · simp [Sl.clone, Clu.clone, Sl.dv, h]
theorem clone_g_ne {c : Clu} (h : c.g.l ≠ []) : c.clone.g.dv 6 grC = .sl false 6 c.g.l.length ((c.g.l.map Grp.clone).flatMap grC) := by
  rw [← clone_g_dv, clone_dv_ne (clone_gne h), clone_gl, List.length_map]
theorem bsl_i {z : List DV} {x : Ins} (hz : z.length = 37) : bslD 37 1 z [(0, 37, .agg (inC x))] = some (.sl true 37 1 (inC x)) := by
  rw [bslD_of (by simp [DV.known]) (by simp [seqD, hz, DV.cells])]; simp [seqD, DV.cells]
theorem build_i {z : List DV} {a b s i e : Int} {d : Dg} (hz : z.length = 37) : buildD z [(0, 1, .int .i64 a), (1, 1, .int .i64 b), (2, 32, .agg (dgC d)), (34, 1, .int .i64 s), (35, 1, .int .i64 i), (36, 1, .int .i64 e)] = some (.agg (inC ⟨a, b, d, s, i, e⟩)) := by
  rw [buildD_of (by simp [DV.known]) (by simp [seqD, hz, DV.cells])]; simp [seqD, DV.cells, inC]
noncomputable def startB (c : Clu) (g : Int) (d : Dg) (t : Int) : DV := .tup [.agg (clC (startP c g d t).1), .int .i64 (startP c g d t).2.1, .int .i64 (startP c g d t).2.2]
set_option maxHeartbeats 4000000 in
theorem runs_start (c : Clu) (gr : Int) (d : Dg) (t : Int) : Runs T112 a32 [.agg (clC c), .int .i64 gr, .agg (dgC d), .int .i64 t] (startB c gr d t) := by
  refine ⟨?_⟩
  by_cases hv : ValidC c
  case neg =>
    have hd : startP c gr d t = (clu0, 0, 1) := by rw [startP, if_pos (.inl hv)]
    simp (disch := first | omega | (simp [-List.map_take, -List.map_drop, -List.map_set, -List.map_append, -List.drop_one] <;> omega) | fail) [-List.map_take, -List.map_drop, -List.map_set, -List.map_append, -List.drop_one, a32, T112_v, cC1_eq, validCB, T112_t, cTm_eq, startB, tv_false hv, hd, clC_clu0]
  by_cases hz : d = dg0
  · have hd : startP c gr d t = (clu0, 0, 1) := by rw [startP, if_pos (.inr (.inl hz))]
    simp (disch := first | omega | (simp [-List.map_take, -List.map_drop, -List.map_set, -List.map_append, -List.drop_one] <;> omega) | fail) [-List.map_take, -List.map_drop, -List.map_set, -List.map_append, -List.drop_one, a32, T112_v, cC1_eq, validCB, T112_t, cTm_eq, startB, tv_true hv, hz, hd, clC_clu0]
    simp [← hz, hd, clC_clu0]
  by_cases ht : timeOK t
  case neg =>
    have hd : startP c gr d t = (clu0, 0, 1) := by rw [startP, if_pos (.inr (.inr ht))]
    simp (disch := first | omega | (simp [-List.map_take, -List.map_drop, -List.map_set, -List.map_append, -List.drop_one] <;> omega) | fail) [-List.map_take, -List.map_drop, -List.map_set, -List.map_append, -List.drop_one, a32, T112_v, cC1_eq, validCB, T112_t, cTm_eq, startB, tv_true hv, hz, tv_false ht, hd, clC_clu0]
  have hnn : ¬ (¬ ValidC c ∨ d = dg0 ∨ ¬ timeOK t) := fun h => h.elim (fun h => h hv) (fun h => h.elim hz (fun h => h ht))
  have hni := hv.ni
  have hn0 := hv.n0
  by_cases g0 : gr < 0
  · have hd : startP c gr d t = (clu0, 0, 4) := by rw [startP, if_neg hnn, if_pos (.inl g0)]
    simp (disch := first | omega | (simp [-List.map_take, -List.map_drop, -List.map_set, -List.map_append, -List.drop_one] <;> omega) | fail) [-List.map_take, -List.map_drop, -List.map_set, -List.map_append, -List.drop_one, a32, T112_v, cC1_eq, validCB, T112_t, cTm_eq, startB, tv_true hv, hz, tv_true ht, g0, hd, clC_clu0]
  by_cases g1 : (c.g.l.length : Int) ≤ gr
  · have hd : startP c gr d t = (clu0, 0, 4) := by rw [startP, if_neg hnn, if_pos (.inr g1)]
    simp (disch := first | omega | (simp [-List.map_take, -List.map_drop, -List.map_set, -List.map_append, -List.drop_one] <;> omega) | fail) [-List.map_take, -List.map_drop, -List.map_set, -List.map_append, -List.drop_one, a32, T112_v, cC1_eq, validCB, T112_t, cTm_eq, startB, tv_true hv, hz, tv_true ht, g0, g1, hd, clC_clu0]
  have hnn2 : ¬ (gr < 0 ∨ (c.g.l.length : Int) ≤ gr) := fun h => h.elim g0 g1
  by_cases l0 : 200 ≤ c.i.l.length
  · have l0' : (200 : Int) ≤ c.i.l.length := by omega
    have hd : startP c gr d t = (clu0, 0, 3) := by rw [startP, if_neg hnn, if_neg hnn2, if_pos (.inl l0)]
    simp (disch := first | omega | (simp [-List.map_take, -List.map_drop, -List.map_set, -List.map_append, -List.drop_one] <;> omega) | fail) [-List.map_take, -List.map_drop, -List.map_set, -List.map_append, -List.drop_one, a32, T112_v, cC1_eq, validCB, T112_t, cTm_eq, startB, tv_true hv, hz, tv_true ht, g0, g1, l0', l0, hd, clC_clu0]
  have l0' : ¬ (200 : Int) ≤ c.i.l.length := by omega
  by_cases l1 : 1099511627776 ≤ c.next
  · have hd : startP c gr d t = (clu0, 0, 3) := by rw [startP, if_neg hnn, if_neg hnn2, if_pos (.inr l1)]
    simp (disch := first | omega | (simp [-List.map_take, -List.map_drop, -List.map_set, -List.map_append, -List.drop_one] <;> omega) | fail) [-List.map_take, -List.map_drop, -List.map_set, -List.map_append, -List.drop_one, a32, T112_v, cC1_eq, validCB, T112_t, cTm_eq, startB, tv_true hv, hz, tv_true ht, g0, g1, l0', l0, l1, hd, clC_clu0]
  have hnn3 : ¬ (200 ≤ c.i.l.length ∨ 1099511627776 ≤ c.next) := fun h => h.elim l0 l1
  have hd : startP c gr d t = (⟨c.clone.g, own (c.i.l ++ [newI c gr d t]), c.next + 1⟩, c.next, 0) := by rw [startP, if_neg hnn, if_neg hnn2, if_neg hnn3]
  have ho := own_dv (l := c.i.l ++ [newI c gr d t]) (s := 37) (f := inC) (by simp; omega)
  have ha : ∀ l : List Grp, (l.flatMap grC).length = l.length * 6 := fm_len len_grC
  have hb : ∀ l : List Ins, (l.flatMap inC).length = l.length * 37 := fm_len len_inC
  have e12 : DV.int .i64 c.next :: DV.int .i64 gr :: (dgC d ++ [DV.int .i64 1, DV.int .i64 t, DV.int .i64 (-1)]) = inC (newI c gr d t) := rfl
  have hg : c.g.l ≠ [] := by intro e; rw [e] at g1; simp at g1; omega
  have e2 := mutO_ne (f := grC) hg
  have e3 := mutD_ne (id := 5) (s := 6) (f := grC) (clone_gne hg)
  have e4 := mutO_ne (f := grC) (clone_gne hg)
  have e6 := clone_g_ne hg
  have e7 := take_grs (l := c.g.l.map Grp.clone) (n := c.g.l.length) (by simp)
  by_cases hi : c.i.l = []
  · have f1 := fun id => mutD_nil (id := id) (s := 37) (f := inC) hi
    have f2 := mutO_nil (f := inC) hi
    have e5 := fun h cs => appX_clone0 (x := c.i) (s := 37) (b := 72) (m := 1) (f := inC) (h := h) (cs := inC cs) hi (by decide) (by decide) (by simp) (by decide) (by decide)
    have ho : (own (c.i.l ++ [newI c gr d t])).dv 37 inC = .sl false 37 1 (inC (newI c gr d t)) := by rw [ho, hi]; simp
    simp (disch := first | omega | (simp [-List.map_take, -List.map_drop, -List.map_set, -List.map_append, -List.drop_one] <;> omega) | fail) [-List.map_take, -List.map_drop, -List.map_set, -List.map_append, -List.drop_one, a32, T112_v, cC1_eq, validCB, T112_t, cTm_eq, startB, tv_true hv, hz, tv_true ht, g0, g1, l0', l0, l1, T112_c, cNC_eq, clW, storeO_one, bsl_i, e12, hd, clC_mk, ho, clone_gl, e2, e3, e4, e5, e6, e7, f1, f2, ha, hb]
  · have f1 := fun id => mutD_ne (id := id) (s := 37) (f := inC) hi
    have f2 := mutO_ne (f := inC) hi
    have e8 : (c.i.l.flatMap inC ++ inC (newI c gr d t)).take ((c.i.l.length + 1) * 37) = c.i.l.flatMap inC ++ inC (newI c gr d t) := List.take_of_length_le (by rw [List.length_append, hb, len_inC]; omega)
    have e9 : ∀ H k, snapL H k (c.i.l.flatMap inC ++ inC (newI c gr d t)) = some (c.i.l.flatMap inC ++ inC (newI c gr d t)) := fun H k => snapL_clean (pureL_append (fm_pure pure_inC _) (pure_inC _))
    simp (disch := first | omega | (simp [-List.map_take, -List.map_drop, -List.map_set, -List.map_append, -List.drop_one] <;> omega) | fail) [-List.map_take, -List.map_drop, -List.map_set, -List.map_append, -List.drop_one, a32, T112_v, cC1_eq, validCB, T112_t, cTm_eq, startB, tv_true hv, hz, tv_true ht, g0, g1, l0', l0, l1, T112_c, cNC_eq, clW, storeO_one, bsl_i, e12, hd, clC_mk, ho, clone_gl, e2, e3, e4, e6, e7, e8, e9, f1, f2, ha, hb]
end Go.Proofs.YtjhakjeioppijaaDoor
/-
  Started and Stop of the program.
-/
set_option linter.unusedSimpArgs false
set_option linter.unusedVariables false
namespace Go.Proofs.YtjhakjeioppijaaDoor
open Go Go.Am

theorem splice_in {l : List Ins} {k j : Nat} (h : k < l.length) (hj : j < 37) {v : DV} : splice (l.flatMap inC) (k * 37 + j) [v] = (l.take k).flatMap inC ++ (splice (inC l[k]) j [v] ++ (l.drop (k + 1)).flatMap inC) := by
  have hl := len_inC l[k]
  unfold splice
  rw [List.length_singleton, List.take_add, fm_take len_inC, fm_drop len_inC, Nat.add_assoc, ← List.drop_drop, fm_drop len_inC, List.drop_eq_getElem_cons h, List.flatMap_cons]
  rw [List.take_append_of_le_length (by omega), List.drop_append_of_le_length (by omega)]
  simp only [List.append_assoc]
theorem set_ins {l : List Ins} {k : Nat} (h : k < l.length) {y : Ins} : (l.set k y).flatMap inC = (l.take k).flatMap inC ++ (inC y ++ (l.drop (k + 1)).flatMap inC) := by
  rw [List.set_eq_take_append_cons_drop, if_pos h, List.flatMap_append, List.flatMap_cons]
theorem inC_split (x : Ins) : inC x = (DV.int .i64 x.id :: .int .i64 x.grp :: dgC x.art) ++ [.int .i64 x.state, .int .i64 x.since, .int .i64 x.den] := rfl
theorem len_pre (x : Ins) : (DV.int .i64 x.id :: .int .i64 x.grp :: dgC x.art).length = 34 := by simp
theorem splice_st (x : Ins) (v : Int) : splice (inC x) 34 [.int .i64 v] = inC (x.st v) := by
  have h := len_pre x
  rw [inC_split, inC_split]
  unfold splice
  rw [List.take_append_of_le_length (by omega), List.take_of_length_le (by omega), List.drop_append, List.drop_of_length_le (by simp), h]
  simp [Ins.st]
theorem splice_si (x : Ins) (v : Int) : splice (inC x) 35 [.int .i64 v] = inC (x.si v) := by
  have h := len_pre x
  rw [inC_split, inC_split]
  unfold splice
  rw [List.take_append, List.take_of_length_le (by omega), List.drop_append, List.drop_of_length_le (by simp), h]
  simp [Ins.si]
theorem splice_de (x : Ins) (v : Int) : splice (inC x) 36 [.int .i64 v] = inC (x.de v) := by
  have h := len_pre x
  rw [inC_split, inC_split]
  unfold splice
  rw [List.take_append, List.take_of_length_le (by omega), List.drop_append, List.drop_of_length_le (by simp), h]
  simp [Ins.de]
theorem store_st {H : List AObj} {id k : Nat} {l : List Ins} {v : Int} (h : k < l.length) : storeO H id 1 (k * 37 + 34) (.int .i64 v) (some (l.flatMap inC)) = some (.junk, H.set id (.cells ((l.set k (l[k].st v)).flatMap inC))) := by
  rw [storeO_one rfl rfl (by rw [fm_len len_inC]; omega), splice_in h (by decide), splice_st, set_ins h]
theorem store_si {H : List AObj} {id k : Nat} {l : List Ins} {v : Int} (h : k < l.length) : storeO H id 1 (k * 37 + 35) (.int .i64 v) (some (l.flatMap inC)) = some (.junk, H.set id (.cells ((l.set k (l[k].si v)).flatMap inC))) := by
  rw [storeO_one rfl rfl (by rw [fm_len len_inC]; omega), splice_in h (by decide), splice_si, set_ins h]
theorem store_de {H : List AObj} {id k : Nat} {l : List Ins} {v : Int} (h : k < l.length) : storeO H id 1 (k * 37 + 36) (.int .i64 v) (some (l.flatMap inC)) = some (.junk, H.set id (.cells ((l.set k (l[k].de v)).flatMap inC))) := by
  rw [storeO_one rfl rfl (by rw [fm_len len_inC]; omega), splice_in h (by decide), splice_de, set_ins h]
theorem runs_may1 (s : Int) : Runs tbl0 a79 [.int .i64 s] (.bool (decide (s = 1))) := by
  refine ⟨?_⟩
  simp (disch := first | omega | (simp [-List.map_take, -List.map_drop, -List.map_set, -List.map_append, -List.drop_one] <;> omega) | fail) [-List.map_take, -List.map_drop, -List.map_set, -List.map_append, -List.drop_one, a79]
theorem runs_may2 (s : Int) : Runs tbl0 a81 [.int .i64 s] (.bool (decide (s ≠ 3))) := by
  refine ⟨?_⟩
  simp (disch := first | omega | (simp [-List.map_take, -List.map_drop, -List.map_set, -List.map_append, -List.drop_one] <;> omega) | fail) [-List.map_take, -List.map_drop, -List.map_set, -List.map_append, -List.drop_one, a81]
def cIb (g : Int → Bool) : List DV → Option DV
  | [.int .i64 s] => some (.bool (g s)) | _ => none
theorem cIb_eq {g : Int → Bool} {s : Int} : cIb g [.int .i64 s] = some (.bool (g s)) := rfl
theorem cIb_sound {f : Nat} {g : Int → Bool} (h : ∀ s, Am.Sem P f [.int .i64 s] (.bool (g s))) : (Con.pure (cIb g)).Sound P f := by
  intro args v e
  unfold cIb at e
  split at e
  · simp at e; subst e; exact h _
  · simp at e
noncomputable def T113 : Tbl := addT 79 (.pure (cIb fun s => decide (s = 1))) (addT 81 (.pure (cIb fun s => decide (s ≠ 3))) T112)
theorem T113_1 : T113 79 = .pure (cIb fun s => decide (s = 1)) := by simp [T113]
theorem T113_2 : T113 81 = .pure (cIb fun s => decide (s ≠ 3)) := by simp [T113]
theorem T113_v : T113 20 = .pure (cC1 validCB) := by simp [T113, T112]
theorem T113_c : T113 71 = .new cNC := by simp [T113, T112]
theorem T113_t : T113 70 = .pure cTm := by simp [T113, T112]
theorem T113_f : T113 24 = .pure (cCi fun c i => .int .i64 (findIx c.i.l i)) := by simp [T113, T112]
theorem T113_sound : T113.Sound P := addT_sound (cIb_sound fun s => sem_runs mix tbl0_sound Tryd.func79 a79_ok (runs_may1 s)) (addT_sound (cIb_sound fun s => sem_runs mix tbl0_sound Tryd.func81 a81_ok (runs_may2 s)) T112_sound)
noncomputable def changeB (c : Clu) (id t to : Int) : DV := .tup [.agg (clC (changeP c id t to).1), .int .i64 (changeP c id t to).2]
theorem valid_gne {c : Clu} (hv : ValidC c) {k : Nat} (hk : k < c.i.l.length) : c.g.l ≠ [] := by
  intro e
  have h1 := (hv.i k hk).1.g0
  have h2 := (hv.i k hk).1.g1
  rw [e] at h2; simp at h2; omega
set_option maxHeartbeats 4000000 in
theorem runs_change1 (c : Clu) (id t : Int) : Runs T113 a78 [.agg (clC c), .int .i64 id, .int .i64 t, .int .i64 2, .fn (.func 79) [] []] (changeB c id t 2) := by
  refine ⟨?_⟩
  by_cases hv : ValidC c
  case neg =>
    have hd : changeP c id t 2 = (clu0, 1) := by rw [changeP, if_pos (.inl hv)]
    simp (disch := first | omega | (simp [-List.map_take, -List.map_drop, -List.map_set, -List.map_append, -List.drop_one] <;> omega) | fail) [-List.map_take, -List.map_drop, -List.map_set, -List.map_append, -List.drop_one, a78, T113_v, cC1_eq, validCB, T113_t, cTm_eq, T113_f, cCi_eq, changeB, tv_false hv, hd, clC_clu0]
  by_cases ht : timeOK t
  case neg =>
    have hd : changeP c id t 2 = (clu0, 1) := by rw [changeP, if_pos (.inr ht)]
    simp (disch := first | omega | (simp [-List.map_take, -List.map_drop, -List.map_set, -List.map_append, -List.drop_one] <;> omega) | fail) [-List.map_take, -List.map_drop, -List.map_set, -List.map_append, -List.drop_one, a78, T113_v, cC1_eq, validCB, T113_t, cTm_eq, T113_f, cCi_eq, changeB, tv_true hv, tv_false ht, hd, clC_clu0]
  have hnn : ¬ (¬ ValidC c ∨ ¬ timeOK t) := fun h => h.elim (fun h => h hv) (fun h => h ht)
  by_cases hx : findIx c.i.l id < 0
  · have hd : changeP c id t 2 = (clu0, 4) := by rw [changeP, if_neg hnn, if_pos hx]
    simp (disch := first | omega | (simp [-List.map_take, -List.map_drop, -List.map_set, -List.map_append, -List.drop_one] <;> omega) | fail) [-List.map_take, -List.map_drop, -List.map_set, -List.map_append, -List.drop_one, a78, T113_v, cC1_eq, validCB, T113_t, cTm_eq, T113_f, cCi_eq, changeB, tv_true hv, tv_true ht, hx, hd, clC_clu0]
  obtain ⟨k, hk, hke, _, _⟩ := ixI_pos (show 0 ≤ findIx c.i.l id by omega)
  have hke : findIx c.i.l id = k := hke
  have hx' : ¬ (k : Int) < 0 := by omega
  have hk' : (k : Int) < c.i.l.length := by omega
  obtain ⟨x, hxe⟩ : ∃ x, c.i.l[k] = x := ⟨_, rfl⟩
  have hgx : ∀ H, idxSD H 37 (c.i.dv 37 inC) k = some (.ref (inC x)) := fun H => by rw [idxSD_dv len_inC hk, hxe]
  have hopt : c.i.l[k]? = some x := by rw [List.getElem?_eq_getElem hk, hxe]
  by_cases hm : x.state = 1
  case neg =>
    have hd : changeP c id t 2 = (clu0, 30) := by rw [changeP, if_neg hnn, if_neg hx, hke]; simp [hopt, may]; simpa using hm
    have hm' : ¬ x.state = 1 := by simpa using hm
    simp (disch := first | omega | (simp [-List.map_take, -List.map_drop, -List.map_set, -List.map_append, -List.drop_one] <;> omega) | fail) [-List.map_take, -List.map_drop, -List.map_set, -List.map_append, -List.drop_one, a78, T113_v, cC1_eq, validCB, T113_t, cTm_eq, T113_f, cCi_eq, changeB, tv_true hv, tv_true ht, hke, hx', hk', hk, hgx, T113_1, cIb_eq, hm', hd, clC_clu0]
  have hd : changeP c id t 2 = (⟨c.clone.g, own (c.i.l.set k ((x.st 2).si t)), c.next⟩, 0) := by
    rw [changeP, if_neg hnn, if_neg hx, hke, if_pos (by simp [hopt, may]; simpa using hm)]
    simp only [Int.toNat_natCast, setI, hopt]
  have hm' : x.state = 1 := by simpa using hm
  have ho := own_dv (l := c.i.l.set k ((x.st 2).si t)) (s := 37) (f := inC) (by rw [List.length_set]; exact c.i.b)
  have ha : ∀ l : List Grp, (l.flatMap grC).length = l.length * 6 := fm_len len_grC
  have hb : ∀ l : List Ins, (l.flatMap inC).length = l.length * 37 := fm_len len_inC
  have hg := valid_gne hv hk
  have hi : c.i.l ≠ [] := by intro e; rw [e] at hk; simp at hk
  have e2 := mutO_ne (f := grC) hg
  have e3 := mutD_ne (id := 4) (s := 6) (f := grC) (clone_gne hg)
  have e4 := mutO_ne (f := grC) (clone_gne hg)
  have e6 := clone_g_ne hg
  have e7 := take_grs (l := c.g.l.map Grp.clone) (n := c.g.l.length) (by simp)
  have f1 := mutD_ne (id := 5) (s := 37) (f := inC) hi
  have f2 := mutO_ne (f := inC) hi
  have s1 : ∀ H id, storeO H id 1 (k * 37 + 34) (.int .i64 2) (some (c.i.l.flatMap inC)) = some (.junk, H.set id (.cells ((c.i.l.set k (x.st 2)).flatMap inC))) := fun H id => by rw [store_st hk, hxe]
  have s2 : ∀ H id, storeO H id 1 (k * 37 + 35) (.int .i64 t) (some ((c.i.l.set k (x.st 2)).flatMap inC)) = some (.junk, H.set id (.cells ((c.i.l.set k ((x.st 2).si t)).flatMap inC))) := fun H id => by
    rw [store_si (by rw [List.length_set]; exact hk), List.getElem_set_self, List.set_set]
  have e8 := take_ins (l := c.i.l.set k ((x.st 2).si t)) (n := c.i.l.length) (by rw [List.length_set]; exact Nat.le_refl _)
  simp (disch := first | omega | (simp [-List.map_take, -List.map_drop, -List.map_set, -List.map_append, -List.drop_one] <;> omega) | fail) [-List.map_take, -List.map_drop, -List.map_set, -List.map_append, -List.drop_one, a78, T113_v, cC1_eq, validCB, T113_t, cTm_eq, T113_f, cCi_eq, changeB, tv_true hv, tv_true ht, hke, hx', hk', hk, hgx, T113_1, cIb_eq, hm', T113_c, cNC_eq, clW, e2, e3, e4, e6, e7, e8, f1, f2, ha, hb, clone_gl, storeO_one, s1, s2, hd, clC_mk, ho]
set_option maxHeartbeats 4000000 in
theorem runs_change2 (c : Clu) (id t : Int) : Runs T113 a78 [.agg (clC c), .int .i64 id, .int .i64 t, .int .i64 3, .fn (.func 81) [] []] (changeB c id t 3) := by
  refine ⟨?_⟩
  by_cases hv : ValidC c
  case neg =>
    have hd : changeP c id t 3 = (clu0, 1) := by rw [changeP, if_pos (.inl hv)]
    simp (disch := first | omega | (simp [-List.map_take, -List.map_drop, -List.map_set, -List.map_append, -List.drop_one] <;> omega) | fail) [-List.map_take, -List.map_drop, -List.map_set, -List.map_append, -List.drop_one, a78, T113_v, cC1_eq, validCB, T113_t, cTm_eq, T113_f, cCi_eq, changeB, tv_false hv, hd, clC_clu0]
  by_cases ht : timeOK t
  case neg =>
    have hd : changeP c id t 3 = (clu0, 1) := by rw [changeP, if_pos (.inr ht)]
    simp (disch := first | omega | (simp [-List.map_take, -List.map_drop, -List.map_set, -List.map_append, -List.drop_one] <;> omega) | fail) [-List.map_take, -List.map_drop, -List.map_set, -List.map_append, -List.drop_one, a78, T113_v, cC1_eq, validCB, T113_t, cTm_eq, T113_f, cCi_eq, changeB, tv_true hv, tv_false ht, hd, clC_clu0]
  have hnn : ¬ (¬ ValidC c ∨ ¬ timeOK t) := fun h => h.elim (fun h => h hv) (fun h => h ht)
  by_cases hx : findIx c.i.l id < 0
  · have hd : changeP c id t 3 = (clu0, 4) := by rw [changeP, if_neg hnn, if_pos hx]
    simp (disch := first | omega | (simp [-List.map_take, -List.map_drop, -List.map_set, -List.map_append, -List.drop_one] <;> omega) | fail) [-List.map_take, -List.map_drop, -List.map_set, -List.map_append, -List.drop_one, a78, T113_v, cC1_eq, validCB, T113_t, cTm_eq, T113_f, cCi_eq, changeB, tv_true hv, tv_true ht, hx, hd, clC_clu0]
  obtain ⟨k, hk, hke, _, _⟩ := ixI_pos (show 0 ≤ findIx c.i.l id by omega)
  have hke : findIx c.i.l id = k := hke
  have hx' : ¬ (k : Int) < 0 := by omega
  have hk' : (k : Int) < c.i.l.length := by omega
  obtain ⟨x, hxe⟩ : ∃ x, c.i.l[k] = x := ⟨_, rfl⟩
  have hgx : ∀ H, idxSD H 37 (c.i.dv 37 inC) k = some (.ref (inC x)) := fun H => by rw [idxSD_dv len_inC hk, hxe]
  have hopt : c.i.l[k]? = some x := by rw [List.getElem?_eq_getElem hk, hxe]
  by_cases hm : x.state ≠ 3
  case neg =>
    have hd : changeP c id t 3 = (clu0, 30) := by rw [changeP, if_neg hnn, if_neg hx, hke]; simp [hopt, may]; simpa using hm
    have hm' : x.state = 3 := by simpa using hm
    simp (disch := first | omega | (simp [-List.map_take, -List.map_drop, -List.map_set, -List.map_append, -List.drop_one] <;> omega) | fail) [-List.map_take, -List.map_drop, -List.map_set, -List.map_append, -List.drop_one, a78, T113_v, cC1_eq, validCB, T113_t, cTm_eq, T113_f, cCi_eq, changeB, tv_true hv, tv_true ht, hke, hx', hk', hk, hgx, T113_2, cIb_eq, hm', hd, clC_clu0]
  have hd : changeP c id t 3 = (⟨c.clone.g, own (c.i.l.set k ((x.st 3).si t)), c.next⟩, 0) := by
    rw [changeP, if_neg hnn, if_neg hx, hke, if_pos (by simp [hopt, may]; simpa using hm)]
    simp only [Int.toNat_natCast, setI, hopt]
  have hm' : ¬ x.state = 3 := by simpa using hm
  have ho := own_dv (l := c.i.l.set k ((x.st 3).si t)) (s := 37) (f := inC) (by rw [List.length_set]; exact c.i.b)
  have ha : ∀ l : List Grp, (l.flatMap grC).length = l.length * 6 := fm_len len_grC
  have hb : ∀ l : List Ins, (l.flatMap inC).length = l.length * 37 := fm_len len_inC
  have hg := valid_gne hv hk
  have hi : c.i.l ≠ [] := by intro e; rw [e] at hk; simp at hk
  have e2 := mutO_ne (f := grC) hg
  have e3 := mutD_ne (id := 4) (s := 6) (f := grC) (clone_gne hg)
  have e4 := mutO_ne (f := grC) (clone_gne hg)
  have e6 := clone_g_ne hg
  have e7 := take_grs (l := c.g.l.map Grp.clone) (n := c.g.l.length) (by simp)
  have f1 := mutD_ne (id := 5) (s := 37) (f := inC) hi
  have f2 := mutO_ne (f := inC) hi
  have s1 : ∀ H id, storeO H id 1 (k * 37 + 34) (.int .i64 3) (some (c.i.l.flatMap inC)) = some (.junk, H.set id (.cells ((c.i.l.set k (x.st 3)).flatMap inC))) := fun H id => by rw [store_st hk, hxe]
  have s2 : ∀ H id, storeO H id 1 (k * 37 + 35) (.int .i64 t) (some ((c.i.l.set k (x.st 3)).flatMap inC)) = some (.junk, H.set id (.cells ((c.i.l.set k ((x.st 3).si t)).flatMap inC))) := fun H id => by
    rw [store_si (by rw [List.length_set]; exact hk), List.getElem_set_self, List.set_set]
  have e8 := take_ins (l := c.i.l.set k ((x.st 3).si t)) (n := c.i.l.length) (by rw [List.length_set]; exact Nat.le_refl _)
  simp (disch := first | omega | (simp [-List.map_take, -List.map_drop, -List.map_set, -List.map_append, -List.drop_one] <;> omega) | fail) [-List.map_take, -List.map_drop, -List.map_set, -List.map_append, -List.drop_one, a78, T113_v, cC1_eq, validCB, T113_t, cTm_eq, T113_f, cCi_eq, changeB, tv_true hv, tv_true ht, hke, hx', hk', hk, hgx, T113_2, cIb_eq, hm', T113_c, cNC_eq, clW, e2, e3, e4, e6, e7, e8, f1, f2, ha, hb, clone_gl, storeO_one, s1, s2, hd, clC_mk, ho]
noncomputable def cChg (M : Nat) (to : Int) : List DV → Option DV := con (fun _ => True) (fun p : Clu × Int × Int => [.agg (clC p.1), .int .i64 p.2.1, .int .i64 p.2.2, .int .i64 to, .fn (.func M) [] []]) (fun p => changeB p.1 p.2.1 p.2.2 to)
theorem cChg_eq {M : Nat} {to : Int} {c : Clu} {id t : Int} : cChg M to [.agg (clC c), .int .i64 id, .int .i64 t, .int .i64 to, .fn (.func M) [] []] = some (changeB c id t to) :=
  con_inj (f := fun p : Clu × Int × Int => [.agg (clC p.1), .int .i64 p.2.1, .int .i64 p.2.2, .int .i64 to, .fn (.func M) [] []]) (by
    rintro ⟨a, b, c⟩ ⟨a', b', c'⟩ e
    simp only [List.cons.injEq, DV.agg.injEq, DV.int.injEq, and_true, true_and] at e
    rw [clC_inj e.1, e.2.1, e.2.2]) (c, id, t)
noncomputable def T114 : Tbl := addT 78 (.pure (cChg 79 2)) tbl0
theorem T114_c : T114 78 = .pure (cChg 79 2) := by simp [T114]
theorem T114_sound : T114.Sound P := addT_sound (con_sound fun p _ => sem_runs mix T113_sound Tryd.func78 a78_ok (runs_change1 p.1 p.2.1 p.2.2)) tbl0_sound
noncomputable def T115 : Tbl := addT 78 (.pure (cChg 81 3)) tbl0
theorem T115_c : T115 78 = .pure (cChg 81 3) := by simp [T115]
theorem T115_sound : T115.Sound P := addT_sound (con_sound fun p _ => sem_runs mix T113_sound Tryd.func78 a78_ok (runs_change2 p.1 p.2.1 p.2.2)) tbl0_sound
theorem runs_started (c : Clu) (id t : Int) : Runs T114 a38 [.agg (clC c), .int .i64 id, .int .i64 t] (changeB c id t 2) := by
  refine ⟨?_⟩
  simp (disch := first | omega | (simp [-List.map_take, -List.map_drop, -List.map_set, -List.map_append, -List.drop_one] <;> omega) | fail) [-List.map_take, -List.map_drop, -List.map_set, -List.map_append, -List.drop_one, a38, T114_c, cChg_eq, changeB]
theorem runs_stop (c : Clu) (id t : Int) : Runs T115 a40 [.agg (clC c), .int .i64 id, .int .i64 t] (changeB c id t 3) := by
  refine ⟨?_⟩
  simp (disch := first | omega | (simp [-List.map_take, -List.map_drop, -List.map_set, -List.map_append, -List.drop_one] <;> omega) | fail) [-List.map_take, -List.map_drop, -List.map_set, -List.map_append, -List.drop_one, a40, T115_c, cChg_eq, changeB]
end Go.Proofs.YtjhakjeioppijaaDoor
/-
  Functions of this claim, as the abstract machine has them. MADE BY A PROGRAM of mine.
-/
set_option linter.unusedSimpArgs false
set_option linter.unusedVariables false
namespace Go.Proofs.YtjhakjeioppijaaDoor
open Go Go.Am
-- 17 admission/admissionlaw37.awake
def a17 : AFn where
  code := (.seq (.region false [⟨none, (some 0), .mov (.k (.bool false))⟩])
  (.seq (.region false [⟨none, (some 11), .build [.nils, .nils, (.int .i64 0)] [(2, 1, (.k (.int .i64 1)))]⟩,
    ⟨none, (some 12), .build (rep 32 (w8 0#8)) [(0, 1, (.k (w8 1#8)))]⟩,
    ⟨none, (some 13), .bsl 32 1 (rep 32 (w8 0#8)) [(0, 32, (.t 12))]⟩,
    ⟨none, (some 14), .build [(.str []), (.str []), (.int .i64 0), (.int .i64 0), (.int .i64 0), .nils] [(0, 1, (.k (.str [97]))), (1, 1, (.k (.str [98]))), (2, 1, (.k (.int .i64 1))), (5, 1, (.t 13))]⟩,
    ⟨none, (some 15), .call (.k (.fn (.func 35) [] [])) [(.t 11), (.t 14)]⟩,
    ⟨none, (some 10), .mov (.t 15)⟩,
    ⟨none, (some 16), .ext (.t 10) 0⟩,
    ⟨none, (some 17), .ext (.t 10) 1⟩,
    ⟨none, (some 1), .alloc [.nils, .nils, (.int .i64 0)]⟩,
    ⟨none, none, .store 3 (.t 1) (.t 16)⟩,
    ⟨none, (some 2), .mov (.t 17)⟩])
  (.seq (.region false [⟨none, (some 19), .load 3 true (.t 1)⟩,
    ⟨none, (some 20), .build (rep 32 (w8 0#8)) [(0, 1, (.k (w8 1#8)))]⟩,
    ⟨none, (some 21), .call (.k (.fn (.func 32) [] [])) [(.t 19), (.k (.int .i64 0)), (.t 20), (.k (.int .i64 5))]⟩,
    ⟨none, (some 18), .mov (.t 21)⟩,
    ⟨none, (some 22), .ext (.t 18) 0⟩,
    ⟨none, (some 23), .ext (.t 18) 1⟩,
    ⟨none, (some 24), .ext (.t 18) 2⟩,
    ⟨none, (some 3), .alloc [.nils, .nils, (.int .i64 0)]⟩,
    ⟨none, none, .store 3 (.t 3) (.t 22)⟩,
    ⟨none, (some 4), .mov (.t 23)⟩,
    ⟨none, (some 5), .mov (.t 24)⟩])
  (.seq (.region false [⟨none, (some 26), .load 3 true (.t 3)⟩,
    ⟨none, (some 27), .call (.k (.fn (.func 38) [] [])) [(.t 26), (.k (.int .i64 1)), (.k (.int .i64 6))]⟩,
    ⟨none, (some 25), .mov (.t 27)⟩,
    ⟨none, (some 28), .ext (.t 25) 0⟩,
    ⟨none, (some 29), .ext (.t 25) 1⟩,
    ⟨none, (some 6), .alloc [.nils, .nils, (.int .i64 0)]⟩,
    ⟨none, none, .store 3 (.t 6) (.t 28)⟩,
    ⟨none, (some 7), .mov (.t 29)⟩])
  (.seq (.region false [⟨none, (some 31), .load 3 true (.t 6)⟩,
    ⟨none, (some 32), .call (.k (.fn (.func 38) [] [])) [(.t 31), (.k (.int .i64 1)), (.k (.int .i64 7))]⟩,
    ⟨none, (some 30), .mov (.t 32)⟩,
    ⟨none, (some 33), .ext (.t 30) 0⟩,
    ⟨none, (some 34), .ext (.t 30) 1⟩,
    ⟨none, (some 8), .alloc [.nils, .nils, (.int .i64 0)]⟩,
    ⟨none, none, .store 3 (.t 8) (.t 33)⟩,
    ⟨none, (some 9), .mov (.t 34)⟩])
  (.seq (.region false [⟨none, (some 35), .mov (.t 2)⟩,
    ⟨none, (some 36), .bin .eql (.t 35) (.k (.int .i64 0))⟩,
    ⟨none, (some 37), .mov (.t 36)⟩,
    ⟨(some (37, true)), (some 38), .mov (.t 5)⟩,
    ⟨(some (37, true)), (some 39), .bin .eql (.t 38) (.k (.int .i64 0))⟩,
    ⟨none, (some 40), .pick (.t 37) (.t 39) (.k (.bool false))⟩,
    ⟨none, (some 41), .mov (.t 40)⟩,
    ⟨(some (41, true)), (some 42), .mov (.t 7)⟩,
    ⟨(some (41, true)), (some 43), .bin .eql (.t 42) (.k (.int .i64 0))⟩,
    ⟨none, (some 44), .pick (.t 41) (.t 43) (.k (.bool false))⟩,
    ⟨none, (some 45), .mov (.t 44)⟩,
    ⟨(some (45, true)), (some 46), .mov (.t 4)⟩,
    ⟨(some (45, true)), (some 47), .bin .eql (.t 46) (.k (.int .i64 1))⟩,
    ⟨none, (some 48), .pick (.t 45) (.t 47) (.k (.bool false))⟩,
    ⟨none, (some 49), .mov (.t 48)⟩,
    ⟨(some (49, true)), (some 50), .fld 1 (.t 6)⟩,
    ⟨(some (49, true)), (some 51), .load 1 false (.t 50)⟩,
    ⟨(some (49, true)), (some 52), .idxS 37 (.t 51) (.k (.int .i64 0))⟩,
    ⟨(some (49, true)), (some 53), .fld 34 (.t 52)⟩,
    ⟨(some (49, true)), (some 54), .load 1 false (.t 53)⟩,
    ⟨(some (49, true)), (some 55), .bin .eql (.t 54) (.k (.int .i64 2))⟩,
    ⟨none, (some 56), .pick (.t 49) (.t 55) (.k (.bool false))⟩,
    ⟨none, (some 57), .mov (.t 56)⟩,
    ⟨(some (57, true)), (some 58), .mov (.t 9)⟩,
    ⟨(some (57, true)), (some 59), .bin .eql (.t 58) (.k (.int .i64 30))⟩,
    ⟨none, (some 60), .pick (.t 57) (.t 59) (.k (.bool false))⟩,
    ⟨none, (some 61), .mov (.t 60)⟩,
    ⟨(some (61, true)), (some 62), .load 3 true (.t 6)⟩,
    ⟨(some (61, true)), (some 63), .call (.k (.fn (.func 20) [] [])) [(.t 62)]⟩,
    ⟨none, (some 64), .pick (.t 61) (.t 63) (.k (.bool false))⟩,
    ⟨none, (some 65), .mov (.t 64)⟩,
    ⟨(some (65, true)), (some 66), .load 3 true (.t 6)⟩,
    ⟨(some (65, true)), (some 67), .call (.k (.fn (.func 24) [] [])) [(.t 66), (.k (.int .i64 1))]⟩,
    ⟨(some (65, true)), (some 68), .bin .eql (.t 67) (.k (.int .i64 0))⟩,
    ⟨none, (some 69), .pick (.t 65) (.t 68) (.k (.bool false))⟩,
    ⟨none, (some 70), .mov (.t 69)⟩,
    ⟨(some (70, true)), (some 71), .load 3 true (.t 6)⟩,
    ⟨(some (70, true)), (some 72), .call (.k (.fn (.func 22) [] [])) [(.t 71), (.k (.str [97])), (.k (.str [98]))]⟩,
    ⟨(some (70, true)), (some 73), .bin .eql (.t 72) (.k (.int .i64 0))⟩,
    ⟨none, (some 74), .pick (.t 70) (.t 73) (.k (.bool false))⟩,
    ⟨none, (some 0), .mov (.t 74)⟩])
  .ret))))))
  ntmps := 75
  res := [.tmp 0]

theorem a17_ok : compileFn P Tryd.f17 = some a17 := by kernel_rfl

-- 15 admission/admissionlaw37.few
def a15L0 : ACode :=
  (.seq (.seq (.region false [⟨none, (some 4), .mov (.t 3)⟩,
    ⟨none, (some 5), .fld 0 (.t 1)⟩,
    ⟨none, (some 6), .load 1 false (.t 5)⟩,
    ⟨none, (some 7), .len (.t 6)⟩,
    ⟨none, (some 8), .bin .lss (.t 4) (.t 7)⟩])
  (.cond (.t 8) .skip
  (.exit 0)))
  (.seq (.block 1 (.seq (.region false [⟨none, (some 11), .fld 0 (.t 1)⟩,
    ⟨none, (some 12), .load 1 false (.t 11)⟩,
    ⟨none, (some 13), .mov (.t 3)⟩,
    ⟨none, (some 14), .idxS 6 (.t 12) (.t 13)⟩,
    ⟨none, (some 15), .load 6 true (.t 14)⟩,
    ⟨none, (some 16), .call (.k (.fn (.func 16) [] [])) [(.t 15)]⟩,
    ⟨none, (some 17), .un .not (.t 16)⟩])
  (.cond (.t 17) (.seq (.region false [⟨none, (some 2), .mov (.k (.bool false))⟩])
  .ret)
  .skip)))
  (.region false [⟨none, (some 9), .mov (.t 3)⟩,
    ⟨none, (some 10), .bin .add (.t 9) (.k (.int .i64 1))⟩,
    ⟨none, (some 3), .mov (.t 10)⟩])))
/-- 1:c 3:i -/
def a15S0 (x1 x3 : DV) (h : List AObj) : St := ⟨[.junk, x1, .junk, x3] ++ js 24, h⟩

def a15 : AFn where
  code := (.seq (.region false [⟨none, (some 1), .box (.t 0)⟩,
    ⟨none, (some 2), .mov (.k (.bool false))⟩])
  (.seq (.seq (.region false [⟨none, (some 3), .mov (.k (.int .i64 0))⟩])
  (.block 0 (.loop a15L0)))
  (.seq (.region false [⟨none, (some 18), .fld 0 (.t 1)⟩,
    ⟨none, (some 19), .load 1 false (.t 18)⟩,
    ⟨none, (some 20), .len (.t 19)⟩,
    ⟨none, (some 21), .bin .leq (.t 20) (.k (.int .i64 20))⟩,
    ⟨none, (some 22), .mov (.t 21)⟩,
    ⟨(some (22, true)), (some 23), .fld 1 (.t 1)⟩,
    ⟨(some (22, true)), (some 24), .load 1 false (.t 23)⟩,
    ⟨(some (22, true)), (some 25), .len (.t 24)⟩,
    ⟨(some (22, true)), (some 26), .bin .leq (.t 25) (.k (.int .i64 30))⟩,
    ⟨none, (some 27), .pick (.t 22) (.t 26) (.k (.bool false))⟩,
    ⟨none, (some 2), .mov (.t 27)⟩])
  .ret)))
  ntmps := 28
  res := [.tmp 2]

theorem a15_ok : compileFn P Tryd.f15 = some a15 := by kernel_rfl

-- 16 admission/admissionlaw37.small
def a16 : AFn where
  code := (.seq (.region false [⟨none, (some 1), .box (.t 0)⟩,
    ⟨none, (some 2), .mov (.k (.bool false))⟩])
  (.seq (.region false [⟨none, (some 3), .fld 0 (.t 1)⟩,
    ⟨none, (some 4), .load 1 false (.t 3)⟩,
    ⟨none, (some 5), .lenStr (.t 4)⟩,
    ⟨none, (some 6), .bin .leq (.t 5) (.k (.int .i64 300))⟩,
    ⟨none, (some 7), .mov (.t 6)⟩,
    ⟨(some (7, true)), (some 8), .fld 1 (.t 1)⟩,
    ⟨(some (7, true)), (some 9), .load 1 false (.t 8)⟩,
    ⟨(some (7, true)), (some 10), .lenStr (.t 9)⟩,
    ⟨(some (7, true)), (some 11), .bin .leq (.t 10) (.k (.int .i64 300))⟩,
    ⟨none, (some 12), .pick (.t 7) (.t 11) (.k (.bool false))⟩,
    ⟨none, (some 13), .mov (.t 12)⟩,
    ⟨(some (13, true)), (some 14), .fld 5 (.t 1)⟩,
    ⟨(some (13, true)), (some 15), .load 1 false (.t 14)⟩,
    ⟨(some (13, true)), (some 16), .len (.t 15)⟩,
    ⟨(some (13, true)), (some 17), .bin .leq (.t 16) (.k (.int .i64 12))⟩,
    ⟨none, (some 18), .pick (.t 13) (.t 17) (.k (.bool false))⟩,
    ⟨none, (some 2), .mov (.t 18)⟩])
  .ret))
  ntmps := 19
  res := [.tmp 2]

theorem a16_ok : compileFn P Tryd.f16 = some a16 := by kernel_rfl

-- 33 admission/admissionlaw37.has
def a33L0 : ACode :=
  (.seq (.seq (.region false [⟨none, (some 6), .mov (.t 5)⟩,
    ⟨none, (some 7), .mov (.t 0)⟩,
    ⟨none, (some 8), .len (.t 7)⟩,
    ⟨none, (some 9), .bin .lss (.t 6) (.t 8)⟩])
  (.cond (.t 9) .skip
  (.exit 0)))
  (.seq (.block 1 (.seq (.region false [⟨none, (some 12), .mov (.t 0)⟩,
    ⟨none, (some 13), .mov (.t 5)⟩,
    ⟨none, (some 14), .idxS 1 (.t 12) (.t 13)⟩,
    ⟨none, (some 15), .load 1 false (.t 14)⟩,
    ⟨none, (some 16), .mov (.t 1)⟩,
    ⟨none, (some 17), .bin .eql (.t 15) (.t 16)⟩])
  (.cond (.t 17) (.seq (.region false [⟨none, (some 4), .mov (.k (.bool true))⟩])
  .ret)
  .skip)))
  (.region false [⟨none, (some 10), .mov (.t 5)⟩,
    ⟨none, (some 11), .bin .add (.t 10) (.k (.int .i64 1))⟩,
    ⟨none, (some 5), .mov (.t 11)⟩])))
/-- 0:l 1:n 5:i -/
def a33S0 (x0 x1 x5 : DV) (h : List AObj) : St := ⟨[x0, x1, .junk, .junk, .junk, x5] ++ js 12, h⟩

def a33 : AFn where
  code := (.seq (.region false [⟨none, (some 4), .mov (.k (.bool false))⟩])
  (.seq (.seq (.region false [⟨none, (some 5), .mov (.k (.int .i64 0))⟩])
  (.block 0 (.loop a33L0)))
  (.seq (.region false [⟨none, (some 4), .mov (.k (.bool false))⟩])
  .ret)))
  ntmps := 18
  res := [.tmp 4]

theorem a33_ok : compileFn P Tryd.f33 = some a33 := by kernel_rfl

-- 3 admission/admissionlaw37.WorkloadValid
def a3 : AFn where
  code := (.seq (.region false [⟨none, (some 5), .box (.t 0)⟩,
    ⟨none, (some 6), .box (.t 1)⟩,
    ⟨none, (some 10), .mov (.k (.bool false))⟩])
  (.seq (.seq (.region false [⟨none, (some 11), .load 3 true (.t 5)⟩,
    ⟨none, (some 12), .call (.k (.fn (.func 15) [] [])) [(.t 11)]⟩,
    ⟨none, (some 13), .un .not (.t 12)⟩,
    ⟨none, (some 14), .mov (.t 13)⟩,
    ⟨(some (14, false)), (some 15), .load 6 true (.t 6)⟩,
    ⟨(some (14, false)), (some 16), .call (.k (.fn (.func 16) [] [])) [(.t 15)]⟩,
    ⟨(some (14, false)), (some 17), .un .not (.t 16)⟩,
    ⟨none, (some 18), .pick (.t 14) (.k (.bool true)) (.t 17)⟩])
  (.cond (.t 18) (.seq (.region false [⟨none, (some 19), .call (.k (.fn (.func 17) [] [])) []⟩,
    ⟨none, (some 10), .mov (.t 19)⟩])
  .ret)
  .skip))
  (.seq (.region true [⟨none, (some 20), .load 6 true (.t 6)⟩,
    ⟨none, (some 22), .load 6 true (.t 6)⟩,
    ⟨none, (some 21), .callN (.k (.fn (.func 18) [] [])) [(.t 20)]⟩,
    ⟨none, (some 23), .callN (.k (.fn (.func 19) [] [])) [(.t 22)]⟩,
    ⟨none, (some 24), .eqb false (.t 21) (.t 23)⟩,
    ⟨none, (some 25), .mov (.t 24)⟩,
    ⟨(some (25, true)), (some 26), .load 3 true (.t 5)⟩,
    ⟨(some (25, true)), (some 28), .load 3 true (.t 5)⟩,
    ⟨(some (25, true)), (some 27), .callN (.k (.fn (.func 20) [] [])) [(.t 26)]⟩,
    ⟨(some (25, true)), (some 29), .callN (.k (.fn (.func 21) [] [])) [(.t 28)]⟩,
    ⟨(some (25, true)), (some 30), .eqb false (.t 27) (.t 29)⟩,
    ⟨none, (some 31), .pick (.t 25) (.t 30) (.k (.bool false))⟩,
    ⟨none, (some 32), .mov (.t 31)⟩,
    ⟨(some (32, true)), (some 33), .load 3 true (.t 5)⟩,
    ⟨(some (32, true)), (some 34), .mov (.t 2)⟩,
    ⟨(some (32, true)), (some 35), .mov (.t 3)⟩,
    ⟨(some (32, true)), (some 37), .load 3 true (.t 5)⟩,
    ⟨(some (32, true)), (some 38), .mov (.t 2)⟩,
    ⟨(some (32, true)), (some 39), .mov (.t 3)⟩,
    ⟨(some (32, true)), (some 36), .callN (.k (.fn (.func 22) [] [])) [(.t 33), (.t 34), (.t 35)]⟩,
    ⟨(some (32, true)), (some 40), .callN (.k (.fn (.func 23) [] [])) [(.t 37), (.t 38), (.t 39)]⟩,
    ⟨(some (32, true)), (some 41), .bin .eql (.t 36) (.t 40)⟩,
    ⟨none, (some 42), .pick (.t 32) (.t 41) (.k (.bool false))⟩,
    ⟨none, (some 43), .mov (.t 42)⟩,
    ⟨(some (43, true)), (some 44), .load 3 true (.t 5)⟩,
    ⟨(some (43, true)), (some 45), .mov (.t 4)⟩,
    ⟨(some (43, true)), (some 47), .load 3 true (.t 5)⟩,
    ⟨(some (43, true)), (some 48), .mov (.t 4)⟩,
    ⟨(some (43, true)), (some 46), .callN (.k (.fn (.func 24) [] [])) [(.t 44), (.t 45)]⟩,
    ⟨(some (43, true)), (some 49), .callN (.k (.fn (.func 25) [] [])) [(.t 47), (.t 48)]⟩,
    ⟨(some (43, true)), (some 50), .bin .eql (.t 46) (.t 49)⟩,
    ⟨none, (some 51), .pick (.t 43) (.t 50) (.k (.bool false))⟩,
    ⟨none, (some 52), .mov (.t 51)⟩,
    ⟨(some (52, true)), (some 53), .callN (.k (.fn (.func 17) [] [])) []⟩,
    ⟨none, (some 54), .pick (.t 52) (.t 53) (.k (.bool false))⟩,
    ⟨none, (some 10), .mov (.t 54)⟩])
  .ret)))
  ntmps := 55
  res := [.tmp 10]

theorem a3_ok : compileFn P Tryd.f3 = some a3 := by kernel_rfl

-- 8 admission/admissionlaw37.WorkloadRaw
def a8 : AFn where
  code := (.seq (.region false [⟨none, (some 7), .box (.t 0)⟩,
    ⟨none, (some 8), .box (.t 1)⟩,
    ⟨none, (some 11), .box (.t 4)⟩,
    ⟨none, (some 14), .mov (.k (.bool false))⟩])
  (.seq (.seq (.region false [⟨none, (some 33), .load 3 true (.t 7)⟩,
    ⟨none, (some 34), .call (.k (.fn (.func 15) [] [])) [(.t 33)]⟩,
    ⟨none, (some 35), .un .not (.t 34)⟩,
    ⟨none, (some 36), .mov (.t 35)⟩,
    ⟨(some (36, false)), (some 37), .load 6 true (.t 8)⟩,
    ⟨(some (36, false)), (some 38), .call (.k (.fn (.func 16) [] [])) [(.t 37)]⟩,
    ⟨(some (36, false)), (some 39), .un .not (.t 38)⟩,
    ⟨none, (some 40), .pick (.t 36) (.k (.bool true)) (.t 39)⟩,
    ⟨none, (some 41), .mov (.t 40)⟩,
    ⟨(some (41, false)), (some 42), .mov (.t 6)⟩,
    ⟨(some (41, false)), (some 43), .len (.t 42)⟩,
    ⟨(some (41, false)), (some 44), .bin .gtr (.t 43) (.k (.int .i64 40))⟩,
    ⟨none, (some 45), .pick (.t 41) (.k (.bool true)) (.t 44)⟩])
  (.cond (.t 45) (.seq (.region false [⟨none, (some 46), .call (.k (.fn (.func 17) [] [])) []⟩,
    ⟨none, (some 14), .mov (.t 46)⟩])
  .ret)
  .skip))
  (.seq (.region false [⟨none, (some 48), .load 3 true (.t 7)⟩,
    ⟨none, (some 49), .load 6 true (.t 8)⟩,
    ⟨none, (some 50), .call (.k (.fn (.func 35) [] [])) [(.t 48), (.t 49)]⟩,
    ⟨none, (some 47), .mov (.t 50)⟩,
    ⟨none, (some 51), .ext (.t 47) 0⟩,
    ⟨none, (some 52), .ext (.t 47) 1⟩,
    ⟨none, (some 15), .alloc [.nils, .nils, (.int .i64 0)]⟩,
    ⟨none, none, .store 3 (.t 15) (.t 51)⟩,
    ⟨none, (some 16), .mov (.t 52)⟩])
  (.seq (.region false [⟨none, (some 54), .load 3 true (.t 7)⟩,
    ⟨none, (some 55), .load 6 true (.t 8)⟩,
    ⟨none, (some 56), .call (.k (.fn (.func 36) [] [])) [(.t 54), (.t 55)]⟩,
    ⟨none, (some 53), .mov (.t 56)⟩,
    ⟨none, (some 57), .ext (.t 53) 0⟩,
    ⟨none, (some 58), .ext (.t 53) 1⟩,
    ⟨none, (some 17), .alloc [.nils, .nils, (.int .i64 0)]⟩,
    ⟨none, none, .store 3 (.t 17) (.t 57)⟩,
    ⟨none, (some 18), .mov (.t 58)⟩])
  (.seq (.region false [⟨none, (some 60), .load 3 true (.t 7)⟩,
    ⟨none, (some 61), .mov (.t 3)⟩,
    ⟨none, (some 62), .load 32 true (.t 11)⟩,
    ⟨none, (some 63), .mov (.t 5)⟩,
    ⟨none, (some 64), .call (.k (.fn (.func 32) [] [])) [(.t 60), (.t 61), (.t 62), (.t 63)]⟩,
    ⟨none, (some 59), .mov (.t 64)⟩,
    ⟨none, (some 65), .ext (.t 59) 0⟩,
    ⟨none, (some 66), .ext (.t 59) 1⟩,
    ⟨none, (some 67), .ext (.t 59) 2⟩,
    ⟨none, (some 19), .alloc [.nils, .nils, (.int .i64 0)]⟩,
    ⟨none, none, .store 3 (.t 19) (.t 65)⟩,
    ⟨none, (some 20), .mov (.t 66)⟩,
    ⟨none, (some 21), .mov (.t 67)⟩])
  (.seq (.region false [⟨none, (some 69), .load 3 true (.t 7)⟩,
    ⟨none, (some 70), .mov (.t 3)⟩,
    ⟨none, (some 71), .load 32 true (.t 11)⟩,
    ⟨none, (some 72), .mov (.t 5)⟩,
    ⟨none, (some 73), .call (.k (.fn (.func 37) [] [])) [(.t 69), (.t 70), (.t 71), (.t 72)]⟩,
    ⟨none, (some 68), .mov (.t 73)⟩,
    ⟨none, (some 74), .ext (.t 68) 0⟩,
    ⟨none, (some 75), .ext (.t 68) 1⟩,
    ⟨none, (some 76), .ext (.t 68) 2⟩,
    ⟨none, (some 22), .alloc [.nils, .nils, (.int .i64 0)]⟩,
    ⟨none, none, .store 3 (.t 22) (.t 74)⟩,
    ⟨none, (some 23), .mov (.t 75)⟩,
    ⟨none, (some 24), .mov (.t 76)⟩])
  (.seq (.region false [⟨none, (some 78), .load 3 true (.t 7)⟩,
    ⟨none, (some 79), .mov (.t 2)⟩,
    ⟨none, (some 80), .mov (.t 5)⟩,
    ⟨none, (some 81), .call (.k (.fn (.func 40) [] [])) [(.t 78), (.t 79), (.t 80)]⟩,
    ⟨none, (some 77), .mov (.t 81)⟩,
    ⟨none, (some 82), .ext (.t 77) 0⟩,
    ⟨none, (some 83), .ext (.t 77) 1⟩,
    ⟨none, (some 25), .alloc [.nils, .nils, (.int .i64 0)]⟩,
    ⟨none, none, .store 3 (.t 25) (.t 82)⟩,
    ⟨none, (some 26), .mov (.t 83)⟩])
  (.seq (.region false [⟨none, (some 85), .load 3 true (.t 7)⟩,
    ⟨none, (some 86), .mov (.t 2)⟩,
    ⟨none, (some 87), .mov (.t 5)⟩,
    ⟨none, (some 88), .call (.k (.fn (.func 41) [] [])) [(.t 85), (.t 86), (.t 87)]⟩,
    ⟨none, (some 84), .mov (.t 88)⟩,
    ⟨none, (some 89), .ext (.t 84) 0⟩,
    ⟨none, (some 90), .ext (.t 84) 1⟩,
    ⟨none, (some 27), .alloc [.nils, .nils, (.int .i64 0)]⟩,
    ⟨none, none, .store 3 (.t 27) (.t 89)⟩,
    ⟨none, (some 28), .mov (.t 90)⟩])
  (.seq (.region false [⟨none, (some 92), .load 3 true (.t 7)⟩,
    ⟨none, (some 93), .mov (.t 2)⟩,
    ⟨none, (some 94), .call (.k (.fn (.func 31) [] [])) [(.t 92), (.t 93)]⟩,
    ⟨none, (some 91), .mov (.t 94)⟩,
    ⟨none, (some 95), .ext (.t 91) 0⟩,
    ⟨none, (some 96), .ext (.t 91) 1⟩,
    ⟨none, (some 29), .alloc [.nils, .nils, (.int .i64 0)]⟩,
    ⟨none, none, .store 3 (.t 29) (.t 95)⟩,
    ⟨none, (some 30), .mov (.t 96)⟩])
  (.seq (.region false [⟨none, (some 98), .load 3 true (.t 7)⟩,
    ⟨none, (some 99), .mov (.t 2)⟩,
    ⟨none, (some 100), .call (.k (.fn (.func 42) [] [])) [(.t 98), (.t 99)]⟩,
    ⟨none, (some 97), .mov (.t 100)⟩,
    ⟨none, (some 101), .ext (.t 97) 0⟩,
    ⟨none, (some 102), .ext (.t 97) 1⟩,
    ⟨none, (some 31), .alloc [.nils, .nils, (.int .i64 0)]⟩,
    ⟨none, none, .store 3 (.t 31) (.t 101)⟩,
    ⟨none, (some 32), .mov (.t 102)⟩])
  (.seq (.region true [⟨none, (some 103), .mov (.t 16)⟩,
    ⟨none, (some 104), .mov (.t 18)⟩,
    ⟨none, (some 105), .bin .eql (.t 103) (.t 104)⟩,
    ⟨none, (some 106), .mov (.t 105)⟩,
    ⟨(some (106, true)), (some 107), .load 3 true (.t 15)⟩,
    ⟨(some (106, true)), (some 108), .load 3 true (.t 17)⟩,
    ⟨(some (106, true)), (some 109), .callN (.k (.fn (.func 44) [] [])) [(.t 107), (.t 108)]⟩,
    ⟨none, (some 110), .pick (.t 106) (.t 109) (.k (.bool false))⟩,
    ⟨none, (some 111), .mov (.t 110)⟩,
    ⟨(some (111, true)), (some 112), .mov (.t 21)⟩,
    ⟨(some (111, true)), (some 113), .mov (.t 24)⟩,
    ⟨(some (111, true)), (some 114), .bin .eql (.t 112) (.t 113)⟩,
    ⟨none, (some 115), .pick (.t 111) (.t 114) (.k (.bool false))⟩,
    ⟨none, (some 116), .mov (.t 115)⟩,
    ⟨(some (116, true)), (some 117), .mov (.t 20)⟩,
    ⟨(some (116, true)), (some 118), .mov (.t 23)⟩,
    ⟨(some (116, true)), (some 119), .bin .eql (.t 117) (.t 118)⟩,
    ⟨none, (some 120), .pick (.t 116) (.t 119) (.k (.bool false))⟩,
    ⟨none, (some 121), .mov (.t 120)⟩,
    ⟨(some (121, true)), (some 122), .load 3 true (.t 19)⟩,
    ⟨(some (121, true)), (some 123), .load 3 true (.t 22)⟩,
    ⟨(some (121, true)), (some 124), .callN (.k (.fn (.func 44) [] [])) [(.t 122), (.t 123)]⟩,
    ⟨none, (some 125), .pick (.t 121) (.t 124) (.k (.bool false))⟩,
    ⟨none, (some 126), .mov (.t 125)⟩,
    ⟨(some (126, true)), (some 127), .mov (.t 26)⟩,
    ⟨(some (126, true)), (some 128), .mov (.t 28)⟩,
    ⟨(some (126, true)), (some 129), .bin .eql (.t 127) (.t 128)⟩,
    ⟨none, (some 130), .pick (.t 126) (.t 129) (.k (.bool false))⟩,
    ⟨none, (some 131), .mov (.t 130)⟩,
    ⟨(some (131, true)), (some 132), .load 3 true (.t 25)⟩,
    ⟨(some (131, true)), (some 133), .load 3 true (.t 27)⟩,
    ⟨(some (131, true)), (some 134), .callN (.k (.fn (.func 44) [] [])) [(.t 132), (.t 133)]⟩,
    ⟨none, (some 135), .pick (.t 131) (.t 134) (.k (.bool false))⟩,
    ⟨none, (some 136), .mov (.t 135)⟩,
    ⟨(some (136, true)), (some 137), .mov (.t 30)⟩,
    ⟨(some (136, true)), (some 138), .mov (.t 32)⟩,
    ⟨(some (136, true)), (some 139), .bin .eql (.t 137) (.t 138)⟩,
    ⟨none, (some 140), .pick (.t 136) (.t 139) (.k (.bool false))⟩,
    ⟨none, (some 141), .mov (.t 140)⟩,
    ⟨(some (141, true)), (some 142), .load 3 true (.t 29)⟩,
    ⟨(some (141, true)), (some 143), .load 3 true (.t 31)⟩,
    ⟨(some (141, true)), (some 144), .callN (.k (.fn (.func 44) [] [])) [(.t 142), (.t 143)]⟩,
    ⟨none, (some 145), .pick (.t 141) (.t 144) (.k (.bool false))⟩,
    ⟨none, (some 146), .mov (.t 145)⟩,
    ⟨(some (146, true)), (some 147), .load 3 true (.t 7)⟩,
    ⟨(some (146, true)), (some 148), .mov (.t 6)⟩,
    ⟨(some (146, true)), (some 149), .mov (.t 5)⟩,
    ⟨(some (146, true)), (some 151), .load 3 true (.t 7)⟩,
    ⟨(some (146, true)), (some 152), .mov (.t 6)⟩,
    ⟨(some (146, true)), (some 153), .mov (.t 5)⟩,
    ⟨(some (146, true)), (some 150), .callN (.k (.fn (.func 30) [] [])) [(.t 147), (.t 148), (.t 149)]⟩,
    ⟨(some (146, true)), (some 154), .callN (.k (.fn (.func 43) [] [])) [(.t 151), (.t 152), (.t 153)]⟩,
    ⟨(some (146, true)), (some 155), .callN (.k (.fn (.func 44) [] [])) [(.t 150), (.t 154)]⟩,
    ⟨none, (some 156), .pick (.t 146) (.t 155) (.k (.bool false))⟩,
    ⟨none, (some 157), .mov (.t 156)⟩,
    ⟨(some (157, true)), (some 158), .callN (.k (.fn (.func 17) [] [])) []⟩,
    ⟨none, (some 159), .pick (.t 157) (.t 158) (.k (.bool false))⟩,
    ⟨none, (some 14), .mov (.t 159)⟩])
  .ret)))))))))))
  ntmps := 160
  res := [.tmp 14]

theorem a8_ok : compileFn P Tryd.f8 = some a8 := by kernel_rfl

end Go.Proofs.YtjhakjeioppijaaDoor
/-
  Clusters of one group and one instance; the sanity check of the chapter.
-/
set_option linter.unusedSimpArgs false
set_option linter.unusedVariables false
namespace Go.Proofs.YtjhakjeioppijaaDoor
open Go Go.Am

/-! contracts of the calls -/
noncomputable def cDep (g : Clu → Grp → DV) : List DV → Option DV := con (fun _ => True) (fun p : Clu × Grp => [.agg (clC p.1), .agg (grC p.2)]) (fun p => g p.1 p.2)
theorem cDep_eq {f : Clu → Grp → DV} {c : Clu} {g : Grp} : cDep f [.agg (clC c), .agg (grC g)] = some (f c g) :=
  con_inj (f := fun p : Clu × Grp => [.agg (clC p.1), .agg (grC p.2)]) (by
    rintro ⟨a, b⟩ ⟨a', b'⟩ e
    simp only [List.cons.injEq, DV.agg.injEq, and_true] at e
    rw [clC_inj e.1, grC_inj e.2]) (c, g)
noncomputable def cSta (f : Clu → Int → Dg → Int → DV) : List DV → Option DV := con (fun _ => True) (fun p : Clu × Int × Dg × Int => [.agg (clC p.1), .int .i64 p.2.1, .agg (dgC p.2.2.1), .int .i64 p.2.2.2]) (fun p => f p.1 p.2.1 p.2.2.1 p.2.2.2)
theorem cSta_eq {f : Clu → Int → Dg → Int → DV} {c : Clu} {g t : Int} {d : Dg} : cSta f [.agg (clC c), .int .i64 g, .agg (dgC d), .int .i64 t] = some (f c g d t) :=
  con_inj (f := fun p : Clu × Int × Dg × Int => [.agg (clC p.1), .int .i64 p.2.1, .agg (dgC p.2.2.1), .int .i64 p.2.2.2]) (by
    rintro ⟨a, b, c, d⟩ ⟨a', b', c', d'⟩ e
    simp only [List.cons.injEq, DV.agg.injEq, DV.int.injEq, and_true, true_and] at e
    rw [clC_inj e.1, e.2.1, dgC_inj e.2.2.1, e.2.2.2]) (c, g, d, t)
noncomputable def cCii (f : Clu → Int → Int → DV) : List DV → Option DV := con (fun _ => True) (fun p : Clu × Int × Int => [.agg (clC p.1), .int .i64 p.2.1, .int .i64 p.2.2]) (fun p => f p.1 p.2.1 p.2.2)
theorem cCii_eq {f : Clu → Int → Int → DV} {c : Clu} {g t : Int} : cCii f [.agg (clC c), .int .i64 g, .int .i64 t] = some (f c g t) :=
  con_inj (f := fun p : Clu × Int × Int => [.agg (clC p.1), .int .i64 p.2.1, .int .i64 p.2.2]) (by
    rintro ⟨a, b, d⟩ ⟨a', b', d'⟩ e
    simp only [List.cons.injEq, DV.agg.injEq, DV.int.injEq, and_true, true_and] at e
    rw [clC_inj e.1, e.2.1, e.2.2]) (c, g, t)
noncomputable def T116 : Tbl := addT 35 (.pure (cDep deployB)) (addT 32 (.pure (cSta startB)) (addT 38 (.pure (cCii fun c i t => changeB c i t 2)) (addT 40 (.pure (cCii fun c i t => changeB c i t 3)) (addT 20 (.pure (cC1 validCB)) (addT 24 (.pure (cCi fun c i => .int .i64 (findIx c.i.l i))) (addT 22 (.pure (cCSS grpD)) tbl0))))))
theorem T116_d : T116 35 = .pure (cDep deployB) := by simp [T116]
theorem T116_s : T116 32 = .pure (cSta startB) := by simp [T116]
theorem T116_r : T116 38 = .pure (cCii fun c i t => changeB c i t 2) := by simp [T116]
theorem T116_t : T116 40 = .pure (cCii fun c i t => changeB c i t 3) := by simp [T116]
theorem T116_v : T116 20 = .pure (cC1 validCB) := by simp [T116]
theorem T116_f : T116 24 = .pure (cCi fun c i => .int .i64 (findIx c.i.l i)) := by simp [T116]
theorem T116_g : T116 22 = .pure (cCSS grpD) := by simp [T116]
theorem T116_sound : T116.Sound P := addT_sound (con_sound fun p _ => sem_runs mix T112_sound Tryd.func35 a35_ok (runs_deploy p.1 p.2)) (addT_sound (con_sound fun p _ => sem_runs mix T112_sound Tryd.func32 a32_ok (runs_start p.1 p.2.1 p.2.2.1 p.2.2.2)) (addT_sound (con_sound fun p _ => sem_runs mix T114_sound Tryd.func38 a38_ok (runs_started p.1 p.2.1 p.2.2)) (addT_sound (con_sound fun p _ => sem_runs mix T115_sound Tryd.func40 a40_ok (runs_stop p.1 p.2.1 p.2.2)) (addT_sound (con_sound fun x _ => sem_runs mix T107_sound Tryd.func20 a20_ok (runs_valid x)) (addT_sound (con_sound fun x _ => sem_runs mix T104_sound Tryd.func24 a24_ok (runs_find x.1 x.2)) (addT_sound (con_sound fun x _ => sem_runs mix T102_sound Tryd.func22 a22_ok (runs_group x.1 x.2.1 x.2.2)) tbl0_sound))))))

/-! clusters of one group -/
def d1 : Dg := ⟨1#8 :: rep 31 0#8, by simp⟩
theorem d1_ne : d1 ≠ dg0 := by decide
structure OneG (c : Clu) (x : Grp) : Prop where
  g : c.g.l = [x]
  v : ValidG x
  a : x.ns = [97]
  b : x.im = [98]
theorem okCh_clone {x : Grp} (h : ValidG x) : ValidG x.clone := ⟨h.ns, h.im, h.w0, h.w1, h.l0, h.l1, h.d0, h.d1, h.n, h.ch⟩
theorem valid_one {c : Clu} {x : Grp} (hg : OneG c x) (hi : c.i.l = [] ∨ ∃ y, c.i.l = [y] ∧ SoundI 1 c.next y) (h1 : 1 ≤ c.next) (h2 : c.next ≤ 1099511627776) : ValidC c := by
  obtain ⟨⟨gk, gl, gh, gb⟩, ⟨ik, il, ih, ib⟩, n⟩ := c
  obtain ⟨e, hv, ea, eb⟩ := hg
  simp only at e hi h1 h2
  subst e
  refine ⟨by simp, ?_, h1, h2, fun i h => ?_, fun i h => ?_⟩
  · rcases hi with rfl | ⟨y, rfl, _⟩ <;> simp
  · simp only [List.length_singleton] at h
    obtain rfl : i = 0 := by omega
    exact ⟨hv, by simp [grpIx, ixI, fitG]⟩
  · rcases hi with rfl | ⟨y, rfl, hy⟩
    · simp at h
    · simp only [List.length_singleton] at h
      obtain rfl : i = 0 := by omega
      exact ⟨hy, fun h0 => by omega⟩
def cA : Clu := ⟨⟨none, [], fun _ => rfl, by simp⟩, ⟨none, [], fun _ => rfl, by simp⟩, 1⟩
theorem valid_cA : ValidC cA := ⟨by simp [cA], by simp [cA], by simp [cA], by simp [cA], fun i h => by simp [cA] at h, fun i h => by simp [cA] at h⟩
theorem deploy_one {g : Grp} (hv : ValidG g) (ha : g.ns = [97]) (hb : g.im = [98]) : ∃ c, deployP cA g = (c, 0) ∧ OneG c g.clone ∧ c.i.l = [] ∧ c.next = 1 := by
  refine ⟨⟨own (cA.g.l.map Grp.clone ++ [g.clone]), cA.i.clone, cA.next⟩, ?_, ?_, rfl, rfl⟩
  · rw [deployP, if_neg (by simp [valid_cA, hv]), if_pos (by simp [cA, grpIx, ixI]), if_neg (by simp [cA])]
  · exact ⟨by rw [own_l (by simp [cA])]; simp [cA], okCh_clone hv, ha, hb⟩
theorem start_one {c : Clu} {x : Grp} (hg : OneG c x) (hi : c.i.l = []) (hn : c.next = 1) {t : Int} (ht : timeOK t) : ∃ c', startP c 0 d1 t = (c', 1, 0) ∧ OneG c' x.clone ∧ c'.i.l = [⟨1, 0, d1, 1, t, -1⟩] ∧ c'.next = 2 := by
  have hv : ValidC c := valid_one hg (.inl hi) (by omega) (by omega)
  have hl : c.g.l.length = 1 := by rw [hg.g]; rfl
  refine ⟨⟨c.clone.g, own (c.i.l ++ [newI c 0 d1 t]), c.next + 1⟩, ?_, ?_, ?_, ?_⟩
  · rw [startP, if_neg (by simp [hv, d1_ne, ht]), if_neg (by rw [hl]; decide), if_neg (by rw [hi, hn]; decide), hn]
  · exact ⟨by simp [clone_gl, hg.g], okCh_clone hg.v, hg.a, hg.b⟩
  · rw [hi, own_l (by simp)]; simp [newI, hn]
  · simp [hn]
theorem change_one {c : Clu} {x : Grp} {y : Ins} (hg : OneG c x) (hi : c.i.l = [y]) (hn : c.next = 2) (hy : SoundI 1 2 y) (hid : y.id = 1) {t : Int} (ht : timeOK t) {to : Int} (hto : to = 2 ∨ to = 3) :
    (may to y.state = true ∧ ∃ c', changeP c 1 t to = (c', 0) ∧ OneG c' x.clone ∧ c'.i.l = [(y.st to).si t] ∧ c'.next = 2) ∨ (may to y.state = false ∧ changeP c 1 t to = (clu0, 30)) := by
  have hv : ValidC c := valid_one hg (.inr ⟨y, hi, hn ▸ hy⟩) (by omega) (by omega)
  have hf : findIx c.i.l 1 = 0 := by rw [hi]; simp [findIx, ixI, hid]
  cases hm : may to y.state with
  | true =>
    refine .inl ⟨rfl, ⟨c.clone.g, own (setI c.i.l 0 to t), c.next⟩, ?_, ?_, ?_, hn⟩
    · rw [changeP, if_neg (by simp [hv, ht]), hf, if_neg (by decide), if_pos (by rw [hi]; simp [hm])]
      rfl
    · exact ⟨by simp [clone_gl, hg.g], okCh_clone hg.v, hg.a, hg.b⟩
    · rw [hi, show setI [y] 0 to t = [(y.st to).si t] from rfl, own_l (by simp)]
  | false =>
    refine .inr ⟨rfl, ?_⟩
    rw [changeP, if_neg (by simp [hv, ht]), hf, if_neg (by decide), if_neg (by rw [hi]; simp [hm])]
/-- a group for the sanity check, one for the law -/
def gA : Grp := ⟨[97], [98], 1, 0, 0, ⟨some true, [d1], by simp, by simp⟩⟩
def gL : Grp := ⟨[97], [98], 1, 0, 0, ⟨none, [], fun _ => rfl, by simp⟩⟩
theorem valid_gA : ValidG gA := ⟨by decide, by decide, by decide, by decide, by decide, by decide, by decide, by decide, by decide, fun i h => by
  have : i = 0 := by simp [gA] at h; exact h
  subst this
  exact ⟨d1_ne, by simp⟩⟩
theorem valid_gL : ValidG gL := ⟨by decide, by decide, by decide, by decide, by decide, by decide, by decide, by decide, by decide, fun i h => by simp [gL] at h⟩
theorem dg_cells : DV.agg (w8 1#8 :: (rep 31 0#8).map w8) = .agg (dgC d1) := rfl
end Go.Proofs.YtjhakjeioppijaaDoor
/-
  The sanity check of chapter 37.
-/
set_option linter.unusedSimpArgs false
set_option linter.unusedVariables false
namespace Go.Proofs.YtjhakjeioppijaaDoor
open Go Go.Am

theorem idx_one {x : Sl Ins} {y : Ins} (h : x.l = [y]) (H : List AObj) : idxSD H 37 (x.dv 37 inC) 0 = some (.ref (inC y)) := by
  have h0 : 0 < x.l.length := by rw [h]; simp
  have := idxSD_dv (h := H) (x := x) len_inC h0
  simp only [h, List.getElem_cons_zero] at this
  exact this
theorem sound_one {st t : Int} (h1 : 1 ≤ st) (h2 : st ≤ 3) (ht : timeOK t) : SoundI 1 2 ⟨1, 0, d1, st, t, -1⟩ := ⟨Int.le_refl _, by show (1 : Int) < 2; decide, Int.le_refl _, by show (0 : Int) < 1; decide, d1_ne, h1, h2, ht, .inl rfl⟩
theorem b0 : buildD [.nils, .nils, .int .i64 0] [(2, 1, .int .i64 1)] = some (.agg [.nils, .nils, .int .i64 1]) := rfl
theorem b1 : buildD (dgC dg0) [(0, 1, w8 1#8)] = some (.agg (dgC d1)) := rfl
theorem b2 : bslD 32 1 (dgC dg0) [(0, 32, .agg (dgC d1))] = some (.sl true 32 1 (dgC d1)) := rfl
set_option maxHeartbeats 2000000 in
theorem runs_awake37 : Runs T116 a17 [] (.bool true) := by
  obtain ⟨c1, e1, g1, i1, n1⟩ := deploy_one valid_gA rfl rfl
  obtain ⟨c2, e2, g2, i2, n2⟩ := start_one g1 i1 n1 (t := 5) (by decide)
  obtain ⟨c3, e3, g3, i3, n3⟩ : ∃ c', changeP c2 1 6 2 = (c', 0) ∧ OneG c' gA.clone.clone.clone ∧ c'.i.l = [⟨1, 0, d1, 2, 6, -1⟩] ∧ c'.next = 2 := by
    rcases change_one g2 i2 n2 (sound_one (by decide) (by decide) (by decide)) rfl (t := 6) (by decide) (to := 2) (.inl rfl) with ⟨_, h⟩ | ⟨h, _⟩
    · exact h
    · simp [may] at h
  have e4 : changeP c3 1 7 2 = (clu0, 30) := by
    rcases change_one g3 i3 n3 (sound_one (by decide) (by decide) (by decide)) rfl (t := 7) (by decide) (to := 2) (.inl rfl) with ⟨h, _⟩ | ⟨_, h⟩
    · simp [may] at h
    · exact h
  have v3 : ValidC c3 := valid_one g3 (.inr ⟨_, i3, by rw [n3]; exact sound_one (by decide) (by decide) (by decide)⟩) (by omega) (by omega)
  have h3 := idx_one i3
  have k1 : findIx c3.i.l 1 = 0 := by rw [i3]; simp [findIx, ixI]
  have k2 : grpIx c3.g.l [97] [98] = 0 := by rw [g3.g]; simp [grpIx, ixI, fitG, g3.a, g3.b]
  have f1 : cDep deployB [.agg [.nils, .nils, .int .i64 1], .agg [.str [97], .str [98], .int .i64 1, .int .i64 0, .int .i64 0, .sl true 32 1 (dgC d1)]] = some (deployB cA gA) := cDep_eq (c := cA) (g := gA)
  have b3 : buildD [.str [], .str [], .int .i64 0, .int .i64 0, .int .i64 0, .nils] [(0, 1, .str [97]), (1, 1, .str [98]), (2, 1, .int .i64 1), (5, 1, .sl true 32 1 (dgC d1))] = some (.agg [.str [97], .str [98], .int .i64 1, .int .i64 0, .int .i64 0, .sl true 32 1 (dgC d1)]) := rfl
  refine ⟨?_⟩
  simp (disch := first | omega | (simp [-List.map_take, -List.map_drop, -List.map_set, -List.map_append, -List.drop_one] <;> omega) | fail) [-List.map_take, -List.map_drop, -List.map_set, -List.map_append, -List.drop_one, a17, T116_d, T116_s, T116_r, T116_v, T116_f, T116_g, b0, b1, b2, b3, f1, cSta_eq, cCii_eq, cC1_eq, cCi_eq, cCSS_eq, deployB, startB, changeB, validCB, grpD, e1, e2, e3, e4, tv_true v3, h3, k1, k2]
noncomputable def cTrue : List DV → Option DV
  | [] => some (.bool true) | _ => none
theorem cTrue_eq : cTrue [] = some (.bool true) := rfl
theorem cTrue_sound {f : Nat} (h : Am.Sem P f [] (.bool true)) : (Con.pure cTrue).Sound P f := by
  intro args v e
  unfold cTrue at e
  split at e
  · simp at e; subst e; exact h
  · simp at e
end Go.Proofs.YtjhakjeioppijaaDoor
/-
  Whether a group, an instance, a cluster is valid: the reference.
-/
set_option linter.unusedSimpArgs false
set_option linter.unusedVariables false
namespace Go.Proofs.YtjhakjeioppijaaDoor
open Go Go.Am

def S120 (x : Sl Dg) (d : Dg) (i : Nat) : St := a63S0 (x.dv 32 dgC) (.mp 0 32 0) (.int .i64 i) [.cells (dgC d)]
theorem runs_refhas (x : Sl Dg) (d : Dg) : Runs tbl0 a63 [x.dv 32 dgC, .agg (dgC d)] (hasB x d) := by
  refine ⟨?_⟩
  have hb := x.b
  simp (disch := first | omega | (simp [-List.map_take, -List.map_drop, -List.map_set, -List.map_append, -List.drop_one] <;> omega) | fail) [-List.map_take, -List.map_drop, -List.map_set, -List.map_append, -List.drop_one, a63]
  refine W_loop (S120 x d) (fun i => x.l.length - i) (fun i => i ≤ x.l.length ∧ ∀ j (hj : j < x.l.length), j < i → ¬ x.l[j] = d) 0 (weak_same (by simp (disch := first | omega | (simp [-List.map_take, -List.map_drop, -List.map_set, -List.map_append, -List.drop_one] <;> omega) | fail) [-List.map_take, -List.map_drop, -List.map_set, -List.map_append, -List.drop_one]) (by simp (disch := first | omega | (simp [-List.map_take, -List.map_drop, -List.map_set, -List.map_append, -List.drop_one] <;> omega) | fail) [-List.map_take, -List.map_drop, -List.map_set, -List.map_append, -List.drop_one])) ⟨by omega, fun j _ hj => by omega⟩ (fun i hi => ?_)
  obtain ⟨h1, h2⟩ := hi
  simp (disch := first | omega | (simp [-List.map_take, -List.map_drop, -List.map_set, -List.map_append, -List.drop_one] <;> omega) | fail) [-List.map_take, -List.map_drop, -List.map_set, -List.map_append, -List.drop_one, a63L0, a63S0, S120]
  by_cases h : i < x.l.length
  · have h' : (i : Int) < x.l.length := by omega
    have hg : ∀ H, idxSD H 32 (x.dv 32 dgC) i = some (.ref (dgC x.l[i])) := fun H => idxSD_dv len_dgC h
    by_cases e : x.l[i] = d
    · have hm : d ∈ x.l := e ▸ List.getElem_mem h
      simp (disch := first | omega | (simp [-List.map_take, -List.map_drop, -List.map_set, -List.map_append, -List.drop_one] <;> omega) | fail) [-List.map_take, -List.map_drop, -List.map_set, -List.map_append, -List.drop_one, h', h, hg, e, hasB, hm]
    · simp (disch := first | omega | (simp [-List.map_take, -List.map_drop, -List.map_set, -List.map_append, -List.drop_one] <;> omega) | fail) [-List.map_take, -List.map_drop, -List.map_set, -List.map_append, -List.drop_one, h', h, hg, e]
      refine ⟨i + 1, weak_same (by simp (disch := first | omega | (simp [-List.map_take, -List.map_drop, -List.map_set, -List.map_append, -List.drop_one] <;> omega) | fail) [-List.map_take, -List.map_drop, -List.map_set, -List.map_append, -List.drop_one]) (by simp (disch := first | omega | (simp [-List.map_take, -List.map_drop, -List.map_set, -List.map_append, -List.drop_one] <;> omega) | fail) [-List.map_take, -List.map_drop, -List.map_set, -List.map_append, -List.drop_one]), by omega, by omega, fun j hj hji => ?_⟩
      by_cases ej : j = i
      · subst ej; exact e
      · exact h2 j hj (by omega)
  · have h' : ¬ (i : Int) < x.l.length := by omega
    have hm : ¬ d ∈ x.l := fun hm => by
      obtain ⟨j, hj, e⟩ := List.getElem_of_mem hm
      exact h2 j hj (by omega) e
    simp (disch := first | omega | (simp [-List.map_take, -List.map_drop, -List.map_set, -List.map_append, -List.drop_one] <;> omega) | fail) [-List.map_take, -List.map_drop, -List.map_set, -List.map_append, -List.drop_one, h, h', hasB, hm]
theorem runs_instant (t : Int) : Runs tbl0 a77 [.int .i64 t] (.bool (tv (timeOK t))) := by
  refine ⟨?_⟩
  by_cases h0 : 0 ≤ t
  · by_cases h1 : t ≤ 1099511627776
    · simp (disch := first | omega | (simp [-List.map_take, -List.map_drop, -List.map_set, -List.map_append, -List.drop_one] <;> omega) | fail) [-List.map_take, -List.map_drop, -List.map_set, -List.map_append, -List.drop_one, a77, h0, h1, tv_true (show timeOK t from ⟨h0, h1⟩)]
    · simp (disch := first | omega | (simp [-List.map_take, -List.map_drop, -List.map_set, -List.map_append, -List.drop_one] <;> omega) | fail) [-List.map_take, -List.map_drop, -List.map_set, -List.map_append, -List.drop_one, a77, h0, h1, tv_false (show ¬ timeOK t from fun h => h1 h.2)]
  · simp (disch := first | omega | (simp [-List.map_take, -List.map_drop, -List.map_set, -List.map_append, -List.drop_one] <;> omega) | fail) [-List.map_take, -List.map_drop, -List.map_set, -List.map_append, -List.drop_one, a77, h0, tv_false (show ¬ timeOK t from fun h => h0 h.1)]
noncomputable def T120 : Tbl := addT 62 (.pure (cS pathB)) (addT 63 (.pure (cDgs hasB)) (addT 77 (.pure cTm) tbl0))
theorem T120_p : T120 62 = .pure (cS pathB) := by simp [T120]
theorem T120_h : T120 63 = .pure (cDgs hasB) := by simp [T120]
theorem T120_t : T120 77 = .pure cTm := by simp [T120]
theorem T120_sound : T120.Sound P := addT_sound (cS_sound fun s => sem_runs mix T73_sound Tryd.func62 a62_ok (runs_refpath s)) (addT_sound (con_sound fun p _ => sem_runs mix tbl0_sound Tryd.func63 a63_ok (runs_refhas p.1 p.2)) (addT_sound (cTm_sound fun t => sem_runs mix tbl0_sound Tryd.func77 a77_ok (runs_instant t)) tbl0_sound))
def S121 (c : Clu) (ns im : List UInt8) (i : Nat) : St := a23S0 (.str ns) (.str im) (.mp 0 3 0) (.int .i64 i) [.cells (clC c)]
theorem runs_refgroup (c : Clu) (ns im : List UInt8) : Runs tbl0 a23 [.agg (clC c), .str ns, .str im] (grpD c ns im) := by
  refine ⟨?_⟩
  have hb := c.g.b
  simp (disch := first | omega | (simp [-List.map_take, -List.map_drop, -List.map_set, -List.map_append, -List.drop_one] <;> omega) | fail) [-List.map_take, -List.map_drop, -List.map_set, -List.map_append, -List.drop_one, a23]
  refine W_loop (S121 c ns im) (fun i => c.g.l.length - i) (fun i => i ≤ c.g.l.length ∧ ∀ j (hj : j < c.g.l.length), j < i → fitG ns im c.g.l[j] = false) 0 (weak_same (by simp (disch := first | omega | (simp [-List.map_take, -List.map_drop, -List.map_set, -List.map_append, -List.drop_one] <;> omega) | fail) [-List.map_take, -List.map_drop, -List.map_set, -List.map_append, -List.drop_one]) (by simp (disch := first | omega | (simp [-List.map_take, -List.map_drop, -List.map_set, -List.map_append, -List.drop_one] <;> omega) | fail) [-List.map_take, -List.map_drop, -List.map_set, -List.map_append, -List.drop_one])) ⟨by omega, fun j _ hj => by omega⟩ (fun i hi => ?_)
  obtain ⟨h1, h2⟩ := hi
  simp (disch := first | omega | (simp [-List.map_take, -List.map_drop, -List.map_set, -List.map_append, -List.drop_one] <;> omega) | fail) [-List.map_take, -List.map_drop, -List.map_set, -List.map_append, -List.drop_one, a23L0, a23S0, S121]
  by_cases h : i < c.g.l.length
  · have h' : (i : Int) < c.g.l.length := by omega
    have hg : ∀ H, idxSD H 6 (c.g.dv 6 grC) i = some (.ref (grC c.g.l[i])) := fun H => idxSD_dv len_grC h
    by_cases e1 : c.g.l[i].ns = ns
    · by_cases e2 : c.g.l[i].im = im
      · have hr : grpIx c.g.l ns im = i := ixI_at h (by simp [fitG, e1, e2]) h2
        simp (disch := first | omega | (simp [-List.map_take, -List.map_drop, -List.map_set, -List.map_append, -List.drop_one] <;> omega) | fail) [-List.map_take, -List.map_drop, -List.map_set, -List.map_append, -List.drop_one, h', h, hg, e1, e2, grpD, hr]
      · simp (disch := first | omega | (simp [-List.map_take, -List.map_drop, -List.map_set, -List.map_append, -List.drop_one] <;> omega) | fail) [-List.map_take, -List.map_drop, -List.map_set, -List.map_append, -List.drop_one, h', h, hg, e1, e2]
        refine ⟨i + 1, weak_same (by simp (disch := first | omega | (simp [-List.map_take, -List.map_drop, -List.map_set, -List.map_append, -List.drop_one] <;> omega) | fail) [-List.map_take, -List.map_drop, -List.map_set, -List.map_append, -List.drop_one]) (by simp (disch := first | omega | (simp [-List.map_take, -List.map_drop, -List.map_set, -List.map_append, -List.drop_one] <;> omega) | fail) [-List.map_take, -List.map_drop, -List.map_set, -List.map_append, -List.drop_one]), by omega, by omega, fun j hj hji => ?_⟩
        by_cases ej : j = i
        · subst ej; simp [fitG, e2]
        · exact h2 j hj (by omega)
    · simp (disch := first | omega | (simp [-List.map_take, -List.map_drop, -List.map_set, -List.map_append, -List.drop_one] <;> omega) | fail) [-List.map_take, -List.map_drop, -List.map_set, -List.map_append, -List.drop_one, h', h, hg, e1]
      refine ⟨i + 1, weak_same (by simp (disch := first | omega | (simp [-List.map_take, -List.map_drop, -List.map_set, -List.map_append, -List.drop_one] <;> omega) | fail) [-List.map_take, -List.map_drop, -List.map_set, -List.map_append, -List.drop_one]) (by simp (disch := first | omega | (simp [-List.map_take, -List.map_drop, -List.map_set, -List.map_append, -List.drop_one] <;> omega) | fail) [-List.map_take, -List.map_drop, -List.map_set, -List.map_append, -List.drop_one]), by omega, by omega, fun j hj hji => ?_⟩
      by_cases ej : j = i
      · subst ej; simp [fitG, e1]
      · exact h2 j hj (by omega)
  · have h' : ¬ (i : Int) < c.g.l.length := by omega
    have hr : grpIx c.g.l ns im = -1 := ixI_none (fun j hj => h2 j hj (by omega))
    simp (disch := first | omega | (simp [-List.map_take, -List.map_drop, -List.map_set, -List.map_append, -List.drop_one] <;> omega) | fail) [-List.map_take, -List.map_drop, -List.map_set, -List.map_append, -List.drop_one, h, h', grpD, hr]
def S122 (c : Clu) (id : Int) (i : Nat) : St := a25S0 (.int .i64 id) (.mp 0 3 0) (.int .i64 i) [.cells (clC c)]
theorem runs_reffind (c : Clu) (id : Int) : Runs tbl0 a25 [.agg (clC c), .int .i64 id] (.int .i64 (findIx c.i.l id)) := by
  refine ⟨?_⟩
  have hb := c.i.b
  simp (disch := first | omega | (simp [-List.map_take, -List.map_drop, -List.map_set, -List.map_append, -List.drop_one] <;> omega) | fail) [-List.map_take, -List.map_drop, -List.map_set, -List.map_append, -List.drop_one, a25]
  refine W_loop (S122 c id) (fun i => c.i.l.length - i) (fun i => i ≤ c.i.l.length ∧ ∀ j (hj : j < c.i.l.length), j < i → decide (c.i.l[j].id = id) = false) 0 (weak_same (by simp (disch := first | omega | (simp [-List.map_take, -List.map_drop, -List.map_set, -List.map_append, -List.drop_one] <;> omega) | fail) [-List.map_take, -List.map_drop, -List.map_set, -List.map_append, -List.drop_one]) (by simp (disch := first | omega | (simp [-List.map_take, -List.map_drop, -List.map_set, -List.map_append, -List.drop_one] <;> omega) | fail) [-List.map_take, -List.map_drop, -List.map_set, -List.map_append, -List.drop_one])) ⟨by omega, fun j _ hj => by omega⟩ (fun i hi => ?_)
  obtain ⟨h1, h2⟩ := hi
  simp (disch := first | omega | (simp [-List.map_take, -List.map_drop, -List.map_set, -List.map_append, -List.drop_one] <;> omega) | fail) [-List.map_take, -List.map_drop, -List.map_set, -List.map_append, -List.drop_one, a25L0, a25S0, S122]
  by_cases h : i < c.i.l.length
  · have h' : (i : Int) < c.i.l.length := by omega
    have hg : ∀ H, idxSD H 37 (c.i.dv 37 inC) i = some (.ref (inC c.i.l[i])) := fun H => idxSD_dv len_inC h
    by_cases e : c.i.l[i].id = id
    · have hr : findIx c.i.l id = i := ixI_at h (by simp [e]) h2
      simp (disch := first | omega | (simp [-List.map_take, -List.map_drop, -List.map_set, -List.map_append, -List.drop_one] <;> omega) | fail) [-List.map_take, -List.map_drop, -List.map_set, -List.map_append, -List.drop_one, h', h, hg, e, hr]
    · simp (disch := first | omega | (simp [-List.map_take, -List.map_drop, -List.map_set, -List.map_append, -List.drop_one] <;> omega) | fail) [-List.map_take, -List.map_drop, -List.map_set, -List.map_append, -List.drop_one, h', h, hg, e]
      refine ⟨i + 1, weak_same (by simp (disch := first | omega | (simp [-List.map_take, -List.map_drop, -List.map_set, -List.map_append, -List.drop_one] <;> omega) | fail) [-List.map_take, -List.map_drop, -List.map_set, -List.map_append, -List.drop_one]) (by simp (disch := first | omega | (simp [-List.map_take, -List.map_drop, -List.map_set, -List.map_append, -List.drop_one] <;> omega) | fail) [-List.map_take, -List.map_drop, -List.map_set, -List.map_append, -List.drop_one]), by omega, by omega, fun j hj hji => ?_⟩
      by_cases ej : j = i
      · subst ej; exact e
      · simpa using h2 j hj (by omega)
  · have h' : ¬ (i : Int) < c.i.l.length := by omega
    have hr : findIx c.i.l id = -1 := ixI_none (fun j hj => h2 j hj (by omega))
    simp (disch := first | omega | (simp [-List.map_take, -List.map_drop, -List.map_set, -List.map_append, -List.drop_one] <;> omega) | fail) [-List.map_take, -List.map_drop, -List.map_set, -List.map_append, -List.drop_one, h, h', hr]
set_option maxHeartbeats 1000000 in
theorem runs_refinstance (c : Clu) (x : Ins) : Runs T120 a65 [.agg (clC c), .agg (inC x)] (soundB c x) := by
  refine ⟨?_⟩
  by_cases k0 : 1 ≤ x.id
  case neg =>
    have hn : ¬ SoundI c.g.l.length c.next x := fun h => k0 h.id0
    simp (disch := first | omega | (simp [-List.map_take, -List.map_drop, -List.map_set, -List.map_append, -List.drop_one] <;> omega) | fail) [-List.map_take, -List.map_drop, -List.map_set, -List.map_append, -List.drop_one, a65, T120_t, cTm_eq, soundB, tv_false hn, k0]
  by_cases k1 : x.id < c.next
  case neg =>
    have hn : ¬ SoundI c.g.l.length c.next x := fun h => k1 h.id1
    simp (disch := first | omega | (simp [-List.map_take, -List.map_drop, -List.map_set, -List.map_append, -List.drop_one] <;> omega) | fail) [-List.map_take, -List.map_drop, -List.map_set, -List.map_append, -List.drop_one, a65, T120_t, cTm_eq, soundB, tv_false hn, k0, k1]
  by_cases k2 : 0 ≤ x.grp
  case neg =>
    have hn : ¬ SoundI c.g.l.length c.next x := fun h => k2 h.g0
    simp (disch := first | omega | (simp [-List.map_take, -List.map_drop, -List.map_set, -List.map_append, -List.drop_one] <;> omega) | fail) [-List.map_take, -List.map_drop, -List.map_set, -List.map_append, -List.drop_one, a65, T120_t, cTm_eq, soundB, tv_false hn, k0, k1, k2]
  by_cases k3 : x.grp < c.g.l.length
  case neg =>
    have hn : ¬ SoundI c.g.l.length c.next x := fun h => k3 h.g1
    simp (disch := first | omega | (simp [-List.map_take, -List.map_drop, -List.map_set, -List.map_append, -List.drop_one] <;> omega) | fail) [-List.map_take, -List.map_drop, -List.map_set, -List.map_append, -List.drop_one, a65, T120_t, cTm_eq, soundB, tv_false hn, k0, k1, k2, k3]
  by_cases k4 : ¬ x.art = dg0
  case neg =>
    have k4 : x.art = dg0 := Classical.not_not.1 k4
    have hn : ¬ SoundI c.g.l.length c.next x := fun h => h.art k4
    simp (disch := first | omega | (simp [-List.map_take, -List.map_drop, -List.map_set, -List.map_append, -List.drop_one] <;> omega) | fail) [-List.map_take, -List.map_drop, -List.map_set, -List.map_append, -List.drop_one, a65, T120_t, cTm_eq, soundB, tv_false hn, k0, k1, k2, k3, k4]
  by_cases k5 : 1 ≤ x.state
  case neg =>
    have hn : ¬ SoundI c.g.l.length c.next x := fun h => k5 h.s0
    simp (disch := first | omega | (simp [-List.map_take, -List.map_drop, -List.map_set, -List.map_append, -List.drop_one] <;> omega) | fail) [-List.map_take, -List.map_drop, -List.map_set, -List.map_append, -List.drop_one, a65, T120_t, cTm_eq, soundB, tv_false hn, k0, k1, k2, k3, k4, k5]
  by_cases k6 : x.state ≤ 3
  case neg =>
    have hn : ¬ SoundI c.g.l.length c.next x := fun h => k6 h.s1
    simp (disch := first | omega | (simp [-List.map_take, -List.map_drop, -List.map_set, -List.map_append, -List.drop_one] <;> omega) | fail) [-List.map_take, -List.map_drop, -List.map_set, -List.map_append, -List.drop_one, a65, T120_t, cTm_eq, soundB, tv_false hn, k0, k1, k2, k3, k4, k5, k6]
  by_cases k7 : timeOK x.since
  case neg =>
    have hn : ¬ SoundI c.g.l.length c.next x := fun h => k7 h.si
    simp (disch := first | omega | (simp [-List.map_take, -List.map_drop, -List.map_set, -List.map_append, -List.drop_one] <;> omega) | fail) [-List.map_take, -List.map_drop, -List.map_set, -List.map_append, -List.drop_one, a65, T120_t, cTm_eq, soundB, tv_false hn, k0, k1, k2, k3, k4, k5, k6, tv_false k7]
  by_cases k8 : -1 ≤ x.den
  case neg =>
    have hn : ¬ SoundI c.g.l.length c.next x := fun h => by rcases h.de with h | h <;> omega
    simp (disch := first | omega | (simp [-List.map_take, -List.map_drop, -List.map_set, -List.map_append, -List.drop_one] <;> omega) | fail) [-List.map_take, -List.map_drop, -List.map_set, -List.map_append, -List.drop_one, a65, T120_t, cTm_eq, soundB, tv_false hn, k0, k1, k2, k3, k4, k5, k6, tv_true k7, k8]
  by_cases k9 : x.den ≤ 1099511627776
  · have hy : SoundI c.g.l.length c.next x := ⟨k0, k1, k2, k3, k4, k5, k6, k7, by
      by_cases h : x.den = -1
      · exact .inl h
      · exact .inr ⟨by omega, k9⟩⟩
    simp (disch := first | omega | (simp [-List.map_take, -List.map_drop, -List.map_set, -List.map_append, -List.drop_one] <;> omega) | fail) [-List.map_take, -List.map_drop, -List.map_set, -List.map_append, -List.drop_one, a65, T120_t, cTm_eq, soundB, tv_true hy, k0, k1, k2, k3, k4, k5, k6, tv_true k7, k8, k9]
  · have hn : ¬ SoundI c.g.l.length c.next x := fun h => by rcases h.de with h | h <;> omega
    simp (disch := first | omega | (simp [-List.map_take, -List.map_drop, -List.map_set, -List.map_append, -List.drop_one] <;> omega) | fail) [-List.map_take, -List.map_drop, -List.map_set, -List.map_append, -List.drop_one, a65, T120_t, cTm_eq, soundB, tv_false hn, k0, k1, k2, k3, k4, k5, k6, tv_true k7, k8, k9]
def S123 (g : Grp) (i : Nat) : St := a19S0 (.mp 0 6 0) (.int .i64 i) [.cells (grC g)]
set_option maxHeartbeats 1000000 in
theorem runs_refvalidgroup (g : Grp) : Runs T120 a19 [.agg (grC g)] (validGB g) := by
  refine ⟨?_⟩
  have hb := g.ch.b
  by_cases k0 : pathD g.ns = true
  case neg =>
    have hn : ¬ ValidG g := fun h => k0 h.ns
    have k0 : pathD g.ns = false := by simpa using k0
    simp (disch := first | omega | (simp [-List.map_take, -List.map_drop, -List.map_set, -List.map_append, -List.drop_one] <;> omega) | fail) [-List.map_take, -List.map_drop, -List.map_set, -List.map_append, -List.drop_one, a19, T120_p, cS_eq, pathB, validGB, tv_false hn, k0]
  by_cases k1 : pathD g.im = true
  case neg =>
    have hn : ¬ ValidG g := fun h => k1 h.im
    have k1 : pathD g.im = false := by simpa using k1
    simp (disch := first | omega | (simp [-List.map_take, -List.map_drop, -List.map_set, -List.map_append, -List.drop_one] <;> omega) | fail) [-List.map_take, -List.map_drop, -List.map_set, -List.map_append, -List.drop_one, a19, T120_p, cS_eq, pathB, validGB, tv_false hn, k0, k1]
  by_cases k2 : 0 ≤ g.want
  case neg =>
    have hn : ¬ ValidG g := fun h => k2 h.w0
    have k2' : g.want < 0 := by omega
    simp (disch := first | omega | (simp [-List.map_take, -List.map_drop, -List.map_set, -List.map_append, -List.drop_one] <;> omega) | fail) [-List.map_take, -List.map_drop, -List.map_set, -List.map_append, -List.drop_one, a19, T120_p, cS_eq, pathB, validGB, tv_false hn, k0, k1, k2, k2']
  have k2' : ¬ g.want < 0 := by omega
  by_cases k3 : g.want ≤ 8
  case neg =>
    have hn : ¬ ValidG g := fun h => k3 h.w1
    have k3' : 8 < g.want := by omega
    simp (disch := first | omega | (simp [-List.map_take, -List.map_drop, -List.map_set, -List.map_append, -List.drop_one] <;> omega) | fail) [-List.map_take, -List.map_drop, -List.map_set, -List.map_append, -List.drop_one, a19, T120_p, cS_eq, pathB, validGB, tv_false hn, k0, k1, k2, k2', k3, k3']
  have k3' : ¬ 8 < g.want := by omega
  by_cases k4 : 0 ≤ g.least
  case neg =>
    have hn : ¬ ValidG g := fun h => k4 h.l0
    have k4' : g.least < 0 := by omega
    simp (disch := first | omega | (simp [-List.map_take, -List.map_drop, -List.map_set, -List.map_append, -List.drop_one] <;> omega) | fail) [-List.map_take, -List.map_drop, -List.map_set, -List.map_append, -List.drop_one, a19, T120_p, cS_eq, pathB, validGB, tv_false hn, k0, k1, k2, k2', k3, k3', k4, k4']
  have k4' : ¬ g.least < 0 := by omega
  by_cases k5 : g.least ≤ g.want
  case neg =>
    have hn : ¬ ValidG g := fun h => k5 h.l1
    have k5' : g.want < g.least := by omega
    simp (disch := first | omega | (simp [-List.map_take, -List.map_drop, -List.map_set, -List.map_append, -List.drop_one] <;> omega) | fail) [-List.map_take, -List.map_drop, -List.map_set, -List.map_append, -List.drop_one, a19, T120_p, cS_eq, pathB, validGB, tv_false hn, k0, k1, k2, k2', k3, k3', k4, k4', k5, k5']
  have k5' : ¬ g.want < g.least := by omega
  by_cases k6 : 0 ≤ g.down
  case neg =>
    have hn : ¬ ValidG g := fun h => k6 h.d0
    have k6' : g.down < 0 := by omega
    simp (disch := first | omega | (simp [-List.map_take, -List.map_drop, -List.map_set, -List.map_append, -List.drop_one] <;> omega) | fail) [-List.map_take, -List.map_drop, -List.map_set, -List.map_append, -List.drop_one, a19, T120_p, cS_eq, pathB, validGB, tv_false hn, k0, k1, k2, k2', k3, k3', k4, k4', k5, k5', k6, k6']
  have k6' : ¬ g.down < 0 := by omega
  by_cases k7 : g.down ≤ g.want
  case neg =>
    have hn : ¬ ValidG g := fun h => k7 h.d1
    have k7' : g.want < g.down := by omega
    simp (disch := first | omega | (simp [-List.map_take, -List.map_drop, -List.map_set, -List.map_append, -List.drop_one] <;> omega) | fail) [-List.map_take, -List.map_drop, -List.map_set, -List.map_append, -List.drop_one, a19, T120_p, cS_eq, pathB, validGB, tv_false hn, k0, k1, k2, k2', k3, k3', k4, k4', k5, k5', k6, k6', k7, k7']
  have k7' : ¬ g.want < g.down := by omega
  by_cases k8 : g.ch.l.length ≤ 6
  case neg =>
    have hn : ¬ ValidG g := fun h => k8 h.n
    have k8' : ¬ (g.ch.l.length : Int) ≤ 6 := by omega
    have k8'' : (6 : Int) < g.ch.l.length := by omega
    simp (disch := first | omega | (simp [-List.map_take, -List.map_drop, -List.map_set, -List.map_append, -List.drop_one] <;> omega) | fail) [-List.map_take, -List.map_drop, -List.map_set, -List.map_append, -List.drop_one, a19, T120_p, cS_eq, pathB, validGB, tv_false hn, k0, k1, k2, k2', k3, k3', k4, k4', k5, k5', k6, k6', k7, k7', k8, k8', k8'']
  have k8' : (g.ch.l.length : Int) ≤ 6 := by omega
  have k8'' : ¬ (6 : Int) < g.ch.l.length := by omega
  simp (disch := first | omega | (simp [-List.map_take, -List.map_drop, -List.map_set, -List.map_append, -List.drop_one] <;> omega) | fail) [-List.map_take, -List.map_drop, -List.map_set, -List.map_append, -List.drop_one, a19, T120_p, cS_eq, pathB, k0, k1, k2, k2', k3, k3', k4, k4', k5, k5', k6, k6', k7, k7', k8, k8', k8'']
  refine W_loop (S123 g) (fun i => g.ch.l.length - i) (fun i => i ≤ g.ch.l.length ∧ ∀ j (hj : j < g.ch.l.length), j < i → g.ch.l[j] ≠ dg0 ∧ g.ch.l[j] ∉ g.ch.l.take j) 0 (weak_same (by simp (disch := first | omega | (simp [-List.map_take, -List.map_drop, -List.map_set, -List.map_append, -List.drop_one] <;> omega) | fail) [-List.map_take, -List.map_drop, -List.map_set, -List.map_append, -List.drop_one]) (by simp (disch := first | omega | (simp [-List.map_take, -List.map_drop, -List.map_set, -List.map_append, -List.drop_one] <;> omega) | fail) [-List.map_take, -List.map_drop, -List.map_set, -List.map_append, -List.drop_one])) ⟨by omega, fun j _ hj => by omega⟩ (fun i hi => ?_)
  obtain ⟨h1, h2⟩ := hi
  simp (disch := first | omega | (simp [-List.map_take, -List.map_drop, -List.map_set, -List.map_append, -List.drop_one] <;> omega) | fail) [-List.map_take, -List.map_drop, -List.map_set, -List.map_append, -List.drop_one, a19L0, a19S0, S123]
  by_cases h : i < g.ch.l.length
  · have h' : (i : Int) < g.ch.l.length := by omega
    have hg : ∀ H, idxSD H 32 (g.ch.dv 32 dgC) i = some (.ref (dgC g.ch.l[i])) := fun H => idxSD_dv len_dgC h
    have hsl : ∀ H, slcSD H 32 (g.ch.dv 32 dgC) none (some (.int .i64 i)) none = some ((g.ch.part 0 i (i == g.ch.l.length)).dv 32 dgC) := fun H => slc_dv len_dgC (by omega)
    by_cases e : g.ch.l[i] = dg0
    · have hn : ¬ ValidG g := fun hv => (hv.ch i h).1 e
      simp (disch := first | omega | (simp [-List.map_take, -List.map_drop, -List.map_set, -List.map_append, -List.drop_one] <;> omega) | fail) [-List.map_take, -List.map_drop, -List.map_set, -List.map_append, -List.drop_one, h', h, hg, e, validGB, tv_false hn]
    · by_cases e2 : g.ch.l[i] ∈ g.ch.l.take i
      · have hn : ¬ ValidG g := fun hv => (hv.ch i h).2 e2
        simp (disch := first | omega | (simp [-List.map_take, -List.map_drop, -List.map_set, -List.map_append, -List.drop_one] <;> omega) | fail) [-List.map_take, -List.map_drop, -List.map_set, -List.map_append, -List.drop_one, h', h, hg, hsl, e, T120_h, cDgs_eq, hasB, part_l, e2, validGB, tv_false hn]
      · simp (disch := first | omega | (simp [-List.map_take, -List.map_drop, -List.map_set, -List.map_append, -List.drop_one] <;> omega) | fail) [-List.map_take, -List.map_drop, -List.map_set, -List.map_append, -List.drop_one, h', h, hg, hsl, e, T120_h, cDgs_eq, hasB, part_l, e2]
        refine ⟨i + 1, weak_same (by simp (disch := first | omega | (simp [-List.map_take, -List.map_drop, -List.map_set, -List.map_append, -List.drop_one] <;> omega) | fail) [-List.map_take, -List.map_drop, -List.map_set, -List.map_append, -List.drop_one]) (by simp (disch := first | omega | (simp [-List.map_take, -List.map_drop, -List.map_set, -List.map_append, -List.drop_one] <;> omega) | fail) [-List.map_take, -List.map_drop, -List.map_set, -List.map_append, -List.drop_one]), by omega, by omega, fun j hj hji => ?_⟩
        by_cases ej : j = i
        · subst ej; exact ⟨e, e2⟩
        · exact h2 j hj (by omega)
  · have h' : ¬ (i : Int) < g.ch.l.length := by omega
    have hy : ValidG g := ⟨k0, k1, k2, k3, k4, k5, k6, k7, k8, fun j hj => h2 j hj (by omega)⟩
    simp (disch := first | omega | (simp [-List.map_take, -List.map_drop, -List.map_set, -List.map_append, -List.drop_one] <;> omega) | fail) [-List.map_take, -List.map_drop, -List.map_set, -List.map_append, -List.drop_one, h, h', validGB, tv_true hy]
noncomputable def T121 : Tbl := addT 19 (.pure (cG1 validGB)) (addT 23 (.pure (cCSS grpD)) (addT 65 (.pure (cCI soundB)) tbl0))
theorem T121_v : T121 19 = .pure (cG1 validGB) := by simp [T121]
theorem T121_g : T121 23 = .pure (cCSS grpD) := by simp [T121]
theorem T121_s : T121 65 = .pure (cCI soundB) := by simp [T121]
theorem T121_sound : T121.Sound P := addT_sound (con_sound fun x _ => sem_runs mix T120_sound Tryd.func19 a19_ok (runs_refvalidgroup x)) (addT_sound (con_sound fun x _ => sem_runs mix tbl0_sound Tryd.func23 a23_ok (runs_refgroup x.1 x.2.1 x.2.2)) (addT_sound (con_sound fun x _ => sem_runs mix T120_sound Tryd.func65 a65_ok (runs_refinstance x.1 x.2)) tbl0_sound))
def S124 (c : Clu) (i : Nat) : St := a21S0 (.mp 0 3 0) (.int .i64 i) [.cells (clC c)]
def S125 (c : Clu) (i : Nat) : St := a21S1 (.mp 0 3 0) (.int .i64 i) [.cells (clC c)]
set_option maxHeartbeats 2000000 in
theorem runs_refvalid (c : Clu) : Runs T121 a21 [.agg (clC c)] (validCB c) := by
  refine ⟨?_⟩
  have hbg := c.g.b
  have hbi := c.i.b
  by_cases k0 : (16 : Int) < c.g.l.length
  · have hn : ¬ ValidC c := fun h => by have := h.ng; omega
    simp (disch := first | omega | (simp [-List.map_take, -List.map_drop, -List.map_set, -List.map_append, -List.drop_one] <;> omega) | fail) [-List.map_take, -List.map_drop, -List.map_set, -List.map_append, -List.drop_one, a21, k0, validCB, tv_false hn]
  by_cases k1 : (200 : Int) < c.i.l.length
  · have hn : ¬ ValidC c := fun h => by have := h.ni; omega
    simp (disch := first | omega | (simp [-List.map_take, -List.map_drop, -List.map_set, -List.map_append, -List.drop_one] <;> omega) | fail) [-List.map_take, -List.map_drop, -List.map_set, -List.map_append, -List.drop_one, a21, k0, k1, validCB, tv_false hn]
  by_cases k2 : c.next < 1
  · have hn : ¬ ValidC c := fun h => by have := h.n0; omega
    simp (disch := first | omega | (simp [-List.map_take, -List.map_drop, -List.map_set, -List.map_append, -List.drop_one] <;> omega) | fail) [-List.map_take, -List.map_drop, -List.map_set, -List.map_append, -List.drop_one, a21, k0, k1, k2, validCB, tv_false hn]
  by_cases k3 : 1099511627776 < c.next
  · have hn : ¬ ValidC c := fun h => by have := h.n1; omega
    simp (disch := first | omega | (simp [-List.map_take, -List.map_drop, -List.map_set, -List.map_append, -List.drop_one] <;> omega) | fail) [-List.map_take, -List.map_drop, -List.map_set, -List.map_append, -List.drop_one, a21, k0, k1, k2, k3, validCB, tv_false hn]
  simp (disch := first | omega | (simp [-List.map_take, -List.map_drop, -List.map_set, -List.map_append, -List.drop_one] <;> omega) | fail) [-List.map_take, -List.map_drop, -List.map_set, -List.map_append, -List.drop_one, a21, k0, k1, k2, k3]
  refine W_loop (S124 c) (fun i => c.g.l.length - i) (fun i => i ≤ c.g.l.length ∧ ∀ j (hj : j < c.g.l.length), j < i → ValidG c.g.l[j] ∧ grpIx c.g.l c.g.l[j].ns c.g.l[j].im = j) 0 (weak_same (by simp (disch := first | omega | (simp [-List.map_take, -List.map_drop, -List.map_set, -List.map_append, -List.drop_one] <;> omega) | fail) [-List.map_take, -List.map_drop, -List.map_set, -List.map_append, -List.drop_one]) (by simp (disch := first | omega | (simp [-List.map_take, -List.map_drop, -List.map_set, -List.map_append, -List.drop_one] <;> omega) | fail) [-List.map_take, -List.map_drop, -List.map_set, -List.map_append, -List.drop_one])) ⟨by omega, fun j _ hj => by omega⟩ (fun i hi => ?_)
  obtain ⟨h1, h2⟩ := hi
  simp (disch := first | omega | (simp [-List.map_take, -List.map_drop, -List.map_set, -List.map_append, -List.drop_one] <;> omega) | fail) [-List.map_take, -List.map_drop, -List.map_set, -List.map_append, -List.drop_one, a21L0, a21S0, S124]
  by_cases h : i < c.g.l.length
  · have h' : (i : Int) < c.g.l.length := by omega
    have hg : ∀ H, idxSD H 6 (c.g.dv 6 grC) i = some (.ref (grC c.g.l[i])) := fun H => idxSD_dv len_grC h
    by_cases e : ValidG c.g.l[i]
    · by_cases e2 : grpIx c.g.l c.g.l[i].ns c.g.l[i].im = i
      · simp (disch := first | omega | (simp [-List.map_take, -List.map_drop, -List.map_set, -List.map_append, -List.drop_one] <;> omega) | fail) [-List.map_take, -List.map_drop, -List.map_set, -List.map_append, -List.drop_one, h', h, hg, T121_v, cG1_eq, validGB, tv_true e, T121_g, cCSS_eq, grpD, e2]
        refine ⟨i + 1, weak_same (by simp (disch := first | omega | (simp [-List.map_take, -List.map_drop, -List.map_set, -List.map_append, -List.drop_one] <;> omega) | fail) [-List.map_take, -List.map_drop, -List.map_set, -List.map_append, -List.drop_one]) (by simp (disch := first | omega | (simp [-List.map_take, -List.map_drop, -List.map_set, -List.map_append, -List.drop_one] <;> omega) | fail) [-List.map_take, -List.map_drop, -List.map_set, -List.map_append, -List.drop_one]), by omega, by omega, fun j hj hji => ?_⟩
        by_cases ej : j = i
        · subst ej; exact ⟨e, e2⟩
        · exact h2 j hj (by omega)
      · have hn : ¬ ValidC c := fun hv => e2 (hv.g i h).2
        simp (disch := first | omega | (simp [-List.map_take, -List.map_drop, -List.map_set, -List.map_append, -List.drop_one] <;> omega) | fail) [-List.map_take, -List.map_drop, -List.map_set, -List.map_append, -List.drop_one, h', h, hg, T121_v, cG1_eq, validGB, tv_true e, T121_g, cCSS_eq, grpD, e2, validCB, tv_false hn]
    · have hn : ¬ ValidC c := fun hv => e (hv.g i h).1
      simp (disch := first | omega | (simp [-List.map_take, -List.map_drop, -List.map_set, -List.map_append, -List.drop_one] <;> omega) | fail) [-List.map_take, -List.map_drop, -List.map_set, -List.map_append, -List.drop_one, h', h, hg, T121_v, cG1_eq, validGB, tv_false e, validCB, tv_false hn]
  have h' : ¬ (i : Int) < c.g.l.length := by omega
  have hG : ∀ j (hj : j < c.g.l.length), ValidG c.g.l[j] ∧ grpIx c.g.l c.g.l[j].ns c.g.l[j].im = j := fun j hj => h2 j hj (by omega)
  simp (disch := first | omega | (simp [-List.map_take, -List.map_drop, -List.map_set, -List.map_append, -List.drop_one] <;> omega) | fail) [-List.map_take, -List.map_drop, -List.map_set, -List.map_append, -List.drop_one, h, h']
  refine W_loop (S125 c) (fun i => c.i.l.length - i) (fun i => i ≤ c.i.l.length ∧ ∀ j (hj : j < c.i.l.length), j < i → SoundI c.g.l.length c.next c.i.l[j] ∧ (∀ h0 : 0 < j, c.i.l[j - 1].id < c.i.l[j].id)) 0 (weak_same (by simp (disch := first | omega | (simp [-List.map_take, -List.map_drop, -List.map_set, -List.map_append, -List.drop_one] <;> omega) | fail) [-List.map_take, -List.map_drop, -List.map_set, -List.map_append, -List.drop_one]) (by simp (disch := first | omega | (simp [-List.map_take, -List.map_drop, -List.map_set, -List.map_append, -List.drop_one] <;> omega) | fail) [-List.map_take, -List.map_drop, -List.map_set, -List.map_append, -List.drop_one])) ⟨by omega, fun j _ hj => by omega⟩ (fun i hi => ?_)
  obtain ⟨h1, h2⟩ := hi
  simp (disch := first | omega | (simp [-List.map_take, -List.map_drop, -List.map_set, -List.map_append, -List.drop_one] <;> omega) | fail) [-List.map_take, -List.map_drop, -List.map_set, -List.map_append, -List.drop_one, a21L1, a21S1, S125]
  by_cases h : i < c.i.l.length
  · have h' : (i : Int) < c.i.l.length := by omega
    have hg : ∀ H, idxSD H 37 (c.i.dv 37 inC) i = some (.ref (inC c.i.l[i])) := fun H => idxSD_dv len_inC h
    by_cases e : SoundI c.g.l.length c.next c.i.l[i]
    · by_cases e0 : i = 0
      · have e0' : ¬ (0 : Int) < i := by omega
        have e0'' : ¬ 0 < i := by omega
        simp (disch := first | omega | (simp [-List.map_take, -List.map_drop, -List.map_set, -List.map_append, -List.drop_one] <;> omega) | fail) [-List.map_take, -List.map_drop, -List.map_set, -List.map_append, -List.drop_one, h', h, hg, T121_s, cCI_eq, soundB, tv_true e, e0', e0'']
        refine ⟨i + 1, weak_same (by simp (disch := first | omega | (simp [-List.map_take, -List.map_drop, -List.map_set, -List.map_append, -List.drop_one] <;> omega) | fail) [-List.map_take, -List.map_drop, -List.map_set, -List.map_append, -List.drop_one]) (by simp (disch := first | omega | (simp [-List.map_take, -List.map_drop, -List.map_set, -List.map_append, -List.drop_one] <;> omega) | fail) [-List.map_take, -List.map_drop, -List.map_set, -List.map_append, -List.drop_one]), by omega, by omega, fun j hj hji => ?_⟩
        obtain rfl : j = i := by omega
        exact ⟨e, fun h0 => by omega⟩
      · have e0' : (0 : Int) < i := by omega
        have e0'' : 0 < i := by omega
        have em : (i : Int) - 1 = (i - 1 : Nat) := by omega
        have hg2 : ∀ H, idxSD H 37 (c.i.dv 37 inC) ((i - 1 : Nat) : Int) = some (.ref (inC c.i.l[i - 1])) := fun H => idxSD_dv len_inC (by omega)
        by_cases e2 : c.i.l[i].id ≤ c.i.l[i - 1].id
        · have hn : ¬ ValidC c := fun hv => by have := (hv.i i h).2 (by omega); omega
          simp (disch := first | omega | (simp [-List.map_take, -List.map_drop, -List.map_set, -List.map_append, -List.drop_one] <;> omega) | fail) [-List.map_take, -List.map_drop, -List.map_set, -List.map_append, -List.drop_one, h', h, hg, T121_s, cCI_eq, soundB, tv_true e, e0', e0'', em, hg2, e2, validCB, tv_false hn]
        · simp (disch := first | omega | (simp [-List.map_take, -List.map_drop, -List.map_set, -List.map_append, -List.drop_one] <;> omega) | fail) [-List.map_take, -List.map_drop, -List.map_set, -List.map_append, -List.drop_one, h', h, hg, T121_s, cCI_eq, soundB, tv_true e, e0', e0'', em, hg2, e2]
          refine ⟨i + 1, weak_same (by simp (disch := first | omega | (simp [-List.map_take, -List.map_drop, -List.map_set, -List.map_append, -List.drop_one] <;> omega) | fail) [-List.map_take, -List.map_drop, -List.map_set, -List.map_append, -List.drop_one]) (by simp (disch := first | omega | (simp [-List.map_take, -List.map_drop, -List.map_set, -List.map_append, -List.drop_one] <;> omega) | fail) [-List.map_take, -List.map_drop, -List.map_set, -List.map_append, -List.drop_one]), by omega, by omega, fun j hj hji => ?_⟩
          by_cases ej : j = i
          · subst ej; exact ⟨e, fun _ => by omega⟩
          · exact h2 j hj (by omega)
    · have hn : ¬ ValidC c := fun hv => e (hv.i i h).1
      simp (disch := first | omega | (simp [-List.map_take, -List.map_drop, -List.map_set, -List.map_append, -List.drop_one] <;> omega) | fail) [-List.map_take, -List.map_drop, -List.map_set, -List.map_append, -List.drop_one, h', h, hg, T121_s, cCI_eq, soundB, tv_false e, validCB, tv_false hn]
  · have h' : ¬ (i : Int) < c.i.l.length := by omega
    have hy : ValidC c := ⟨by omega, by omega, by omega, by omega, hG, fun j hj => h2 j hj (by omega)⟩
    simp (disch := first | omega | (simp [-List.map_take, -List.map_drop, -List.map_set, -List.map_append, -List.drop_one] <;> omega) | fail) [-List.map_take, -List.map_drop, -List.map_set, -List.map_append, -List.drop_one, h, h', validCB, tv_true hy]
end Go.Proofs.YtjhakjeioppijaaDoor
/-
  Functions of this claim, as the abstract machine has them. MADE BY A PROGRAM of mine.
-/
set_option linter.unusedSimpArgs false
set_option linter.unusedVariables false
namespace Go.Proofs.YtjhakjeioppijaaDoor
open Go Go.Am
-- 28 (*admission/admissionmade.Tape).Next
def a28 : AFn where
  code := (.seq (.region false [⟨none, (some 4), .mov (.k (.int .i64 0))⟩])
  (.seq (.seq (.region false [⟨none, (some 6), .mov (.t 1)⟩,
    ⟨none, (some 7), .bin .lss (.t 6) (.k (.int .i64 1))⟩])
  (.cond (.t 7) (.seq (.region false [⟨none, (some 4), .mov (.k (.int .i64 0))⟩])
  .ret)
  .skip))
  (.seq (.region false [⟨none, (some 8), .mov (.t 0)⟩,
    ⟨none, (some 9), .nilc (.t 8)⟩,
    ⟨none, (some 10), .fld 1 (.t 9)⟩,
    ⟨none, (some 11), .load 1 false (.t 10)⟩,
    ⟨none, (some 12), .bin .mul (.t 11) (.k (.int .i64 7))⟩,
    ⟨none, (some 13), .bin .add (.t 12) (.k (.int .i64 3))⟩,
    ⟨none, (some 5), .mov (.t 13)⟩])
  (.seq (.seq (.region true [⟨none, (some 14), .mov (.t 0)⟩,
    ⟨none, (some 15), .nilc (.t 14)⟩,
    ⟨none, (some 16), .fld 1 (.t 15)⟩,
    ⟨none, (some 17), .load 1 false (.t 16)⟩,
    ⟨none, (some 18), .mov (.t 0)⟩,
    ⟨none, (some 19), .nilc (.t 18)⟩,
    ⟨none, (some 20), .fld 0 (.t 19)⟩,
    ⟨none, (some 21), .load 1 false (.t 20)⟩,
    ⟨none, (some 22), .len (.t 21)⟩,
    ⟨none, (some 23), .bin .lss (.t 17) (.t 22)⟩])
  (.cond (.t 23) (.region true [⟨none, (some 24), .mov (.t 0)⟩,
    ⟨none, (some 25), .nilc (.t 24)⟩,
    ⟨none, (some 26), .fld 0 (.t 25)⟩,
    ⟨none, (some 27), .load 1 false (.t 26)⟩,
    ⟨none, (some 28), .mov (.t 0)⟩,
    ⟨none, (some 29), .nilc (.t 28)⟩,
    ⟨none, (some 30), .fld 1 (.t 29)⟩,
    ⟨none, (some 31), .load 1 false (.t 30)⟩,
    ⟨none, (some 32), .idxS 1 (.t 27) (.t 31)⟩,
    ⟨none, (some 33), .load 1 false (.t 32)⟩,
    ⟨none, (some 5), .mov (.t 33)⟩])
  .skip))
  (.seq (.region false [⟨none, (some 34), .mov (.t 0)⟩,
    ⟨none, (some 35), .nilc (.t 34)⟩,
    ⟨none, (some 36), .fld 1 (.t 35)⟩,
    ⟨none, (some 37), .load 1 false (.t 36)⟩,
    ⟨none, (some 38), .bin .add (.t 37) (.k (.int .i64 1))⟩,
    ⟨none, (some 39), .nilc (.t 34)⟩,
    ⟨none, (some 40), .fld 1 (.t 39)⟩,
    ⟨none, none, .store 1 (.t 40) (.t 38)⟩])
  (.seq (.region false [⟨none, (some 41), .mov (.t 5)⟩,
    ⟨none, (some 42), .mov (.t 1)⟩,
    ⟨none, (some 43), .bin .rem (.t 41) (.t 42)⟩,
    ⟨none, (some 44), .mov (.t 1)⟩,
    ⟨none, (some 45), .bin .add (.t 43) (.t 44)⟩,
    ⟨none, (some 46), .mov (.t 1)⟩,
    ⟨none, (some 47), .bin .rem (.t 45) (.t 46)⟩,
    ⟨none, (some 4), .mov (.t 47)⟩])
  .ret))))))
  ntmps := 48
  res := [.tmp 4]

theorem a28_ok : compileFn P Tryd.f28 = some a28 := by kernel_rfl

-- 73 (*admission/admissionmade.Tape).Pick
def a73 : AFn where
  code := (.seq (.region false [⟨none, (some 4), .mov (.k (.str []))⟩])
  (.seq (.region false [⟨none, (some 5), .mov (.t 1)⟩,
    ⟨none, (some 6), .mov (.t 0)⟩,
    ⟨none, (some 7), .mov (.t 1)⟩,
    ⟨none, (some 8), .len (.t 7)⟩,
    ⟨none, (some 9), .call (.k (.fn (.func 28) [] [])) [(.t 6), (.t 8)]⟩,
    ⟨none, (some 10), .idxS 1 (.t 5) (.t 9)⟩,
    ⟨none, (some 11), .load 1 false (.t 10)⟩,
    ⟨none, (some 4), .mov (.t 11)⟩])
  .ret))
  ntmps := 12
  res := [.tmp 4]

theorem a73_ok : compileFn P Tryd.f73 = some a73 := by kernel_rfl

-- 74 (*admission/admissionmade.Tape).Sum
def a74 : AFn where
  code := (.seq (.region false [⟨none, (some 2), .alloc (rep 32 (w8 0#8))⟩])
  (.seq (.region false [⟨none, (some 3), .mov (.t 0)⟩,
    ⟨none, (some 4), .call (.k (.fn (.func 28) [] [])) [(.t 3), (.k (.int .i64 6))]⟩,
    ⟨none, (some 5), .bin .add (.k (.int .i64 1)) (.t 4)⟩,
    ⟨none, (some 6), .conv .u8 (.t 5)⟩,
    ⟨none, (some 7), .build (rep 32 (w8 0#8)) [(0, 1, (.t 6))]⟩,
    ⟨none, none, .store 32 (.t 2) (.t 7)⟩])
  .ret))
  ntmps := 8
  res := [.cell 2 32 true]

theorem a74_ok : compileFn P Tryd.f74 = some a74 := by kernel_rfl

-- 26 admission/admissioncase.Tape
def a26 : AFn where
  code := (.seq (.region false [⟨none, (some 4), .mov (.k .nilp)⟩])
  (.seq (.region false [⟨none, (some 5), .mov (.t 0)⟩,
    ⟨none, (some 6), .mov (.t 0)⟩,
    ⟨none, (some 7), .len (.t 6)⟩,
    ⟨none, (some 8), .mov (.t 1)⟩,
    ⟨none, (some 9), .mm false [(.t 7), (.t 8)]⟩,
    ⟨none, (some 10), .slcS 1 (.t 5) none (some (.t 9)) none⟩,
    ⟨none, (some 11), .build [.nils, (.int .i64 0)] [(0, 1, (.t 10))]⟩,
    ⟨none, (some 12), .box (.t 11)⟩,
    ⟨none, (some 4), .mov (.t 12)⟩])
  .ret))
  ntmps := 13
  res := [.tmp 4]

theorem a26_ok : compileFn P Tryd.f26 = some a26 := by kernel_rfl

-- 29 admission/admissioncase.Within
def a29 : AFn where
  code := (.seq (.region false [⟨none, (some 4), .mov (.k (.int .i64 0))⟩])
  (.seq (.region false [⟨none, (some 5), .mov (.t 0)⟩,
    ⟨none, (some 6), .mov (.t 1)⟩,
    ⟨none, (some 7), .bin .rem (.t 5) (.t 6)⟩,
    ⟨none, (some 8), .mov (.t 1)⟩,
    ⟨none, (some 9), .bin .add (.t 7) (.t 8)⟩,
    ⟨none, (some 10), .mov (.t 1)⟩,
    ⟨none, (some 11), .bin .rem (.t 9) (.t 10)⟩,
    ⟨none, (some 4), .mov (.t 11)⟩])
  .ret))
  ntmps := 12
  res := [.tmp 4]

theorem a29_ok : compileFn P Tryd.f29 = some a29 := by kernel_rfl

-- 34 admission/admissioncase.Group
def a34L0 : ACode :=
  (.seq (.seq (.region false [⟨none, (some 31), .mov (.t 6)⟩,
    ⟨none, (some 32), .bin .geq (.t 31) (.k (.int .i64 0))⟩])
  (.cond (.t 32) .skip
  (.exit 0)))
  (.seq (.block 1 (.seq (.region false [⟨none, (some 35), .mov (.t 0)⟩,
    ⟨none, (some 36), .call (.k (.fn (.func 74) [] [])) [(.t 35)]⟩,
    ⟨none, (some 7), .alloc (rep 32 (w8 0#8))⟩,
    ⟨none, none, .store 32 (.t 7) (.t 36)⟩])
  (.seq (.seq (.region false [⟨none, (some 37), .mov (.t 1)⟩,
    ⟨none, (some 38), .len (.t 37)⟩,
    ⟨none, (some 39), .bin .gtr (.t 38) (.k (.int .i64 0))⟩,
    ⟨none, (some 40), .mov (.t 39)⟩,
    ⟨(some (40, true)), (some 41), .mov (.t 0)⟩,
    ⟨(some (40, true)), (some 42), .call (.k (.fn (.func 28) [] [])) [(.t 41), (.k (.int .i64 6))]⟩,
    ⟨(some (40, true)), (some 43), .bin .gtr (.t 42) (.k (.int .i64 0))⟩,
    ⟨none, (some 44), .pick (.t 40) (.t 43) (.k (.bool false))⟩])
  (.cond (.t 44) (.region false [⟨none, (some 45), .mov (.t 1)⟩,
    ⟨none, (some 46), .mov (.t 0)⟩,
    ⟨none, (some 47), .mov (.t 1)⟩,
    ⟨none, (some 48), .len (.t 47)⟩,
    ⟨none, (some 49), .call (.k (.fn (.func 28) [] [])) [(.t 46), (.t 48)]⟩,
    ⟨none, (some 50), .idxS 32 (.t 45) (.t 49)⟩,
    ⟨none, (some 51), .load 32 true (.t 50)⟩,
    ⟨none, none, .store 32 (.t 7) (.t 51)⟩])
  .skip))
  (.seq (.region false [⟨none, (some 52), .fld 5 (.t 5)⟩,
    ⟨none, (some 53), .load 1 false (.t 52)⟩,
    ⟨none, (some 54), .load 32 true (.t 7)⟩,
    ⟨none, (some 55), .call (.k (.fn (.func 63) [] [])) [(.t 53), (.t 54)]⟩,
    ⟨none, (some 56), .un .not (.t 55)⟩])
  (.cond (.t 56) (.region false [⟨none, (some 57), .fld 5 (.t 5)⟩,
    ⟨none, (some 58), .load 1 false (.t 57)⟩,
    ⟨none, (some 59), .load 32 true (.t 7)⟩,
    ⟨none, (some 60), .bsl 32 1 (rep 32 (w8 0#8)) [(0, 32, (.t 59))]⟩,
    ⟨none, (some 61), .app 32 32 (.t 58) (.t 60)⟩,
    ⟨none, (some 62), .fld 5 (.t 5)⟩,
    ⟨none, none, .store 1 (.t 62) (.t 61)⟩])
  .skip)))))
  (.region false [⟨none, (some 33), .mov (.t 6)⟩,
    ⟨none, (some 34), .bin .sub (.t 33) (.k (.int .i64 1))⟩,
    ⟨none, (some 6), .mov (.t 34)⟩])))
/-- 0:t 1:artifacts 4: 5:g 6:n -/
def a34S0 (x0 x1 x4 x5 x6 : DV) (h : List AObj) : St := ⟨[x0, x1, .junk, .junk, x4, x5, x6] ++ js 57, h⟩

def a34 : AFn where
  code := (.seq (.region false [⟨none, (some 4), .alloc [(.str []), (.str []), (.int .i64 0), (.int .i64 0), (.int .i64 0), .nils]⟩])
  (.seq (.region false [⟨none, (some 8), .mov (.t 0)⟩,
    ⟨none, (some 9), .bsl 1 2 [(.str [])] [(0, 1, (.k (.str [112, 114, 111, 100]))), (1, 1, (.k (.str [116, 101, 115, 116])))]⟩,
    ⟨none, (some 10), .call (.k (.fn (.func 73) [] [])) [(.t 8), (.t 9)]⟩,
    ⟨none, (some 11), .mov (.t 0)⟩,
    ⟨none, (some 12), .bsl 1 2 [(.str [])] [(0, 1, (.k (.str [119, 101, 98]))), (1, 1, (.k (.str [100, 98])))]⟩,
    ⟨none, (some 13), .call (.k (.fn (.func 73) [] [])) [(.t 11), (.t 12)]⟩,
    ⟨none, (some 14), .mov (.t 0)⟩,
    ⟨none, (some 15), .call (.k (.fn (.func 28) [] [])) [(.t 14), (.k (.int .i64 4))]⟩,
    ⟨none, (some 16), .build [(.str []), (.str []), (.int .i64 0), (.int .i64 0), (.int .i64 0), .nils] [(0, 1, (.t 10)), (1, 1, (.t 13)), (2, 1, (.t 15))]⟩,
    ⟨none, (some 5), .alloc [(.str []), (.str []), (.int .i64 0), (.int .i64 0), (.int .i64 0), .nils]⟩,
    ⟨none, none, .store 6 (.t 5) (.t 16)⟩])
  (.seq (.region true [⟨none, (some 17), .mov (.t 0)⟩,
    ⟨none, (some 18), .fld 2 (.t 5)⟩,
    ⟨none, (some 19), .load 1 false (.t 18)⟩,
    ⟨none, (some 20), .bin .add (.t 19) (.k (.int .i64 1))⟩,
    ⟨none, (some 21), .callT (.k (.fn (.func 28) [] [])) [(.t 17), (.t 20)]⟩,
    ⟨none, (some 22), .mov (.t 0)⟩,
    ⟨none, (some 23), .fld 2 (.t 5)⟩,
    ⟨none, (some 24), .load 1 false (.t 23)⟩,
    ⟨none, (some 25), .bin .add (.t 24) (.k (.int .i64 1))⟩,
    ⟨none, (some 26), .callT (.k (.fn (.func 28) [] [])) [(.t 22), (.t 25)]⟩,
    ⟨none, (some 27), .fld 3 (.t 5)⟩,
    ⟨none, none, .store 1 (.t 27) (.t 21)⟩,
    ⟨none, (some 28), .fld 4 (.t 5)⟩,
    ⟨none, none, .store 1 (.t 28) (.t 26)⟩,
    ⟨none, none, .apart (.t 5) (.t 17)⟩,
    ⟨none, none, .apart (.t 23) (.t 17)⟩,
    ⟨none, none, .apart (.t 5) (.t 22)⟩])
  (.seq (.seq (.region false [⟨none, (some 29), .mov (.t 0)⟩,
    ⟨none, (some 30), .call (.k (.fn (.func 28) [] [])) [(.t 29), (.k (.int .i64 3))]⟩,
    ⟨none, (some 6), .mov (.t 30)⟩])
  (.block 0 (.loop a34L0)))
  (.seq (.region false [⟨none, (some 63), .load 6 true (.t 5)⟩,
    ⟨none, none, .store 6 (.t 4) (.t 63)⟩])
  .ret)))))
  ntmps := 64
  res := [.cell 4 6 true]

theorem a34_ok : compileFn P Tryd.f34 = some a34 := by kernel_rfl

-- 27 admission/admissioncase.Cluster
def a27L0 : ACode :=
  (.seq (.seq (.region false [⟨none, (some 23), .mov (.t 7)⟩,
    ⟨none, (some 24), .bin .gtr (.t 23) (.k (.int .i64 0))⟩])
  (.cond (.t 24) .skip
  (.exit 0)))
  (.seq (.block 1 (.seq (.region true [⟨none, (some 28), .load 3 true (.t 6)⟩,
    ⟨none, (some 29), .mov (.t 0)⟩,
    ⟨none, (some 30), .mov (.t 5)⟩,
    ⟨none, (some 31), .callT (.k (.fn (.func 34) [] [])) [(.t 29), (.t 30)]⟩,
    ⟨none, (some 32), .callN (.k (.fn (.func 36) [] [])) [(.t 28), (.t 31)]⟩,
    ⟨none, (some 27), .mov (.t 32)⟩,
    ⟨none, (some 33), .ext (.t 27) 0⟩,
    ⟨none, (some 34), .ext (.t 27) 1⟩,
    ⟨none, (some 8), .alloc [.nils, .nils, (.int .i64 0)]⟩,
    ⟨none, none, .store 3 (.t 8) (.t 33)⟩,
    ⟨none, (some 9), .mov (.t 34)⟩,
    ⟨none, none, .apart (.t 6) (.t 29)⟩])
  (.seq (.region false [⟨none, (some 35), .mov (.t 9)⟩,
    ⟨none, (some 36), .bin .eql (.t 35) (.k (.int .i64 0))⟩])
  (.cond (.t 36) (.region false [⟨none, (some 37), .load 3 true (.t 8)⟩,
    ⟨none, none, .store 3 (.t 6) (.t 37)⟩])
  .skip))))
  (.region false [⟨none, (some 25), .mov (.t 7)⟩,
    ⟨none, (some 26), .bin .sub (.t 25) (.k (.int .i64 1))⟩,
    ⟨none, (some 7), .mov (.t 26)⟩])))
/-- 0:t 1:instances 4: 5:artifacts 6:c 7:n -/
def a27S0 (x0 x1 x4 x5 x6 x7 : DV) (h : List AObj) : St := ⟨[x0, x1, .junk, .junk, x4, x5, x6, x7] ++ js 76, h⟩

def a27L1 : ACode :=
  (.seq (.seq (.region false [⟨none, (some 42), .mov (.t 10)⟩,
    ⟨none, (some 43), .bin .gtr (.t 42) (.k (.int .i64 0))⟩])
  (.cond (.t 43) .skip
  (.exit 2)))
  (.seq (.block 3 (.seq (.region true [⟨none, (some 46), .fld 2 (.t 6)⟩,
    ⟨none, (some 47), .load 1 false (.t 46)⟩,
    ⟨none, (some 48), .mov (.t 0)⟩,
    ⟨none, (some 49), .fld 0 (.t 6)⟩,
    ⟨none, (some 50), .load 1 false (.t 49)⟩,
    ⟨none, (some 51), .len (.t 50)⟩,
    ⟨none, (some 52), .callT (.k (.fn (.func 28) [] [])) [(.t 48), (.t 51)]⟩,
    ⟨none, (some 53), .mov (.t 5)⟩,
    ⟨none, (some 54), .mov (.t 0)⟩,
    ⟨none, (some 55), .callT (.k (.fn (.func 28) [] [])) [(.t 54), (.k (.int .i64 3))]⟩,
    ⟨none, (some 56), .idxS 32 (.t 53) (.t 55)⟩,
    ⟨none, (some 57), .load 32 true (.t 56)⟩,
    ⟨none, (some 58), .mov (.t 0)⟩,
    ⟨none, (some 59), .callT (.k (.fn (.func 28) [] [])) [(.t 58), (.k (.int .i64 3))]⟩,
    ⟨none, (some 60), .bin .add (.k (.int .i64 1)) (.t 59)⟩,
    ⟨none, (some 61), .mov (.t 0)⟩,
    ⟨none, (some 62), .callT (.k (.fn (.func 28) [] [])) [(.t 61), (.k (.int .i64 30))]⟩,
    ⟨none, (some 63), .build [(.int .i64 0), (.int .i64 0), (w8 0#8), (w8 0#8), (w8 0#8), (w8 0#8), (w8 0#8), (w8 0#8), (w8 0#8), (w8 0#8), (w8 0#8), (w8 0#8), (w8 0#8), (w8 0#8), (w8 0#8), (w8 0#8), (w8 0#8), (w8 0#8), (w8 0#8), (w8 0#8), (w8 0#8), (w8 0#8), (w8 0#8), (w8 0#8), (w8 0#8), (w8 0#8), (w8 0#8), (w8 0#8), (w8 0#8), (w8 0#8), (w8 0#8), (w8 0#8), (w8 0#8), (w8 0#8), (.int .i64 0), (.int .i64 0), (.int .i64 0)] [(0, 1, (.t 47)), (1, 1, (.t 52)), (2, 32, (.t 57)), (34, 1, (.t 60)), (35, 1, (.t 62)), (36, 1, (.k (.int .i64 (-1))))]⟩,
    ⟨none, (some 11), .alloc [(.int .i64 0), (.int .i64 0), (w8 0#8), (w8 0#8), (w8 0#8), (w8 0#8), (w8 0#8), (w8 0#8), (w8 0#8), (w8 0#8), (w8 0#8), (w8 0#8), (w8 0#8), (w8 0#8), (w8 0#8), (w8 0#8), (w8 0#8), (w8 0#8), (w8 0#8), (w8 0#8), (w8 0#8), (w8 0#8), (w8 0#8), (w8 0#8), (w8 0#8), (w8 0#8), (w8 0#8), (w8 0#8), (w8 0#8), (w8 0#8), (w8 0#8), (w8 0#8), (w8 0#8), (w8 0#8), (.int .i64 0), (.int .i64 0), (.int .i64 0)]⟩,
    ⟨none, none, .store 37 (.t 11) (.t 63)⟩,
    ⟨none, none, .apart (.t 6) (.t 48)⟩,
    ⟨none, none, .apart (.t 6) (.t 54)⟩,
    ⟨none, none, .apart (.t 6) (.t 58)⟩,
    ⟨none, none, .apart (.t 6) (.t 61)⟩,
    ⟨none, none, .apart (.t 46) (.t 48)⟩,
    ⟨none, none, .apart (.t 46) (.t 54)⟩,
    ⟨none, none, .apart (.t 46) (.t 58)⟩,
    ⟨none, none, .apart (.t 46) (.t 61)⟩,
    ⟨none, none, .apart (.t 53) (.t 58)⟩,
    ⟨none, none, .apart (.t 53) (.t 61)⟩,
    ⟨none, none, .apart (.t 56) (.t 58)⟩,
    ⟨none, none, .apart (.t 56) (.t 61)⟩])
  (.seq (.seq (.region false [⟨none, (some 64), .mov (.t 0)⟩,
    ⟨none, (some 65), .call (.k (.fn (.func 28) [] [])) [(.t 64), (.k (.int .i64 3))]⟩,
    ⟨none, (some 66), .bin .eql (.t 65) (.k (.int .i64 0))⟩])
  (.cond (.t 66) (.region false [⟨none, (some 67), .mov (.t 0)⟩,
    ⟨none, (some 68), .call (.k (.fn (.func 28) [] [])) [(.t 67), (.k (.int .i64 30))]⟩,
    ⟨none, (some 69), .fld 36 (.t 11)⟩,
    ⟨none, none, .store 1 (.t 69) (.t 68)⟩])
  .skip))
  (.seq (.region false [⟨none, (some 70), .fld 1 (.t 6)⟩,
    ⟨none, (some 71), .load 1 false (.t 70)⟩,
    ⟨none, (some 72), .load 37 true (.t 11)⟩,
    ⟨none, (some 73), .bsl 37 1 [(.int .i64 0), (.int .i64 0), (w8 0#8), (w8 0#8), (w8 0#8), (w8 0#8), (w8 0#8), (w8 0#8), (w8 0#8), (w8 0#8), (w8 0#8), (w8 0#8), (w8 0#8), (w8 0#8), (w8 0#8), (w8 0#8), (w8 0#8), (w8 0#8), (w8 0#8), (w8 0#8), (w8 0#8), (w8 0#8), (w8 0#8), (w8 0#8), (w8 0#8), (w8 0#8), (w8 0#8), (w8 0#8), (w8 0#8), (w8 0#8), (w8 0#8), (w8 0#8), (w8 0#8), (w8 0#8), (.int .i64 0), (.int .i64 0), (.int .i64 0)] [(0, 37, (.t 72))]⟩,
    ⟨none, (some 74), .app 37 72 (.t 71) (.t 73)⟩,
    ⟨none, (some 75), .fld 1 (.t 6)⟩,
    ⟨none, none, .store 1 (.t 75) (.t 74)⟩])
  (.region true [⟨none, (some 76), .fld 2 (.t 6)⟩,
    ⟨none, (some 77), .load 1 false (.t 76)⟩,
    ⟨none, (some 78), .mov (.t 0)⟩,
    ⟨none, (some 79), .callT (.k (.fn (.func 28) [] [])) [(.t 78), (.k (.int .i64 2))]⟩,
    ⟨none, (some 80), .bin .add (.k (.int .i64 1)) (.t 79)⟩,
    ⟨none, (some 81), .bin .add (.t 77) (.t 80)⟩,
    ⟨none, (some 82), .fld 2 (.t 6)⟩,
    ⟨none, none, .store 1 (.t 82) (.t 81)⟩,
    ⟨none, none, .apart (.t 6) (.t 78)⟩,
    ⟨none, none, .apart (.t 76) (.t 78)⟩])))))
  (.region false [⟨none, (some 44), .mov (.t 10)⟩,
    ⟨none, (some 45), .bin .sub (.t 44) (.k (.int .i64 1))⟩,
    ⟨none, (some 10), .mov (.t 45)⟩])))
/-- 0:t 4: 5:artifacts 6:c 10:n -/
def a27S1 (x0 x4 x5 x6 x10 : DV) (h : List AObj) : St := ⟨[x0, .junk, .junk, .junk, x4, x5, x6, .junk, .junk, .junk, x10] ++ js 73, h⟩

def a27 : AFn where
  code := (.seq (.region false [⟨none, (some 4), .alloc [.nils, .nils, (.int .i64 0)]⟩])
  (.seq (.region false [⟨none, (some 12), .build (rep 32 (w8 0#8)) [(0, 1, (.k (w8 1#8)))]⟩,
    ⟨none, (some 13), .build (rep 32 (w8 0#8)) [(0, 1, (.k (w8 2#8)))]⟩,
    ⟨none, (some 14), .build (rep 32 (w8 0#8)) [(0, 1, (.k (w8 3#8)))]⟩,
    ⟨none, (some 15), .bsl 32 3 (rep 32 (w8 0#8)) [(0, 32, (.t 12)), (32, 32, (.t 13)), (64, 32, (.t 14))]⟩,
    ⟨none, (some 5), .mov (.t 15)⟩])
  (.seq (.region false [⟨none, (some 16), .mov (.t 0)⟩,
    ⟨none, (some 17), .call (.k (.fn (.func 28) [] [])) [(.t 16), (.k (.int .i64 4))]⟩,
    ⟨none, (some 18), .bin .add (.k (.int .i64 1)) (.t 17)⟩,
    ⟨none, (some 19), .build [.nils, .nils, (.int .i64 0)] [(2, 1, (.t 18))]⟩,
    ⟨none, (some 6), .alloc [.nils, .nils, (.int .i64 0)]⟩,
    ⟨none, none, .store 3 (.t 6) (.t 19)⟩])
  (.seq (.seq (.region false [⟨none, (some 20), .mov (.t 0)⟩,
    ⟨none, (some 21), .call (.k (.fn (.func 28) [] [])) [(.t 20), (.k (.int .i64 2))]⟩,
    ⟨none, (some 22), .bin .add (.k (.int .i64 1)) (.t 21)⟩,
    ⟨none, (some 7), .mov (.t 22)⟩])
  (.block 0 (.loop a27L0)))
  (.seq (.seq (.region false [⟨none, (some 38), .mov (.t 0)⟩,
    ⟨none, (some 39), .mov (.t 1)⟩,
    ⟨none, (some 40), .bin .add (.t 39) (.k (.int .i64 1))⟩,
    ⟨none, (some 41), .call (.k (.fn (.func 28) [] [])) [(.t 38), (.t 40)]⟩,
    ⟨none, (some 10), .mov (.t 41)⟩])
  (.block 2 (.loop a27L1)))
  (.seq (.region false [⟨none, (some 83), .load 3 true (.t 6)⟩,
    ⟨none, none, .store 3 (.t 4) (.t 83)⟩])
  .ret))))))
  ntmps := 84
  res := [.cell 4 3 true]

theorem a27_ok : compileFn P Tryd.f27 = some a27 := by kernel_rfl

end Go.Proofs.YtjhakjeioppijaaDoor
/-
  Tapes: the numbers from which made inputs are chosen.
-/
set_option linter.unusedSimpArgs false
set_option linter.unusedVariables false
namespace Go.Proofs.YtjhakjeioppijaaDoor
open Go Go.Am

structure Tp where
  k : Option Bool
  l : List Int
  h : k = none → l = []
  at_ : Nat
def inI (n : Int) : List DV := [.int .i64 n]
def Tp.sl (t : Tp) : DV := slD t.k 1 t.l.length (t.l.flatMap inI)
def tpC (t : Tp) : List DV := [t.sl, .int .i64 t.at_]
def Tp.adv (t : Tp) (m : Nat) : Tp := { t with at_ := t.at_ + m }
theorem len_inI (n : Int) : (inI n).length = 1 := rfl
theorem pure_inI (n : Int) : pureL (inI n) = true := rfl
theorem pure_sl (t : Tp) : pureD t.sl = true := by
  obtain ⟨k, l, h, a⟩ := t
  cases k with
  | none => rfl
  | some b => show pureL _ = true; exact fm_pure pure_inI l
theorem pure_tpC (t : Tp) : pureL (tpC t) = true := by simp [tpC, pureL, pure_sl, pureD]
theorem len_tpC (t : Tp) : (tpC t).length = 2 := by simp [tpC]
theorem sl_len (t : Tp) (H : List AObj) : lenD H t.sl = some (.int .i64 t.l.length) := lenD_slD (fun e => by rw [t.h e]; rfl)
theorem sl_idx (t : Tp) (H : List AObj) {i : Nat} (hi : i < t.l.length) : idxSD H 1 t.sl i = some (.ref [.int .i64 t.l[i]]) := by
  obtain ⟨k, l, h, a⟩ := t
  cases k with
  | none => simp only at hi; rw [h rfl] at hi; simp at hi
  | some b =>
    simp only [Tp.sl, slD_some]
    rw [idxSD_sl (by omega) (by simp only at hi; omega), Int.toNat_natCast, fm_get len_inI hi]; rfl
theorem sl_one (t : Tp) : t.sl.one = true := by obtain ⟨k, l, h, a⟩ := t; cases k <;> rfl
theorem sl_known (t : Tp) : t.sl.known = true := by obtain ⟨k, l, h, a⟩ := t; cases k <;> rfl
theorem sl_cells (t : Tp) : t.sl.cells = [t.sl] := by obtain ⟨k, l, h, a⟩ := t; cases k <;> rfl
theorem sl_fz (t : Tp) (n k : Nat) (H : List AObj) : fz n H k t.sl = some t.sl := fz_clean (pure_sl t)
theorem inI_inj : ∀ {a b : List Int}, a.flatMap inI = b.flatMap inI → a = b
  | [], [], _ => rfl
  | [], y :: b, h => by simp [inI] at h
  | x :: a, [], h => by simp [inI] at h
  | x :: a, y :: b, h => by
    simp only [List.flatMap_cons, inI, List.singleton_append, List.cons.injEq, DV.int.injEq, true_and] at h
    rw [h.1, inI_inj h.2]
theorem tpC_inj {a b : Tp} (h : tpC a = tpC b) : a = b := by
  obtain ⟨k, l, h1, p⟩ := a
  obtain ⟨k', l', h2, p'⟩ := b
  simp only [tpC, Tp.sl, List.cons.injEq, DV.int.injEq, true_and, and_true, Int.natCast_inj] at h
  obtain ⟨h, rfl⟩ := h
  cases k with
  | none => cases k' with
    | none => rw [Tp.mk.injEq]; exact ⟨rfl, by rw [h1 rfl, h2 rfl], rfl⟩
    | some b => simp [slD] at h
  | some b => cases k' with
    | none => simp [slD] at h
    | some b' =>
      simp only [slD_some, DV.sl.injEq] at h
      obtain ⟨rfl, _, _, h⟩ := h
      rw [Tp.mk.injEq]; exact ⟨rfl, inI_inj h, rfl⟩
attribute [simp] sl_len sl_one sl_known sl_cells sl_fz len_tpC

/-! Next -/
def tpRaw (t : Tp) : Int := if h : t.at_ < t.l.length then t.l[t.at_] else t.at_ * 7 + 3
def tpN (t : Tp) (n : Int) : Int := if n < 1 then 0 else tpRaw t % n
def tpS (t : Tp) (n : Int) : Tp := if n < 1 then t else t.adv 1
theorem tpN_lo (t : Tp) (n : Int) : 0 ≤ tpN t n := by
  unfold tpN; split
  · omega
  · exact Int.emod_nonneg _ (by omega)
theorem tpN_hi (t : Tp) {n : Int} (h : 1 ≤ n) : tpN t n < n := by
  unfold tpN; rw [if_neg (by omega)]; exact Int.emod_lt_of_pos _ (by omega)
theorem tpS_at (t : Tp) (n : Int) : (tpS t n).at_ ≤ t.at_ + 1 := by
  unfold tpS; split
  · omega
  · exact Nat.le_refl _
theorem adv_sl (t : Tp) (m : Nat) : (t.adv m).sl = t.sl := by simp [Tp.adv, Tp.sl]
theorem adv_at (t : Tp) (m : Nat) : (t.adv m).at_ = t.at_ + m := by simp [Tp.adv]
theorem adv_l (t : Tp) (m : Nat) : (t.adv m).l = t.l := by simp [Tp.adv]
attribute [simp] adv_sl adv_at adv_l
theorem tmod_fact (x n : Int) (h : 1 ≤ n) (h2 : n ≤ 4294967296) : IntKind.i64.wrap (x.tmod n + n) = x.tmod n + n ∧ (x.tmod n + n).tmod n = x % n := by
  have h1 := Int.tmod_lt_of_pos x (show 0 < n by omega)
  have h3 : -n < x.tmod n := by
    have := Int.lt_tmod_of_pos x (show 0 < n by omega)
    omega
  refine ⟨wrap_i64 (by omega) (by omega), ?_⟩
  rw [Int.tmod_eq_emod_of_nonneg (by omega), Int.add_emod_right]
  rw [Int.tmod_eq_emod]
  split
  · simp
  · rw [Int.natAbs_of_nonneg (show 0 ≤ n by omega)]; simp
theorem runs_next (t : Tp) (n : Int) (ht : t.at_ < 4294967296) (hn : n ≤ 4294967296) : RunsF tbl0 a28 [.mp 0 2 0, .int .i64 n] [.cells (tpC t)] (.int .i64 (tpN t n)) [.cells (tpC (tpS t n))] := by
  refine ⟨?_⟩
  by_cases h : n < 1
  · have e1 : tpN t n = 0 := by rw [tpN, if_pos h]
    have e2 : tpS t n = t := by rw [tpS, if_pos h]
    rw [e1, e2]
    simp (disch := first | omega | (simp [-List.map_take, -List.map_drop, -List.map_set, -List.map_append, -List.drop_one] <;> omega) | fail) [-List.map_take, -List.map_drop, -List.map_set, -List.map_append, -List.drop_one, a28, tpC, h]
  have e2 : tpS t n = t.adv 1 := by rw [tpS, if_neg h]
  obtain ⟨f1, f2⟩ := tmod_fact (tpRaw t) n (by omega) hn
  have e3 : tpN t n = tpRaw t % n := by rw [tpN, if_neg h]
  rw [← e3] at f2
  rw [e2]
  have hn0 : n ≠ 0 := by omega
  by_cases hl : t.at_ < t.l.length
  · have hl' : (t.at_ : Int) < t.l.length := by omega
    have hr : t.l[t.at_] = tpRaw t := by rw [tpRaw, dif_pos hl]
    have hi := fun H => sl_idx t H hl
    simp (disch := first | omega | (simp [-List.map_take, -List.map_drop, -List.map_set, -List.map_append, -List.drop_one] <;> omega) | fail) [-List.map_take, -List.map_drop, -List.map_set, -List.map_append, -List.drop_one, a28, tpC, h, hl, hl', hi, hr, hn0, f1, f2, -Int.tmod_eq_emod_of_nonneg]
  · have hl' : ¬ (t.at_ : Int) < t.l.length := by omega
    have hr : (t.at_ : Int) * 7 + 3 = tpRaw t := by rw [tpRaw, dif_neg hl]
    have hw : (t.at_ : Int) * 7 < 9223372036854775808 := by omega
    simp (disch := first | omega | (simp [-List.map_take, -List.map_drop, -List.map_set, -List.map_append, -List.drop_one] <;> omega) | fail) [-List.map_take, -List.map_drop, -List.map_set, -List.map_append, -List.drop_one, a28, tpC, h, hl, hl', hr, hn0, f1, f2, -Int.tmod_eq_emod_of_nonneg]

/-! contracts -/
theorem adv_adv (t : Tp) (a b : Nat) : (t.adv a).adv b = t.adv (a + b) := by simp [Tp.adv, Nat.add_assoc]
theorem adv_zero (t : Tp) : t.adv 0 = t := by simp [Tp.adv]
theorem tpS_pos {t : Tp} {n : Int} (h : 1 ≤ n) : tpS t n = t.adv 1 := by rw [tpS, if_neg (by omega)]
noncomputable def cNext : List DV → List DV → Option (DV × List DV) := conT (fun a : Tp × Int => a.1.at_ < 4294967296 ∧ a.2 ≤ 4294967296) (fun a => [.int .i64 a.2]) (fun a => tpC a.1) (fun a => (.int .i64 (tpN a.1 a.2), tpC (tpS a.1 a.2)))
theorem cNext_eq {t : Tp} {n : Int} (h1 : t.at_ < 4294967296) (h2 : n ≤ 4294967296) : cNext [.int .i64 n] (tpC t) = some (.int .i64 (tpN t n), tpC (tpS t n)) :=
  conT_eq (A := fun a : Tp × Int => a.1.at_ < 4294967296 ∧ a.2 ≤ 4294967296) (f := fun a => [.int .i64 a.2]) (s := fun a => tpC a.1) (by
    rintro ⟨a, n⟩ ⟨b, m⟩ e1 e2
    simp only [List.cons.injEq, DV.int.injEq, true_and, and_true] at e1
    rw [e1, tpC_inj e2]) (t, n) ⟨h1, h2⟩
theorem cNext_pos {t : Tp} {n : Int} (h1 : t.at_ < 4294967296) (h2 : n ≤ 4294967296) (h3 : 1 ≤ n) : cNext [.int .i64 n] (tpC t) = some (.int .i64 (tpN t n), tpC (t.adv 1)) := by rw [cNext_eq h1 h2, tpS_pos h3]
theorem next_sound : (Con.tch cNext).Sound P 28 :=
  conT_sound (fun a _ => ⟨rfl, pure_tpC _, rfl, pure_tpC _⟩) fun a h => calls_runsF mix tbl0_sound Tryd.func28 a28_ok (runs_next a.1 a.2 h.1 h.2) (Nat.le_refl _)
noncomputable def T150 : Tbl := addT 28 (.tch cNext) tbl0
theorem T150_n : T150 28 = .tch cNext := by simp [T150]
theorem T150_sound : T150.Sound P := addT_sound next_sound tbl0_sound

/-! Pick -/
def pickV (t : Tp) (l : List (List UInt8)) : List UInt8 := l.getD (tpN t l.length).toNat []
theorem pickV_mem (t : Tp) {l : List (List UInt8)} (h : l ≠ []) : pickV t l ∈ l := by
  have h0 : 1 ≤ l.length := by cases l with | nil => exact absurd rfl h | cons _ _ => simp
  have h1 := tpN_lo t l.length
  have h2 := tpN_hi t (n := l.length) (by omega)
  have h3 : (tpN t l.length).toNat < l.length := by omega
  rw [pickV, List.getD_eq_getElem?_getD, List.getElem?_eq_getElem h3]
  exact List.getElem_mem h3
theorem runs_pick (t : Tp) (l : List (List UInt8)) (ht : t.at_ < 4000000000) (h0 : 1 ≤ l.length) (hl : l.length ≤ 4294967296) : RunsF T150 a73 [.mp 0 2 0, .sl true 1 l.length (l.map .str)] [.cells (tpC t)] (.str (pickV t l)) [.cells (tpC (t.adv 1))] := by
  refine ⟨?_⟩
  have h1 := tpN_lo t l.length
  have h2 := tpN_hi t (n := l.length) (by omega)
  obtain ⟨N, hN⟩ : ∃ N : Nat, tpN t l.length = N := ⟨_, (Int.toNat_of_nonneg h1).symm⟩
  have h3 : N < l.length := by omega
  have e : pickV t l = l[N] := by rw [pickV, hN, Int.toNat_natCast, List.getD_eq_getElem?_getD, List.getElem?_eq_getElem h3]; rfl
  have hd : ((l.map DV.str).drop N).take 1 = [.str l[N]] := by
    rw [← List.map_drop, List.drop_eq_getElem_cons h3]; rfl
  have hfz : fzL 1 [.cells (tpC (t.adv 1))] (tpC (t.adv 1)) (tpC (t.adv 1)) := fzL_clean (pure_tpC _)
  simp (disch := first | omega | (simp [-List.map_take, -List.map_drop, -List.map_set, -List.map_append, -List.drop_one] <;> omega) | fail) [-List.map_take, -List.map_drop, -List.map_set, -List.map_append, -List.drop_one, a73, T150_n, cNext_pos, hN, h3, e, hd, hfz, pureL]
noncomputable def cPick : List DV → List DV → Option (DV × List DV) := conT (fun a : Tp × List (List UInt8) => a.1.at_ < 4000000000 ∧ 1 ≤ a.2.length ∧ a.2.length ≤ 4294967296) (fun a => [.sl true 1 a.2.length (a.2.map .str)]) (fun a => tpC a.1) (fun a => (.str (pickV a.1 a.2), tpC (a.1.adv 1)))
theorem map_str_inj : ∀ {a b : List (List UInt8)}, a.map DV.str = b.map DV.str → a = b
  | [], [], _ => rfl
  | [], y :: b, h => by simp at h
  | x :: a, [], h => by simp at h
  | x :: a, y :: b, h => by
    simp only [List.map_cons, List.cons.injEq, DV.str.injEq] at h
    rw [h.1, map_str_inj h.2]
theorem cPick_eq {t : Tp} {l : List (List UInt8)} (h : t.at_ < 4000000000) (h1 : 1 ≤ l.length) (h2 : l.length ≤ 4294967296) : cPick [.sl true 1 l.length (l.map .str)] (tpC t) = some (.str (pickV t l), tpC (t.adv 1)) :=
  conT_eq (A := fun a : Tp × List (List UInt8) => a.1.at_ < 4000000000 ∧ 1 ≤ a.2.length ∧ a.2.length ≤ 4294967296) (f := fun a => [.sl true 1 a.2.length (a.2.map .str)]) (s := fun a => tpC a.1) (by
    rintro ⟨a, n⟩ ⟨b, m⟩ e1 e2
    simp only [List.cons.injEq, DV.sl.injEq, true_and, and_true] at e1
    rw [map_str_inj e1.2, tpC_inj e2]) (t, l) ⟨h, h1, h2⟩
theorem cPick2 {t : Tp} {a b : List UInt8} (h : t.at_ < 4000000000) : cPick [.sl true 1 2 [.str a, .str b]] (tpC t) = some (.str (pickV t [a, b]), tpC (t.adv 1)) := cPick_eq (l := [a, b]) h (by simp) (by simp)
theorem pick_sound : (Con.tch cPick).Sound P 73 :=
  conT_sound (fun a _ => ⟨by simp [pureL, pureD]; exact List.rec rfl (fun _ _ ih => by simpa [pureL, pureD] using ih) a.2, pure_tpC _, rfl, pure_tpC _⟩) fun a h => calls_runsF mix T150_sound Tryd.func73 a73_ok (runs_pick a.1 a.2 h.1 h.2.1 h.2.2) (Nat.le_refl _)

/-! Sum -/
def dgW (b : BitVec 8) : Dg := ⟨b :: rep 31 0#8, by simp [rep]⟩
abbrev dgB (z : Int) : Dg := dgW (BitVec.ofInt 8 z)
theorem build_dg {b : BitVec 8} : buildD (dgC dg0) [(0, 1, w8 b)] = some (.agg (dgC (dgW b))) := rfl
def sumV (t : Tp) : Dg := dgB (1 + tpN t 6)
theorem dgB_ne {z : Int} (h0 : 1 ≤ z) (h1 : z ≤ 255) : dgB z ≠ dg0 := by
  intro e
  have := congrArg (fun d : Dg => d.1.head?) e
  simp [dgW, dg0, rep, List.replicate] at this
  have h2 := congrArg BitVec.toNat this
  simp at h2
  omega
theorem sumV_ne (t : Tp) : sumV t ≠ dg0 := by
  have h1 := tpN_lo t 6
  have h2 := tpN_hi t (n := 6) (by omega)
  exact dgB_ne (by omega) (by omega)
theorem runs_sum (t : Tp) (ht : t.at_ < 4000000000) : RunsF T150 a74 [.mp 0 2 0] [.cells (tpC t)] (.agg (dgC (sumV t))) [.cells (tpC (t.adv 1))] := by
  refine ⟨?_⟩
  have h1 := tpN_lo t 6
  have h2 := tpN_hi t (n := 6) (by omega)
  have hfz : ∀ k, fzL 1 k (tpC (t.adv 1)) (tpC (t.adv 1)) := fun k => fzL_clean (pure_tpC _)
  simp (disch := first | omega | (simp [-List.map_take, -List.map_drop, -List.map_set, -List.map_append, -List.drop_one] <;> omega) | fail) [-List.map_take, -List.map_drop, -List.map_set, -List.map_append, -List.drop_one, a74, T150_n, cNext_pos, hfz, build_dg, sumV, fzLo_clean (pure_dgC _)]
noncomputable def cSum : List DV → List DV → Option (DV × List DV) := conT (fun a : Tp => a.at_ < 4000000000) (fun a => []) tpC (fun a => (.agg (dgC (sumV a)), tpC (a.adv 1)))
theorem cSum_eq {t : Tp} (h : t.at_ < 4000000000) : cSum [] (tpC t) = some (.agg (dgC (sumV t)), tpC (t.adv 1)) :=
  conT_eq (A := fun a : Tp => a.at_ < 4000000000) (f := fun a => []) (s := tpC) (fun a b _ e => by rw [tpC_inj e]) t h
theorem sum_sound : (Con.tch cSum).Sound P 74 :=
  conT_sound (fun a _ => ⟨rfl, pure_tpC _, by simp [pureD], pure_tpC _⟩) fun a h => calls_runsF mix T150_sound Tryd.func74 a74_ok (runs_sum a h) (Nat.le_refl _)

/-! Within -/
theorem runs_within (n k : Int) (h1 : 1 ≤ k) (h2 : k ≤ 4294967296) : Runs tbl0 a29 [.int .i64 n, .int .i64 k] (.int .i64 (n % k)) := by
  refine ⟨?_⟩
  obtain ⟨f1, f2⟩ := tmod_fact n k h1 h2
  have h0 : k ≠ 0 := by omega
  simp (disch := first | omega | (simp [-List.map_take, -List.map_drop, -List.map_set, -List.map_append, -List.drop_one] <;> omega) | fail) [-List.map_take, -List.map_drop, -List.map_set, -List.map_append, -List.drop_one, a29, h0, f1, f2, -Int.tmod_eq_emod_of_nonneg]
noncomputable def cWithin : List DV → Option DV
  | [.int .i64 n, .int .i64 k] => if 1 ≤ k ∧ k ≤ 4294967296 then some (.int .i64 (n % k)) else none
  | _ => none
theorem cWithin_eq {n k : Int} (h1 : 1 ≤ k) (h2 : k ≤ 4294967296) : cWithin [.int .i64 n, .int .i64 k] = some (.int .i64 (n % k)) := if_pos ⟨h1, h2⟩
theorem within_sound : (Con.pure cWithin).Sound P 29 := by
  intro args v e
  unfold cWithin at e
  split at e
  · obtain ⟨⟨h1, h2⟩, e⟩ := Option.ite_none_right_eq_some.1 e
    simp at e; subst e
    exact sem_runs mix tbl0_sound Tryd.func29 a29_ok (runs_within _ _ h1 h2)
  · simp at e

/-! a new tape -/
structure Nl where
  k : Option Bool
  l : List Int
  h : k = none → l = []
  b : l.length ≤ 9223372036854775807
def Nl.dv (x : Nl) : DV := slD x.k 1 x.l.length (x.l.flatMap inI)
def tp0 (x : Nl) (n : Nat) : Tp := ⟨x.k.map fun b => b && (min x.l.length n == x.l.length), x.l.take n, fun e => by simp at e; rw [x.h e]; simp, 0⟩
theorem tp0_at (x : Nl) (n : Nat) : (tp0 x n).at_ = 0 := rfl
theorem nl_pure (x : Nl) : pureD x.dv = true := pure_sl ⟨x.k, x.l, x.h, 0⟩
theorem nl_inj {a b : Nl} (h : a.dv = b.dv) : a = b := by
  obtain ⟨k, l, h1, p⟩ := a
  obtain ⟨k', l', h2, p'⟩ := b
  have := tpC_inj (a := ⟨k, l, h1, 0⟩) (b := ⟨k', l', h2, 0⟩) (by simp only [tpC, Tp.sl]; simp only [Nl.dv] at h; rw [h])
  simp only [Tp.mk.injEq, and_true] at this
  rw [Nl.mk.injEq]; exact this
theorem build_tp {t : Tp} : buildD [.nils, .int .i64 0] [(0, 1, t.sl)] = some (.agg [t.sl, .int .i64 0]) := by simp [buildD, fillD, splice]
theorem runs_tape (x : Nl) (n : Nat) (hn : n ≤ 4294967296) : RunsF tbl0 a26 [x.dv, .int .i64 n] [] (.mp 0 2 0) [.cells (tpC (tp0 x n))] := by
  refine ⟨?_⟩
  have hb := x.b
  have hl : ∀ H, lenD H x.dv = some (.int .i64 x.l.length) := fun H => lenD_slD (fun e => by rw [x.h e]; rfl)
  have hm : min (x.l.length : Int) n = ((min x.l.length n : Nat) : Int) := by omega
  have hs : ∀ H, slcSD H 1 x.dv none (some (.int .i64 ((min x.l.length n : Nat) : Int))) none = some (tp0 x n).sl := fun H => by
    obtain ⟨k, l, h, b⟩ := x
    cases k with
    | none =>
      cases h rfl
      simp only [Nl.dv, slD_none, tp0, Tp.sl, Option.map_none, List.length_nil, Nat.zero_min]
      rw [slcSD_nils (p := (0, 0)) (by simp [boundsD, iD])]
    | some b =>
      simp only [Nl.dv, slD_some, tp0, Tp.sl, Option.map_some]
      rw [slcSD_sl (l := 0) (m := min l.length n) (by simp [boundsD, iD]; omega)]
      simp only [Nat.zero_mul, List.drop_zero, Nat.sub_zero, List.length_take, fm_take len_inI, Nat.min_comm n]
      congr 2
      rw [show List.take (min l.length n) l = List.take n l from by rw [Nat.min_comm, ← List.take_take, List.take_of_length_le (Nat.le_refl l.length)]]
  have hat := tp0_at x n
  have hfz : ∀ k, fzL 1 k (tpC (tp0 x n)) (tpC (tp0 x n)) := fun k => fzL_clean (pure_tpC _)
  have htp : tpC (tp0 x n) = [(tp0 x n).sl, .int .i64 0] := rfl
  rw [htp] at hfz ⊢
  simp (disch := first | omega | (simp [-List.map_take, -List.map_drop, -List.map_set, -List.map_append, -List.drop_one] <;> omega) | fail) [-List.map_take, -List.map_drop, -List.map_set, -List.map_append, -List.drop_one, a26, hl, hm, hs, hfz, build_tp, E_mm2, mm2_min]
noncomputable def cTape : List DV → Nat → Option (DV × List AObj) := conN (fun a : Nl × Nat => a.2 ≤ 4294967296) (fun a => [a.1.dv, .int .i64 a.2]) (fun a => (.mp 0 2 0, [.cells (tpC (tp0 a.1 a.2))]))
theorem cTape_eq {x : Nl} {n : Nat} (h : n ≤ 4294967296) (m : Nat) : cTape [x.dv, .int .i64 n] m = some (.mp m 2 0, [.cells (tpC (tp0 x n))]) := by
  have := conN_eq (A := fun a : Nl × Nat => a.2 ≤ 4294967296) (f := fun a => [a.1.dv, .int .i64 a.2]) (g := fun a => (.mp 0 2 0, [.cells (tpC (tp0 a.1 a.2))])) (fun a b e => by
    simp only [List.cons.injEq, DV.int.injEq, true_and, and_true, Int.natCast_inj] at e
    rw [nl_inj e.1, e.2]) (x, n) h m
  rw [cTape, this]
  simp only [shD_mp, List.map_cons, List.map_nil, shO_cells, shL_pure _ _ (pure_tpC _), Nat.add_zero]
theorem tape_sound : (Con.new cTape).Sound P 26 :=
  conN_sound (fun a _ => by simp [pureL, nl_pure, pureD]) fun a h => calls_runsF mix tbl0_sound Tryd.func26 a26_ok (runs_tape a.1 a.2 h) (by simp)
end Go.Proofs.YtjhakjeioppijaaDoor
/-
  Made groups.
-/
set_option linter.unusedSimpArgs false
set_option linter.unusedVariables false
namespace Go.Proofs.YtjhakjeioppijaaDoor
open Go Go.Am

def gOne (x : Sl Dg) (t : Tp) : Dg × Tp := if 0 < tpN (t.adv 1) 6 then (x.l.getD (tpN (t.adv 2) x.l.length).toNat dg0, t.adv 3) else (sumV t, t.adv 2)
def gAdd (l : List Dg) (d : Dg) : List Dg := if d ∈ l then l else l ++ [d]
def gLoop (x : Sl Dg) : Nat → Tp → List Dg → List Dg × Tp
  | 0, t, l => (l, t)
  | k + 1, t, l => gLoop x k (gOne x t).2 (gAdd l (gOne x t).1)
def groupV (t : Tp) (x : Sl Dg) : Grp × Tp :=
  (⟨pickV t [[112, 114, 111, 100], [116, 101, 115, 116]], pickV (t.adv 1) [[119, 101, 98], [100, 98]], tpN (t.adv 2) 4, tpN (t.adv 3) (tpN (t.adv 2) 4 + 1), tpN (t.adv 4) (tpN (t.adv 2) 4 + 1),
    own (gLoop x ((tpN (t.adv 5) 3).toNat + 1) (t.adv 6) []).1⟩, (gLoop x ((tpN (t.adv 5) 3).toNat + 1) (t.adv 6) []).2)
theorem gOne_at (x : Sl Dg) (t : Tp) : (gOne x t).2.at_ ≤ t.at_ + 3 := by unfold gOne; split <;> simp
theorem gAdd_ne (l : List Dg) (d : Dg) : gAdd l d ≠ [] := by
  unfold gAdd; split
  · rename_i h; intro e; rw [e] at h; simp at h
  · simp
theorem gAdd_len (l : List Dg) (d : Dg) : (gAdd l d).length ≤ l.length + 1 := by unfold gAdd; split <;> simp

structure GS where
  k : Nat
  t : Tp
  l : List Dg
  d : Dg
structure GC where
  ns : List UInt8
  im : List UInt8
  want : Int
  least : Int
  down : Int
def gCells (g : GC) (ch : DV) : List DV := [.str g.ns, .str g.im, .int .i64 g.want, .int .i64 g.least, .int .i64 g.down, ch]
def gZero : List DV := [.str [], .str [], .int .i64 0, .int .i64 0, .int .i64 0, .nils]
def gH (g : GC) (a : GS) : List AObj := if a.l = [] then [.cells (tpC a.t), .cells gZero, .cells (gCells g .nils)] else
  [.cells (tpC a.t), .cells gZero, .cells (gCells g (.ms 4 (a.l.length * 32) 0 32 a.l.length (a.l.length * 32))), .cells (dgC a.d), .cells (a.l.flatMap dgC)]
def S160 (g : GC) (x : Sl Dg) (a : GS) : St := a34S0 (.mp 0 2 0) (x.dv 32 dgC) (.mp 1 6 0) (.mp 2 6 0) (.int .i64 ((a.k : Int) - 1)) (gH g a)
theorem gH_nil {g : GC} {a : GS} (h : a.l = []) : gH g a = [.cells (tpC a.t), .cells gZero, .cells (gCells g .nils)] := if_pos h
theorem gH_ne {g : GC} {a : GS} (h : a.l ≠ []) : gH g a = [.cells (tpC a.t), .cells gZero, .cells (gCells g (.ms 4 (a.l.length * 32) 0 32 a.l.length (a.l.length * 32))), .cells (dgC a.d), .cells (a.l.flatMap dgC)] := if_neg h
noncomputable def T160 : Tbl := addT 28 (.tch cNext) (addT 73 (.tch cPick) (addT 74 (.tch cSum) (addT 63 (.pure (cDgs hasB)) tbl0)))
theorem T160_n : T160 28 = .tch cNext := by simp [T160]
theorem T160_p : T160 73 = .tch cPick := by simp [T160]
theorem T160_s : T160 74 = .tch cSum := by simp [T160]
theorem T160_h : T160 63 = .pure (cDgs hasB) := by simp [T160]
theorem T160_sound : T160.Sound P := addT_sound next_sound (addT_sound pick_sound (addT_sound sum_sound (addT_sound (con_sound fun p _ => sem_runs mix tbl0_sound Tryd.func63 a63_ok (runs_refhas p.1 p.2)) tbl0_sound)))
theorem build_g3 {a b : List UInt8} {n : Int} : buildD [.str [], .str [], .int .i64 0, .int .i64 0, .int .i64 0, .nils] [(0, 1, .str a), (1, 1, .str b), (2, 1, .int .i64 n)] = some (.agg [.str a, .str b, .int .i64 n, .int .i64 0, .int .i64 0, .nils]) := rfl
theorem storeO_agg6 {h : List AObj} {id : Nat} {a b c d e f : DV} {l : List DV} (hl : l.length = 6) (h1 : a.one = true) (h2 : b.one = true) (h3 : c.one = true) (h4 : d.one = true) (h5 : e.one = true) (h6 : f.one = true) :
    storeO h id 6 0 (.agg [a, b, c, d, e, f]) (some l) = some (.junk, h.set id (.cells [a, b, c, d, e, f])) := storeO_agg rfl hl (by simp [h1, h2, h3, h4, h5, h6])
theorem one_agg6 {a b c d e f : DV} : one 6 true [a, b, c, d, e, f] = some (.agg [a, b, c, d, e, f]) := rfl
set_option maxHeartbeats 1000000 in
theorem runs_group_made (t : Tp) (x : Sl Dg) (ht : t.at_ < 3999999000) (hx : 1 ≤ x.l.length) : RunsF T160 a34 [.mp 0 2 0, x.dv 32 dgC] [.cells (tpC t)] (.agg (grC (groupV t x).1)) [.cells (tpC (groupV t x).2)] := by
  refine ⟨?_⟩
  have n1 := tpN_lo (t.adv 2) 4
  have n2 := tpN_hi (t.adv 2) (n := 4) (by omega)
  have n5 := tpN_lo (t.adv 5) 3
  have n6 := tpN_hi (t.adv 5) (n := 3) (by omega)
  unfold groupV
  obtain ⟨r, hr⟩ : ∃ r, gLoop x ((tpN (t.adv 5) 3).toNat + 1) (t.adv 6) [] = r := ⟨_, rfl⟩
  rw [hr]
  obtain ⟨w, hw⟩ : ∃ w, tpN (t.adv 2) 4 = w := ⟨_, rfl⟩
  rw [hw] at n1 n2 ⊢
  obtain ⟨N, hN⟩ : ∃ N : Nat, tpN (t.adv 5) 3 = N := ⟨_, (Int.toNat_of_nonneg n5).symm⟩
  rw [hN, Int.toNat_natCast] at hr
  rw [hN] at n6
  obtain ⟨le, hle⟩ : ∃ w', tpN (t.adv 3) (w + 1) = w' := ⟨_, rfl⟩
  obtain ⟨dn, hdn⟩ : ∃ w', tpN (t.adv 4) (w + 1) = w' := ⟨_, rfl⟩
  rw [hle, hdn]
  simp (disch := first | omega | (simp [-List.map_take, -List.map_drop, -List.map_set, -List.map_append, -List.drop_one] <;> omega) | fail) [-List.map_take, -List.map_drop, -List.map_set, -List.map_append, -List.drop_one, a34, T160_n, T160_p, cPick2, cNext_pos, hw, hN, adv_adv, hle, hdn, build_g3, storeO_agg6]
  refine W_loop (S160 ⟨pickV t [[112, 114, 111, 100], [116, 101, 115, 116]], pickV (t.adv 1) [[119, 101, 98], [100, 98]], w, le, dn⟩ x) (fun a => a.k) (fun a => gLoop x a.k a.t a.l = r ∧ a.t.at_ + 3 * a.k < 4000000000 ∧ a.l.length + a.k ≤ 4 ∧ (a.l = [] → 1 ≤ a.k)) ⟨N + 1, t.adv 6, [], dg0⟩ ?_ ?_ (fun a ha => ?_)
  · rw [S160, gH_nil rfl]
    exact weak_same (by simp (disch := first | omega | (simp [-List.map_take, -List.map_drop, -List.map_set, -List.map_append, -List.drop_one] <;> omega) | fail) [-List.map_take, -List.map_drop, -List.map_set, -List.map_append, -List.drop_one, a34S0]) (by simp (disch := first | omega | (simp [-List.map_take, -List.map_drop, -List.map_set, -List.map_append, -List.drop_one] <;> omega) | fail) [-List.map_take, -List.map_drop, -List.map_set, -List.map_append, -List.drop_one, gCells, gZero])
  · exact ⟨hr, by simp; omega, by simp; omega, fun _ => by simp⟩
  obtain ⟨k, u, l, d0⟩ := a
  obtain ⟨h1, h2, h3, h4⟩ := ha
  simp only at h1 h2 h3 h4
  cases k with
  | zero =>
    have hl : l ≠ [] := fun e => by have := h4 e; omega
    rw [S160, gH_ne hl]
    have e : r = (l, u) := h1.symm
    subst e
    have hlen := fm_len len_dgC l
    have hpl := fm_pure pure_dgC l
    have htk : (l.flatMap dgC).take (l.length * 32) = l.flatMap dgC := List.take_of_length_le (by omega)
    have hfz : ∀ k, fzL 1 k (tpC u) (tpC u) := fun k => fzL_clean (pure_tpC _)
    simp (disch := first | omega | (simp [-List.map_take, -List.map_drop, -List.map_set, -List.map_append, -List.drop_one] <;> omega) | fail) [-List.map_take, -List.map_drop, -List.map_set, -List.map_append, -List.drop_one, a34L0, a34S0, gCells, gZero, one_agg6, storeO_agg6, hlen, htk, hfz, own_dv, fzLo_clean hpl, grC]
  | succ k =>
  have m1 := tpN_lo (u.adv 2) x.l.length
  have m2 := tpN_hi (u.adv 2) (n := x.l.length) (by omega)
  obtain ⟨M, hM⟩ : ∃ M : Nat, tpN (u.adv 2) x.l.length = M := ⟨_, (Int.toNat_of_nonneg m1).symm⟩
  have hMl : M < x.l.length := by omega
  have hxb := x.b
  have hget : ∀ H, idxSD H 32 (x.dv 32 dgC) M = some (.ref (dgC x.l[M])) := fun H => idxSD_dv len_dgC hMl
  have hx0 : 0 < x.l.length := by omega
  have hx0' : (0 : Int) < x.l.length := by omega
  have hk1 : ((k + 1 : Nat) : Int) - 1 = k := by omega
  have h1' : gLoop x k (gOne x u).2 (gAdd l (gOne x u).1) = r := h1
  by_cases hl : l = []
  · rw [S160, gH_nil hl]
    subst hl
    have hh : ∀ d, cDgs hasB [.nils, .agg (dgC d)] = some (.bool false) := fun d => by
      have := cDgs_eq (g := hasB) (x := ⟨none, [], fun _ => rfl, by simp⟩) (d := d)
      exact this.trans (by simp [hasB])
    by_cases hb : 0 < tpN (u.adv 1) 6
    · have hone : gOne x u = (x.l[M], u.adv 3) := by rw [gOne, if_pos hb, hM, Int.toNat_natCast, List.getD_eq_getElem?_getD, List.getElem?_eq_getElem hMl]; rfl
      rw [hone] at h1'
      simp (disch := first | omega | (simp [-List.map_take, -List.map_drop, -List.map_set, -List.map_append, -List.drop_one] <;> omega) | fail) [-List.map_take, -List.map_drop, -List.map_set, -List.map_append, -List.drop_one, a34L0, a34S0, T160_s, T160_n, T160_h, cSum_eq, cNext_pos, adv_adv, hx0, hx0', hb, hM, hget, gCells, hh, storeO_one]
      refine ⟨⟨k, u.adv 3, [x.l[M]], x.l[M]⟩, ?_, by simp, by simpa [gAdd] using h1', by simp; omega, by simp; omega, fun e => by simp at e⟩
      rw [S160, gH_ne (by simp)]
      exact weak_same (by simp (disch := first | omega | (simp [-List.map_take, -List.map_drop, -List.map_set, -List.map_append, -List.drop_one] <;> omega) | fail) [-List.map_take, -List.map_drop, -List.map_set, -List.map_append, -List.drop_one, a34S0]) (by simp (disch := first | omega | (simp [-List.map_take, -List.map_drop, -List.map_set, -List.map_append, -List.drop_one] <;> omega) | fail) [-List.map_take, -List.map_drop, -List.map_set, -List.map_append, -List.drop_one, gCells])
    · have hone : gOne x u = ((sumV u), u.adv 2) := by rw [gOne, if_neg hb]
      rw [hone] at h1'
      simp (disch := first | omega | (simp [-List.map_take, -List.map_drop, -List.map_set, -List.map_append, -List.drop_one] <;> omega) | fail) [-List.map_take, -List.map_drop, -List.map_set, -List.map_append, -List.drop_one, a34L0, a34S0, T160_s, T160_n, T160_h, cSum_eq, cNext_pos, adv_adv, hx0, hx0', hb, hM, hget, gCells, hh, storeO_one]
      refine ⟨⟨k, u.adv 2, [(sumV u)], (sumV u)⟩, ?_, by simp, by simpa [gAdd] using h1', by simp; omega, by simp; omega, fun e => by simp at e⟩
      rw [S160, gH_ne (by simp)]
      exact weak_same (by simp (disch := first | omega | (simp [-List.map_take, -List.map_drop, -List.map_set, -List.map_append, -List.drop_one] <;> omega) | fail) [-List.map_take, -List.map_drop, -List.map_set, -List.map_append, -List.drop_one, a34S0]) (by simp (disch := first | omega | (simp [-List.map_take, -List.map_drop, -List.map_set, -List.map_append, -List.drop_one] <;> omega) | fail) [-List.map_take, -List.map_drop, -List.map_set, -List.map_append, -List.drop_one, gCells])
  · rw [S160, gH_ne hl]
    have hl32 : l.length ≤ 4294967296 := by omega
    have hlen := fm_len len_dgC l
    have hpl := fm_pure pure_dgC l
    have htk : (l.flatMap dgC).take (l.length * 32) = l.flatMap dgC := List.take_of_length_le (by omega)
    have hsn : ∀ H j, snapL H j (l.flatMap dgC) = some (l.flatMap dgC) := fun H j => snapL_clean hpl
    by_cases hb : 0 < tpN (u.adv 1) 6
    · have hone : gOne x u = (x.l[M], u.adv 3) := by rw [gOne, if_pos hb, hM, Int.toNat_natCast, List.getD_eq_getElem?_getD, List.getElem?_eq_getElem hMl]; rfl
      rw [hone] at h1'
      have hh : cDgs hasB [.sl false 32 l.length (l.flatMap dgC), .agg (dgC x.l[M])] = some (.bool (decide (x.l[M] ∈ l))) :=
        cDgs_eq (g := hasB) (x := ⟨some false, l, fun e => by simp at e, hl32⟩) (d := x.l[M])
      by_cases hm : x.l[M] ∈ l
      · simp (disch := first | omega | (simp [-List.map_take, -List.map_drop, -List.map_set, -List.map_append, -List.drop_one] <;> omega) | fail) [-List.map_take, -List.map_drop, -List.map_set, -List.map_append, -List.drop_one, a34L0, a34S0, T160_s, T160_n, T160_h, cSum_eq, cNext_pos, adv_adv, hx0, hx0', hb, hM, hget, gCells, hh, storeO_one, hlen, hpl, htk, hsn, hm]
        refine ⟨⟨k, u.adv 3, l, d0⟩, ?_, by simp, by simpa [gAdd, hm] using h1', by simp; omega, by simp; omega, fun e => absurd e hl⟩
        rw [S160, gH_ne hl]
        exact weak_drop (tail := [.cells (dgC x.l[M])]) (by simp (disch := first | omega | (simp [-List.map_take, -List.map_drop, -List.map_set, -List.map_append, -List.drop_one] <;> omega) | fail) [-List.map_take, -List.map_drop, -List.map_set, -List.map_append, -List.drop_one, a34S0]) (by simp (disch := first | omega | (simp [-List.map_take, -List.map_drop, -List.map_set, -List.map_append, -List.drop_one] <;> omega) | fail) [-List.map_take, -List.map_drop, -List.map_set, -List.map_append, -List.drop_one, gCells]) (by simp) (by simp [Am.belowL, Am.below]) (by simp [belowH, Am.belowL, Am.below, belowL_pure _ _ (pure_tpC _), belowL_pure _ _ hpl, belowL_pure _ _ (pureL_append hpl (pure_dgC _)), gZero, gCells])
      · simp (disch := first | omega | (simp [-List.map_take, -List.map_drop, -List.map_set, -List.map_append, -List.drop_one] <;> omega) | fail) [-List.map_take, -List.map_drop, -List.map_set, -List.map_append, -List.drop_one, a34L0, a34S0, T160_s, T160_n, T160_h, cSum_eq, cNext_pos, adv_adv, hx0, hx0', hb, hM, hget, gCells, hh, storeO_one, hlen, hpl, htk, hsn, hm]
        refine ⟨⟨k, u.adv 3, l ++ [x.l[M]], d0⟩, ?_, by simp, by simpa [gAdd, hm] using h1', by simp; omega, by simp; omega, fun e => by simp at e⟩
        rw [S160, gH_ne (by simp)]
        exact weak_drop (tail := [.cells (dgC x.l[M])]) (by simp (disch := first | omega | (simp [-List.map_take, -List.map_drop, -List.map_set, -List.map_append, -List.drop_one] <;> omega) | fail) [-List.map_take, -List.map_drop, -List.map_set, -List.map_append, -List.drop_one, a34S0]) (by simp (disch := first | omega | (simp [-List.map_take, -List.map_drop, -List.map_set, -List.map_append, -List.drop_one] <;> omega) | fail) [-List.map_take, -List.map_drop, -List.map_set, -List.map_append, -List.drop_one, gCells, Nat.add_mul]) (by simp) (by simp [Am.belowL, Am.below]) (by simp [belowH, Am.belowL, Am.below, belowL_pure _ _ (pure_tpC _), belowL_pure _ _ hpl, belowL_pure _ _ (pureL_append hpl (pure_dgC _)), gZero, gCells])
    · have hone : gOne x u = ((sumV u), u.adv 2) := by rw [gOne, if_neg hb]
      rw [hone] at h1'
      have hh : cDgs hasB [.sl false 32 l.length (l.flatMap dgC), .agg (dgC (sumV u))] = some (.bool (decide ((sumV u) ∈ l))) :=
        cDgs_eq (g := hasB) (x := ⟨some false, l, fun e => by simp at e, hl32⟩) (d := (sumV u))
      by_cases hm : (sumV u) ∈ l
      · simp (disch := first | omega | (simp [-List.map_take, -List.map_drop, -List.map_set, -List.map_append, -List.drop_one] <;> omega) | fail) [-List.map_take, -List.map_drop, -List.map_set, -List.map_append, -List.drop_one, a34L0, a34S0, T160_s, T160_n, T160_h, cSum_eq, cNext_pos, adv_adv, hx0, hx0', hb, hM, hget, gCells, hh, storeO_one, hlen, hpl, htk, hsn, hm]
        refine ⟨⟨k, u.adv 2, l, d0⟩, ?_, by simp, by simpa [gAdd, hm] using h1', by simp; omega, by simp; omega, fun e => absurd e hl⟩
        rw [S160, gH_ne hl]
        exact weak_drop (tail := [.cells (dgC (sumV u))]) (by simp (disch := first | omega | (simp [-List.map_take, -List.map_drop, -List.map_set, -List.map_append, -List.drop_one] <;> omega) | fail) [-List.map_take, -List.map_drop, -List.map_set, -List.map_append, -List.drop_one, a34S0]) (by simp (disch := first | omega | (simp [-List.map_take, -List.map_drop, -List.map_set, -List.map_append, -List.drop_one] <;> omega) | fail) [-List.map_take, -List.map_drop, -List.map_set, -List.map_append, -List.drop_one, gCells]) (by simp) (by simp [Am.belowL, Am.below]) (by simp [belowH, Am.belowL, Am.below, belowL_pure _ _ (pure_tpC _), belowL_pure _ _ hpl, belowL_pure _ _ (pureL_append hpl (pure_dgC _)), gZero, gCells])
      · simp (disch := first | omega | (simp [-List.map_take, -List.map_drop, -List.map_set, -List.map_append, -List.drop_one] <;> omega) | fail) [-List.map_take, -List.map_drop, -List.map_set, -List.map_append, -List.drop_one, a34L0, a34S0, T160_s, T160_n, T160_h, cSum_eq, cNext_pos, adv_adv, hx0, hx0', hb, hM, hget, gCells, hh, storeO_one, hlen, hpl, htk, hsn, hm]
        refine ⟨⟨k, u.adv 2, l ++ [(sumV u)], d0⟩, ?_, by simp, by simpa [gAdd, hm] using h1', by simp; omega, by simp; omega, fun e => by simp at e⟩
        rw [S160, gH_ne (by simp)]
        exact weak_drop (tail := [.cells (dgC (sumV u))]) (by simp (disch := first | omega | (simp [-List.map_take, -List.map_drop, -List.map_set, -List.map_append, -List.drop_one] <;> omega) | fail) [-List.map_take, -List.map_drop, -List.map_set, -List.map_append, -List.drop_one, a34S0]) (by simp (disch := first | omega | (simp [-List.map_take, -List.map_drop, -List.map_set, -List.map_append, -List.drop_one] <;> omega) | fail) [-List.map_take, -List.map_drop, -List.map_set, -List.map_append, -List.drop_one, gCells, Nat.add_mul]) (by simp) (by simp [Am.belowL, Am.below]) (by simp [belowH, Am.belowL, Am.below, belowL_pure _ _ (pure_tpC _), belowL_pure _ _ hpl, belowL_pure _ _ (pureL_append hpl (pure_dgC _)), gZero, gCells])
end Go.Proofs.YtjhakjeioppijaaDoor
/-
  Copy, Deploy of the reference.
-/
set_option linter.unusedSimpArgs false
set_option linter.unusedVariables false
namespace Go.Proofs.YtjhakjeioppijaaDoor
open Go Go.Am

def cpD {α : Type} (id s : Nat) (x : Sl α) : DV := if x.l = [] then .nils else .ms id (x.l.length * s) 0 s x.l.length (x.l.length * s)
theorem cpD_nil {α : Type} {id s : Nat} {x : Sl α} (h : x.l = []) : cpD id s x = .nils := if_pos h
theorem cpD_ne {α : Type} {id s : Nat} {x : Sl α} (h : x.l ≠ []) : cpD id s x = .ms id (x.l.length * s) 0 s x.l.length (x.l.length * s) := if_neg h
theorem cpD_one {α : Type} {id s : Nat} {x : Sl α} : (cpD id s x).one = true := by unfold cpD; split <;> rfl
theorem cpD_cells {α : Type} {id s : Nat} {x : Sl α} : (cpD id s x).cells = [cpD id s x] := by unfold cpD; split <;> rfl
theorem cpD_known {α : Type} {id s : Nat} {x : Sl α} : (cpD id s x).known = true := by unfold cpD; split <;> rfl
theorem cpD_sh {α : Type} {n id s : Nat} {x : Sl α} : shD n (cpD id s x) = cpD (n + id) s x := by unfold cpD; split <;> rfl
attribute [simp] cpD_one cpD_cells cpD_known
def copyW (n : Nat) (c : Clu) : List DV := [cpD (n + 2) 6 c.g, cpD (n + (2 + (mutO c.g grC).length)) 37 c.i, .int .i64 c.next]
def copyK (n : Nat) (c : Clu) : List AObj := .cells (clC c) :: .cells (copyW n c) :: (mutO c.g grC ++ mutO c.i inC)
theorem build_3 {a b : DV} {n : Int} (h1 : a.known = true) (h2 : a.cells = [a]) (h3 : b.known = true) (h4 : b.cells = [b]) : buildD [.nils, .nils, .int .i64 0] [(0, 1, a), (1, 1, b), (2, 1, .int .i64 n)] = some (.agg [a, b, .int .i64 n]) := by
  have q1 : (DV.int .i64 n).cells = [.int .i64 n] := rfl
  have q2 : (DV.int .i64 n).known = true := rfl
  simp [buildD, fillD, splice, h1, h2, h3, h4, q1, q2]
theorem runs_refcopy (c : Clu) : RunsH tbl0 a76 [.agg (clC c)] [] (.agg (copyW 0 c)) (copyK 0 c) := by
  refine ⟨?_⟩
  have hbg := c.g.b
  have hbi := c.i.b
  have v1 := fun H => visY_dv (h := H) (x := c.g) len_grC
  have v2 := fun H => visY_dv (h := H) (x := c.i) len_inC
  have l1 := fm_len len_grC c.g.l
  have l2 := fm_len len_inC c.i.l
  by_cases hg : c.g.l = []
  · have e1 := fun id => cpD_nil (id := id) (s := 6) hg
    have e2 := mutO_nil (f := grC) hg
    have e3 : c.g.l.length = 0 := by rw [hg]; rfl
    have e4 : c.g.l.flatMap grC = [] := by rw [hg]; rfl
    rw [e3, e4] at v1
    by_cases hi : c.i.l = []
    · have f1 := fun id => cpD_nil (id := id) (s := 37) hi
      have f2 := mutO_nil (f := inC) hi
      have f3 : c.i.l.length = 0 := by rw [hi]; rfl
      have f4 : c.i.l.flatMap inC = [] := by rw [hi]; rfl
      rw [f3, f4] at v2
      simp (disch := first | omega | (simp [-List.map_take, -List.map_drop, -List.map_set, -List.map_append, -List.drop_one] <;> omega) | fail) [-List.map_take, -List.map_drop, -List.map_set, -List.map_append, -List.drop_one, a76, copyW, copyK, v1, v2, e1, e2, f1, f2, build_3]
    · have f1 := fun id => cpD_ne (id := id) (s := 37) hi
      have f2 := mutO_ne (f := inC) hi
      have f3 : 0 < c.i.l.length := List.length_pos_iff.2 hi
      simp (disch := first | omega | (simp [-List.map_take, -List.map_drop, -List.map_set, -List.map_append, -List.drop_one] <;> omega) | fail) [-List.map_take, -List.map_drop, -List.map_set, -List.map_append, -List.drop_one, a76, copyW, copyK, v1, v2, e1, e2, f1, f2, f3, l2, build_3]
  · have e1 := fun id => cpD_ne (id := id) (s := 6) hg
    have e2 := mutO_ne (f := grC) hg
    have e3 : 0 < c.g.l.length := List.length_pos_iff.2 hg
    by_cases hi : c.i.l = []
    · have f1 := fun id => cpD_nil (id := id) (s := 37) hi
      have f2 := mutO_nil (f := inC) hi
      have f3 : c.i.l.length = 0 := by rw [hi]; rfl
      have f4 : c.i.l.flatMap inC = [] := by rw [hi]; rfl
      rw [f3, f4] at v2
      simp (disch := first | omega | (simp [-List.map_take, -List.map_drop, -List.map_set, -List.map_append, -List.drop_one] <;> omega) | fail) [-List.map_take, -List.map_drop, -List.map_set, -List.map_append, -List.drop_one, a76, copyW, copyK, v1, v2, e1, e2, e3, l1, f1, f2, build_3]
    · have f1 := fun id => cpD_ne (id := id) (s := 37) hi
      have f2 := mutO_ne (f := inC) hi
      have f3 : 0 < c.i.l.length := List.length_pos_iff.2 hi
      simp (disch := first | omega | (simp [-List.map_take, -List.map_drop, -List.map_set, -List.map_append, -List.drop_one] <;> omega) | fail) [-List.map_take, -List.map_drop, -List.map_set, -List.map_append, -List.drop_one, a76, copyW, copyK, v1, v2, e1, e2, e3, l1, f1, f2, f3, l2, build_3]
/-! Deploy -/
def copyW0 (c : Clu) : List DV := [cpD 2 6 c.g, cpD (2 + (mutO c.g grC).length) 37 c.i, .int .i64 c.next]
def copyK0 (c : Clu) : List AObj := .cells (clC c) :: .cells (copyW0 c) :: (mutO c.g grC ++ mutO c.i inC)
theorem runs_refcopy' (c : Clu) : RunsH tbl0 a76 [.agg (clC c)] [] (.agg (copyW0 c)) (copyK0 c) := by
  have := runs_refcopy c
  simpa [copyW, copyK, copyW0, copyK0] using this
noncomputable def cNCp : List DV → Nat → Option (DV × List AObj) := conN (fun _ => True) (fun c : Clu => [.agg (clC c)]) (fun c => (.agg (copyW0 c), copyK0 c))
theorem cNCp_eq {c : Clu} {n : Nat} : cNCp [.agg (clC c)] n = some (.agg (copyW n c), copyK n c) := by
  have := conN_eq (A := fun _ => True) (f := fun x : Clu => [.agg (clC x)]) (g := fun c => (.agg (copyW0 c), copyK0 c)) (fun a b e => by
    simp only [List.cons.injEq, DV.agg.injEq, and_true] at e
    rw [clC_inj e]) c trivial n
  simp only [copyW0, copyK0, shD_agg, shL_cons, shL_nil, cpD_sh, shD_int, List.map_cons, List.map_append, shO_cells, shO_mut pure_grC, shO_mut pure_inC, Nat.zero_add, shL_pure _ _ (pure_clC c)] at this
  exact this
noncomputable def T170 : Tbl := addT 21 (.pure (cC1 validCB)) (addT 19 (.pure (cG1 validGB)) (addT 23 (.pure (cCSS grpD)) (addT 76 (.new cNCp) (addT 25 (.pure (cCi fun c i => .int .i64 (findIx c.i.l i))) (addT 77 (.pure cTm) tbl0)))))
theorem T170_v : T170 21 = .pure (cC1 validCB) := by simp [T170]
theorem T170_vg : T170 19 = .pure (cG1 validGB) := by simp [T170]
theorem T170_g : T170 23 = .pure (cCSS grpD) := by simp [T170]
theorem T170_c : T170 76 = .new cNCp := by simp [T170]
theorem T170_f : T170 25 = .pure (cCi fun c i => .int .i64 (findIx c.i.l i)) := by simp [T170]
theorem T170_t : T170 77 = .pure cTm := by simp [T170]
theorem T170_sound : T170.Sound P := addT_sound (con_sound fun x _ => sem_runs mix T121_sound Tryd.func21 a21_ok (runs_refvalid x)) (addT_sound (con_sound fun x _ => sem_runs mix T120_sound Tryd.func19 a19_ok (runs_refvalidgroup x)) (addT_sound (con_sound fun x _ => sem_runs mix tbl0_sound Tryd.func23 a23_ok (runs_refgroup x.1 x.2.1 x.2.2)) (addT_sound (conN_sound (fun x _ => by simp) fun x _ => calls_runs mix tbl0_sound Tryd.func76 a76_ok (runs_refcopy' x)) (addT_sound (con_sound fun x _ => sem_runs mix tbl0_sound Tryd.func25 a25_ok (runs_reffind x.1 x.2)) (addT_sound (cTm_sound fun t => sem_runs mix tbl0_sound Tryd.func77 a77_ok (runs_instant t)) tbl0_sound)))))
noncomputable def deployRB (c : Clu) (g : Grp) : DV := .tup [.agg (clC (deployR c g).1), .int .i64 (deployR c g).2]
theorem copy_dv_nil {α : Type} {x : Sl α} {s : Nat} {f : α → List DV} (h : x.l = []) : x.copy.dv s f = .nils := by simp [Sl.copy, Sl.dv, slD, h]
theorem copy_dv_ne {α : Type} {x : Sl α} {s : Nat} {f : α → List DV} (h : x.l ≠ []) : x.copy.dv s f = .sl false s x.l.length (x.l.flatMap f) := by simp [Sl.copy, Sl.dv, slD, h]
set_option maxHeartbeats 4000000 in
theorem runs_refdeploy (c : Clu) (g : Grp) : Runs T170 a36 [.agg (clC c), .agg (grC g)] (deployRB c g) := by
  refine ⟨?_⟩
  by_cases hv : ValidC c
  case neg =>
    have hd : deployR c g = (clu0, 1) := by rw [deployR, if_pos (.inl hv)]
    simp (disch := first | omega | (simp [-List.map_take, -List.map_drop, -List.map_set, -List.map_append, -List.drop_one] <;> omega) | fail) [-List.map_take, -List.map_drop, -List.map_set, -List.map_append, -List.drop_one, a36, T170_v, cC1_eq, validCB, tv_false hv, deployRB, hd, clC_clu0]
  by_cases hvg : ValidG g
  case neg =>
    have hd : deployR c g = (clu0, 1) := by rw [deployR, if_pos (.inr hvg)]
    simp (disch := first | omega | (simp [-List.map_take, -List.map_drop, -List.map_set, -List.map_append, -List.drop_one] <;> omega) | fail) [-List.map_take, -List.map_drop, -List.map_set, -List.map_append, -List.drop_one, a36, T170_v, cC1_eq, validCB, tv_true hv, T170_vg, cG1_eq, validGB, tv_false hvg, deployRB, hd, clC_clu0]
  have hnn : ¬ (¬ ValidC c ∨ ¬ ValidG g) := fun h => h.elim (fun h => h hv) (fun h => h hvg)
  have hng := hv.ng
  have ha : ∀ l : List Grp, (l.flatMap grC).length = l.length * 6 := fm_len len_grC
  have hb : ∀ l : List Ins, (l.flatMap inC).length = l.length * 37 := fm_len len_inC
  by_cases hx : grpIx c.g.l g.ns g.im < 0
  · have hx' : ¬ (0 : Int) ≤ grpIx c.g.l g.ns g.im := by omega
    by_cases hl : 16 ≤ c.g.l.length
    · have hl' : (16 : Int) ≤ c.g.l.length := by omega
      have hd : deployR c g = (clu0, 3) := by rw [deployR, if_neg hnn, if_pos hx, if_pos hl]
      have hg : c.g.l ≠ [] := by intro e; rw [e] at hl; simp at hl
      have e2 := mutO_ne (f := grC) hg
      have e3 := fun id => cpD_ne (id := id) (s := 6) hg
      by_cases hi : c.i.l = []
      · have f1 := fun id => cpD_nil (id := id) (s := 37) hi
        have f2 := mutO_nil (f := inC) hi
        have f3 := copy_dv_nil (s := 37) (f := inC) hi
        simp (disch := first | omega | (simp [-List.map_take, -List.map_drop, -List.map_set, -List.map_append, -List.drop_one] <;> omega) | fail) [-List.map_take, -List.map_drop, -List.map_set, -List.map_append, -List.drop_one, a36, T170_v, cC1_eq, validCB, tv_true hv, T170_vg, cG1_eq, validGB, tv_true hvg, T170_g, cCSS_eq, grpD, T170_c, cNCp_eq, copyW, copyK, storeO_one, bsl_g, deployRB, hd, clC_mk, hx, hx', hl', hl, e2, e3, clC_clu0, f1, f2, f3]
      · have f1 := fun id => cpD_ne (id := id) (s := 37) hi
        have f2 := mutO_ne (f := inC) hi
        have f3 := copy_dv_ne (s := 37) (f := inC) hi
        have f4 := take_ins (l := c.i.l) (Nat.le_refl _)
        simp (disch := first | omega | (simp [-List.map_take, -List.map_drop, -List.map_set, -List.map_append, -List.drop_one] <;> omega) | fail) [-List.map_take, -List.map_drop, -List.map_set, -List.map_append, -List.drop_one, a36, T170_v, cC1_eq, validCB, tv_true hv, T170_vg, cG1_eq, validGB, tv_true hvg, T170_g, cCSS_eq, grpD, T170_c, cNCp_eq, copyW, copyK, storeO_one, bsl_g, deployRB, hd, clC_mk, hx, hx', hl', hl, e2, e3, clC_clu0, f1, f2, f3, f4, hb]
    · have hl' : ¬ (16 : Int) ≤ c.g.l.length := by omega
      have hd : deployR c g = (⟨own (c.g.l ++ [g]), c.i.copy, c.next⟩, 0) := by rw [deployR, if_neg hnn, if_pos hx, if_neg hl]
      have ho := own_dv (l := c.g.l ++ [g]) (s := 6) (f := grC) (by simp; omega)
      by_cases hg : c.g.l = []
      · have e2 := mutO_nil (f := grC) hg
        have e3 := fun id => cpD_nil (id := id) (s := 6) hg
        have ho : (own (c.g.l ++ [g])).dv 6 grC = .sl false 6 1 (grC g) := by rw [ho, hg]; simp
        by_cases hi : c.i.l = []
        · have f1 := fun id => cpD_nil (id := id) (s := 37) hi
          have f2 := mutO_nil (f := inC) hi
          have f3 := copy_dv_nil (s := 37) (f := inC) hi
          simp (disch := first | omega | (simp [-List.map_take, -List.map_drop, -List.map_set, -List.map_append, -List.drop_one] <;> omega) | fail) [-List.map_take, -List.map_drop, -List.map_set, -List.map_append, -List.drop_one, a36, T170_v, cC1_eq, validCB, tv_true hv, T170_vg, cG1_eq, validGB, tv_true hvg, T170_g, cCSS_eq, grpD, T170_c, cNCp_eq, copyW, copyK, storeO_one, bsl_g, deployRB, hd, clC_mk, hx, hx', hl', hl, ho, e2, e3, f1, f2, f3]
        · have f1 := fun id => cpD_ne (id := id) (s := 37) hi
          have f2 := mutO_ne (f := inC) hi
          have f3 := copy_dv_ne (s := 37) (f := inC) hi
          have f4 := take_ins (l := c.i.l) (Nat.le_refl _)
          simp (disch := first | omega | (simp [-List.map_take, -List.map_drop, -List.map_set, -List.map_append, -List.drop_one] <;> omega) | fail) [-List.map_take, -List.map_drop, -List.map_set, -List.map_append, -List.drop_one, a36, T170_v, cC1_eq, validCB, tv_true hv, T170_vg, cG1_eq, validGB, tv_true hvg, T170_g, cCSS_eq, grpD, T170_c, cNCp_eq, copyW, copyK, storeO_one, bsl_g, deployRB, hd, clC_mk, hx, hx', hl', hl, ho, e2, e3, f1, f2, f3, f4, hb]
      · have e2 := mutO_ne (f := grC) hg
        have e3 := fun id => cpD_ne (id := id) (s := 6) hg
        have e7 : (c.g.l.flatMap grC ++ grC g).take ((c.g.l.length + 1) * 6) = c.g.l.flatMap grC ++ grC g := List.take_of_length_le (by rw [List.length_append, ha, len_grC]; omega)
        have e11 : ∀ H k, snapL H k (c.g.l.flatMap grC ++ grC g) = some (c.g.l.flatMap grC ++ grC g) := fun H k => snapL_clean (pureL_append (fm_pure pure_grC _) (pure_grC _))
        have e6 : (c.g.l.length + 1) * 6 = c.g.l.length * 6 + 6 := by omega
        by_cases hi : c.i.l = []
        · have f1 := fun id => cpD_nil (id := id) (s := 37) hi
          have f2 := mutO_nil (f := inC) hi
          have f3 := copy_dv_nil (s := 37) (f := inC) hi
          simp (disch := first | omega | (simp [-List.map_take, -List.map_drop, -List.map_set, -List.map_append, -List.drop_one] <;> omega) | fail) [-List.map_take, -List.map_drop, -List.map_set, -List.map_append, -List.drop_one, a36, T170_v, cC1_eq, validCB, tv_true hv, T170_vg, cG1_eq, validGB, tv_true hvg, T170_g, cCSS_eq, grpD, T170_c, cNCp_eq, copyW, copyK, storeO_one, bsl_g, deployRB, hd, clC_mk, hx, hx', hl', hl, ho, e2, e3, e7, e11, ha, f1, f2, f3]
        · have f1 := fun id => cpD_ne (id := id) (s := 37) hi
          have f2 := mutO_ne (f := inC) hi
          have f3 := copy_dv_ne (s := 37) (f := inC) hi
          have f4 := take_ins (l := c.i.l) (Nat.le_refl _)
          simp (disch := first | omega | (simp [-List.map_take, -List.map_drop, -List.map_set, -List.map_append, -List.drop_one] <;> omega) | fail) [-List.map_take, -List.map_drop, -List.map_set, -List.map_append, -List.drop_one, a36, T170_v, cC1_eq, validCB, tv_true hv, T170_vg, cG1_eq, validGB, tv_true hvg, T170_g, cCSS_eq, grpD, T170_c, cNCp_eq, copyW, copyK, storeO_one, bsl_g, deployRB, hd, clC_mk, hx, hx', hl', hl, ho, e2, e3, e7, e11, ha, f1, f2, f3, f4, hb]
  · obtain ⟨k, hk, hke, hkf, _⟩ := ixI_pos (show 0 ≤ grpIx c.g.l g.ns g.im by omega)
    have hke : grpIx c.g.l g.ns g.im = k := hke
    have hd : deployR c g = (⟨own (c.g.l.set k g), c.i.copy, c.next⟩, 0) := by rw [deployR, if_neg hnn, if_neg hx, hke]; rfl
    have ho := own_dv (l := c.g.l.set k g) (s := 6) (f := grC) (by simp; omega)
    have hg : c.g.l ≠ [] := by intro e; rw [e] at hk; simp at hk
    have e2 := mutO_ne (f := grC) hg
    have e3 := fun id => cpD_ne (id := id) (s := 6) hg
    have hx' : (0 : Int) ≤ k := by omega
    have hk' : (k : Int) < c.g.l.length := by omega
    have e8 : splice (c.g.l.flatMap grC) (k * 6) (grC g) = (c.g.l.set k g).flatMap grC := fm_set len_grC hk _
    have e9 := take_grs (l := c.g.l.set k g) (n := c.g.l.length) (by simp)
    have e10 : ∀ H id, storeO H id 6 (k * 6) (.agg (grC g)) (some (c.g.l.flatMap grC)) = some (.junk, H.set id (.cells ((c.g.l.set k g).flatMap grC))) := fun H id => by
      rw [storeO_grs (by rw [ha]; omega), e8]
    by_cases hi : c.i.l = []
    · have f1 := fun id => cpD_nil (id := id) (s := 37) hi
      have f2 := mutO_nil (f := inC) hi
      have f3 := copy_dv_nil (s := 37) (f := inC) hi
      simp (disch := first | omega | (simp [-List.map_take, -List.map_drop, -List.map_set, -List.map_append, -List.drop_one] <;> omega) | fail) [-List.map_take, -List.map_drop, -List.map_set, -List.map_append, -List.drop_one, a36, T170_v, cC1_eq, validCB, tv_true hv, T170_vg, cG1_eq, validGB, tv_true hvg, T170_g, cCSS_eq, grpD, T170_c, cNCp_eq, copyW, copyK, storeO_one, bsl_g, deployRB, hd, clC_mk, hke, hx', hk', hk, ho, e2, e3, e9, e10, ha, f1, f2, f3]
    · have f1 := fun id => cpD_ne (id := id) (s := 37) hi
      have f2 := mutO_ne (f := inC) hi
      have f3 := copy_dv_ne (s := 37) (f := inC) hi
      have f4 := take_ins (l := c.i.l) (Nat.le_refl _)
      simp (disch := first | omega | (simp [-List.map_take, -List.map_drop, -List.map_set, -List.map_append, -List.drop_one] <;> omega) | fail) [-List.map_take, -List.map_drop, -List.map_set, -List.map_append, -List.drop_one, a36, T170_v, cC1_eq, validCB, tv_true hv, T170_vg, cG1_eq, validGB, tv_true hvg, T170_g, cCSS_eq, grpD, T170_c, cNCp_eq, copyW, copyK, storeO_one, bsl_g, deployRB, hd, clC_mk, hke, hx', hk', hk, ho, e2, e3, e9, e10, ha, f1, f2, f3, f4, hb]
end Go.Proofs.YtjhakjeioppijaaDoor
