/-
  The sanity check of chapter 37.
-/
import Derived.Test.YtjhakjeioppijaaDoorWs
set_option linter.unusedSimpArgs false
set_option linter.unusedVariables false
namespace Go.Proofs.YtjhakjeioppijaaDoor
open Go Go.Am

theorem idx_one {x : Sl Ins} {y : Ins} (h : x.l = [y]) (H : List AObj) : idxSD H 37 (x.dv 37 inC) 0 = some (.ref (inC y)) := by
  have h0 : 0 < x.l.length := by rw [h]; simp
  have := idxSD_dv (h := H) (x := x) len_inC h0
  simp only [h, List.getElem_cons_zero] at this
  exact this
theorem sound_one {st t : Int} (h1 : 1 ≤ st) (h2 : st ≤ 3) (ht : timeOK t) : SoundI 1 2 ⟨1, 0, d1, st, t, -1⟩ := ⟨Int.le_refl _, by show (1 : Int) < 2; decide, Int.le_refl _, by show (0 : Int) < 1; decide, d1_ne, h1, h2, ht, .inl rfl⟩
theorem b0 : buildD [.nils, .nils, .int .i64 0] [(2, 1, .int .i64 1)] = some (.agg [.nils, .nils, .int .i64 1]) := rfl
theorem b1 : buildD (dgC dg0) [(0, 1, w8 1#8)] = some (.agg (dgC d1)) := rfl
theorem b2 : bslD 32 1 (dgC dg0) [(0, 32, .agg (dgC d1))] = some (.sl true 32 1 (dgC d1)) := rfl
set_option maxHeartbeats 2000000 in
theorem runs_awake37 : Runs T116 a17 [] (.bool true) := by
  obtain ⟨c1, e1, g1, i1, n1⟩ := deploy_one valid_gA rfl rfl
  obtain ⟨c2, e2, g2, i2, n2⟩ := start_one g1 i1 n1 (t := 5) (by decide)
  obtain ⟨c3, e3, g3, i3, n3⟩ : ∃ c', changeP c2 1 6 2 = (c', 0) ∧ OneG c' gA.clone.clone.clone ∧ c'.i.l = [⟨1, 0, d1, 2, 6, -1⟩] ∧ c'.next = 2 := by
    rcases change_one g2 i2 n2 (sound_one (by decide) (by decide) (by decide)) rfl (t := 6) (by decide) (to := 2) (.inl rfl) with ⟨_, h⟩ | ⟨h, _⟩
    · exact h
    · simp [may] at h
  have e4 : changeP c3 1 7 2 = (clu0, 30) := by
    rcases change_one g3 i3 n3 (sound_one (by decide) (by decide) (by decide)) rfl (t := 7) (by decide) (to := 2) (.inl rfl) with ⟨h, _⟩ | ⟨_, h⟩
    · simp [may] at h
    · exact h
  have v3 : ValidC c3 := valid_one g3 (.inr ⟨_, i3, by rw [n3]; exact sound_one (by decide) (by decide) (by decide)⟩) (by omega) (by omega)
  have h3 := idx_one i3
  have k1 : findIx c3.i.l 1 = 0 := by rw [i3]; simp [findIx, ixI]
  have k2 : grpIx c3.g.l [97] [98] = 0 := by rw [g3.g]; simp [grpIx, ixI, fitG, g3.a, g3.b]
  have f1 : cDep deployB [.agg [.nils, .nils, .int .i64 1], .agg [.str [97], .str [98], .int .i64 1, .int .i64 0, .int .i64 0, .sl true 32 1 (dgC d1)]] = some (deployB cA gA) := cDep_eq (c := cA) (g := gA)
  have b3 : buildD [.str [], .str [], .int .i64 0, .int .i64 0, .int .i64 0, .nils] [(0, 1, .str [97]), (1, 1, .str [98]), (2, 1, .int .i64 1), (5, 1, .sl true 32 1 (dgC d1))] = some (.agg [.str [97], .str [98], .int .i64 1, .int .i64 0, .int .i64 0, .sl true 32 1 (dgC d1)]) := rfl
  refine ⟨?_⟩
  simp (disch := first | omega | (simp [-List.map_take, -List.map_drop, -List.map_set, -List.map_append, -List.drop_one] <;> omega) | fail) [-List.map_take, -List.map_drop, -List.map_set, -List.map_append, -List.drop_one, a17, T116_d, T116_s, T116_r, T116_v, T116_f, T116_g, b0, b1, b2, b3, f1, cSta_eq, cCii_eq, cC1_eq, cCi_eq, cCSS_eq, deployB, startB, changeB, validCB, grpD, e1, e2, e3, e4, tv_true v3, h3, k1, k2]
noncomputable def cTrue : List DV → Option DV
  | [] => some (.bool true) | _ => none
theorem cTrue_eq : cTrue [] = some (.bool true) := rfl
theorem cTrue_sound {f : Nat} (h : Am.Sem P f [] (.bool true)) : (Con.pure cTrue).Sound P f := by
  intro args v e
  unfold cTrue at e
  split at e
  · simp at e; subst e; exact h
  · simp at e
end Go.Proofs.YtjhakjeioppijaaDoor
