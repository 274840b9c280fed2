/-
  The law WorkloadLife.
-/
import Derived.Test.YtjhakjeioppijaaWt
import Derived.Test.YtjhakjeioppijaaAmY
set_option linter.unusedSimpArgs false
set_option linter.unusedVariables false
namespace Go.Proofs.Ytjhakjeioppijaa
open Go Go.Am

theorem band_1 {a : Int} : binOpD .and (.int .i64 a) (.int .i64 1) = some (.int .i64 (bits .and .i64 a 1)) := rfl
theorem ints_of {gs : List (List DV)} (h : ∀ g ∈ gs, Ty.Ok (.int .i64) g) : ∃ l : List Int, gs.flatten = l.map (DV.int .i64) ∧ l.length = gs.length := by
  induction gs with
  | nil => exact ⟨[], rfl, rfl⟩
  | cons g gs ih =>
    obtain ⟨l, h1, h2⟩ := ih (fun x hx => h x (by simp [hx]))
    obtain ⟨n, hn, _⟩ := h g (by simp)
    exact ⟨n :: l, by simp [hn, h1], by simp [h2]⟩
noncomputable def T117 : Tbl := addT 8 (.pure cTrue) T116
theorem T117_a : T117 8 = .pure cTrue := by simp [T117]
theorem T117_d : T117 4 = .pure (cDep deployB) := by simp [T117, T116]
theorem T117_s : T117 5 = .pure (cSta startB) := by simp [T117, T116]
theorem T117_r : T117 6 = .pure (cCii fun c i t => changeB c i t 2) := by simp [T117, T116]
theorem T117_t : T117 7 = .pure (cCii fun c i t => changeB c i t 3) := by simp [T117, T116]
theorem T117_sound : T117.Sound P := addT_sound (cTrue_sound (sem_runs mix T116_sound Try.func8 a8_ok runs_awake37)) T116_sound
structure X117 where
  c : Clu
  x : Grp
  i : Nat
  st : Int
def S117 (k : Option Bool) (l : List Int) (x : X117) : St := a3S0 (slD k 1 l.length (l.map (DV.int .i64))) (.mp 0 3 0) (.int .i64 1) (.int .i64 x.st) (.int .i64 x.i) [.cells (clC x.c)]
structure R117 (l : List Int) (x : X117) : Prop where
  g : OneG x.c x.x
  i : ∃ si, x.c.i.l = [⟨1, 0, d1, x.st, si, -1⟩] ∧ timeOK si
  n : x.c.next = 2
  s1 : 1 ≤ x.st
  s3 : x.st ≤ 3
  i12 : x.i ≤ 12
  il : x.i ≤ l.length
theorem idxI {k : Option Bool} {l : List Int} (hk : k = none → l = []) {i : Nat} (hi : i < l.length) (H : List AObj) : idxSD H 1 (slD k 1 l.length (l.map (DV.int .i64))) i = some (.ref ((((l.map (DV.int .i64))).drop i).take 1)) := by
  cases k with
  | none => rw [hk rfl] at hi; simp at hi
  | some b => rw [slD_some, idxSD_sl (by omega) (by omega), Int.toNat_natCast, Nat.mul_one]
set_option maxHeartbeats 4000000 in
theorem runs_life (k : Option Bool) (l : List Int) (hk : k = none → l = []) : Runs T117 a3 [slD k 1 l.length (l.map (DV.int .i64))] (.bool true) := by
  obtain ⟨c1, e1, g1, i1, n1⟩ := deploy_one valid_gL rfl rfl
  obtain ⟨c2, e2, g2, i2, n2⟩ := start_one g1 i1 n1 (t := 0) (by decide)
  have f1 : cDep deployB [.agg [.nils, .nils, .int .i64 1], .agg [.str [97], .str [98], .int .i64 1, .int .i64 0, .int .i64 0, .nils]] = some (deployB cA gL) := cDep_eq (c := cA) (g := gL)
  have b3 : buildD [.str [], .str [], .int .i64 0, .int .i64 0, .int .i64 0, .nils] [(0, 1, .str [97]), (1, 1, .str [98]), (2, 1, .int .i64 1)] = some (.agg [.str [97], .str [98], .int .i64 1, .int .i64 0, .int .i64 0, .nils]) := rfl
  have hl : ∀ H, lenD H (slD k 1 l.length (l.map (DV.int .i64))) = some (.int .i64 l.length) := fun H => lenD_slD (fun e => by rw [hk e]; rfl)
  refine ⟨?_⟩
  simp (disch := first | omega | (simp [-List.map_take, -List.map_drop, -List.map_set, -List.map_append, -List.drop_one] <;> omega) | fail) [-List.map_take, -List.map_drop, -List.map_set, -List.map_append, -List.drop_one, a3, T117_d, T117_s, b0, b1, b3, f1, cSta_eq, deployB, startB, e1, e2]
  refine W_loop (S117 k l) (fun x => 12 - x.i) (R117 l) ⟨c2, _, 0, 1⟩ (weak_same (by simp (disch := first | omega | (simp [-List.map_take, -List.map_drop, -List.map_set, -List.map_append, -List.drop_one] <;> omega) | fail) [-List.map_take, -List.map_drop, -List.map_set, -List.map_append, -List.drop_one, S117]) (by simp (disch := first | omega | (simp [-List.map_take, -List.map_drop, -List.map_set, -List.map_append, -List.drop_one] <;> omega) | fail) [-List.map_take, -List.map_drop, -List.map_set, -List.map_append, -List.drop_one, S117])) ⟨g2, ⟨0, i2, by decide⟩, n2, by show (1 : Int) ≤ 1; decide, by show (1 : Int) ≤ 3; decide, by show 0 ≤ 12; decide, Nat.zero_le _⟩ (fun x hx => ?_)
  obtain ⟨c, x, i, st⟩ := x
  obtain ⟨hg, ⟨si, hi, hsi⟩, hn, hs1, hs3, hi12, hil⟩ := hx
  simp only at hg hi hn hs1 hs3 hi12 hil
  have hy := sound_one hs1 hs3 hsi
  simp (disch := first | omega | (simp [-List.map_take, -List.map_drop, -List.map_set, -List.map_append, -List.drop_one] <;> omega) | fail) [-List.map_take, -List.map_drop, -List.map_set, -List.map_append, -List.drop_one, a3L0, a3S0, S117, hl]
  by_cases h : i < l.length
  case neg =>
    have h' : ¬ (i : Int) < l.length := by omega
    simp (disch := first | omega | (simp [-List.map_take, -List.map_drop, -List.map_set, -List.map_append, -List.drop_one] <;> omega) | fail) [-List.map_take, -List.map_drop, -List.map_set, -List.map_append, -List.drop_one, h, h', T117_a, cTrue_eq]
  have h' : (i : Int) < l.length := by omega
  by_cases h2 : i < 12
  case neg =>
    have h2' : ¬ (i : Int) < 12 := by omega
    simp (disch := first | omega | (simp [-List.map_take, -List.map_drop, -List.map_set, -List.map_append, -List.drop_one] <;> omega) | fail) [-List.map_take, -List.map_drop, -List.map_set, -List.map_append, -List.drop_one, h, h', h2', h2, T117_a, cTrue_eq]
  have h2' : (i : Int) < 12 := by omega
  have ht : timeOK (i : Int) := ⟨by omega, by omega⟩
  have hix := idxI hk h
  have hL : ∀ H, lenD H (c.i.dv 37 inC) = some (.int .i64 1) := fun H => by rw [lenD_dv, hi]; rfl
  have hI := idx_one hi
  by_cases hb : bits .and .i64 l[i] 1 = 0
  · rcases change_one hg hi hn hy rfl ht (to := 2) (.inl rfl) with ⟨hm, c', e3, g3, i3, n3⟩ | ⟨hm, e3⟩
    · have hst : st = 1 := by simpa [may] using hm
      subst hst
      have hL' : ∀ H, lenD H (c'.i.dv 37 inC) = some (.int .i64 1) := fun H => by rw [lenD_dv, i3]; rfl
      have hI' := idx_one i3
      simp (disch := first | omega | (simp [-List.map_take, -List.map_drop, -List.map_set, -List.map_append, -List.drop_one] <;> omega) | fail) [-List.map_take, -List.map_drop, -List.map_set, -List.map_append, -List.drop_one, h, h', h2', h2, hix, band_1, hb, T117_r, cCii_eq, changeB, e3, hL', hI', Ins.st, Ins.si]
      exact ⟨⟨c', x.clone, i + 1, 2⟩, weak_drop (tail := [.cells (clC c')]) (by simp (disch := first | omega | (simp [-List.map_take, -List.map_drop, -List.map_set, -List.map_append, -List.drop_one] <;> omega) | fail) [-List.map_take, -List.map_drop, -List.map_set, -List.map_append, -List.drop_one]) (by simp (disch := first | omega | (simp [-List.map_take, -List.map_drop, -List.map_set, -List.map_append, -List.drop_one] <;> omega) | fail) [-List.map_take, -List.map_drop, -List.map_set, -List.map_append, -List.drop_one]) (by simp (disch := first | omega | (simp [-List.map_take, -List.map_drop, -List.map_set, -List.map_append, -List.drop_one] <;> omega) | fail) [-List.map_take, -List.map_drop, -List.map_set, -List.map_append, -List.drop_one]) (by simp (disch := first | omega | (simp [-List.map_take, -List.map_drop, -List.map_set, -List.map_append, -List.drop_one] <;> omega) | fail) [-List.map_take, -List.map_drop, -List.map_set, -List.map_append, -List.drop_one, belowL, Am.below, below_slD]) (by simp (disch := first | omega | (simp [-List.map_take, -List.map_drop, -List.map_set, -List.map_append, -List.drop_one] <;> omega) | fail) [-List.map_take, -List.map_drop, -List.map_set, -List.map_append, -List.drop_one, belowH]), by show 12 - (i + 1) < 12 - i; omega, g3, ⟨i, i3, ht⟩, n3, by show (1 : Int) ≤ 2; decide, by show (2 : Int) ≤ 3; decide, by show i + 1 ≤ 12; omega, h⟩
    · have hst : ¬ st = 1 := by simpa [may] using hm
      simp (disch := first | omega | (simp [-List.map_take, -List.map_drop, -List.map_set, -List.map_append, -List.drop_one] <;> omega) | fail) [-List.map_take, -List.map_drop, -List.map_set, -List.map_append, -List.drop_one, h, h', h2', h2, hix, band_1, hb, T117_r, cCii_eq, changeB, e3, hL, hI, hst]
      exact ⟨⟨c, x, i + 1, st⟩, weak_drop (tail := [.cells (clC clu0)]) (by simp (disch := first | omega | (simp [-List.map_take, -List.map_drop, -List.map_set, -List.map_append, -List.drop_one] <;> omega) | fail) [-List.map_take, -List.map_drop, -List.map_set, -List.map_append, -List.drop_one]) (by simp (disch := first | omega | (simp [-List.map_take, -List.map_drop, -List.map_set, -List.map_append, -List.drop_one] <;> omega) | fail) [-List.map_take, -List.map_drop, -List.map_set, -List.map_append, -List.drop_one]) (by simp (disch := first | omega | (simp [-List.map_take, -List.map_drop, -List.map_set, -List.map_append, -List.drop_one] <;> omega) | fail) [-List.map_take, -List.map_drop, -List.map_set, -List.map_append, -List.drop_one]) (by simp (disch := first | omega | (simp [-List.map_take, -List.map_drop, -List.map_set, -List.map_append, -List.drop_one] <;> omega) | fail) [-List.map_take, -List.map_drop, -List.map_set, -List.map_append, -List.drop_one, belowL, Am.below, below_slD]) (by simp (disch := first | omega | (simp [-List.map_take, -List.map_drop, -List.map_set, -List.map_append, -List.drop_one] <;> omega) | fail) [-List.map_take, -List.map_drop, -List.map_set, -List.map_append, -List.drop_one, belowH]), by show 12 - (i + 1) < 12 - i; omega, hg, ⟨si, hi, hsi⟩, hn, hs1, hs3, by show i + 1 ≤ 12; omega, h⟩
  · rcases change_one hg hi hn hy rfl ht (to := 3) (.inr rfl) with ⟨hm, c', e3, g3, i3, n3⟩ | ⟨hm, e3⟩
    · have hst : ¬ st = 3 := by simpa [may] using hm
      have hL' : ∀ H, lenD H (c'.i.dv 37 inC) = some (.int .i64 1) := fun H => by rw [lenD_dv, i3]; rfl
      have hI' := idx_one i3
      simp (disch := first | omega | (simp [-List.map_take, -List.map_drop, -List.map_set, -List.map_append, -List.drop_one] <;> omega) | fail) [-List.map_take, -List.map_drop, -List.map_set, -List.map_append, -List.drop_one, h, h', h2', h2, hix, band_1, hb, T117_t, cCii_eq, changeB, e3, hL', hI', hst, Ins.st, Ins.si]
      exact ⟨⟨c', x.clone, i + 1, 3⟩, weak_drop (tail := [.cells (clC c')]) (by simp (disch := first | omega | (simp [-List.map_take, -List.map_drop, -List.map_set, -List.map_append, -List.drop_one] <;> omega) | fail) [-List.map_take, -List.map_drop, -List.map_set, -List.map_append, -List.drop_one]) (by simp (disch := first | omega | (simp [-List.map_take, -List.map_drop, -List.map_set, -List.map_append, -List.drop_one] <;> omega) | fail) [-List.map_take, -List.map_drop, -List.map_set, -List.map_append, -List.drop_one]) (by simp (disch := first | omega | (simp [-List.map_take, -List.map_drop, -List.map_set, -List.map_append, -List.drop_one] <;> omega) | fail) [-List.map_take, -List.map_drop, -List.map_set, -List.map_append, -List.drop_one]) (by simp (disch := first | omega | (simp [-List.map_take, -List.map_drop, -List.map_set, -List.map_append, -List.drop_one] <;> omega) | fail) [-List.map_take, -List.map_drop, -List.map_set, -List.map_append, -List.drop_one, belowL, Am.below, below_slD]) (by simp (disch := first | omega | (simp [-List.map_take, -List.map_drop, -List.map_set, -List.map_append, -List.drop_one] <;> omega) | fail) [-List.map_take, -List.map_drop, -List.map_set, -List.map_append, -List.drop_one, belowH]), by show 12 - (i + 1) < 12 - i; omega, g3, ⟨i, i3, ht⟩, n3, by show (1 : Int) ≤ 3; decide, by show (3 : Int) ≤ 3; decide, by show i + 1 ≤ 12; omega, h⟩
    · have hst : st = 3 := by simpa [may] using hm
      subst hst
      simp (disch := first | omega | (simp [-List.map_take, -List.map_drop, -List.map_set, -List.map_append, -List.drop_one] <;> omega) | fail) [-List.map_take, -List.map_drop, -List.map_set, -List.map_append, -List.drop_one, h, h', h2', h2, hix, band_1, hb, T117_t, cCii_eq, changeB, e3, hL, hI]
      exact ⟨⟨c, x, i + 1, 3⟩, weak_drop (tail := [.cells (clC clu0)]) (by simp (disch := first | omega | (simp [-List.map_take, -List.map_drop, -List.map_set, -List.map_append, -List.drop_one] <;> omega) | fail) [-List.map_take, -List.map_drop, -List.map_set, -List.map_append, -List.drop_one]) (by simp (disch := first | omega | (simp [-List.map_take, -List.map_drop, -List.map_set, -List.map_append, -List.drop_one] <;> omega) | fail) [-List.map_take, -List.map_drop, -List.map_set, -List.map_append, -List.drop_one]) (by simp (disch := first | omega | (simp [-List.map_take, -List.map_drop, -List.map_set, -List.map_append, -List.drop_one] <;> omega) | fail) [-List.map_take, -List.map_drop, -List.map_set, -List.map_append, -List.drop_one]) (by simp (disch := first | omega | (simp [-List.map_take, -List.map_drop, -List.map_set, -List.map_append, -List.drop_one] <;> omega) | fail) [-List.map_take, -List.map_drop, -List.map_set, -List.map_append, -List.drop_one, belowL, Am.below, below_slD]) (by simp (disch := first | omega | (simp [-List.map_take, -List.map_drop, -List.map_set, -List.map_append, -List.drop_one] <;> omega) | fail) [-List.map_take, -List.map_drop, -List.map_set, -List.map_append, -List.drop_one, belowH]), by show 12 - (i + 1) < 12 - i; omega, hg, ⟨si, hi, hsi⟩, hn, hs1, hs3, by show i + 1 ≤ 12; omega, h⟩
theorem shape_li {dvs : List DV} (h : Ty.Args [.sl (.int .i64)] dvs) : ∃ (k : Option Bool) (l : List Int), (k = none → l = []) ∧ dvs = [slD k 1 l.length (l.map (DV.int .i64))] := by
  obtain ⟨ds, l, rfl, h1, rfl⟩ := h
  rcases h1 with rfl | ⟨gs, rfl, hg⟩
  · exact ⟨none, [], fun _ => rfl, rfl⟩
  · obtain ⟨l, h1, h2⟩ := ints_of hg
    refine ⟨some false, l, by simp, ?_⟩
    rw [slD_some, h2, ← h1]
    rfl
namespace workloadLife
theorem law_holds (dvs) (h : Ty.Args [.sl (.int .i64)] dvs) : Am.Sem P 3 dvs (.bool true) := by
  obtain ⟨k, l, hk, rfl⟩ := shape_li h
  exact sem_runs mix T117_sound Try.func3 a3_ok (runs_life k l hk)
end workloadLife
end Go.Proofs.Ytjhakjeioppijaa
