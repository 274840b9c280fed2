/-
  Path, parse, Valid, class, repeats of the program.
-/
import Derived.Test.YtjhakjeioppijaaDoorWc
set_option linter.unusedSimpArgs false
set_option linter.unusedVariables false
namespace Go.Proofs.YtjhakjeioppijaaDoor
open Go Go.Am

def pathB (s : List UInt8) : DV := .bool (pathD s)
def T57 : Tbl := addT 101 (.pure (cSB ixD)) (addT 102 (.pure (cS1b cutR)) tbl0)
theorem T57_ixb : T57 101 = .pure (cSB ixD) := by simp [T57]
theorem T57_cut : T57 102 = .pure (cS1b cutR) := by simp [T57]
theorem T57_sound : T57.Sound P := addT_sound (cSB_sound fun s c => sem_runs mix T51_sound Tryd.func101 a101_ok (runs_ixb s c)) (addT_sound (cS1b_sound fun s c h => sem_runs mix T54_sound Tryd.func102 a102_ok (runs_cutb s c h)) tbl0_sound)
theorem ixD0 (s : List UInt8) : cSB ixD [.str s, w8 0#8] = some (.int .i64 (Lib.indexByte s 0)) := cSB_eq
theorem ix0_ge {s : List UInt8} (h : Lib.indexByte s 0 ≠ -1) : 0 ≤ Lib.indexByte s 0 := by have := Lib.indexByte_ge s 0; omega
theorem noZ_of {s : List UInt8} (h : Lib.indexByte s 0 = -1) : noZ s = true := by rw [noZ_ixb, h]; rfl
theorem noZ_not {s : List UInt8} (h : Lib.indexByte s 0 ≠ -1) : noZ s = false := by rw [noZ_ixb]; simp [h]
def S9 (x : List UInt8 × Bool) : St := a60S0 (.str x.1) (.bool x.2) []
def m9 (x : List UInt8 × Bool) : Nat := x.1.length + (if x.2 = true then 1 else 0)
def R9 (s : List UInt8) (x : List UInt8 × Bool) : Prop := x.1.length ≤ 200 ∧ (x.2 = true → pathD s = (comps x.1).all okC) ∧ (x.2 = false → pathD s = true)
set_option maxRecDepth 20000 in
theorem runs_path (s : List UInt8) : Runs T57 a60 [.str s] (pathB s) := by
  refine ⟨?_⟩
  by_cases h1 : s.length < 1
  · have h1' : (s.length : Int) < 1 := by omega
    have hp : pathD s = false := by simp [pathD]; omega
    simp (disch := first | omega | (simp [-List.map_take, -List.map_drop, -List.map_set, -List.map_append, -List.drop_one] <;> omega) | fail) [-List.map_take, -List.map_drop, -List.map_set, -List.map_append, -List.drop_one, a60, h1', pathB, hp]
  have h1' : ¬ (s.length : Int) < 1 := by omega
  by_cases h2 : 200 < s.length
  · have h2' : (200 : Int) < s.length := by omega
    have hp : pathD s = false := by simp [pathD]; omega
    simp (disch := first | omega | (simp [-List.map_take, -List.map_drop, -List.map_set, -List.map_append, -List.drop_one] <;> omega) | fail) [-List.map_take, -List.map_drop, -List.map_set, -List.map_append, -List.drop_one, a60, h1', h2', pathB, hp]
  have h2' : ¬ (200 : Int) < s.length := by omega
  by_cases h3 : Lib.indexByte s 0 = -1
  case neg =>
    have h3' := ix0_ge h3
    have hp : pathD s = false := by simp [pathD, noZ_not h3]
    simp (disch := first | omega | (simp [-List.map_take, -List.map_drop, -List.map_set, -List.map_append, -List.drop_one] <;> omega) | fail) [-List.map_take, -List.map_drop, -List.map_set, -List.map_append, -List.drop_one, a60, h1', h2', T57_ixb, ixD0, h3', pathB, hp]
  have hp : pathD s = (comps s).all okC := by
    have g1 : 1 ≤ s.length := by omega
    have g2 : s.length ≤ 200 := by omega
    simp only [pathD, g1, g2, noZ_of h3, decide_true, Bool.true_and]
  simp (disch := first | omega | (simp [-List.map_take, -List.map_drop, -List.map_set, -List.map_append, -List.drop_one] <;> omega) | fail) [-List.map_take, -List.map_drop, -List.map_set, -List.map_append, -List.drop_one, a60, h1', h2', T57_ixb, ixD0, h3]
  refine W_loop S9 m9 (R9 s) (s, true) (weak_same (by simp (disch := first | omega | (simp [-List.map_take, -List.map_drop, -List.map_set, -List.map_append, -List.drop_one] <;> omega) | fail) [-List.map_take, -List.map_drop, -List.map_set, -List.map_append, -List.drop_one]) (by simp (disch := first | omega | (simp [-List.map_take, -List.map_drop, -List.map_set, -List.map_append, -List.drop_one] <;> omega) | fail) [-List.map_take, -List.map_drop, -List.map_set, -List.map_append, -List.drop_one])) ⟨by show s.length ≤ 200; omega, fun _ => hp, by simp⟩ (fun x hx => ?_)
  obtain ⟨r, more⟩ := x
  obtain ⟨hr, ha, hb⟩ := hx
  simp only at hr ha hb
  simp (disch := first | omega | (simp [-List.map_take, -List.map_drop, -List.map_set, -List.map_append, -List.drop_one] <;> omega) | fail) [-List.map_take, -List.map_drop, -List.map_set, -List.map_append, -List.drop_one, a60L0, a60S0, S9]
  cases more with
  | false =>
    have hb := hb rfl
    simp (disch := first | omega | (simp [-List.map_take, -List.map_drop, -List.map_set, -List.map_append, -List.drop_one] <;> omega) | fail) [-List.map_take, -List.map_drop, -List.map_set, -List.map_append, -List.drop_one, pathB, hb]
  | true =>
    have ha := ha rfl
    have hc := cS1b_eq (g := cutR) (s := r) (c := 47) (by omega)
    by_cases hi : Lib.indexByte r 47 = -1
    · rw [cutR, if_pos hi] at hc
      rw [comps_none hi] at ha
      by_cases e1 : r = []
      · have hq : pathD s = false := by rw [ha, e1]; rfl
        subst e1
        simp (disch := first | omega | (simp [-List.map_take, -List.map_drop, -List.map_set, -List.map_append, -List.drop_one] <;> omega) | fail) [-List.map_take, -List.map_drop, -List.map_set, -List.map_append, -List.drop_one, T57_cut, hc, pathB, hq]
      · by_cases e2 : r = [46]
        · have hq : pathD s = false := by rw [ha, e2]; rfl
          subst e2
          simp (disch := first | omega | (simp [-List.map_take, -List.map_drop, -List.map_set, -List.map_append, -List.drop_one] <;> omega) | fail) [-List.map_take, -List.map_drop, -List.map_set, -List.map_append, -List.drop_one, T57_cut, hc, pathB, hq]
        · by_cases e3 : r = [46, 46]
          · have hq : pathD s = false := by rw [ha, e3]; rfl
            subst e3
            simp (disch := first | omega | (simp [-List.map_take, -List.map_drop, -List.map_set, -List.map_append, -List.drop_one] <;> omega) | fail) [-List.map_take, -List.map_drop, -List.map_set, -List.map_append, -List.drop_one, T57_cut, hc, pathB, hq]
          · have hq : pathD s = true := by rw [ha]; simp [okC, e1, e2, e3]
            simp (disch := first | omega | (simp [-List.map_take, -List.map_drop, -List.map_set, -List.map_append, -List.drop_one] <;> omega) | fail) [-List.map_take, -List.map_drop, -List.map_set, -List.map_append, -List.drop_one, T57_cut, hc, e1, e2, e3]
            exact ⟨[], .inl ⟨weak_same (by simp (disch := first | omega | (simp [-List.map_take, -List.map_drop, -List.map_set, -List.map_append, -List.drop_one] <;> omega) | fail) [-List.map_take, -List.map_drop, -List.map_set, -List.map_append, -List.drop_one]) (by simp (disch := first | omega | (simp [-List.map_take, -List.map_drop, -List.map_set, -List.map_append, -List.drop_one] <;> omega) | fail) [-List.map_take, -List.map_drop, -List.map_set, -List.map_append, -List.drop_one]), by simp [m9], by simp [R9, hq]⟩⟩
    · obtain ⟨o, ho⟩ : ∃ o : Nat, Lib.indexByte r 47 = o := ⟨(Lib.indexByte r 47).toNat, by have := Lib.indexByte_ge r 47; omega⟩
      have hlt := ixb_lt ho
      rw [cutR, if_neg hi, ho] at hc
      rw [comps_some ho] at ha
      simp only [Int.toNat_natCast] at hc
      obtain ⟨y, hy⟩ : ∃ y, r.take o = y := ⟨_, rfl⟩
      rw [hy] at hc ha
      by_cases e1 : y = []
      · have hq : pathD s = false := by rw [ha, e1]; rfl
        subst e1
        simp (disch := first | omega | (simp [-List.map_take, -List.map_drop, -List.map_set, -List.map_append, -List.drop_one] <;> omega) | fail) [-List.map_take, -List.map_drop, -List.map_set, -List.map_append, -List.drop_one, T57_cut, hc, pathB, hq]
      · by_cases e2 : y = [46]
        · have hq : pathD s = false := by rw [ha, e2]; rfl
          subst e2
          simp (disch := first | omega | (simp [-List.map_take, -List.map_drop, -List.map_set, -List.map_append, -List.drop_one] <;> omega) | fail) [-List.map_take, -List.map_drop, -List.map_set, -List.map_append, -List.drop_one, T57_cut, hc, pathB, hq]
        · by_cases e3 : y = [46, 46]
          · have hq : pathD s = false := by rw [ha, e3]; rfl
            subst e3
            simp (disch := first | omega | (simp [-List.map_take, -List.map_drop, -List.map_set, -List.map_append, -List.drop_one] <;> omega) | fail) [-List.map_take, -List.map_drop, -List.map_set, -List.map_append, -List.drop_one, T57_cut, hc, pathB, hq]
          · have hq : pathD s = (comps (r.drop (o + 1))).all okC := by rw [ha]; simp [okC, e1, e2, e3]
            simp (disch := first | omega | (simp [-List.map_take, -List.map_drop, -List.map_set, -List.map_append, -List.drop_one] <;> omega) | fail) [-List.map_take, -List.map_drop, -List.map_set, -List.map_append, -List.drop_one, T57_cut, hc, e1, e2, e3]
            exact ⟨r.drop (o + 1), .inr ⟨weak_same (by simp (disch := first | omega | (simp [-List.map_take, -List.map_drop, -List.map_set, -List.map_append, -List.drop_one] <;> omega) | fail) [-List.map_take, -List.map_drop, -List.map_set, -List.map_append, -List.drop_one]) (by simp (disch := first | omega | (simp [-List.map_take, -List.map_drop, -List.map_set, -List.map_append, -List.drop_one] <;> omega) | fail) [-List.map_take, -List.map_drop, -List.map_set, -List.map_append, -List.drop_one]), by simp [m9]; omega, by simp only [List.length_drop]; omega, fun _ => hq, by simp⟩⟩
end Go.Proofs.YtjhakjeioppijaaDoor
