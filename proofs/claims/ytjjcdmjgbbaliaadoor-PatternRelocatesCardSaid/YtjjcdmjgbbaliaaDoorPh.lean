/-
  Literal, directory, Relocate of the program; awake; the laws PatternAll, PatternJoins, PatternReturns.
-/
import Derived.Test.YtjjcdmjgbbaliaaDoorPg
set_option linter.unusedSimpArgs false
set_option linter.unusedVariables false
namespace Go.Proofs.YtjjcdmjgbbaliaaDoor
open Go Go.Am

def lb (t : List UInt8) : List B8 := t.map UInt8.toBitVec
theorem len_lb (t : List UInt8) : (lb t).length = t.length := by simp [lb]
theorem lb_append (a b : List UInt8) : lb (a ++ b) = lb a ++ lb b := by simp [lb]
theorem bytesOf_lb : ∀ (l : List UInt8), bytesOf ((lb l).map w8) = some l
  | [] => rfl
  | x :: l => by
    have := bytesOf_lb l
    simp only [lb, List.map_cons, w8, bytesOf] at *
    rw [this]
    simp
def litR (s : List UInt8) : DV := .str (if pathD s = true then litS s else [])
def T60 : Tbl := addT 16 (.pure (cS pathB)) tbl0
theorem T60_path : T60 16 = .pure (cS pathB) := by simp [T60]
theorem T60_sound : T60.Sound P := addT_sound (cS_sound fun p => sem_runs mix T57_sound Tryd.func16 a16_ok (runs_path p)) tbl0_sound
theorem path_len {s : List UInt8} (h : pathD s = true) : 1 ≤ s.length ∧ s.length ≤ 200 ∧ noZ s = true ∧ (comps s).all okC = true := by
  simp only [pathD, Bool.and_eq_true, decide_eq_true_eq] at h
  exact ⟨h.1.1.1, h.1.1.2, h.1.2, h.2⟩
def S12 (s : List UInt8) (i : Nat) : St := a20S0 (.str s) (ownD 0 1 .nils (litS (s.take i)).length ((lb (litS (s.take i))).map w8)) (.int .i64 i) (ownH ((lb (litS (s.take i))).map w8))
set_option maxRecDepth 20000 in
theorem runs_literal (s : List UInt8) : Runs T60 a20 [.str s] (litR s) := by
  refine ⟨?_⟩
  by_cases hp : pathD s = true
  case neg =>
    have hp : pathD s = false := by simpa using hp
    simp (disch := first | omega | (simp [-List.map_take, -List.map_drop, -List.map_set, -List.map_append, -List.drop_one] <;> omega) | fail) [-List.map_take, -List.map_drop, -List.map_set, -List.map_append, -List.drop_one, a20, T60_path, cS_eq, pathB, hp, litR]
  obtain ⟨g1, g2, _, _⟩ := path_len hp
  simp (disch := first | omega | (simp [-List.map_take, -List.map_drop, -List.map_set, -List.map_append, -List.drop_one] <;> omega) | fail) [-List.map_take, -List.map_drop, -List.map_set, -List.map_append, -List.drop_one, a20, T60_path, cS_eq, pathB, hp]
  refine W_loop (S12 s) (fun i => s.length - i) (fun i => i ≤ s.length) 0 (weak_same (by simp (disch := first | omega | (simp [-List.map_take, -List.map_drop, -List.map_set, -List.map_append, -List.drop_one] <;> omega) | fail) [-List.map_take, -List.map_drop, -List.map_set, -List.map_append, -List.drop_one, litS, ownD, lb]) (by simp (disch := first | omega | (simp [-List.map_take, -List.map_drop, -List.map_set, -List.map_append, -List.drop_one] <;> omega) | fail) [-List.map_take, -List.map_drop, -List.map_set, -List.map_append, -List.drop_one, litS, ownH, lb])) (by omega) (fun i hi => ?_)
  have hl1 := len_litS (s.take i)
  have hl2 := len_lb (litS (s.take i))
  rw [List.length_take_of_le hi] at hl1
  simp (disch := first | omega | (simp [-List.map_take, -List.map_drop, -List.map_set, -List.map_append, -List.drop_one] <;> omega) | fail) [-List.map_take, -List.map_drop, -List.map_set, -List.map_append, -List.drop_one, a20L0, a20S0, S12]
  by_cases h : i < s.length
  · have h1 : (i : Int) < s.length := by omega
    have hsu := litS_succ h
    by_cases hc : s[i] = 92 ∨ s[i] = 42 ∨ s[i] = 63
    · have e5 : (litS (s.take (i + 1))).length = (litS (s.take i)).length + 1 + 1 := by rw [hsu, litC, if_pos hc]; simp
      have e6 : lb (litS (s.take (i + 1))) = lb (litS (s.take i)) ++ [92#8, s[i].toBitVec] := by rw [hsu, litC, if_pos hc, lb_append]; rfl
      rcases hc with hc | hc | hc
      · have b1 : s[i].toBitVec = 92#8 := tb_eq.2 hc
        rw [b1] at e6
        simp (disch := first | omega | (simp [-List.map_take, -List.map_drop, -List.map_set, -List.map_append, -List.drop_one] <;> omega) | fail) [-List.map_take, -List.map_drop, -List.map_set, -List.map_append, -List.drop_one, h, h1, b1, hl2]
        exact ⟨i + 1, weak_same (by simp (disch := first | omega | (simp [-List.map_take, -List.map_drop, -List.map_set, -List.map_append, -List.drop_one] <;> omega) | fail) [-List.map_take, -List.map_drop, -List.map_set, -List.map_append, -List.drop_one, e5, e6]) (by simp (disch := first | omega | (simp [-List.map_take, -List.map_drop, -List.map_set, -List.map_append, -List.drop_one] <;> omega) | fail) [-List.map_take, -List.map_drop, -List.map_set, -List.map_append, -List.drop_one, e6]), by omega, by omega⟩
      · have b1 : s[i].toBitVec = 42#8 := tb_eq.2 hc
        rw [b1] at e6
        simp (disch := first | omega | (simp [-List.map_take, -List.map_drop, -List.map_set, -List.map_append, -List.drop_one] <;> omega) | fail) [-List.map_take, -List.map_drop, -List.map_set, -List.map_append, -List.drop_one, h, h1, b1, hl2]
        exact ⟨i + 1, weak_same (by simp (disch := first | omega | (simp [-List.map_take, -List.map_drop, -List.map_set, -List.map_append, -List.drop_one] <;> omega) | fail) [-List.map_take, -List.map_drop, -List.map_set, -List.map_append, -List.drop_one, e5, e6]) (by simp (disch := first | omega | (simp [-List.map_take, -List.map_drop, -List.map_set, -List.map_append, -List.drop_one] <;> omega) | fail) [-List.map_take, -List.map_drop, -List.map_set, -List.map_append, -List.drop_one, e6]), by omega, by omega⟩
      · have b1 : s[i].toBitVec = 63#8 := tb_eq.2 hc
        rw [b1] at e6
        simp (disch := first | omega | (simp [-List.map_take, -List.map_drop, -List.map_set, -List.map_append, -List.drop_one] <;> omega) | fail) [-List.map_take, -List.map_drop, -List.map_set, -List.map_append, -List.drop_one, h, h1, b1, hl2]
        exact ⟨i + 1, weak_same (by simp (disch := first | omega | (simp [-List.map_take, -List.map_drop, -List.map_set, -List.map_append, -List.drop_one] <;> omega) | fail) [-List.map_take, -List.map_drop, -List.map_set, -List.map_append, -List.drop_one, e5, e6]) (by simp (disch := first | omega | (simp [-List.map_take, -List.map_drop, -List.map_set, -List.map_append, -List.drop_one] <;> omega) | fail) [-List.map_take, -List.map_drop, -List.map_set, -List.map_append, -List.drop_one, e6]), by omega, by omega⟩
    · have e5 : (litS (s.take (i + 1))).length = (litS (s.take i)).length + 1 := by rw [hsu, litC, if_neg hc]; simp
      have e6 : lb (litS (s.take (i + 1))) = lb (litS (s.take i)) ++ [s[i].toBitVec] := by rw [hsu, litC, if_neg hc, lb_append]; rfl
      simp only [not_or] at hc
      have b1 : ¬ s[i].toBitVec = 92#8 := fun e => hc.1 (tb_eq.1 e)
      have b2 : ¬ s[i].toBitVec = 42#8 := fun e => hc.2.1 (tb_eq.1 e)
      have b3 : ¬ s[i].toBitVec = 63#8 := fun e => hc.2.2 (tb_eq.1 e)
      have b1q : (s[i].toBitVec == 92#8) = false := by simp [b1]
      have b2q : (s[i].toBitVec == 42#8) = false := by simp [b2]
      have b3q : (s[i].toBitVec == 63#8) = false := by simp [b3]
      simp (disch := first | omega | (simp [-List.map_take, -List.map_drop, -List.map_set, -List.map_append, -List.drop_one] <;> omega) | fail) [-List.map_take, -List.map_drop, -List.map_set, -List.map_append, -List.drop_one, h, h1, b1, b2, b3, b1q, b2q, b3q, hl2]
      exact ⟨i + 1, weak_same (by simp (disch := first | omega | (simp [-List.map_take, -List.map_drop, -List.map_set, -List.map_append, -List.drop_one] <;> omega) | fail) [-List.map_take, -List.map_drop, -List.map_set, -List.map_append, -List.drop_one, e5, e6]) (by simp (disch := first | omega | (simp [-List.map_take, -List.map_drop, -List.map_set, -List.map_append, -List.drop_one] <;> omega) | fail) [-List.map_take, -List.map_drop, -List.map_set, -List.map_append, -List.drop_one, e6]), by omega, by omega⟩
  · have h1 : ¬ (i : Int) < s.length := by omega
    obtain rfl : i = s.length := by omega
    rw [List.take_length] at hl1 hl2
    have hne : (lb (litS s)).map w8 ≠ [] := by intro e; have := congrArg List.length e; rw [List.length_map, hl2] at this; simp only [List.length_nil] at this; omega
    have ht : (lb (litS s)).take (litS s).length = lb (litS s) := List.take_of_length_le (by omega)
    simp (disch := first | omega | (simp [-List.map_take, -List.map_drop, -List.map_set, -List.map_append, -List.drop_one] <;> omega) | fail) [-List.map_take, -List.map_drop, -List.map_set, -List.map_append, -List.drop_one, h1, ownD_ne hne, ownH_ne hne, hl2, ht, bytesOf_lb, litR, hp]
def dirD (s : List UInt8) : Bool := s == [] || pathD s
def dirB (s : List UInt8) : DV := .bool (dirD s)
theorem dir_len {s : List UInt8} (h : dirD s = true) : s.length ≤ 200 := by
  simp only [dirD, Bool.or_eq_true, beq_iff_eq] at h
  rcases h with rfl | h
  · simp
  · exact (path_len h).2.1
theorem runs_directory (s : List UInt8) : Runs T60 a55 [.str s] (dirB s) := by
  refine ⟨?_⟩
  by_cases h : s = []
  · subst h; simp (disch := first | omega | (simp [-List.map_take, -List.map_drop, -List.map_set, -List.map_append, -List.drop_one] <;> omega) | fail) [-List.map_take, -List.map_drop, -List.map_set, -List.map_append, -List.drop_one, a55, dirB, dirD]
  · have hd : dirD s = pathD s := by simp [dirD, h]
    simp (disch := first | omega | (simp [-List.map_take, -List.map_drop, -List.map_set, -List.map_append, -List.drop_one] <;> omega) | fail) [-List.map_take, -List.map_drop, -List.map_set, -List.map_append, -List.drop_one, a55, dirB, hd, h, T60_path, cS_eq, pathB]
def under (d r : List UInt8) : List UInt8 := if d = [] then r else d ++ 47 :: r
def restO (d s : List UInt8) : Option (List UInt8) := if d = [] then some s else if s.take (d.length + 1) = d ++ [47] then some (s.drop (d.length + 1)) else none
def relO (a b s : List UInt8) : Option (List UInt8) :=
  if dirD a = true ∧ dirD b = true ∧ pathD s = true then (restO a s).bind fun r => if pathD (under b r) = true then some (under b r) else none else none
def optS : Option (List UInt8) → DV
  | none => .tup [.str [], .bool false]
  | some r => .tup [.str r, .bool true]
def relD (a b s : List UInt8) : DV := optS (relO a b s)
def T61 : Tbl := addT 55 (.pure (cS dirB)) (addT 56 (.pure (cSS cutD)) T60)
theorem T61_path : T61 16 = .pure (cS pathB) := by simp [T61, T60]
theorem T61_dir : T61 55 = .pure (cS dirB) := by simp [T61]
theorem T61_cut : T61 56 = .pure (cSS cutD) := by simp [T61]
theorem T61_sound : T61.Sound P := addT_sound (cS_sound fun s => sem_runs mix T60_sound Tryd.func55 a55_ok (runs_directory s)) (addT_sound (cSS_sound fun s p => sem_runs mix T56_sound Tryd.func56 a56_ok (runs_cut s p)) T60_sound)
set_option maxRecDepth 20000 in
theorem runs_relocate (a b s : List UInt8) : Runs T61 a22 [.str a, .str b, .str s] (relD a b s) := by
  refine ⟨?_⟩
  by_cases ha : dirD a = true
  case neg =>
    have hr : relO a b s = none := by rw [relO, if_neg (by simp [ha])]
    have ha : dirD a = false := by simpa using ha
    simp (disch := first | omega | (simp [-List.map_take, -List.map_drop, -List.map_set, -List.map_append, -List.drop_one] <;> omega) | fail) [-List.map_take, -List.map_drop, -List.map_set, -List.map_append, -List.drop_one, a22, T61_dir, cS_eq, dirB, ha, relD, hr, optS]
  by_cases hb : dirD b = true
  case neg =>
    have hr : relO a b s = none := by rw [relO, if_neg (by simp [hb])]
    have hb : dirD b = false := by simpa using hb
    simp (disch := first | omega | (simp [-List.map_take, -List.map_drop, -List.map_set, -List.map_append, -List.drop_one] <;> omega) | fail) [-List.map_take, -List.map_drop, -List.map_set, -List.map_append, -List.drop_one, a22, T61_dir, cS_eq, dirB, ha, hb, relD, hr, optS]
  by_cases hs : pathD s = true
  case neg =>
    have hr : relO a b s = none := by rw [relO, if_neg (by simp [hs])]
    have hs : pathD s = false := by simpa using hs
    simp (disch := first | omega | (simp [-List.map_take, -List.map_drop, -List.map_set, -List.map_append, -List.drop_one] <;> omega) | fail) [-List.map_take, -List.map_drop, -List.map_set, -List.map_append, -List.drop_one, a22, T61_dir, T61_path, cS_eq, dirB, pathB, ha, hb, hs, relD, hr, optS]
  have la := dir_len ha
  have lb := dir_len hb
  have ls := (path_len hs).2.1
  have hr : relO a b s = (restO a s).bind fun r => if pathD (under b r) = true then some (under b r) else none := by rw [relO, if_pos ⟨ha, hb, hs⟩]
  have tail : ∀ r, r.length ≤ 200 → restO a s = some r → ((b = [] → pathD r = true → relD a b s = .tup [.str r, .bool true]) ∧ (b = [] → pathD r = false → relD a b s = .tup [.str [], .bool false]) ∧
      (b ≠ [] → pathD (b ++ 47 :: r) = true → relD a b s = .tup [.str (b ++ 47 :: r), .bool true]) ∧ (b ≠ [] → pathD (b ++ 47 :: r) = false → relD a b s = .tup [.str [], .bool false])) := by
    intro r hl he
    rw [relD, hr, he, Option.bind_some]
    refine ⟨fun hb hp => ?_, fun hb hp => ?_, fun hb hp => ?_, fun hb hp => ?_⟩
    · rw [under, if_pos hb, if_pos hp]; rfl
    · rw [under, if_pos hb, if_neg (by simp [hp])]; rfl
    · rw [under, if_neg hb, if_pos hp]; rfl
    · rw [under, if_neg hb, if_neg (by simp [hp])]; rfl
  by_cases hae : a = []
  · subst hae
    obtain ⟨q1, q2, q3, q4⟩ := tail s ls rfl
    by_cases hbe : b = []
    · subst hbe
      have hd := q1 rfl hs
      simp (disch := first | omega | (simp [-List.map_take, -List.map_drop, -List.map_set, -List.map_append, -List.drop_one] <;> omega) | fail) [-List.map_take, -List.map_drop, -List.map_set, -List.map_append, -List.drop_one, a22, T61_dir, T61_path, cS_eq, dirB, pathB, ha, hs, hd]
    · by_cases hu : pathD (b ++ 47 :: s) = true
      · have hd := q3 hbe hu
        simp (disch := first | omega | (simp [-List.map_take, -List.map_drop, -List.map_set, -List.map_append, -List.drop_one] <;> omega) | fail) [-List.map_take, -List.map_drop, -List.map_set, -List.map_append, -List.drop_one, a22, T61_dir, T61_path, cS_eq, dirB, pathB, ha, hb, hs, hbe, hu, hd]
      · have hu : pathD (b ++ 47 :: s) = false := by simpa using hu
        have hd := q4 hbe hu
        simp (disch := first | omega | (simp [-List.map_take, -List.map_drop, -List.map_set, -List.map_append, -List.drop_one] <;> omega) | fail) [-List.map_take, -List.map_drop, -List.map_set, -List.map_append, -List.drop_one, a22, T61_dir, T61_path, cS_eq, dirB, pathB, ha, hb, hs, hbe, hu, hd]
  · have hc : cSS cutD [.str s, .str (a ++ [47])] = some (cutD s (a ++ [47])) := rfl
    rw [cutD, List.length_append, List.length_singleton] at hc
    by_cases ht : s.take (a.length + 1) = a ++ [47]
    case neg =>
      have hd : relD a b s = .tup [.str [], .bool false] := by rw [relD, hr, restO, if_neg hae, if_neg ht]; rfl
      rw [if_neg ht] at hc
      simp (disch := first | omega | (simp [-List.map_take, -List.map_drop, -List.map_set, -List.map_append, -List.drop_one] <;> omega) | fail) [-List.map_take, -List.map_drop, -List.map_set, -List.map_append, -List.drop_one, a22, T61_dir, T61_path, T61_cut, cS_eq, dirB, pathB, ha, hb, hs, hae, hc, hd]
    rw [if_pos ht] at hc
    obtain ⟨r, hre⟩ : ∃ r, s.drop (a.length + 1) = r := ⟨_, rfl⟩
    have hrl : r.length ≤ 200 := by rw [← hre, List.length_drop]; omega
    rw [hre] at hc
    obtain ⟨q1, q2, q3, q4⟩ := tail r hrl (by rw [restO, if_neg hae, if_pos ht, hre])
    by_cases hbe : b = []
    · subst hbe
      by_cases hu : pathD r = true
      · have hd := q1 rfl hu
        simp (disch := first | omega | (simp [-List.map_take, -List.map_drop, -List.map_set, -List.map_append, -List.drop_one] <;> omega) | fail) [-List.map_take, -List.map_drop, -List.map_set, -List.map_append, -List.drop_one, a22, T61_dir, T61_path, T61_cut, cS_eq, dirB, pathB, ha, hb, hs, hae, hc, hu, hd]
      · have hu : pathD r = false := by simpa using hu
        have hd := q2 rfl hu
        simp (disch := first | omega | (simp [-List.map_take, -List.map_drop, -List.map_set, -List.map_append, -List.drop_one] <;> omega) | fail) [-List.map_take, -List.map_drop, -List.map_set, -List.map_append, -List.drop_one, a22, T61_dir, T61_path, T61_cut, cS_eq, dirB, pathB, ha, hb, hs, hae, hc, hu, hd]
    · by_cases hu : pathD (b ++ 47 :: r) = true
      · have hd := q3 hbe hu
        simp (disch := first | omega | (simp [-List.map_take, -List.map_drop, -List.map_set, -List.map_append, -List.drop_one] <;> omega) | fail) [-List.map_take, -List.map_drop, -List.map_set, -List.map_append, -List.drop_one, a22, T61_dir, T61_path, T61_cut, cS_eq, dirB, pathB, ha, hb, hs, hae, hc, hbe, hu, hd]
      · have hu : pathD (b ++ 47 :: r) = false := by simpa using hu
        have hd := q4 hbe hu
        simp (disch := first | omega | (simp [-List.map_take, -List.map_drop, -List.map_set, -List.map_append, -List.drop_one] <;> omega) | fail) [-List.map_take, -List.map_drop, -List.map_set, -List.map_append, -List.drop_one, a22, T61_dir, T61_path, T61_cut, cS_eq, dirB, pathB, ha, hb, hs, hae, hc, hbe, hu, hd]
end Go.Proofs.YtjjcdmjgbbaliaaDoor
