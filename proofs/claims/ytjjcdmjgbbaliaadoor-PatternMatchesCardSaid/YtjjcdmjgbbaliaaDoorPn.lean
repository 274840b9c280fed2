/-
  Literal, Directory, Rest, Under and Relocate of the reference; the laws PatternPaths, PatternMatches, PatternLiterals, PatternRelocates.
-/
import Derived.Test.YtjjcdmjgbbaliaaDoorPm
set_option linter.unusedSimpArgs false
set_option linter.unusedVariables false
namespace Go.Proofs.YtjjcdmjgbbaliaaDoor
open Go Go.Am

def T80 : Tbl := addT 17 (.pure (cS pathB)) tbl0
theorem T80_path : T80 17 = .pure (cS pathB) := by simp [T80]
theorem T80_sound : T80.Sound P := addT_sound (cS_sound fun p => sem_runs mix T73_sound Tryd.func17 a17_ok (runs_refpath p)) tbl0_sound
def S21r (s : List UInt8) (i : Nat) : St := a21S0 (.str s) (ownD 0 1 .nils (litS (s.take i)).length ((lb (litS (s.take i))).map w8)) (.int .i64 i) (ownH ((lb (litS (s.take i))).map w8))
set_option maxRecDepth 20000 in
theorem runs_refliteral (s : List UInt8) : Runs T80 a21 [.str s] (litR s) := by
  refine ⟨?_⟩
  by_cases hp : pathD s = true
  case neg =>
    have hp : pathD s = false := by simpa using hp
    simp (disch := first | omega | (simp [-List.map_take, -List.map_drop, -List.map_set, -List.map_append, -List.drop_one] <;> omega) | fail) [-List.map_take, -List.map_drop, -List.map_set, -List.map_append, -List.drop_one, a21, T80_path, cS_eq, pathB, hp, litR]
  obtain ⟨g1, g2, _, _⟩ := path_len hp
  simp (disch := first | omega | (simp [-List.map_take, -List.map_drop, -List.map_set, -List.map_append, -List.drop_one] <;> omega) | fail) [-List.map_take, -List.map_drop, -List.map_set, -List.map_append, -List.drop_one, a21, T80_path, cS_eq, pathB, hp]
  refine W_loop (S21r s) (fun i => s.length - i) (fun i => i ≤ s.length) 0 (weak_same (by simp (disch := first | omega | (simp [-List.map_take, -List.map_drop, -List.map_set, -List.map_append, -List.drop_one] <;> omega) | fail) [-List.map_take, -List.map_drop, -List.map_set, -List.map_append, -List.drop_one, litS, ownD, lb]) (by simp (disch := first | omega | (simp [-List.map_take, -List.map_drop, -List.map_set, -List.map_append, -List.drop_one] <;> omega) | fail) [-List.map_take, -List.map_drop, -List.map_set, -List.map_append, -List.drop_one, litS, ownH, lb])) (by omega) (fun i hi => ?_)
  have hl1 := len_litS (s.take i)
  have hl2 := len_lb (litS (s.take i))
  rw [List.length_take_of_le hi] at hl1
  simp (disch := first | omega | (simp [-List.map_take, -List.map_drop, -List.map_set, -List.map_append, -List.drop_one] <;> omega) | fail) [-List.map_take, -List.map_drop, -List.map_set, -List.map_append, -List.drop_one, a21L0, a21S0, S21r]
  by_cases h : i < s.length
  · have h1 : (i : Int) < s.length := by omega
    have hsu := litS_succ h
    by_cases hc : s[i] = 92 ∨ s[i] = 42 ∨ s[i] = 63
    · have e5 : (litS (s.take (i + 1))).length = (litS (s.take i)).length + 1 + 1 := by rw [hsu, litC, if_pos hc]; simp
      have e6 : lb (litS (s.take (i + 1))) = lb (litS (s.take i)) ++ [92#8, s[i].toBitVec] := by rw [hsu, litC, if_pos hc, lb_append]; rfl
      rcases hc with hc | hc | hc
      · have b1 : s[i].toBitVec = 92#8 := tb_eq.2 hc
        rw [b1] at e6
        simp (disch := first | omega | (simp [-List.map_take, -List.map_drop, -List.map_set, -List.map_append, -List.drop_one] <;> omega) | fail) [-List.map_take, -List.map_drop, -List.map_set, -List.map_append, -List.drop_one, h, h1, b1, hl2]
        exact ⟨i + 1, weak_same (by simp (disch := first | omega | (simp [-List.map_take, -List.map_drop, -List.map_set, -List.map_append, -List.drop_one] <;> omega) | fail) [-List.map_take, -List.map_drop, -List.map_set, -List.map_append, -List.drop_one, e5, e6]) (by simp (disch := first | omega | (simp [-List.map_take, -List.map_drop, -List.map_set, -List.map_append, -List.drop_one] <;> omega) | fail) [-List.map_take, -List.map_drop, -List.map_set, -List.map_append, -List.drop_one, e6]), by omega, by omega⟩
      · have b1 : s[i].toBitVec = 42#8 := tb_eq.2 hc
        rw [b1] at e6
        simp (disch := first | omega | (simp [-List.map_take, -List.map_drop, -List.map_set, -List.map_append, -List.drop_one] <;> omega) | fail) [-List.map_take, -List.map_drop, -List.map_set, -List.map_append, -List.drop_one, h, h1, b1, hl2]
        exact ⟨i + 1, weak_same (by simp (disch := first | omega | (simp [-List.map_take, -List.map_drop, -List.map_set, -List.map_append, -List.drop_one] <;> omega) | fail) [-List.map_take, -List.map_drop, -List.map_set, -List.map_append, -List.drop_one, e5, e6]) (by simp (disch := first | omega | (simp [-List.map_take, -List.map_drop, -List.map_set, -List.map_append, -List.drop_one] <;> omega) | fail) [-List.map_take, -List.map_drop, -List.map_set, -List.map_append, -List.drop_one, e6]), by omega, by omega⟩
      · have b1 : s[i].toBitVec = 63#8 := tb_eq.2 hc
        rw [b1] at e6
        simp (disch := first | omega | (simp [-List.map_take, -List.map_drop, -List.map_set, -List.map_append, -List.drop_one] <;> omega) | fail) [-List.map_take, -List.map_drop, -List.map_set, -List.map_append, -List.drop_one, h, h1, b1, hl2]
        exact ⟨i + 1, weak_same (by simp (disch := first | omega | (simp [-List.map_take, -List.map_drop, -List.map_set, -List.map_append, -List.drop_one] <;> omega) | fail) [-List.map_take, -List.map_drop, -List.map_set, -List.map_append, -List.drop_one, e5, e6]) (by simp (disch := first | omega | (simp [-List.map_take, -List.map_drop, -List.map_set, -List.map_append, -List.drop_one] <;> omega) | fail) [-List.map_take, -List.map_drop, -List.map_set, -List.map_append, -List.drop_one, e6]), by omega, by omega⟩
    · have e5 : (litS (s.take (i + 1))).length = (litS (s.take i)).length + 1 := by rw [hsu, litC, if_neg hc]; simp
      have e6 : lb (litS (s.take (i + 1))) = lb (litS (s.take i)) ++ [s[i].toBitVec] := by rw [hsu, litC, if_neg hc, lb_append]; rfl
      simp only [not_or] at hc
      have b1 : ¬ s[i].toBitVec = 92#8 := fun e => hc.1 (tb_eq.1 e)
      have b2 : ¬ s[i].toBitVec = 42#8 := fun e => hc.2.1 (tb_eq.1 e)
      have b3 : ¬ s[i].toBitVec = 63#8 := fun e => hc.2.2 (tb_eq.1 e)
      have b1q : (s[i].toBitVec == 92#8) = false := by simp [b1]
      have b2q : (s[i].toBitVec == 42#8) = false := by simp [b2]
      have b3q : (s[i].toBitVec == 63#8) = false := by simp [b3]
      simp (disch := first | omega | (simp [-List.map_take, -List.map_drop, -List.map_set, -List.map_append, -List.drop_one] <;> omega) | fail) [-List.map_take, -List.map_drop, -List.map_set, -List.map_append, -List.drop_one, h, h1, b1, b2, b3, b1q, b2q, b3q, hl2]
      exact ⟨i + 1, weak_same (by simp (disch := first | omega | (simp [-List.map_take, -List.map_drop, -List.map_set, -List.map_append, -List.drop_one] <;> omega) | fail) [-List.map_take, -List.map_drop, -List.map_set, -List.map_append, -List.drop_one, e5, e6]) (by simp (disch := first | omega | (simp [-List.map_take, -List.map_drop, -List.map_set, -List.map_append, -List.drop_one] <;> omega) | fail) [-List.map_take, -List.map_drop, -List.map_set, -List.map_append, -List.drop_one, e6]), by omega, by omega⟩
  · have h1 : ¬ (i : Int) < s.length := by omega
    obtain rfl : i = s.length := by omega
    rw [List.take_length] at hl1 hl2
    have hne : (lb (litS s)).map w8 ≠ [] := by intro e; have := congrArg List.length e; rw [List.length_map, hl2] at this; simp only [List.length_nil] at this; omega
    have ht : (lb (litS s)).take (litS s).length = lb (litS s) := List.take_of_length_le (by omega)
    simp (disch := first | omega | (simp [-List.map_take, -List.map_drop, -List.map_set, -List.map_append, -List.drop_one] <;> omega) | fail) [-List.map_take, -List.map_drop, -List.map_set, -List.map_append, -List.drop_one, h1, ownD_ne hne, ownH_ne hne, hl2, ht, bytesOf_lb, litR, hp]
theorem runs_refdirectory (s : List UInt8) : Runs T80 a57 [.str s] (dirB s) := by
  refine ⟨?_⟩
  by_cases h : s = []
  · subst h; simp (disch := first | omega | (simp [-List.map_take, -List.map_drop, -List.map_set, -List.map_append, -List.drop_one] <;> omega) | fail) [-List.map_take, -List.map_drop, -List.map_set, -List.map_append, -List.drop_one, a57, dirB, dirD]
  · have hd : dirD s = pathD s := by simp [dirD, h]
    simp (disch := first | omega | (simp [-List.map_take, -List.map_drop, -List.map_set, -List.map_append, -List.drop_one] <;> omega) | fail) [-List.map_take, -List.map_drop, -List.map_set, -List.map_append, -List.drop_one, a57, dirB, hd, h, T80_path, cS_eq, pathB]
/-- a contract for two strings that are not too long -/
def cSSb (g : List UInt8 → List UInt8 → DV) : List DV → Option DV
  | [.str s, .str p] => if s.length ≤ 100000 ∧ p.length ≤ 100000 then some (g s p) else none | _ => none
theorem cSSb_eq {g s p} (h : s.length ≤ 100000) (h' : p.length ≤ 100000) : cSSb g [.str s, .str p] = some (g s p) := if_pos ⟨h, h'⟩
theorem cSSb_sound {f : Nat} {g : List UInt8 → List UInt8 → DV} (h : ∀ s p, s.length ≤ 100000 → p.length ≤ 100000 → Am.Sem P f [.str s, .str p] (g s p)) : (Con.pure (cSSb g)).Sound P f := by
  intro args v e
  unfold cSSb at e
  split at e
  · split at e
    · rename_i hl; simp at e; subst e; exact h _ _ hl.1 hl.2
    · simp at e
  · simp at e
def restR (d s : List UInt8) : Option (List UInt8) := if d = [] then some s else if d.length + 1 < s.length ∧ s.take d.length = d ∧ s.getD d.length 0 = 47 then some (s.drop (d.length + 1)) else none
def restB (d s : List UInt8) : DV := optS (restR d s)
def underB (d r : List UInt8) : DV := .str (under d r)
theorem runs_rest (d s : List UInt8) (hd : d.length ≤ 100000) (hs : s.length ≤ 100000) : Runs tbl0 a58 [.str d, .str s] (restB d s) := by
  refine ⟨?_⟩
  by_cases h0 : d = []
  · subst h0; simp (disch := first | omega | (simp [-List.map_take, -List.map_drop, -List.map_set, -List.map_append, -List.drop_one] <;> omega) | fail) [-List.map_take, -List.map_drop, -List.map_set, -List.map_append, -List.drop_one, a58, restB, restR, optS]
  by_cases h1 : d.length + 1 < s.length
  case neg =>
    have h1' : ¬ (d.length : Int) + 1 < s.length := by omega
    have hr : restR d s = none := by rw [restR, if_neg h0, if_neg (fun h => h1 h.1)]
    simp (disch := first | omega | (simp [-List.map_take, -List.map_drop, -List.map_set, -List.map_append, -List.drop_one] <;> omega) | fail) [-List.map_take, -List.map_drop, -List.map_set, -List.map_append, -List.drop_one, a58, h0, h1', restB, hr, optS]
  have h1' : (d.length : Int) + 1 < s.length := by omega
  have hle : d.length ≤ s.length := by omega
  have hlt : d.length < s.length := by omega
  by_cases h2 : s.take d.length = d
  case neg =>
    have hr : restR d s = none := by rw [restR, if_neg h0, if_neg (fun h => h2 h.2.1)]
    simp (disch := first | omega | (simp [-List.map_take, -List.map_drop, -List.map_set, -List.map_append, -List.drop_one] <;> omega) | fail) [-List.map_take, -List.map_drop, -List.map_set, -List.map_append, -List.drop_one, a58, h0, h1', hle, h2, restB, hr, optS]
  have hg : s.getD d.length 0 = s[d.length] := by rw [List.getD_eq_getElem?_getD, List.getElem?_eq_getElem hlt]; rfl
  by_cases h3 : s[d.length] = 47
  case neg =>
    have b1 : ¬ s[d.length].toBitVec = 47#8 := fun e => h3 (tb_eq.1 e)
    have b1q : (s[d.length].toBitVec == 47#8) = false := by simp [b1]
    have hr : restR d s = none := by rw [restR, if_neg h0, if_neg (fun h => h3 (by rw [← hg]; exact h.2.2))]
    simp (disch := first | omega | (simp [-List.map_take, -List.map_drop, -List.map_set, -List.map_append, -List.drop_one] <;> omega) | fail) [-List.map_take, -List.map_drop, -List.map_set, -List.map_append, -List.drop_one, a58, h0, h1', hle, hlt, h2, b1, b1q, restB, hr, optS]
  have b1 : s[d.length].toBitVec = 47#8 := tb_eq.2 h3
  have hr : restR d s = some (s.drop (d.length + 1)) := by rw [restR, if_neg h0, if_pos ⟨h1, h2, by rw [hg]; exact h3⟩]
  have e1 : ((d.length : Int) + 1).toNat = d.length + 1 := by omega
  have ht : (s.drop (d.length + 1)).take (s.length - (d.length + 1)) = s.drop (d.length + 1) := List.take_of_length_le (by simp)
  have h4 : (d.length : Int) + 1 ≤ s.length := by omega
  have h5 : d.length + 1 ≤ s.length := by omega
  simp (disch := first | omega | (simp [-List.map_take, -List.map_drop, -List.map_set, -List.map_append, -List.drop_one] <;> omega) | fail) [-List.map_take, -List.map_drop, -List.map_set, -List.map_append, -List.drop_one, a58, h0, h1', hle, hlt, h2, b1, e1, ht, h4, h5, restB, hr, optS]
theorem runs_under (d s : List UInt8) (hd : d.length ≤ 100000) (hs : s.length ≤ 100000) : Runs tbl0 a59 [.str d, .str s] (underB d s) := by
  refine ⟨?_⟩
  by_cases h0 : d = []
  · subst h0; simp (disch := first | omega | (simp [-List.map_take, -List.map_drop, -List.map_set, -List.map_append, -List.drop_one] <;> omega) | fail) [-List.map_take, -List.map_drop, -List.map_set, -List.map_append, -List.drop_one, a59, underB, under]
  · simp (disch := first | omega | (simp [-List.map_take, -List.map_drop, -List.map_set, -List.map_append, -List.drop_one] <;> omega) | fail) [-List.map_take, -List.map_drop, -List.map_set, -List.map_append, -List.drop_one, a59, h0, underB, under]
theorem rest_eq {d s : List UInt8} (hs : pathD s = true) : restR d s = restO d s := by
  unfold restR restO
  by_cases h0 : d = []
  · rw [if_pos h0, if_pos h0]
  rw [if_neg h0, if_neg h0]
  by_cases ht : s.take (d.length + 1) = d ++ [47]
  · rw [if_pos ht]
    have hl := congrArg List.length ht
    rw [List.length_take, List.length_append, List.length_singleton] at hl
    have hlt : d.length < s.length := by omega
    have h2 : s.take d.length = d := by
      have := congrArg (List.take d.length) ht
      rw [List.take_take, List.take_left' rfl] at this
      rwa [show min d.length (d.length + 1) = d.length by omega] at this
    have h3 : s.getD d.length 0 = 47 := by
      have := congrArg (·[d.length]?) ht
      simp only [List.getElem?_take_of_lt (Nat.lt_succ_self _), List.getElem?_append_right (Nat.le_refl _)] at this
      rw [List.getD_eq_getElem?_getD, this]; simp
    have h1 : d.length + 1 < s.length := by
      by_cases e : s.length = d.length + 1
      · exfalso
        have hse : s = d ++ 47 :: [] := by rw [← ht, List.take_of_length_le (by omega)]
        rw [hse, path_join] at hs
        simp [comps, okC] at hs
      · omega
    rw [if_pos ⟨h1, h2, h3⟩]
  · rw [if_neg ht, if_neg]
    rintro ⟨h1, h2, h3⟩
    apply ht
    have hlt : d.length < s.length := by omega
    rw [take_snoc hlt, h2]
    rw [List.getD_eq_getElem?_getD, List.getElem?_eq_getElem hlt] at h3
    have h3 : s[d.length] = 47 := h3
    rw [h3]
def T81 : Tbl := addT 57 (.pure (cS dirB)) (addT 58 (.pure (cSSb restB)) (addT 59 (.pure (cSSb underB)) T80))
theorem T81_path : T81 17 = .pure (cS pathB) := by simp [T81, T80]
theorem T81_dir : T81 57 = .pure (cS dirB) := by simp [T81]
theorem T81_rest : T81 58 = .pure (cSSb restB) := by simp [T81]
theorem T81_under : T81 59 = .pure (cSSb underB) := by simp [T81]
theorem T81_sound : T81.Sound P :=
  addT_sound (cS_sound fun s => sem_runs mix T80_sound Tryd.func57 a57_ok (runs_refdirectory s))
  (addT_sound (cSSb_sound fun s p h h' => sem_runs mix tbl0_sound Tryd.func58 a58_ok (runs_rest s p h h'))
  (addT_sound (cSSb_sound fun s p h h' => sem_runs mix tbl0_sound Tryd.func59 a59_ok (runs_under s p h h')) T80_sound))
set_option maxRecDepth 20000 in
theorem runs_refrelocate (a b s : List UInt8) : Runs T81 a23 [.str a, .str b, .str s] (relD a b s) := by
  refine ⟨?_⟩
  by_cases ha : dirD a = true
  case neg =>
    have hr : relO a b s = none := by rw [relO, if_neg (by simp [ha])]
    have ha : dirD a = false := by simpa using ha
    simp (disch := first | omega | (simp [-List.map_take, -List.map_drop, -List.map_set, -List.map_append, -List.drop_one] <;> omega) | fail) [-List.map_take, -List.map_drop, -List.map_set, -List.map_append, -List.drop_one, a23, T81_dir, cS_eq, dirB, ha, relD, hr, optS]
  by_cases hb : dirD b = true
  case neg =>
    have hr : relO a b s = none := by rw [relO, if_neg (by simp [hb])]
    have hb : dirD b = false := by simpa using hb
    simp (disch := first | omega | (simp [-List.map_take, -List.map_drop, -List.map_set, -List.map_append, -List.drop_one] <;> omega) | fail) [-List.map_take, -List.map_drop, -List.map_set, -List.map_append, -List.drop_one, a23, T81_dir, cS_eq, dirB, ha, hb, relD, hr, optS]
  by_cases hs : pathD s = true
  case neg =>
    have hr : relO a b s = none := by rw [relO, if_neg (by simp [hs])]
    have hs : pathD s = false := by simpa using hs
    simp (disch := first | omega | (simp [-List.map_take, -List.map_drop, -List.map_set, -List.map_append, -List.drop_one] <;> omega) | fail) [-List.map_take, -List.map_drop, -List.map_set, -List.map_append, -List.drop_one, a23, T81_dir, T81_path, cS_eq, dirB, pathB, ha, hb, hs, relD, hr, optS]
  have la := dir_len ha
  have lb := dir_len hb
  have ls := (path_len hs).2.1
  have hr : relO a b s = (restO a s).bind fun r => if pathD (under b r) = true then some (under b r) else none := by rw [relO, if_pos ⟨ha, hb, hs⟩]
  have hrest := cSSb_eq (g := restB) (s := a) (p := s) (by omega) (by omega)
  rw [restB, rest_eq hs] at hrest
  cases hre : restO a s with
  | none =>
    rw [hre] at hrest hr
    have hr : relO a b s = none := hr
    simp (disch := first | omega | (simp [-List.map_take, -List.map_drop, -List.map_set, -List.map_append, -List.drop_one] <;> omega) | fail) [-List.map_take, -List.map_drop, -List.map_set, -List.map_append, -List.drop_one, a23, T81_dir, T81_path, T81_rest, cS_eq, dirB, pathB, ha, hb, hs, hrest, relD, hr, optS]
  | some r =>
    have hrl : r.length ≤ 200 := by
      unfold restO at hre
      split at hre
      · simp only [Option.some.injEq] at hre; rw [← hre]; exact ls
      · split at hre
        · simp only [Option.some.injEq] at hre; rw [← hre, List.length_drop]; omega
        · simp at hre
    rw [hre, optS] at hrest
    rw [hre, Option.bind_some] at hr
    have hun := cSSb_eq (g := underB) (s := b) (p := r) (by omega) (by omega)
    rw [underB] at hun
    by_cases hu : pathD (under b r) = true
    · rw [if_pos hu] at hr
      simp (disch := first | omega | (simp [-List.map_take, -List.map_drop, -List.map_set, -List.map_append, -List.drop_one] <;> omega) | fail) [-List.map_take, -List.map_drop, -List.map_set, -List.map_append, -List.drop_one, a23, T81_dir, T81_path, T81_rest, T81_under, cS_eq, dirB, pathB, ha, hb, hs, hrest, hun, hu, relD, hr, optS]
    · rw [if_neg hu] at hr
      have hu : pathD (under b r) = false := by simpa using hu
      simp (disch := first | omega | (simp [-List.map_take, -List.map_drop, -List.map_set, -List.map_append, -List.drop_one] <;> omega) | fail) [-List.map_take, -List.map_drop, -List.map_set, -List.map_append, -List.drop_one, a23, T81_dir, T81_path, T81_rest, T81_under, cS_eq, dirB, pathB, ha, hb, hs, hrest, hun, hu, relD, hr, optS]
/-! the laws -/
noncomputable def T82 : Tbl := addT 17 (.pure (cS pathB)) (addT 19 (.pure (cS validB)) (addT 15 (.pure (cSS matchB)) (addT 21 (.pure (cS litR)) (addT 23 (.pure (cSSS relD)) T63))))
theorem T82_refpath : T82 17 = .pure (cS pathB) := by simp [T82]
theorem T82_refvalid : T82 19 = .pure (cS validB) := by simp [T82]
theorem T82_refmatch : T82 15 = .pure (cSS matchB) := by simp [T82]
theorem T82_reflit : T82 21 = .pure (cS litR) := by simp [T82]
theorem T82_refrel : T82 23 = .pure (cSSS relD) := by simp [T82]
theorem T82_path : T82 16 = .pure (cS pathB) := by simp [T82, T63, T62, T60]
theorem T82_valid : T82 18 = .pure (cS validB) := by simp [T82, T63, T62]
theorem T82_match : T82 14 = .pure (cSS matchB) := by simp [T82, T63, T62]
theorem T82_lit : T82 20 = .pure (cS litR) := by simp [T82, T63, T62]
theorem T82_rel : T82 22 = .pure (cSSS relD) := by simp [T82, T63, T62]
theorem T82_awake : T82 13 = .pure c_true := by simp [T82, T63]
theorem T82_sound : T82.Sound P :=
  addT_sound (cS_sound fun p => sem_runs mix T73_sound Tryd.func17 a17_ok (runs_refpath p))
  (addT_sound (cS_sound fun p => sem_runs mix T75_sound Tryd.func19 a19_ok (runs_refvalid p))
  (addT_sound (cSS_sound fun p s => sem_runs mix T76_sound Tryd.func15 a15_ok (runs_refmatch p s))
  (addT_sound (cS_sound fun p => sem_runs mix T80_sound Tryd.func21 a21_ok (runs_refliteral p))
  (addT_sound (cSSS_sound fun a b s => sem_runs mix T81_sound Tryd.func23 a23_ok (runs_refrelocate a b s)) T63_sound))))
theorem parse_lit {s : List UInt8} (h : pathD s = true) : parseP (litS s) = if (litS s).length ≤ 200 then .some (ones s) else none := by
  obtain ⟨h1, h2, h3, _⟩ := path_len h
  have hl := len_litS s
  unfold parseP
  by_cases hle : (litS s).length ≤ 200
  · rw [if_pos ⟨by omega, hle, by rw [noZ_lit]; exact h3⟩, if_pos hle, prs_lit']
  · rw [if_neg (fun h => hle h.2.1), if_neg hle]
theorem match_lit {s o : List UInt8} (h : pathD s = true) (hl : (litS s).length ≤ 200) : matchD (litS s) o = decide (s = o) := by
  rw [matchD, parse_lit h, if_pos hl]
  show (pathD o && M (ones s) o (ones s).length o.length) = _
  rw [len_ones, M_lit]
  by_cases e : s = o
  · subst e; simp [h]
  · simp [e]
set_option maxRecDepth 20000 in
theorem runs_lawpaths (s p : List UInt8) : Runs T82 a4 [.str s, .str p] (.bool true) := by
  refine ⟨?_⟩
  by_cases h1 : (500 : Int) < s.length
  · simp (disch := first | omega | (simp [-List.map_take, -List.map_drop, -List.map_set, -List.map_append, -List.drop_one] <;> omega) | fail) [-List.map_take, -List.map_drop, -List.map_set, -List.map_append, -List.drop_one, a4, h1]
  by_cases h2 : (500 : Int) < p.length
  · simp (disch := first | omega | (simp [-List.map_take, -List.map_drop, -List.map_set, -List.map_append, -List.drop_one] <;> omega) | fail) [-List.map_take, -List.map_drop, -List.map_set, -List.map_append, -List.drop_one, a4, h1, h2]
  simp (disch := first | omega | (simp [-List.map_take, -List.map_drop, -List.map_set, -List.map_append, -List.drop_one] <;> omega) | fail) [-List.map_take, -List.map_drop, -List.map_set, -List.map_append, -List.drop_one, a4, h1, h2, T82_awake, c_true_eq, T82_path, T82_refpath, T82_valid, T82_refvalid, cS_eq, pathB, validB]
set_option maxRecDepth 20000 in
theorem runs_lawmatches (p s : List UInt8) : Runs T82 a3 [.str p, .str s] (.bool true) := by
  refine ⟨?_⟩
  by_cases h1 : (500 : Int) < s.length
  · simp (disch := first | omega | (simp [-List.map_take, -List.map_drop, -List.map_set, -List.map_append, -List.drop_one] <;> omega) | fail) [-List.map_take, -List.map_drop, -List.map_set, -List.map_append, -List.drop_one, a3, h1]
  by_cases h2 : (500 : Int) < p.length
  · simp (disch := first | omega | (simp [-List.map_take, -List.map_drop, -List.map_set, -List.map_append, -List.drop_one] <;> omega) | fail) [-List.map_take, -List.map_drop, -List.map_set, -List.map_append, -List.drop_one, a3, h1, h2]
  simp (disch := first | omega | (simp [-List.map_take, -List.map_drop, -List.map_set, -List.map_append, -List.drop_one] <;> omega) | fail) [-List.map_take, -List.map_drop, -List.map_set, -List.map_append, -List.drop_one, a3, h1, h2, T82_awake, c_true_eq, T82_match, T82_refmatch, cSS_eq, matchB]
set_option maxRecDepth 20000 in
theorem runs_lawliterals (s o : List UInt8) : Runs T82 a5 [.str s, .str o] (.bool true) := by
  refine ⟨?_⟩
  by_cases h1 : (500 : Int) < s.length
  · simp (disch := first | omega | (simp [-List.map_take, -List.map_drop, -List.map_set, -List.map_append, -List.drop_one] <;> omega) | fail) [-List.map_take, -List.map_drop, -List.map_set, -List.map_append, -List.drop_one, a5, h1]
  by_cases h2 : (500 : Int) < o.length
  · simp (disch := first | omega | (simp [-List.map_take, -List.map_drop, -List.map_set, -List.map_append, -List.drop_one] <;> omega) | fail) [-List.map_take, -List.map_drop, -List.map_set, -List.map_append, -List.drop_one, a5, h1, h2]
  by_cases hs : pathD s = true
  case neg =>
    have hs : pathD s = false := by simpa using hs
    have hm : matchD [] s = false := rfl
    simp (disch := first | omega | (simp [-List.map_take, -List.map_drop, -List.map_set, -List.map_append, -List.drop_one] <;> omega) | fail) [-List.map_take, -List.map_drop, -List.map_set, -List.map_append, -List.drop_one, a5, h1, h2, T82_awake, c_true_eq, T82_lit, T82_reflit, T82_valid, T82_match, cS_eq, cSS_eq, litR, hs, validB, show parseP [] = none from rfl, matchB, hm]
  have hpl := parse_lit hs
  obtain ⟨q, hq⟩ : ∃ q, litS s = q := ⟨_, rfl⟩
  by_cases hl : (litS s).length ≤ 200
  · have m1 := match_lit (o := s) hs hl
    have m2 := match_lit (o := o) hs hl
    rw [if_pos hl] at hpl
    rw [hq] at m1 m2 hpl
    simp only [decide_true] at m1
    by_cases e : s = o
    · subst e
      simp (disch := first | omega | (simp [-List.map_take, -List.map_drop, -List.map_set, -List.map_append, -List.drop_one] <;> omega) | fail) [-List.map_take, -List.map_drop, -List.map_set, -List.map_append, -List.drop_one, a5, h1, h2, T82_awake, c_true_eq, T82_lit, T82_reflit, T82_valid, T82_match, cS_eq, cSS_eq, litR, hs, hq, validB, hpl, matchB, m1]
    · simp only [e, decide_false] at m2
      simp (disch := first | omega | (simp [-List.map_take, -List.map_drop, -List.map_set, -List.map_append, -List.drop_one] <;> omega) | fail) [-List.map_take, -List.map_drop, -List.map_set, -List.map_append, -List.drop_one, a5, h1, h2, T82_awake, c_true_eq, T82_lit, T82_reflit, T82_valid, T82_match, cS_eq, cSS_eq, litR, hs, hq, validB, hpl, matchB, m1, m2, e]
  · rw [if_neg hl] at hpl
    have m1 : matchD (litS s) s = false := by rw [matchD, hpl]
    rw [hq] at m1 hpl
    simp (disch := first | omega | (simp [-List.map_take, -List.map_drop, -List.map_set, -List.map_append, -List.drop_one] <;> omega) | fail) [-List.map_take, -List.map_drop, -List.map_set, -List.map_append, -List.drop_one, a5, h1, h2, T82_awake, c_true_eq, T82_lit, T82_reflit, T82_valid, T82_match, cS_eq, cSS_eq, litR, hs, hq, validB, hpl, matchB, m1]
set_option maxRecDepth 20000 in
theorem runs_lawrelocates (a b s : List UInt8) : Runs T82 a6 [.str a, .str b, .str s] (.bool true) := by
  refine ⟨?_⟩
  by_cases h1 : (500 : Int) < s.length
  · simp (disch := first | omega | (simp [-List.map_take, -List.map_drop, -List.map_set, -List.map_append, -List.drop_one] <;> omega) | fail) [-List.map_take, -List.map_drop, -List.map_set, -List.map_append, -List.drop_one, a6, h1]
  by_cases h2 : (500 : Int) < a.length
  · simp (disch := first | omega | (simp [-List.map_take, -List.map_drop, -List.map_set, -List.map_append, -List.drop_one] <;> omega) | fail) [-List.map_take, -List.map_drop, -List.map_set, -List.map_append, -List.drop_one, a6, h1, h2]
  by_cases h3 : (500 : Int) < b.length
  · simp (disch := first | omega | (simp [-List.map_take, -List.map_drop, -List.map_set, -List.map_append, -List.drop_one] <;> omega) | fail) [-List.map_take, -List.map_drop, -List.map_set, -List.map_append, -List.drop_one, a6, h1, h2, h3]
  cases hr : relO a b s with
  | none => simp (disch := first | omega | (simp [-List.map_take, -List.map_drop, -List.map_set, -List.map_append, -List.drop_one] <;> omega) | fail) [-List.map_take, -List.map_drop, -List.map_set, -List.map_append, -List.drop_one, a6, h1, h2, h3, T82_awake, c_true_eq, T82_rel, T82_refrel, cSSS_eq, relD, hr, optS]
  | some r => simp (disch := first | omega | (simp [-List.map_take, -List.map_drop, -List.map_set, -List.map_append, -List.drop_one] <;> omega) | fail) [-List.map_take, -List.map_drop, -List.map_set, -List.map_append, -List.drop_one, a6, h1, h2, h3, T82_awake, c_true_eq, T82_rel, T82_refrel, cSSS_eq, relD, hr, optS]
namespace patternPaths
theorem law_holds (dvs : List DV) (h : Ty.Args [.str, .str] dvs) : Am.Sem P 4 dvs (.bool true) := by
  obtain ⟨s, p, rfl⟩ := shape_ss h
  exact sem_runs mix T82_sound Tryd.func4 a4_ok (runs_lawpaths s p)
end patternPaths
namespace patternMatches
theorem law_holds (dvs : List DV) (h : Ty.Args [.str, .str] dvs) : Am.Sem P 3 dvs (.bool true) := by
  obtain ⟨s, p, rfl⟩ := shape_ss h
  exact sem_runs mix T82_sound Tryd.func3 a3_ok (runs_lawmatches s p)
end patternMatches
namespace patternLiterals
theorem law_holds (dvs : List DV) (h : Ty.Args [.str, .str] dvs) : Am.Sem P 5 dvs (.bool true) := by
  obtain ⟨s, p, rfl⟩ := shape_ss h
  exact sem_runs mix T82_sound Tryd.func5 a5_ok (runs_lawliterals s p)
end patternLiterals
namespace patternRelocates
theorem law_holds (dvs : List DV) (h : Ty.Args [.str, .str, .str] dvs) : Am.Sem P 6 dvs (.bool true) := by
  obtain ⟨a, b, s, rfl⟩ := shape_sss h
  exact sem_runs mix T82_sound Tryd.func6 a6_ok (runs_lawrelocates a b s)
end patternRelocates
end Go.Proofs.YtjjcdmjgbbaliaaDoor
