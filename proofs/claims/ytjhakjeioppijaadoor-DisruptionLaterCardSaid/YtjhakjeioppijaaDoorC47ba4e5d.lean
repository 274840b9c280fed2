/-
  3 texts of mine in one.
-/
import Derived.Test.YtjhakjeioppijaaDoorC5f0ea989
import Derived.Test.YtjhakjeioppijaaDoorC950dc02d
import Derived.Test.YtjhakjeioppijaaDoorC0aefe577
import Derived.Test.YtjhakjeioppijaaDoorC3dcfe18e
import Derived.Test.YtjhakjeioppijaaDoorCe716085a
import Derived.Test.YtjhakjeioppijaaDoorCd4aeaedc
/-
  Disruption: lists within one another; numbers as arguments.
-/
set_option linter.unusedSimpArgs false
set_option linter.unusedVariables false
namespace Go.Proofs.YtjhakjeioppijaaDoor
open Go Go.Am

def inL (l : List Int) (x : Int) : Bool := l.any fun y => decide (x = y)
def withinB (a b : List Int) : Bool := a.all (inL b)
theorem inL_succ {l : List Int} {x : Int} {j : Nat} (h : j < l.length) : inL (l.take (j + 1)) x = (inL (l.take j) x || decide (x = l[j])) := by
  rw [inL, List.take_succ_eq_append_getElem h, List.any_append]; simp [inL]
theorem withinB_of {a b : List Int} (h : ∀ x ∈ a, x ∈ b) : withinB a b = true := by
  rw [withinB, List.all_eq_true]
  intro x hx
  rw [inL, List.any_eq_true]
  exact ⟨x, h x hx, by simp⟩
def S300 (a b : List Int) (i : Nat) : St := a59S0 (liV a) (liV b) (.int .i64 i) []
def S301 (a b : List Int) (i : Nat) (x : Int) (j : Nat) : St := a59S1 (liV a) (liV b) (.int .i64 i) (.bool (inL (b.take j) x)) (.int .i64 j) []
theorem runs_within38 (a b : List Int) (ha : a.length ≤ 1000000) (hb : b.length ≤ 1000000) : Runs tbl0 a59 [liV a, liV b] (.bool (withinB a b)) := by
  refine ⟨?_⟩
  simp (disch := first | omega | (simp [-List.map_take, -List.map_drop, -List.map_set, -List.map_append, -List.drop_one] <;> omega) | fail) [-List.map_take, -List.map_drop, -List.map_set, -List.map_append, -List.drop_one, a59]
  refine W_loop (S300 a b) (fun i => a.length - i) (fun i => i ≤ a.length ∧ ∀ x ∈ a.take i, inL b x = true) 0 (weak_same (by simp (disch := first | omega | (simp [-List.map_take, -List.map_drop, -List.map_set, -List.map_append, -List.drop_one] <;> omega) | fail) [-List.map_take, -List.map_drop, -List.map_set, -List.map_append, -List.drop_one, S300, a59S0]) (by simp (disch := first | omega | (simp [-List.map_take, -List.map_drop, -List.map_set, -List.map_append, -List.drop_one] <;> omega) | fail) [-List.map_take, -List.map_drop, -List.map_set, -List.map_append, -List.drop_one, S300, a59S0])) ⟨by omega, by simp⟩ (fun i hi => ?_)
  obtain ⟨h1, h2⟩ := hi
  simp (disch := first | omega | (simp [-List.map_take, -List.map_drop, -List.map_set, -List.map_append, -List.drop_one] <;> omega) | fail) [-List.map_take, -List.map_drop, -List.map_set, -List.map_append, -List.drop_one, a59L0, a59S0, S300]
  by_cases h : i < a.length
  · have h' : (i : Int) < a.length := by omega
    have hx := fun H => liV_idx H h
    obtain ⟨x, hxe⟩ : ∃ x, a[i] = x := ⟨_, rfl⟩
    simp only [hxe] at hx
    simp (disch := first | omega | (simp [-List.map_take, -List.map_drop, -List.map_set, -List.map_append, -List.drop_one] <;> omega) | fail) [-List.map_take, -List.map_drop, -List.map_set, -List.map_append, -List.drop_one, h, h']
    refine W_loop (S301 a b i x) (fun j => b.length - j) (fun j => j ≤ b.length) 0 (weak_same (by simp (disch := first | omega | (simp [-List.map_take, -List.map_drop, -List.map_set, -List.map_append, -List.drop_one] <;> omega) | fail) [-List.map_take, -List.map_drop, -List.map_set, -List.map_append, -List.drop_one, S301, a59S1, inL]) (by simp (disch := first | omega | (simp [-List.map_take, -List.map_drop, -List.map_set, -List.map_append, -List.drop_one] <;> omega) | fail) [-List.map_take, -List.map_drop, -List.map_set, -List.map_append, -List.drop_one, S301, a59S1])) (by omega) (fun j hj => ?_)
    simp (disch := first | omega | (simp [-List.map_take, -List.map_drop, -List.map_set, -List.map_append, -List.drop_one] <;> omega) | fail) [-List.map_take, -List.map_drop, -List.map_set, -List.map_append, -List.drop_one, a59L1, a59S1, S301]
    by_cases g : j < b.length
    · have g' : (j : Int) < b.length := by omega
      have hy := fun H => liV_idx H g
      have hs := inL_succ (x := x) g
      cases e : inL (b.take j) x with
      | true =>
        have hs' : inL (b.take (j + 1)) x = true := by rw [hs, e]; rfl
        simp (disch := first | omega | (simp [-List.map_take, -List.map_drop, -List.map_set, -List.map_append, -List.drop_one] <;> omega) | fail) [-List.map_take, -List.map_drop, -List.map_set, -List.map_append, -List.drop_one, g, g', e]
        exact ⟨j + 1, weak_same (by simp (disch := first | omega | (simp [-List.map_take, -List.map_drop, -List.map_set, -List.map_append, -List.drop_one] <;> omega) | fail) [-List.map_take, -List.map_drop, -List.map_set, -List.map_append, -List.drop_one, S301, a59S1, hs']) (by simp (disch := first | omega | (simp [-List.map_take, -List.map_drop, -List.map_set, -List.map_append, -List.drop_one] <;> omega) | fail) [-List.map_take, -List.map_drop, -List.map_set, -List.map_append, -List.drop_one, S301, a59S1]), by omega, by omega⟩
      | false =>
        rw [e, Bool.false_or] at hs
        obtain ⟨y, hye⟩ : ∃ y, b[j] = y := ⟨_, rfl⟩
        rw [hye] at hs
        simp only [hye] at hy
        by_cases q : x = y
        · have hs' : inL (b.take (j + 1)) x = true := by rw [hs]; simpa using q
          simp (disch := first | omega | (simp [-List.map_take, -List.map_drop, -List.map_set, -List.map_append, -List.drop_one] <;> omega) | fail) [-List.map_take, -List.map_drop, -List.map_set, -List.map_append, -List.drop_one, g, g', e, hx, hy, q]
          exact ⟨j + 1, weak_same (by simp (disch := first | omega | (simp [-List.map_take, -List.map_drop, -List.map_set, -List.map_append, -List.drop_one] <;> omega) | fail) [-List.map_take, -List.map_drop, -List.map_set, -List.map_append, -List.drop_one, S301, a59S1, ← q, hs']) (by simp (disch := first | omega | (simp [-List.map_take, -List.map_drop, -List.map_set, -List.map_append, -List.drop_one] <;> omega) | fail) [-List.map_take, -List.map_drop, -List.map_set, -List.map_append, -List.drop_one, S301, a59S1]), by omega, by omega⟩
        · have hs' : inL (b.take (j + 1)) x = false := by rw [hs]; simpa using q
          simp (disch := first | omega | (simp [-List.map_take, -List.map_drop, -List.map_set, -List.map_append, -List.drop_one] <;> omega) | fail) [-List.map_take, -List.map_drop, -List.map_set, -List.map_append, -List.drop_one, g, g', e, hx, hy, q]
          exact ⟨j + 1, weak_same (by simp (disch := first | omega | (simp [-List.map_take, -List.map_drop, -List.map_set, -List.map_append, -List.drop_one] <;> omega) | fail) [-List.map_take, -List.map_drop, -List.map_set, -List.map_append, -List.drop_one, S301, a59S1, hs']) (by simp (disch := first | omega | (simp [-List.map_take, -List.map_drop, -List.map_set, -List.map_append, -List.drop_one] <;> omega) | fail) [-List.map_take, -List.map_drop, -List.map_set, -List.map_append, -List.drop_one, S301, a59S1]), by omega, by omega⟩
    · have g' : ¬ (j : Int) < b.length := by omega
      have hbt : b.take j = b := List.take_of_length_le (by omega)
      cases e : inL b x with
      | true =>
        simp (disch := first | omega | (simp [-List.map_take, -List.map_drop, -List.map_set, -List.map_append, -List.drop_one] <;> omega) | fail) [-List.map_take, -List.map_drop, -List.map_set, -List.map_append, -List.drop_one, g, g', hbt, e]
        refine ⟨i + 1, weak_same (by simp (disch := first | omega | (simp [-List.map_take, -List.map_drop, -List.map_set, -List.map_append, -List.drop_one] <;> omega) | fail) [-List.map_take, -List.map_drop, -List.map_set, -List.map_append, -List.drop_one, S300, a59S0]) (by simp (disch := first | omega | (simp [-List.map_take, -List.map_drop, -List.map_set, -List.map_append, -List.drop_one] <;> omega) | fail) [-List.map_take, -List.map_drop, -List.map_set, -List.map_append, -List.drop_one, S300, a59S0]), by omega, by omega, fun z hz => ?_⟩
        rw [List.take_succ_eq_append_getElem h, hxe] at hz
        rcases List.mem_append.1 hz with hz | hz
        · exact h2 z hz
        · simp at hz; subst hz; exact e
      | false =>
        have hr : withinB a b = false := by
          rw [withinB, List.all_eq_false]
          exact ⟨x, hxe ▸ List.getElem_mem h, by simp [e]⟩
        simp (disch := first | omega | (simp [-List.map_take, -List.map_drop, -List.map_set, -List.map_append, -List.drop_one] <;> omega) | fail) [-List.map_take, -List.map_drop, -List.map_set, -List.map_append, -List.drop_one, g, g', hbt, e, hr]
  · have h' : ¬ (i : Int) < a.length := by omega
    have hr : withinB a b = true := by
      rw [withinB, List.all_eq_true]
      rw [List.take_of_length_le (by omega)] at h2
      exact h2
    simp (disch := first | omega | (simp [-List.map_take, -List.map_drop, -List.map_set, -List.map_append, -List.drop_one] <;> omega) | fail) [-List.map_take, -List.map_drop, -List.map_set, -List.map_append, -List.drop_one, h, h', hr]
theorem within_sound38 : (Con.pure (cLL withinB)).Sound P 59 := con_sound fun a h => sem_runs mix tbl0_sound Tryd.func59 a59_ok (runs_within38 a.1 a.2 h.1 h.2)
end Go.Proofs.YtjhakjeioppijaaDoor
/-
  Functions of this claim, as the abstract machine has them. MADE BY A PROGRAM of mine.
-/
set_option linter.unusedSimpArgs false
set_option linter.unusedVariables false
namespace Go.Proofs.YtjhakjeioppijaaDoor
open Go Go.Am
-- 13 admission/admissionlaw38.DisruptionLater
def a13L0 : ACode :=
  (.seq (.seq (.region false [⟨none, (some 31), .mov (.t 13)⟩,
    ⟨none, (some 32), .mov (.t 9)⟩,
    ⟨none, (some 33), .len (.t 32)⟩,
    ⟨none, (some 34), .bin .lss (.t 31) (.t 33)⟩])
  (.cond (.t 34) .skip
  (.exit 0)))
  (.seq (.block 1 (.region true [⟨none, (some 37), .mov (.t 12)⟩,
    ⟨none, (some 38), .mov (.t 13)⟩,
    ⟨none, (some 39), .mov (.t 9)⟩,
    ⟨none, (some 40), .mov (.t 13)⟩,
    ⟨none, (some 41), .idxS 1 (.t 39) (.t 40)⟩,
    ⟨none, (some 42), .load 1 false (.t 41)⟩,
    ⟨none, (some 43), .mov (.t 7)⟩,
    ⟨none, (some 44), .callT (.k (.fn (.func 28) [] [])) [(.t 43), (.k (.int .i64 5))]⟩,
    ⟨none, (some 45), .bin .add (.t 42) (.t 44)⟩,
    ⟨none, (some 46), .idxS 1 (.t 37) (.t 38)⟩,
    ⟨none, none, .store 1 (.t 46) (.t 45)⟩,
    ⟨none, none, .apart (.t 39) (.t 43)⟩,
    ⟨none, none, .apart (.t 41) (.t 43)⟩]))
  (.region false [⟨none, (some 35), .mov (.t 13)⟩,
    ⟨none, (some 36), .bin .add (.t 35) (.k (.int .i64 1))⟩,
    ⟨none, (some 13), .mov (.t 36)⟩])))
/-- 7:t 8:c 9:graces 10:now 11:later 12:longer 13:i -/
def a13S0 (x7 x8 x9 x10 x11 x12 x13 : DV) (h : List AObj) : St := ⟨js 7 ++ [x7, x8, x9, x10, x11, x12, x13] ++ js 58, h⟩

def a13 : AFn where
  code := (.seq (.region false [⟨none, (some 6), .mov (.k (.bool false))⟩])
  (.seq (.region false [⟨none, (some 17), .mov (.t 0)⟩,
    ⟨none, (some 18), .call (.k (.fn (.func 26) [] [])) [(.t 17), (.k (.int .i64 200))]⟩,
    ⟨none, (some 7), .mov (.t 18)⟩])
  (.seq (.region false [⟨none, (some 19), .mov (.t 7)⟩,
    ⟨none, (some 20), .call (.k (.fn (.func 27) [] [])) [(.t 19), (.k (.int .i64 9))]⟩,
    ⟨none, (some 8), .alloc [.nils, .nils, (.int .i64 0)]⟩,
    ⟨none, none, .store 3 (.t 8) (.t 20)⟩])
  (.seq (.region false [⟨none, (some 21), .mov (.t 7)⟩,
    ⟨none, (some 22), .load 3 true (.t 8)⟩,
    ⟨none, (some 23), .call (.k (.fn (.func 55) [] [])) [(.t 21), (.t 22)]⟩,
    ⟨none, (some 9), .mov (.t 23)⟩])
  (.seq (.region false [⟨none, (some 24), .mov (.t 1)⟩,
    ⟨none, (some 25), .call (.k (.fn (.func 29) [] [])) [(.t 24), (.k (.int .i64 60))]⟩,
    ⟨none, (some 26), .mov (.t 2)⟩,
    ⟨none, (some 27), .call (.k (.fn (.func 29) [] [])) [(.t 26), (.k (.int .i64 30))]⟩,
    ⟨none, (some 10), .mov (.t 25)⟩,
    ⟨none, (some 11), .mov (.t 27)⟩])
  (.seq (.region false [⟨none, (some 28), .mov (.t 9)⟩,
    ⟨none, (some 29), .len (.t 28)⟩,
    ⟨none, (some 30), .mks 1 8 [(.int .i64 0)] (.t 29) (.t 29)⟩,
    ⟨none, (some 12), .mov (.t 30)⟩])
  (.seq (.seq (.region false [⟨none, (some 13), .mov (.k (.int .i64 0))⟩])
  (.block 0 (.loop a13L0)))
  (.seq (.region true [⟨none, (some 47), .load 3 true (.t 8)⟩,
    ⟨none, (some 48), .mov (.t 9)⟩,
    ⟨none, (some 49), .mov (.t 10)⟩,
    ⟨none, (some 51), .load 3 true (.t 8)⟩,
    ⟨none, (some 52), .mov (.t 9)⟩,
    ⟨none, (some 53), .mov (.t 10)⟩,
    ⟨none, (some 54), .mov (.t 11)⟩,
    ⟨none, (some 55), .bin .add (.t 53) (.t 54)⟩,
    ⟨none, (some 57), .load 3 true (.t 8)⟩,
    ⟨none, (some 58), .mov (.t 12)⟩,
    ⟨none, (some 59), .mov (.t 10)⟩,
    ⟨none, (some 50), .callN (.k (.fn (.func 56) [] [])) [(.t 47), (.t 48), (.t 49)]⟩,
    ⟨none, (some 56), .callN (.k (.fn (.func 56) [] [])) [(.t 51), (.t 52), (.t 55)]⟩,
    ⟨none, (some 60), .callN (.k (.fn (.func 56) [] [])) [(.t 57), (.t 58), (.t 59)]⟩,
    ⟨none, (some 14), .mov (.t 50)⟩,
    ⟨none, (some 15), .mov (.t 56)⟩,
    ⟨none, (some 16), .mov (.t 60)⟩])
  (.seq (.region false [⟨none, (some 61), .mov (.t 14)⟩,
    ⟨none, (some 62), .mov (.t 15)⟩,
    ⟨none, (some 63), .call (.k (.fn (.func 59) [] [])) [(.t 61), (.t 62)]⟩,
    ⟨none, (some 64), .mov (.t 63)⟩,
    ⟨(some (64, true)), (some 65), .mov (.t 16)⟩,
    ⟨(some (64, true)), (some 66), .mov (.t 14)⟩,
    ⟨(some (64, true)), (some 67), .call (.k (.fn (.func 59) [] [])) [(.t 65), (.t 66)]⟩,
    ⟨none, (some 68), .pick (.t 64) (.t 67) (.k (.bool false))⟩,
    ⟨none, (some 69), .mov (.t 68)⟩,
    ⟨(some (69, true)), (some 70), .call (.k (.fn (.func 54) [] [])) []⟩,
    ⟨none, (some 71), .pick (.t 69) (.t 70) (.k (.bool false))⟩,
    ⟨none, (some 6), .mov (.t 71)⟩])
  .ret)))))))))
  ntmps := 72
  res := [.tmp 6]

theorem a13_ok : compileFn P Tryd.f13 = some a13 := by kernel_rfl

end Go.Proofs.YtjhakjeioppijaaDoor
/-
  The law DisruptionLater.
-/
set_option linter.unusedSimpArgs false
set_option linter.unusedVariables false
namespace Go.Proofs.YtjhakjeioppijaaDoor
open Go Go.Am

def nlF (l : List Int) (h : l.length ≤ 1000000) : Nl := ⟨some false, l, by simp, by omega⟩
theorem fm_i64 (l : List Int) : l.flatMap inI = l.map (.int .i64) := by
  induction l with
  | nil => rfl
  | cons a l ih => rw [List.flatMap_cons, ih]; rfl
theorem nlF_dv {l : List Int} (h : l.length ≤ 1000000) : (nlF l h).dv = .sl false 1 l.length (l.map (.int .i64)) := by
  unfold nlF Nl.dv; rw [slD_some, fm_i64]
theorem apart_liV {l : List Int} {b : DV} : apartD (liV l) b = b.known := by
  unfold liV; split
  · exact apart_nils
  · exact apart_sl
/-- the longer ones, the first i -/
def lonL (t : Tp) (G : List Int) (i : Nat) : List Int := (List.range i).map fun j => G.getD j 0 + tpN (t.adv j) 5
theorem lonL_succ {t : Tp} {G : List Int} {i : Nat} : lonL t G (i + 1) = lonL t G i ++ [G.getD i 0 + tpN (t.adv i) 5] := by simp [lonL, List.range_succ]
theorem lonL_len {t : Tp} {G : List Int} {i : Nat} : (lonL t G i).length = i := by simp [lonL]
theorem lonL_get {t : Tp} {G : List Int} {n j : Nat} (h : j < n) : (lonL t G n).getD j 0 = G.getD j 0 + tpN (t.adv j) 5 := by
  simp [lonL, List.getD_eq_getElem?_getD, List.getElem?_map, h]
def lonC (t : Tp) (G : List Int) (n i : Nat) : List Int := lonL t G i ++ List.replicate (n - i) 0
theorem lonC_len {t : Tp} {G : List Int} {n i : Nat} (h : i ≤ n) : (lonC t G n i).length = n := by simp [lonC, lonL_len]; omega
theorem lonC_set {t : Tp} {G : List Int} {n i : Nat} (h : i < n) : (lonC t G n i).set i (G.getD i 0 + tpN (t.adv i) 5) = lonC t G n (i + 1) := by
  rw [lonC, List.set_append_right _ _ (by rw [lonL_len]; omega), lonL_len, Nat.sub_self, show n - i = (n - (i + 1)) + 1 by omega, List.replicate_succ, List.set_cons_zero, lonC, lonL_succ]
  simp
theorem lonC_full {t : Tp} {G : List Int} {n : Nat} : lonC t G n n = lonL t G n := by simp [lonC]
theorem lonC_zero {t : Tp} {G : List Int} {n : Nat} : rep n (DV.int .i64 0) = (lonC t G n 0).map (.int .i64) := by
  have : ∀ n, rep n (DV.int .i64 0) = List.replicate n (DV.int .i64 0) := fun n => by
    induction n with
    | zero => rfl
    | succ n ih => rw [List.replicate_succ, ← ih]; rfl
  rw [this]; simp [lonC, lonL]
noncomputable def T310 : Tbl := addT 26 (.new cTape) (addT 27 (.tch cClu) (addT 28 (.tch cNext) (addT 55 (.tch cGra) (addT 29 (.pure cWithin) (addT 56 (.pure cOver) (addT 59 (.pure (cLL withinB)) (addT 54 (.pure cTru) tbl0)))))))
theorem T310_t : T310 26 = .new cTape := by simp [T310]
theorem T310_c : T310 27 = .tch cClu := by simp [T310]
theorem T310_n : T310 28 = .tch cNext := by simp [T310]
theorem T310_g : T310 55 = .tch cGra := by simp [T310]
theorem T310_w : T310 29 = .pure cWithin := by simp [T310]
theorem T310_o : T310 56 = .pure cOver := by simp [T310]
theorem T310_l : T310 59 = .pure (cLL withinB) := by simp [T310]
theorem T310_a : T310 54 = .pure cTru := by simp [T310]
theorem T310_sound : T310.Sound P := addT_sound tape_sound (addT_sound clu_sound (addT_sound next_sound (addT_sound gra_sound (addT_sound within_sound (addT_sound over_sound (addT_sound within_sound38 (addT_sound awake38_sound tbl0_sound)))))))
def S310 (t : Tp) (c : Clu) (G : List Int) (n : Nat) (p q : Int) (i : Nat) : St :=
  if i < n then a13S0 (.mp 0 2 0) (.mp 1 3 0) (liV G) (.int .i64 p) (.int .i64 q) (.ms 2 n 0 1 n n) (.int .i64 i) [.cells (tpC (t.adv i)), .cells (clC c), .cells ((lonC t G n i).map (.int .i64))]
  else a13S0 (.mp 0 2 0) (.mp 1 3 0) (liV G) (.int .i64 p) (.int .i64 q) (.sl false 1 n ((lonL t G n).map (.int .i64))) (.int .i64 n) [.cells (tpC (t.adv n)), .cells (clC c)]
theorem S310_lt {t : Tp} {c : Clu} {G : List Int} {n : Nat} {p q : Int} {i : Nat} (h : i < n) : S310 t c G n p q i = a13S0 (.mp 0 2 0) (.mp 1 3 0) (liV G) (.int .i64 p) (.int .i64 q) (.ms 2 n 0 1 n n) (.int .i64 i) [.cells (tpC (t.adv i)), .cells (clC c), .cells ((lonC t G n i).map (.int .i64))] := if_pos h
theorem S310_ge {t : Tp} {c : Clu} {G : List Int} {n : Nat} {p q : Int} : S310 t c G n p q n = a13S0 (.mp 0 2 0) (.mp 1 3 0) (liV G) (.int .i64 p) (.int .i64 q) (.sl false 1 n ((lonL t G n).map (.int .i64))) (.int .i64 n) [.cells (tpC (t.adv n)), .cells (clC c)] := if_neg (by omega)
theorem fz_lon {A B : AObj} {t : Tp} {G : List Int} {n : Nat} : fz 2 [A, B, .cells ((lonC t G n n).map (.int .i64))] 3 (.ms 2 n 0 1 n n) = some (.sl false 1 n ((lonL t G n).map (.int .i64))) := by
  have hl := lonL_len (t := t) (G := G) (i := n)
  rw [lonC_full, fz_ms (by omega)]
  have ho : objV [A, B, .cells ((lonL t G n).map (.int .i64))] 2 n = some ((lonL t G n).map (.int .i64)) := by simp [objV, objAt, hl]
  have ht : ((lonL t G n).map (DV.int .i64)).take n = (lonL t G n).map (.int .i64) := List.take_of_length_le (by simp [hl])
  rw [ho, Option.bind_some, List.drop_zero, Nat.mul_one, ht, fzLo_clean pureL_i64]
  rfl
set_option maxRecDepth 20000 in
set_option maxHeartbeats 2000000 in
theorem runs_lawlater (x : Nl) (p q : Int) : Runs T310 a13 [x.dv, .int .i64 p, .int .i64 q] (.bool true) := by
  refine ⟨?_⟩
  obtain ⟨u, hu⟩ : ∃ u, tp0 x 200 = u := ⟨_, rfl⟩
  have hua : u.at_ = 0 := by rw [← hu]; rfl
  obtain ⟨hv, hg⟩ := clusterV_ok u 9 (by decide) (by decide)
  have hn9 := clusterV_len u 9 (by decide) (by decide)
  have hat := clusterV_at u 9 (by decide) (by decide)
  obtain ⟨c, hc⟩ : ∃ c, (clusterV u 9).1 = c := ⟨_, rfl⟩
  obtain ⟨w, hw⟩ : ∃ w, (clusterV u 9).2 = w := ⟨_, rfl⟩
  rw [hc] at hv hg hn9
  rw [hw] at hat
  have hT := fun m => cTape_eq (x := x) (n := 200) (by decide) m
  rw [hu] at hT
  simp only [show ((200 : Nat) : Int) = 200 from rfl] at hT
  have hC : cClu [.int .i64 9] (tpC u) = some (.agg (clC c), tpC w) := by rw [cClu_eq (by omega) (by decide) (by decide), hc, hw]
  have hGr := cGra_eq (t := w) (c := c) (by omega) (by omega)
  have hx := nl_pure x
  have hgi := good_of hv
  have hden : ∀ z ∈ c.i.l, okT z.den := fun z hz => by
    obtain ⟨j, hj, rfl⟩ := List.getElem_of_mem hz
    rcases (hv.i j hj).1.de with e | e
    · rw [e]; exact ⟨by decide, by decide⟩
    · exact ⟨by have := e.1; omega, by have := e.2; omega⟩
  obtain ⟨n, hn⟩ : ∃ n, c.i.l.length = n := ⟨_, rfl⟩
  have hnn : n ≤ 9 := by omega
  rw [hn] at hGr
  have hGm := fun z hz => graL_mem (t := w) (n := n) (x := z) hz
  have hGl := graL_len (t := w) (n := n)
  obtain ⟨G, hG⟩ : ∃ G, graL w n = G := ⟨_, rfl⟩
  rw [hG] at hGr hGl
  simp only [hG] at hGm
  obtain ⟨v, hve⟩ : ∃ v, w.adv n = v := ⟨_, rfl⟩
  rw [hve] at hGr
  have hva : v.at_ = w.at_ + n := by rw [← hve]; rfl
  obtain ⟨P, hP⟩ : ∃ P, p % 60 = P := ⟨_, rfl⟩
  obtain ⟨Q, hQ⟩ : ∃ Q, q % 30 = Q := ⟨_, rfl⟩
  have hP1 : 0 ≤ P ∧ P < 60 := by omega
  have hQ1 : 0 ≤ Q ∧ Q < 30 := by omega
  have hrep := lonC_zero (t := v) (G := G) (n := n)
  have hapl := fun b => apart_liV (l := G) (b := b)
  have hfc : ∀ k l i, fzL k l (tpC (v.adv i)) (tpC (v.adv i)) := fun k l i => fzL_clean (pure_tpC _)
  have hfd : ∀ k l, fzL k l (clC c) (clC c) := fun k l => fzL_clean (pure_clC _)
  simp (disch := first | omega | (simp [-List.map_take, -List.map_drop, -List.map_set, -List.map_append, -List.drop_one] <;> omega) | fail) [-List.map_take, -List.map_drop, -List.map_set, -List.map_append, -List.drop_one, a13, T310_t, T310_c, T310_g, T310_w, hT, hC, hGr, cWithin_eq, hP, hQ, hGl, hrep]
  refine W_loop (S310 v c G n P Q) (fun i => n - i) (fun i => i ≤ n) 0 ?_ (by omega) (fun i hi => ?_)
  · by_cases h0 : 0 < n
    · rw [S310_lt h0]
      exact weak_same (by simp (disch := first | omega | (simp [-List.map_take, -List.map_drop, -List.map_set, -List.map_append, -List.drop_one] <;> omega) | fail) [-List.map_take, -List.map_drop, -List.map_set, -List.map_append, -List.drop_one, a13S0]) (by simp (disch := first | omega | (simp [-List.map_take, -List.map_drop, -List.map_set, -List.map_append, -List.drop_one] <;> omega) | fail) [-List.map_take, -List.map_drop, -List.map_set, -List.map_append, -List.drop_one, adv_zero])
    · obtain rfl : n = 0 := by omega
      rw [S310_ge]
      exact weak_freeze (by simp [a13S0]) (by simp [a13S0]) (by repeat' (first | exact Or.inl rfl | exact Or.inr fz_lon | exact Or.inr (liV_fz _ _ _ _) | exact Or.inr rfl | exact trivial | refine And.intro ?_ ?_)) ⟨hfc _ _ 0, hfd _ _, trivial⟩
  by_cases h : i < n
  · rw [S310_lt h]
    have h' : (i : Int) < n := by omega
    have hgx := fun H => liV_idx H (l := G) (i := i) (by omega)
    have hge : ∀ hh : i < G.length, G[i] = G.getD i 0 := fun hh => by rw [List.getD_eq_getElem?_getD, List.getElem?_eq_getElem hh]; rfl
    have hgm := hGm G[i] (List.getElem_mem (by omega))
    have hN := cNext_pos (t := v.adv i) (n := 5) (by show v.at_ + i < _; omega) (by decide) (by decide)
    have hlo := tpN_lo (v.adv i) 5
    have hhi := tpN_hi (v.adv i) (n := 5) (by decide)
    rw [adv_adv] at hN
    have hcl := lonC_len (t := v) (G := G) (n := n) (i := i) hi
    have hcs := lonC_set (t := v) (G := G) (n := n) (i := i) h
    rw [← hge (by omega)] at hcs
    obtain ⟨y, hy⟩ : ∃ y, G[i]'(by omega) = y := ⟨_, rfl⟩
    obtain ⟨z, hz⟩ : ∃ z, tpN (v.adv i) 5 = z := ⟨_, rfl⟩
    simp only [hy] at hgx hgm hcs
    rw [hz] at hN hlo hhi hcs
    have hil : i < (lonC v G n i).length := by omega
    simp (disch := first | omega | (simp [-List.map_take, -List.map_drop, -List.map_set, -List.map_append, -List.drop_one] <;> omega) | fail) [-List.map_take, -List.map_drop, -List.map_set, -List.map_append, -List.drop_one, a13L0, a13S0, hGl, h, h', hgx, T310_n, hN, hcl, hil, storeO_1_int, hcs, hapl]
    refine ⟨i + 1, ?_, by omega, by omega⟩
    by_cases h0 : i + 1 < n
    · rw [S310_lt h0]
      exact weak_same (by simp (disch := first | omega | (simp [-List.map_take, -List.map_drop, -List.map_set, -List.map_append, -List.drop_one] <;> omega) | fail) [-List.map_take, -List.map_drop, -List.map_set, -List.map_append, -List.drop_one, a13S0]) (by simp (disch := first | omega | (simp [-List.map_take, -List.map_drop, -List.map_set, -List.map_append, -List.drop_one] <;> omega) | fail) [-List.map_take, -List.map_drop, -List.map_set, -List.map_append, -List.drop_one])
    · obtain rfl : n = i + 1 := by omega
      rw [S310_ge]
      exact weak_freeze (by simp [a13S0]) (by simp [a13S0]) (by repeat' (first | exact Or.inl rfl | exact Or.inr fz_lon | exact Or.inr (liV_fz _ _ _ _) | exact Or.inr rfl | exact trivial | refine And.intro ?_ ?_)) ⟨hfc _ _ _, hfd _ _, trivial⟩
  · obtain rfl : i = n := by omega
    rw [S310_ge]
    have hGb : G.length ≤ 1000000 := by omega
    have hLl := lonL_len (t := v) (G := G) (i := i)
    have hLb : (lonL v G i).length ≤ 1000000 := by omega
    have hLm : ∀ z ∈ lonL v G i, ok64 z := fun z hz => by
      obtain ⟨j, hj, rfl⟩ := List.mem_map.1 hz
      have h1 := tpN_lo (v.adv j) 5
      have h2 := tpN_hi (v.adv j) (n := 5) (by decide)
      have h3 := List.mem_range.1 hj
      have h4 : 0 ≤ G.getD j 0 ∧ G.getD j 0 < 25 := by
        rw [List.getD_eq_getElem?_getD, List.getElem?_eq_getElem (by omega)]
        exact hGm _ (List.getElem_mem _)
      exact ⟨by omega, by omega⟩
    have hGo : ∀ z ∈ G, ok64 z := fun z hz => by have := hGm z hz; exact ⟨by omega, by omega⟩
    have o1 := cOver_eq (c := c) (g := nlO G hGb) (t := P) ⟨hden, hGo, by show okT P; exact ⟨by omega, by omega⟩⟩
    have o2 := cOver_eq (c := c) (g := nlO G hGb) (t := P + Q) ⟨hden, hGo, by show okT (P + Q); exact ⟨by omega, by omega⟩⟩
    have o3 := cOver_eq (c := c) (g := nlF (lonL v G i) hLb) (t := P) ⟨hden, hLm, by show okT P; exact ⟨by omega, by omega⟩⟩
    rw [nlO_dv] at o1 o2
    rw [nlF_dv, hLl] at o3
    have g1 : (nlO G hGb).l = G := rfl
    have g2 : (nlF (lonL v G i) hLb).l = lonL v G i := rfl
    rw [g1] at o1 o2
    rw [g2] at o3
    have b1 := overP_len (gr := G) (t := P) (l := c.i.l) (j := 0)
    have b2 := overP_len (gr := G) (t := P + Q) (l := c.i.l) (j := 0)
    have b3 := overP_len (gr := lonL v G i) (t := P) (l := c.i.l) (j := 0)
    have w1 : withinB (overP c.i.l 0 G P) (overP c.i.l 0 G (P + Q)) = true := withinB_of fun z hz => over_later (by omega) (fun j => Int.le_refl _) hz
    have w2 : withinB (overP c.i.l 0 (lonL v G i) P) (overP c.i.l 0 G P) = true := withinB_of fun z hz => over_later (Int.le_refl _) (fun j => by
      by_cases hj : j < i
      · rw [lonL_get hj]
        have := tpN_lo (v.adv j) 5
        omega
      · rw [List.getD_eq_getElem?_getD, List.getElem?_eq_none (by omega), List.getD_eq_getElem?_getD, List.getElem?_eq_none (by omega)]
        exact Int.le_refl _) hz
    have e1 := cLL_eq (f := withinB) (a := overP c.i.l 0 G P) (b := overP c.i.l 0 G (P + Q)) (by omega) (by omega)
    have e2 := cLL_eq (f := withinB) (a := overP c.i.l 0 (lonL v G i) P) (b := overP c.i.l 0 G P) (by omega) (by omega)
    rw [w1] at e1
    rw [w2] at e2
    have hpl : pureL ((lonL v G i).map (DV.int .i64)) = true := pureL_i64
    simp (disch := first | omega | (simp [-List.map_take, -List.map_drop, -List.map_set, -List.map_append, -List.drop_one] <;> omega) | fail) [-List.map_take, -List.map_drop, -List.map_set, -List.map_append, -List.drop_one, a13L0, a13S0, hGl, T310_o, o1, o2, o3, T310_l, e1, e2, T310_a, cTru, hpl]
namespace disruptionLater
theorem law_holds (dvs) (h : Ty.Args [.sl (.int .i64), .int .i64, .int .i64] dvs) : Am.Sem P 13 dvs (.bool true) := by
  obtain ⟨d1, l1, rfl, h1, d2, l2, rfl, h2, d3, l3, rfl, h3, rfl⟩ := h
  obtain ⟨x, _, hx⟩ := ok_nl h1
  obtain ⟨p, _, hp⟩ := ok_n h2
  obtain ⟨q, _, hq⟩ := ok_n h3
  cases hx; cases hp; cases hq
  exact sem_runs mix T310_sound Tryd.func13 a13_ok (runs_lawlater x p q)
end disruptionLater
end Go.Proofs.YtjhakjeioppijaaDoor
