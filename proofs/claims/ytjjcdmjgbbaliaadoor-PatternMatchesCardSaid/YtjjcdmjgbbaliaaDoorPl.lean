/-
  read, Valid, long, takes and Match of the reference.
-/
import Derived.Test.YtjjcdmjgbbaliaaDoorPk
set_option linter.unusedSimpArgs false
set_option linter.unusedVariables false
namespace Go.Proofs.YtjjcdmjgbbaliaaDoor
open Go Go.Am

structure Y49 where
  l : List Pt
  i : Nat
def S49 (p : List UInt8) (x : Y49) : St := a49S0 (.str p) (ownD 0 2 .nils x.l.length (cellsP x.l)) (.int .i64 x.i) (ownH (cellsP x.l))
def m49 (p : List UInt8) (x : Y49) : Nat := p.length - x.i
def R49 (p : List UInt8) (x : Y49) : Prop := R15 p ⟨x.l, x.i⟩ ∧ noZ (p.take x.i) = true
theorem noZ_bad {p : List UInt8} {i : Nat} (h : i < p.length) (hz : p[i] = 0) : noZ p = false := by
  rw [noZ, List.all_eq_false]
  exact ⟨p[i], List.getElem_mem h, by simp [hz]⟩
theorem parse_bad {p : List UInt8} (h : noZ p = false) : parseP p = none := by rw [parseP, if_neg (by rw [h]; simp)]
theorem noZ_take2 {p : List UInt8} {i : Nat} (h : i + 1 < p.length) (h0 : noZ (p.take i) = true) (h1 : p[i] ≠ 0) (h2 : p[i + 1] ≠ 0) : noZ (p.take (i + 2)) = true := by
  rw [noZ_take h, noZ_take (by omega), h0]; simp [h1, h2]
theorem noZ_take1 {p : List UInt8} {i : Nat} (h : i < p.length) (h0 : noZ (p.take i) = true) (h1 : p[i] ≠ 0) : noZ (p.take (i + 1)) = true := by
  rw [noZ_take h, h0]; simp [h1]
set_option maxRecDepth 20000 in
set_option maxHeartbeats 1000000 in
theorem runs_read (p : List UInt8) : Runs tbl0 a49 [.str p] (partsR p) := by
  refine ⟨?_⟩
  by_cases h1 : p = []
  · subst h1
    simp (disch := first | omega | (simp [-List.map_take, -List.map_drop, -List.map_set, -List.map_append, -List.drop_one] <;> omega) | fail) [-List.map_take, -List.map_drop, -List.map_set, -List.map_append, -List.drop_one, a49, partsR, show parseP [] = none from rfl, partsD]
  by_cases h2 : 200 < p.length
  · have h2' : (200 : Int) < p.length := by omega
    have hp : parseP p = none := by rw [parseP, if_neg (by omega)]
    simp (disch := first | omega | (simp [-List.map_take, -List.map_drop, -List.map_set, -List.map_append, -List.drop_one] <;> omega) | fail) [-List.map_take, -List.map_drop, -List.map_set, -List.map_append, -List.drop_one, a49, h1, h2', partsR, hp, partsD]
  have h2' : ¬ (200 : Int) < p.length := by omega
  have h3 : 1 ≤ p.length := by have := List.length_pos_iff.2 h1; omega
  simp (disch := first | omega | (simp [-List.map_take, -List.map_drop, -List.map_set, -List.map_append, -List.drop_one] <;> omega) | fail) [-List.map_take, -List.map_drop, -List.map_set, -List.map_append, -List.drop_one, a49, h1, h2']
  refine W_loop (S49 p) (m49 p) (R49 p) ⟨[], 0⟩ (weak_same (by simp (disch := first | omega | (simp [-List.map_take, -List.map_drop, -List.map_set, -List.map_append, -List.drop_one] <;> omega) | fail) [-List.map_take, -List.map_drop, -List.map_set, -List.map_append, -List.drop_one, ownD, cellsP]) (by simp (disch := first | omega | (simp [-List.map_take, -List.map_drop, -List.map_set, -List.map_append, -List.drop_one] <;> omega) | fail) [-List.map_take, -List.map_drop, -List.map_set, -List.map_append, -List.drop_one, ownH, cellsP])) ⟨⟨by simp, by simp, by simp⟩, rfl⟩ (fun x hx => ?_)
  obtain ⟨l, i⟩ := x
  obtain ⟨hx, hnz⟩ := hx
  have hx' := hx
  obtain ⟨hi, hl, hpr⟩ := hx'
  simp only at hi hl hpr hnz
  have hlen := len_cellsP l
  simp (disch := first | omega | (simp [-List.map_take, -List.map_drop, -List.map_set, -List.map_append, -List.drop_one] <;> omega) | fail) [-List.map_take, -List.map_drop, -List.map_set, -List.map_append, -List.drop_one, a49L0, a49S0, S49]
  by_cases h : i < p.length
  · have h4 : (i : Int) < p.length := by omega
    have hd : p.drop i = p[i] :: p.drop (i + 1) := List.drop_eq_getElem_cons h
    have e12 : (i : Int) + 1 + 1 = i + 2 := by omega
    by_cases c0 : p[i] = 0
    · have b0 : p[i].toBitVec = 0#8 := tb_eq.2 c0
      have hp := parse_bad (noZ_bad h c0)
      simp (disch := first | omega | (simp [-List.map_take, -List.map_drop, -List.map_set, -List.map_append, -List.drop_one] <;> omega) | fail) [-List.map_take, -List.map_drop, -List.map_set, -List.map_append, -List.drop_one, h4, h, b0, partsR, hp, partsD]
    have b0 : ¬ p[i].toBitVec = 0#8 := fun e => c0 (tb_eq.1 e)
    have b0q : (p[i].toBitVec == 0#8) = false := by simp [b0]
    by_cases c1 : p[i] = 92
    · have b1 : p[i].toBitVec = 92#8 := tb_eq.2 c1
      by_cases h5 : i + 1 = p.length
      · have h5' : (i : Int) + 1 = p.length := by omega
        have hq : prs p = none := by rw [hpr, hd, c1, List.drop_eq_nil_of_le (by omega), prs_bs]; rfl
        have hp : parseP p = none := by unfold parseP; split <;> first | exact hq | rfl
        simp (disch := first | omega | (simp [-List.map_take, -List.map_drop, -List.map_set, -List.map_append, -List.drop_one] <;> omega) | fail) [-List.map_take, -List.map_drop, -List.map_set, -List.map_append, -List.drop_one, h4, h, b1, h5', partsR, hp, partsD]
      · have h5' : ¬ (i : Int) + 1 = p.length := by omega
        have h6 : i + 1 < p.length := by omega
        by_cases c5 : p[i + 1] = 0
        · have b5 : p[i + 1].toBitVec = 0#8 := tb_eq.2 c5
          have hp := parse_bad (noZ_bad h6 c5)
          simp (disch := first | omega | (simp [-List.map_take, -List.map_drop, -List.map_set, -List.map_append, -List.drop_one] <;> omega) | fail) [-List.map_take, -List.map_drop, -List.map_set, -List.map_append, -List.drop_one, h4, h, b1, h5', h6, b5, partsR, hp, partsD]
        have b5 : ¬ p[i + 1].toBitVec = 0#8 := fun e => c5 (tb_eq.1 e)
        have b5q : (p[i + 1].toBitVec == 0#8) = false := by simp [b5]
        have hd2 : p.drop (i + 1) = p[i + 1] :: p.drop (i + 2) := List.drop_eq_getElem_cons h6
        have hs := R15_step (n := i + 2) (y := .one p[i + 1].toBitVec) hx (by simp) (by omega) (by show prs (p.drop i) = _; rw [hd, hd2, c1, prs_esc])
        simp (disch := first | omega | (simp [-List.map_take, -List.map_drop, -List.map_set, -List.map_append, -List.drop_one] <;> omega) | fail) [-List.map_take, -List.map_drop, -List.map_set, -List.map_append, -List.drop_one, h4, h, b1, h5', h6, b5, b5q, hlen, e12]
        exact ⟨⟨l ++ [.one p[i + 1].toBitVec], i + 2⟩, weak_same (by simp (disch := first | omega | (simp [-List.map_take, -List.map_drop, -List.map_set, -List.map_append, -List.drop_one] <;> omega) | fail) [-List.map_take, -List.map_drop, -List.map_set, -List.map_append, -List.drop_one, e12, cellsP_snoc, ptC, Pt.kind, Pt.chr]) (by simp (disch := first | omega | (simp [-List.map_take, -List.map_drop, -List.map_set, -List.map_append, -List.drop_one] <;> omega) | fail) [-List.map_take, -List.map_drop, -List.map_set, -List.map_append, -List.drop_one, cellsP_snoc, ptC, Pt.kind, Pt.chr]), by simp [m49]; omega, hs, noZ_take2 h6 hnz c0 c5⟩
    · have b1 : ¬ p[i].toBitVec = 92#8 := fun e => c1 (tb_eq.1 e)
      have b1q : (p[i].toBitVec == 92#8) = false := by simp [b1]
      by_cases c3 : p[i] = 42
      · have b3 : p[i].toBitVec = 42#8 := tb_eq.2 c3
        by_cases h6 : i + 1 < p.length
        · have h6' : (i : Int) + 1 < p.length := by omega
          have hd2 : p.drop (i + 1) = p[i + 1] :: p.drop (i + 2) := List.drop_eq_getElem_cons h6
          by_cases c4 : p[i + 1] = 42
          · have b4 : p[i + 1].toBitVec = 42#8 := tb_eq.2 c4
            have hs := R15_step (n := i + 2) (y := .whole) hx (by simp) (by omega) (by show prs (p.drop i) = _; rw [hd, hd2, c3, c4, prs_st2])
            simp (disch := first | omega | (simp [-List.map_take, -List.map_drop, -List.map_set, -List.map_append, -List.drop_one] <;> omega) | fail) [-List.map_take, -List.map_drop, -List.map_set, -List.map_append, -List.drop_one, build_k, h4, h, b0, b0q, b1, b1q, b3, h6, h6', b4, hlen, e12]
            exact ⟨⟨l ++ [.whole], i + 2⟩, weak_same (by simp (disch := first | omega | (simp [-List.map_take, -List.map_drop, -List.map_set, -List.map_append, -List.drop_one] <;> omega) | fail) [-List.map_take, -List.map_drop, -List.map_set, -List.map_append, -List.drop_one, e12, cellsP_snoc, ptC, Pt.kind, Pt.chr]) (by simp (disch := first | omega | (simp [-List.map_take, -List.map_drop, -List.map_set, -List.map_append, -List.drop_one] <;> omega) | fail) [-List.map_take, -List.map_drop, -List.map_set, -List.map_append, -List.drop_one, cellsP_snoc, ptC, Pt.kind, Pt.chr]), by simp [m49]; omega, hs, noZ_take2 h6 hnz c0 (by rw [c4]; decide)⟩
          · have b4 : ¬ p[i + 1].toBitVec = 42#8 := fun e => c4 (tb_eq.1 e)
            have b4q : (p[i + 1].toBitVec == 42#8) = false := by simp [b4]
            have hs := R15_step (n := i + 1) (y := .some) hx (by simp) (by omega) (by show prs (p.drop i) = _; rw [hd, hd2, c3, prs_st1 c4])
            simp (disch := first | omega | (simp [-List.map_take, -List.map_drop, -List.map_set, -List.map_append, -List.drop_one] <;> omega) | fail) [-List.map_take, -List.map_drop, -List.map_set, -List.map_append, -List.drop_one, build_k, h4, h, b0, b0q, b1, b1q, b3, h6, h6', b4, b4q, hlen]
            exact ⟨⟨l ++ [.some], i + 1⟩, weak_same (by simp (disch := first | omega | (simp [-List.map_take, -List.map_drop, -List.map_set, -List.map_append, -List.drop_one] <;> omega) | fail) [-List.map_take, -List.map_drop, -List.map_set, -List.map_append, -List.drop_one, cellsP_snoc, ptC, Pt.kind, Pt.chr]) (by simp (disch := first | omega | (simp [-List.map_take, -List.map_drop, -List.map_set, -List.map_append, -List.drop_one] <;> omega) | fail) [-List.map_take, -List.map_drop, -List.map_set, -List.map_append, -List.drop_one, cellsP_snoc, ptC, Pt.kind, Pt.chr]), by simp [m49]; omega, hs, noZ_take1 h hnz c0⟩
        · have h6' : ¬ (i : Int) + 1 < p.length := by omega
          have hs := R15_step (n := i + 1) (y := .some) hx (by simp) (by omega) (by show prs (p.drop i) = _; rw [hd, c3, List.drop_eq_nil_of_le (by omega), prs_st0]; rfl)
          simp (disch := first | omega | (simp [-List.map_take, -List.map_drop, -List.map_set, -List.map_append, -List.drop_one] <;> omega) | fail) [-List.map_take, -List.map_drop, -List.map_set, -List.map_append, -List.drop_one, build_k, h4, h, b0, b0q, b1, b1q, b3, h6', hlen]
          exact ⟨⟨l ++ [.some], i + 1⟩, weak_same (by simp (disch := first | omega | (simp [-List.map_take, -List.map_drop, -List.map_set, -List.map_append, -List.drop_one] <;> omega) | fail) [-List.map_take, -List.map_drop, -List.map_set, -List.map_append, -List.drop_one, cellsP_snoc, ptC, Pt.kind, Pt.chr]) (by simp (disch := first | omega | (simp [-List.map_take, -List.map_drop, -List.map_set, -List.map_append, -List.drop_one] <;> omega) | fail) [-List.map_take, -List.map_drop, -List.map_set, -List.map_append, -List.drop_one, cellsP_snoc, ptC, Pt.kind, Pt.chr]), by simp [m49]; omega, hs, noZ_take1 h hnz c0⟩
      · have b3 : ¬ p[i].toBitVec = 42#8 := fun e => c3 (tb_eq.1 e)
        have b3q : (p[i].toBitVec == 42#8) = false := by simp [b3]
        by_cases c2 : p[i] = 63
        · have b2 : p[i].toBitVec = 63#8 := tb_eq.2 c2
          have hs := R15_step (n := i + 1) (y := .dot) hx (by simp) (by omega) (by show prs (p.drop i) = _; rw [hd, c2, prs_q])
          simp (disch := first | omega | (simp [-List.map_take, -List.map_drop, -List.map_set, -List.map_append, -List.drop_one] <;> omega) | fail) [-List.map_take, -List.map_drop, -List.map_set, -List.map_append, -List.drop_one, build_k, h4, h, b0, b0q, b1, b1q, b2, b3, b3q, hlen]
          exact ⟨⟨l ++ [.dot], i + 1⟩, weak_same (by simp (disch := first | omega | (simp [-List.map_take, -List.map_drop, -List.map_set, -List.map_append, -List.drop_one] <;> omega) | fail) [-List.map_take, -List.map_drop, -List.map_set, -List.map_append, -List.drop_one, cellsP_snoc, ptC, Pt.kind, Pt.chr]) (by simp (disch := first | omega | (simp [-List.map_take, -List.map_drop, -List.map_set, -List.map_append, -List.drop_one] <;> omega) | fail) [-List.map_take, -List.map_drop, -List.map_set, -List.map_append, -List.drop_one, cellsP_snoc, ptC, Pt.kind, Pt.chr]), by simp [m49]; omega, hs, noZ_take1 h hnz c0⟩
        · have b2 : ¬ p[i].toBitVec = 63#8 := fun e => c2 (tb_eq.1 e)
          have b2q : (p[i].toBitVec == 63#8) = false := by simp [b2]
          have hs := R15_step (n := i + 1) (y := .one p[i].toBitVec) hx (by simp) (by omega) (by show prs (p.drop i) = _; rw [hd, prs_other c1 c3 c2])
          simp (disch := first | omega | (simp [-List.map_take, -List.map_drop, -List.map_set, -List.map_append, -List.drop_one] <;> omega) | fail) [-List.map_take, -List.map_drop, -List.map_set, -List.map_append, -List.drop_one, build_k, h4, h, b0, b0q, b1, b1q, b2, b2q, b3, b3q, hlen]
          exact ⟨⟨l ++ [.one p[i].toBitVec], i + 1⟩, weak_same (by simp (disch := first | omega | (simp [-List.map_take, -List.map_drop, -List.map_set, -List.map_append, -List.drop_one] <;> omega) | fail) [-List.map_take, -List.map_drop, -List.map_set, -List.map_append, -List.drop_one, cellsP_snoc, ptC, Pt.kind, Pt.chr]) (by simp (disch := first | omega | (simp [-List.map_take, -List.map_drop, -List.map_set, -List.map_append, -List.drop_one] <;> omega) | fail) [-List.map_take, -List.map_drop, -List.map_set, -List.map_append, -List.drop_one, cellsP_snoc, ptC, Pt.kind, Pt.chr]), by simp [m49]; omega, hs, noZ_take1 h hnz c0⟩
  · have h4 : ¬ (i : Int) < p.length := by omega
    obtain rfl : i = p.length := by omega
    rw [List.drop_length] at hpr
    rw [List.take_length] at hnz
    have hq : prs p = .some l := by rw [hpr]; simp [prs]
    have hp : parseP p = .some l := by rw [parseP, if_pos ⟨by omega, by omega, hnz⟩, hq]
    have hne := prs_ne h1 hq
    have ht : (cellsP l).take (l.length * 2) = cellsP l := List.take_of_length_le (by omega)
    simp (disch := first | omega | (simp [-List.map_take, -List.map_drop, -List.map_set, -List.map_append, -List.drop_one] <;> omega) | fail) [-List.map_take, -List.map_drop, -List.map_set, -List.map_append, -List.drop_one, h4, ownD_ne (cellsP_ne hne), ownH_ne (cellsP_ne hne), partsR, hp, partsD, ht, snap_cellsP, hlen]
def T75 : Tbl := addT 49 (.pure (cS partsR)) tbl0
theorem T75_read : T75 49 = .pure (cS partsR) := by simp [T75]
theorem T75_sound : T75.Sound P := addT_sound (cS_sound fun p => sem_runs mix tbl0_sound Tryd.func49 a49_ok (runs_read p)) tbl0_sound
theorem runs_refvalid (p : List UInt8) : Runs T75 a19 [.str p] (validB p) := by
  refine ⟨?_⟩
  cases h : parseP p with
  | none => simp (disch := first | omega | (simp [-List.map_take, -List.map_drop, -List.map_set, -List.map_append, -List.drop_one] <;> omega) | fail) [-List.map_take, -List.map_drop, -List.map_set, -List.map_append, -List.drop_one, a19, T75_read, cS_eq, partsR, h, partsD, validB]
  | some l => simp (disch := first | omega | (simp [-List.map_take, -List.map_drop, -List.map_set, -List.map_append, -List.drop_one] <;> omega) | fail) [-List.map_take, -List.map_drop, -List.map_set, -List.map_append, -List.drop_one, a19, T75_read, cS_eq, partsR, h, partsD, validB]
theorem runs_long (x : Pt) : Runs tbl0 a50 [.agg (ptC x)] (.bool x.long) := by
  refine ⟨?_⟩
  cases x with
  | one c => simp (disch := first | omega | (simp [-List.map_take, -List.map_drop, -List.map_set, -List.map_append, -List.drop_one] <;> omega) | fail) [-List.map_take, -List.map_drop, -List.map_set, -List.map_append, -List.drop_one, a50, ptC, Pt.kind, Pt.chr, Pt.long]
  | dot => simp (disch := first | omega | (simp [-List.map_take, -List.map_drop, -List.map_set, -List.map_append, -List.drop_one] <;> omega) | fail) [-List.map_take, -List.map_drop, -List.map_set, -List.map_append, -List.drop_one, a50, ptC, Pt.kind, Pt.chr, Pt.long]
  | some => simp (disch := first | omega | (simp [-List.map_take, -List.map_drop, -List.map_set, -List.map_append, -List.drop_one] <;> omega) | fail) [-List.map_take, -List.map_drop, -List.map_set, -List.map_append, -List.drop_one, a50, ptC, Pt.kind, Pt.chr, Pt.long]
  | whole => simp (disch := first | omega | (simp [-List.map_take, -List.map_drop, -List.map_set, -List.map_append, -List.drop_one] <;> omega) | fail) [-List.map_take, -List.map_drop, -List.map_set, -List.map_append, -List.drop_one, a50, ptC, Pt.kind, Pt.chr, Pt.long]
theorem runs_takes (x : Pt) (b : B8) : Runs tbl0 a51 [.agg (ptC x), w8 b] (.bool (x.takes b)) := by
  refine ⟨?_⟩
  cases x with
  | one c =>
    by_cases hb : c = b
    · simp (disch := first | omega | (simp [-List.map_take, -List.map_drop, -List.map_set, -List.map_append, -List.drop_one] <;> omega) | fail) [-List.map_take, -List.map_drop, -List.map_set, -List.map_append, -List.drop_one, a51, ptC, Pt.kind, Pt.chr, Pt.takes, hb]
    · have hb1 : (c == b) = false := by simp [hb]
      have hb2 : (b == c) = false := by simp [Ne.symm hb]
      simp (disch := first | omega | (simp [-List.map_take, -List.map_drop, -List.map_set, -List.map_append, -List.drop_one] <;> omega) | fail) [-List.map_take, -List.map_drop, -List.map_set, -List.map_append, -List.drop_one, a51, ptC, Pt.kind, Pt.chr, Pt.takes, hb, hb1, hb2]
  | dot => simp (disch := first | omega | (simp [-List.map_take, -List.map_drop, -List.map_set, -List.map_append, -List.drop_one] <;> omega) | fail) [-List.map_take, -List.map_drop, -List.map_set, -List.map_append, -List.drop_one, a51, ptC, Pt.kind, Pt.chr, Pt.takes]
  | some => simp (disch := first | omega | (simp [-List.map_take, -List.map_drop, -List.map_set, -List.map_append, -List.drop_one] <;> omega) | fail) [-List.map_take, -List.map_drop, -List.map_set, -List.map_append, -List.drop_one, a51, ptC, Pt.kind, Pt.chr, Pt.takes]
  | whole => simp (disch := first | omega | (simp [-List.map_take, -List.map_drop, -List.map_set, -List.map_append, -List.drop_one] <;> omega) | fail) [-List.map_take, -List.map_drop, -List.map_set, -List.map_append, -List.drop_one, a51, ptC, Pt.kind, Pt.chr, Pt.takes]
end Go.Proofs.YtjjcdmjgbbaliaaDoor
