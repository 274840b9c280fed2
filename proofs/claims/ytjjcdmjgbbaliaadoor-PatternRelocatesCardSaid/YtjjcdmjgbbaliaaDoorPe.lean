/-
  parse, Valid, class and repeats of the program.
-/
import Derived.Test.YtjjcdmjgbbaliaaDoorPd
set_option linter.unusedSimpArgs false
set_option linter.unusedVariables false
namespace Go.Proofs.YtjjcdmjgbbaliaaDoor
open Go Go.Am

def ptC (x : Pt) : List DV := [.int .i64 x.kind, w8 x.chr]
def cellsP (l : List Pt) : List DV := l.flatMap ptC
theorem len_cellsP : ∀ (l : List Pt), (cellsP l).length = 2 * l.length
  | [] => rfl
  | x :: l => by have := len_cellsP l; simp only [cellsP, List.flatMap_cons, List.length_append, ptC, List.length_cons, List.length_nil] at *; omega
theorem cellsP_snoc (l : List Pt) (x : Pt) : cellsP (l ++ [x]) = cellsP l ++ ptC x := by simp [cellsP]
theorem cellsP_ne {l : List Pt} (h : l ≠ []) : cellsP l ≠ [] := by
  intro e
  have := len_cellsP l
  rw [e] at this
  have : l.length = 0 := by simp at this; omega
  exact h (List.length_eq_zero_iff.1 this)
theorem pure_cellsP : ∀ (l : List Pt), pureL (cellsP l) = true
  | [] => rfl
  | x :: l => by
    have := pure_cellsP l
    simp only [cellsP, List.flatMap_cons, ptC, List.cons_append, List.nil_append] at this ⊢
    simp [pureL, this, pureD, w8]
theorem snap_cellsP (h : List AObj) (k : Nat) (l : List Pt) : snapL h k (cellsP l) = some (cellsP l) := snapL_clean (pure_cellsP l)
theorem prs_other {c : UInt8} (h1 : c ≠ 92) (h2 : c ≠ 42) (h3 : c ≠ 63) (r : List UInt8) : prs (c :: r) = (prs r).map fun l => .one c.toBitVec :: l := prs_plain h1 h2 h3 r
theorem prs_q (r : List UInt8) : prs (63 :: r) = (prs r).map fun l => .dot :: l := by rw [prs.eq_def]; simp
theorem prs_bs : prs [92] = none := rfl
theorem prs_st0 : prs [42] = .some [.some] := rfl
theorem prs_st2 (r : List UInt8) : prs (42 :: 42 :: r) = (prs r).map fun l => .whole :: l := by rw [prs.eq_def]; simp
theorem prs_st1 {d : UInt8} (h : d ≠ 42) (r : List UInt8) : prs (42 :: d :: r) = (prs (d :: r)).map fun l => .some :: l := by
  have g : d.toBitVec ≠ 42#8 := tb_ne h
  rw [prs.eq_def]; simp [g]
/-- what parse returns -/
def partsD : Option (List Pt) → DV
  | none => .tup [.nils, .bool false]
  | .some l => .tup [.sl false 2 l.length (cellsP l), .bool true]
theorem prs_ne {s : List UInt8} {l : List Pt} (h0 : s ≠ []) (h : prs s = .some l) : l ≠ [] := by
  rintro rfl
  match s, h0 with
  | c :: r, _ =>
    by_cases h1 : c = 92
    · subst h1
      match r with
      | [] => simp [prs_bs] at h
      | d :: r => rw [prs_esc] at h; cases e : prs r <;> simp [e] at h
    · by_cases h2 : c = 42
      · subst h2
        match r with
        | [] => simp [prs_st0] at h
        | d :: r =>
          by_cases h3 : d = 42
          · subst h3; rw [prs_st2] at h; cases e : prs r <;> simp [e] at h
          · rw [prs_st1 h3] at h; cases e : prs (d :: r) <;> simp [e] at h
      · by_cases h3 : c = 63
        · subst h3; rw [prs_q] at h; cases e : prs r <;> simp [e] at h
        · rw [prs_other h1 h2 h3] at h; cases e : prs r <;> simp [e] at h
structure X15 where
  l : List Pt
  i : Nat
def S15 (p : List UInt8) (x : X15) : St := a46S0 (.str p) (ownD 0 2 .nils x.l.length (cellsP x.l)) (.int .i64 x.i) (ownH (cellsP x.l))
def m15 (p : List UInt8) (x : X15) : Nat := p.length - x.i
def R15 (p : List UInt8) (x : X15) : Prop := x.i ≤ p.length ∧ x.l.length ≤ x.i ∧ prs p = (prs (p.drop x.i)).map fun l => x.l ++ l
theorem R15_step {p : List UInt8} {x : X15} (h : R15 p x) {n : Nat} {y : Pt} (hn : x.i < n) (hn' : n ≤ p.length) (e : prs (p.drop x.i) = (prs (p.drop n)).map fun l => y :: l) : R15 p ⟨x.l ++ [y], n⟩ := by
  obtain ⟨h1, h2, h3⟩ := h
  refine ⟨hn', by simp; omega, ?_⟩
  rw [h3, e]
  cases prs (p.drop n) <;> simp
theorem tb_eq {c : UInt8} {n : UInt8} : c.toBitVec = n.toBitVec ↔ c = n := UInt8.toBitVec_inj
theorem build_k {k : Int} : buildD [.int .i64 0, w8 0#8] [(0, 1, .int .i64 k)] = some (.agg [.int .i64 k, w8 0#8]) := rfl
set_option maxRecDepth 20000 in
set_option maxHeartbeats 1000000 in
theorem runs_parse (p : List UInt8) : Runs T57 a46 [.str p] (partsD (parseP p)) := by
  refine ⟨?_⟩
  by_cases h1 : p.length < 1
  · have h1' : (p.length : Int) < 1 := by omega
    have hp : parseP p = none := by rw [parseP, if_neg (by omega)]
    simp (disch := first | omega | (simp [-List.map_take, -List.map_drop, -List.map_set, -List.map_append, -List.drop_one] <;> omega) | fail) [-List.map_take, -List.map_drop, -List.map_set, -List.map_append, -List.drop_one, a46, h1', hp, partsD]
  have h1' : ¬ (p.length : Int) < 1 := by omega
  by_cases h2 : 200 < p.length
  · have h2' : (200 : Int) < p.length := by omega
    have hp : parseP p = none := by rw [parseP, if_neg (by omega)]
    simp (disch := first | omega | (simp [-List.map_take, -List.map_drop, -List.map_set, -List.map_append, -List.drop_one] <;> omega) | fail) [-List.map_take, -List.map_drop, -List.map_set, -List.map_append, -List.drop_one, a46, h1', h2', hp, partsD]
  have h2' : ¬ (200 : Int) < p.length := by omega
  by_cases h3 : Lib.indexByte p 0 = -1
  case neg =>
    have h3' := ix0_ge h3
    have hp : parseP p = none := by rw [parseP, if_neg (by rw [noZ_not h3]; simp)]
    simp (disch := first | omega | (simp [-List.map_take, -List.map_drop, -List.map_set, -List.map_append, -List.drop_one] <;> omega) | fail) [-List.map_take, -List.map_drop, -List.map_set, -List.map_append, -List.drop_one, a46, h1', h2', T57_ixb, ixD0, h3', hp, partsD]
  have hp : parseP p = prs p := by rw [parseP, if_pos ⟨by omega, by omega, noZ_of h3⟩]
  simp (disch := first | omega | (simp [-List.map_take, -List.map_drop, -List.map_set, -List.map_append, -List.drop_one] <;> omega) | fail) [-List.map_take, -List.map_drop, -List.map_set, -List.map_append, -List.drop_one, a46, h1', h2', T57_ixb, ixD0, h3]
  refine W_loop (S15 p) (m15 p) (R15 p) ⟨[], 0⟩ (weak_same (by simp (disch := first | omega | (simp [-List.map_take, -List.map_drop, -List.map_set, -List.map_append, -List.drop_one] <;> omega) | fail) [-List.map_take, -List.map_drop, -List.map_set, -List.map_append, -List.drop_one, ownD, cellsP]) (by simp (disch := first | omega | (simp [-List.map_take, -List.map_drop, -List.map_set, -List.map_append, -List.drop_one] <;> omega) | fail) [-List.map_take, -List.map_drop, -List.map_set, -List.map_append, -List.drop_one, ownH, cellsP])) ⟨by simp, by simp, by simp⟩ (fun x hx => ?_)
  obtain ⟨l, i⟩ := x
  have hx' := hx
  obtain ⟨hi, hl, hpr⟩ := hx'
  simp only at hi hl hpr
  have hlen := len_cellsP l
  simp (disch := first | omega | (simp [-List.map_take, -List.map_drop, -List.map_set, -List.map_append, -List.drop_one] <;> omega) | fail) [-List.map_take, -List.map_drop, -List.map_set, -List.map_append, -List.drop_one, a46L0, a46S0, S15]
  by_cases h : i < p.length
  · have h4 : (i : Int) < p.length := by omega
    have hd : p.drop i = p[i] :: p.drop (i + 1) := List.drop_eq_getElem_cons h
    have e12 : (i : Int) + 1 + 1 = i + 2 := by omega
    by_cases c1 : p[i] = 92
    · have b1 : p[i].toBitVec = 92#8 := tb_eq.2 c1
      have b1q : (p[i].toBitVec == 92#8) = true := by simp [b1]
      by_cases h5 : i + 1 = p.length
      · have h5' : (i : Int) + 1 = p.length := by omega
        have hq : prs p = none := by rw [hpr, hd, c1, List.drop_eq_nil_of_le (by omega), prs_bs]; rfl
        simp (disch := first | omega | (simp [-List.map_take, -List.map_drop, -List.map_set, -List.map_append, -List.drop_one] <;> omega) | fail) [-List.map_take, -List.map_drop, -List.map_set, -List.map_append, -List.drop_one, build_k, h4, h, b1, b1q, h5', hp, hq, partsD]
      · have h5' : ¬ (i : Int) + 1 = p.length := by omega
        have h6 : i + 1 < p.length := by omega
        have hd2 : p.drop (i + 1) = p[i + 1] :: p.drop (i + 2) := List.drop_eq_getElem_cons h6
        have hs := R15_step (n := i + 2) (y := .one p[i + 1].toBitVec) hx (by simp) (by omega) (by show prs (p.drop i) = _; rw [hd, hd2, c1, prs_esc])
        simp (disch := first | omega | (simp [-List.map_take, -List.map_drop, -List.map_set, -List.map_append, -List.drop_one] <;> omega) | fail) [-List.map_take, -List.map_drop, -List.map_set, -List.map_append, -List.drop_one, build_k, h4, h, b1, b1q, h5', h6, hlen, e12]
        exact ⟨⟨l ++ [.one p[i + 1].toBitVec], i + 2⟩, weak_same (by simp (disch := first | omega | (simp [-List.map_take, -List.map_drop, -List.map_set, -List.map_append, -List.drop_one] <;> omega) | fail) [-List.map_take, -List.map_drop, -List.map_set, -List.map_append, -List.drop_one, e12, cellsP_snoc, ptC, Pt.kind, Pt.chr]) (by simp (disch := first | omega | (simp [-List.map_take, -List.map_drop, -List.map_set, -List.map_append, -List.drop_one] <;> omega) | fail) [-List.map_take, -List.map_drop, -List.map_set, -List.map_append, -List.drop_one, cellsP_snoc, ptC, Pt.kind, Pt.chr]), by simp [m15]; omega, hs⟩
    · have b1 : ¬ p[i].toBitVec = 92#8 := fun e => c1 (tb_eq.1 e)
      have b1q : (p[i].toBitVec == 92#8) = false := by simp [b1]
      by_cases c2 : p[i] = 63
      · have b2 : p[i].toBitVec = 63#8 := tb_eq.2 c2
        have b2q : (p[i].toBitVec == 63#8) = true := by simp [b2]
        have hs := R15_step (n := i + 1) (y := .dot) hx (by simp) (by omega) (by show prs (p.drop i) = _; rw [hd, c2, prs_q])
        simp (disch := first | omega | (simp [-List.map_take, -List.map_drop, -List.map_set, -List.map_append, -List.drop_one] <;> omega) | fail) [-List.map_take, -List.map_drop, -List.map_set, -List.map_append, -List.drop_one, build_k, h4, h, b1, b1q, b2, b2q, hlen]
        exact ⟨⟨l ++ [.dot], i + 1⟩, weak_same (by simp (disch := first | omega | (simp [-List.map_take, -List.map_drop, -List.map_set, -List.map_append, -List.drop_one] <;> omega) | fail) [-List.map_take, -List.map_drop, -List.map_set, -List.map_append, -List.drop_one, e12, cellsP_snoc, ptC, Pt.kind, Pt.chr]) (by simp (disch := first | omega | (simp [-List.map_take, -List.map_drop, -List.map_set, -List.map_append, -List.drop_one] <;> omega) | fail) [-List.map_take, -List.map_drop, -List.map_set, -List.map_append, -List.drop_one, cellsP_snoc, ptC, Pt.kind, Pt.chr]), by simp [m15]; omega, hs⟩
      · have b2 : ¬ p[i].toBitVec = 63#8 := fun e => c2 (tb_eq.1 e)
        have b2q : (p[i].toBitVec == 63#8) = false := by simp [b2]
        by_cases c3 : p[i] = 42
        · have b3 : p[i].toBitVec = 42#8 := tb_eq.2 c3
          have b3q : (p[i].toBitVec == 42#8) = true := by simp [b3]
          by_cases h6 : i + 1 < p.length
          · have h6' : (i : Int) + 1 < p.length := by omega
            have hd2 : p.drop (i + 1) = p[i + 1] :: p.drop (i + 2) := List.drop_eq_getElem_cons h6
            by_cases c4 : p[i + 1] = 42
            · have b4 : p[i + 1].toBitVec = 42#8 := tb_eq.2 c4
              have b4q : (p[i + 1].toBitVec == 42#8) = true := by simp [b4]
              have hs := R15_step (n := i + 2) (y := .whole) hx (by simp) (by omega) (by show prs (p.drop i) = _; rw [hd, hd2, c3, c4, prs_st2])
              simp (disch := first | omega | (simp [-List.map_take, -List.map_drop, -List.map_set, -List.map_append, -List.drop_one] <;> omega) | fail) [-List.map_take, -List.map_drop, -List.map_set, -List.map_append, -List.drop_one, build_k, h4, h, b1, b1q, b2, b2q, b3, b3q, h6, h6', b4, b4q, hlen, e12]
              exact ⟨⟨l ++ [.whole], i + 2⟩, weak_same (by simp (disch := first | omega | (simp [-List.map_take, -List.map_drop, -List.map_set, -List.map_append, -List.drop_one] <;> omega) | fail) [-List.map_take, -List.map_drop, -List.map_set, -List.map_append, -List.drop_one, e12, cellsP_snoc, ptC, Pt.kind, Pt.chr]) (by simp (disch := first | omega | (simp [-List.map_take, -List.map_drop, -List.map_set, -List.map_append, -List.drop_one] <;> omega) | fail) [-List.map_take, -List.map_drop, -List.map_set, -List.map_append, -List.drop_one, cellsP_snoc, ptC, Pt.kind, Pt.chr]), by simp [m15]; omega, hs⟩
            · have b4 : ¬ p[i + 1].toBitVec = 42#8 := fun e => c4 (tb_eq.1 e)
              have b4q : (p[i + 1].toBitVec == 42#8) = false := by simp [b4]
              have hs := R15_step (n := i + 1) (y := .some) hx (by simp) (by omega) (by show prs (p.drop i) = _; rw [hd, hd2, c3, prs_st1 c4])
              simp (disch := first | omega | (simp [-List.map_take, -List.map_drop, -List.map_set, -List.map_append, -List.drop_one] <;> omega) | fail) [-List.map_take, -List.map_drop, -List.map_set, -List.map_append, -List.drop_one, build_k, h4, h, b1, b1q, b2, b2q, b3, b3q, h6, h6', b4, b4q, hlen, e12]
              exact ⟨⟨l ++ [.some], i + 1⟩, weak_same (by simp (disch := first | omega | (simp [-List.map_take, -List.map_drop, -List.map_set, -List.map_append, -List.drop_one] <;> omega) | fail) [-List.map_take, -List.map_drop, -List.map_set, -List.map_append, -List.drop_one, e12, cellsP_snoc, ptC, Pt.kind, Pt.chr]) (by simp (disch := first | omega | (simp [-List.map_take, -List.map_drop, -List.map_set, -List.map_append, -List.drop_one] <;> omega) | fail) [-List.map_take, -List.map_drop, -List.map_set, -List.map_append, -List.drop_one, cellsP_snoc, ptC, Pt.kind, Pt.chr]), by simp [m15]; omega, hs⟩
          · have h6' : ¬ (i : Int) + 1 < p.length := by omega
            have hs := R15_step (n := i + 1) (y := .some) hx (by simp) (by omega) (by show prs (p.drop i) = _; rw [hd, c3, List.drop_eq_nil_of_le (by omega), prs_st0]; rfl)
            simp (disch := first | omega | (simp [-List.map_take, -List.map_drop, -List.map_set, -List.map_append, -List.drop_one] <;> omega) | fail) [-List.map_take, -List.map_drop, -List.map_set, -List.map_append, -List.drop_one, build_k, h4, h, b1, b1q, b2, b2q, b3, b3q, h6', hlen]
            exact ⟨⟨l ++ [.some], i + 1⟩, weak_same (by simp (disch := first | omega | (simp [-List.map_take, -List.map_drop, -List.map_set, -List.map_append, -List.drop_one] <;> omega) | fail) [-List.map_take, -List.map_drop, -List.map_set, -List.map_append, -List.drop_one, e12, cellsP_snoc, ptC, Pt.kind, Pt.chr]) (by simp (disch := first | omega | (simp [-List.map_take, -List.map_drop, -List.map_set, -List.map_append, -List.drop_one] <;> omega) | fail) [-List.map_take, -List.map_drop, -List.map_set, -List.map_append, -List.drop_one, cellsP_snoc, ptC, Pt.kind, Pt.chr]), by simp [m15]; omega, hs⟩
        · have b3 : ¬ p[i].toBitVec = 42#8 := fun e => c3 (tb_eq.1 e)
          have b3q : (p[i].toBitVec == 42#8) = false := by simp [b3]
          have hs := R15_step (n := i + 1) (y := .one p[i].toBitVec) hx (by simp) (by omega) (by show prs (p.drop i) = _; rw [hd, prs_other c1 c3 c2])
          simp (disch := first | omega | (simp [-List.map_take, -List.map_drop, -List.map_set, -List.map_append, -List.drop_one] <;> omega) | fail) [-List.map_take, -List.map_drop, -List.map_set, -List.map_append, -List.drop_one, build_k, h4, h, b1, b1q, b2, b2q, b3, b3q, hlen]
          exact ⟨⟨l ++ [.one p[i].toBitVec], i + 1⟩, weak_same (by simp (disch := first | omega | (simp [-List.map_take, -List.map_drop, -List.map_set, -List.map_append, -List.drop_one] <;> omega) | fail) [-List.map_take, -List.map_drop, -List.map_set, -List.map_append, -List.drop_one, e12, cellsP_snoc, ptC, Pt.kind, Pt.chr]) (by simp (disch := first | omega | (simp [-List.map_take, -List.map_drop, -List.map_set, -List.map_append, -List.drop_one] <;> omega) | fail) [-List.map_take, -List.map_drop, -List.map_set, -List.map_append, -List.drop_one, cellsP_snoc, ptC, Pt.kind, Pt.chr]), by simp [m15]; omega, hs⟩
  · have h4 : ¬ (i : Int) < p.length := by omega
    obtain rfl : i = p.length := by omega
    rw [List.drop_length] at hpr
    have hq : prs p = .some l := by rw [hpr]; simp [prs]
    have hne := prs_ne (by intro e; rw [e] at h1; simp at h1) hq
    have ht : (cellsP l).take (l.length * 2) = cellsP l := List.take_of_length_le (by omega)
    simp (disch := first | omega | (simp [-List.map_take, -List.map_drop, -List.map_set, -List.map_append, -List.drop_one] <;> omega) | fail) [-List.map_take, -List.map_drop, -List.map_set, -List.map_append, -List.drop_one, h4, ownD_ne (cellsP_ne hne), ownH_ne (cellsP_ne hne), hp, hq, partsD, ht, snap_cellsP, hlen]
def partsR (p : List UInt8) : DV := partsD (parseP p)
def T58 : Tbl := addT 46 (.pure (cS partsR)) tbl0
theorem T58_parse : T58 46 = .pure (cS partsR) := by simp [T58]
theorem T58_sound : T58.Sound P := addT_sound (cS_sound fun p => sem_runs mix T57_sound Tryd.func46 a46_ok (runs_parse p)) tbl0_sound
def validB (p : List UInt8) : DV := .bool (parseP p).isSome
theorem runs_valid (p : List UInt8) : Runs T58 a18 [.str p] (validB p) := by
  refine ⟨?_⟩
  cases h : parseP p with
  | none => simp (disch := first | omega | (simp [-List.map_take, -List.map_drop, -List.map_set, -List.map_append, -List.drop_one] <;> omega) | fail) [-List.map_take, -List.map_drop, -List.map_set, -List.map_append, -List.drop_one, a18, T58_parse, cS_eq, partsR, h, partsD, validB]
  | some l => simp (disch := first | omega | (simp [-List.map_take, -List.map_drop, -List.map_set, -List.map_append, -List.drop_one] <;> omega) | fail) [-List.map_take, -List.map_drop, -List.map_set, -List.map_append, -List.drop_one, a18, T58_parse, cS_eq, partsR, h, partsD, validB]
/-! parts -/
def classD (x : Pt) : DV := match x with
  | .one c => .fn (.func 89) [] [.ref [.int .i64 0, w8 c]]
  | .whole => .fn (.func 90) [] []
  | _ => .fn (.func 91) [] []
theorem snap_fn1 {h : List AObj} {k : Nat} {f : Fn} {x : DV} : snap h (k + 1) (.fn f [] [x]) = (snap h (k + 1) x).map fun y => .fn f [] [y] := by
  simp only [snap, snapW, snapWL]
  cases snapW _ x <;> rfl
theorem snap_fn0 {h : List AObj} {k : Nat} {f : Fn} : snap h k (.fn f [] []) = some (.fn f [] []) := by cases k <;> rfl
theorem runs_class (x : Pt) : Runs tbl0 a47 [.agg (ptC x)] (classD x) := by
  refine ⟨?_⟩
  cases x with
  | one c => simp (disch := first | omega | (simp [-List.map_take, -List.map_drop, -List.map_set, -List.map_append, -List.drop_one] <;> omega) | fail) [-List.map_take, -List.map_drop, -List.map_set, -List.map_append, -List.drop_one, a47, ptC, Pt.kind, Pt.chr, classD, snap_fn1, snap_fn0]
  | dot => simp (disch := first | omega | (simp [-List.map_take, -List.map_drop, -List.map_set, -List.map_append, -List.drop_one] <;> omega) | fail) [-List.map_take, -List.map_drop, -List.map_set, -List.map_append, -List.drop_one, a47, ptC, Pt.kind, Pt.chr, classD, snap_fn1, snap_fn0]
  | some => simp (disch := first | omega | (simp [-List.map_take, -List.map_drop, -List.map_set, -List.map_append, -List.drop_one] <;> omega) | fail) [-List.map_take, -List.map_drop, -List.map_set, -List.map_append, -List.drop_one, a47, ptC, Pt.kind, Pt.chr, classD, snap_fn1, snap_fn0]
  | whole => simp (disch := first | omega | (simp [-List.map_take, -List.map_drop, -List.map_set, -List.map_append, -List.drop_one] <;> omega) | fail) [-List.map_take, -List.map_drop, -List.map_set, -List.map_append, -List.drop_one, a47, ptC, Pt.kind, Pt.chr, classD, snap_fn1, snap_fn0]
theorem runs_repeats (x : Pt) : Runs tbl0 a48 [.agg (ptC x)] (.bool x.long) := by
  refine ⟨?_⟩
  cases x with
  | one c => simp (disch := first | omega | (simp [-List.map_take, -List.map_drop, -List.map_set, -List.map_append, -List.drop_one] <;> omega) | fail) [-List.map_take, -List.map_drop, -List.map_set, -List.map_append, -List.drop_one, a48, ptC, Pt.kind, Pt.chr, Pt.long]
  | dot => simp (disch := first | omega | (simp [-List.map_take, -List.map_drop, -List.map_set, -List.map_append, -List.drop_one] <;> omega) | fail) [-List.map_take, -List.map_drop, -List.map_set, -List.map_append, -List.drop_one, a48, ptC, Pt.kind, Pt.chr, Pt.long]
  | some => simp (disch := first | omega | (simp [-List.map_take, -List.map_drop, -List.map_set, -List.map_append, -List.drop_one] <;> omega) | fail) [-List.map_take, -List.map_drop, -List.map_set, -List.map_append, -List.drop_one, a48, ptC, Pt.kind, Pt.chr, Pt.long]
  | whole => simp (disch := first | omega | (simp [-List.map_take, -List.map_drop, -List.map_set, -List.map_append, -List.drop_one] <;> omega) | fail) [-List.map_take, -List.map_drop, -List.map_set, -List.map_append, -List.drop_one, a48, ptC, Pt.kind, Pt.chr, Pt.long]
theorem runs_class1 (b c : B8) : Runs tbl0 a89 [w8 b, .ref [.int .i64 0, w8 c]] (.bool (b == c)) := by
  refine ⟨?_⟩
  simp (disch := first | omega | (simp [-List.map_take, -List.map_drop, -List.map_set, -List.map_append, -List.drop_one] <;> omega) | fail) [-List.map_take, -List.map_drop, -List.map_set, -List.map_append, -List.drop_one, a89]
theorem runs_class2 (b : B8) : Runs tbl0 a90 [w8 b] (.bool true) := by
  refine ⟨?_⟩
  simp (disch := first | omega | (simp [-List.map_take, -List.map_drop, -List.map_set, -List.map_append, -List.drop_one] <;> omega) | fail) [-List.map_take, -List.map_drop, -List.map_set, -List.map_append, -List.drop_one, a90]
theorem runs_class3 (b : B8) : Runs tbl0 a91 [w8 b] (.bool (b != 47#8)) := by
  refine ⟨?_⟩
  simp (disch := first | omega | (simp [-List.map_take, -List.map_drop, -List.map_set, -List.map_append, -List.drop_one] <;> omega) | fail) [-List.map_take, -List.map_drop, -List.map_set, -List.map_append, -List.drop_one, a91]
end Go.Proofs.YtjjcdmjgbbaliaaDoor
