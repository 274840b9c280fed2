/-
  The reference's Combine; contracts; the law OnetimeClimbs and OnetimeSteps.
-/
import Derived.Test.YthkcgeokfcbllaaUh
set_option linter.unusedSimpArgs false
set_option linter.unusedVariables false
namespace Go.Proofs.Ythkcgeokfcbllaa
open Go Go.Am

def refD (j : Nat) : DV := if j = 0 then .ms 1 16 0 1 16 16 else .ms (j + 2) 16 0 1 16 16
def part0 (n : Int) : DV := .sl true 1 3 [w8 5#8, w8 (BitVec.ofInt 8 (n / 256)), w8 (BitVec.ofInt 8 n)]
def partsL (n : Int) (i : Nat) : List DV := part0 n :: (List.range i).map refD
theorem partsL_succ (n : Int) (i : Nat) : partsL n (i + 1) = partsL n i ++ [refD i] := by simp [partsL, List.range_succ]
theorem len_partsL (n : Int) (i : Nat) : (partsL n i).length = i + 1 := by simp [partsL]
def H24 (n : Int) (l : List (List B8)) (i : Nat) : List AObj :=
  .cells ((rep 16 0#8).map w8) :: (match l.take i with
  | [] => []
  | a :: r => .cells (a.map w8) :: .cells (partsL n i) :: r.map fun b => .cells (b.map w8))
def X24 (n : Int) (i : Nat) : DV := if i = 0 then .sl true 1 1 [part0 n] else .ms 2 (i + 1) 0 1 (i + 1) (i + 1)
theorem H24_0 (n : Int) (l : List (List B8)) : H24 n l 0 = [.cells ((rep 16 0#8).map w8)] := by simp [H24]
theorem H24_1 (n : Int) (l : List (List B8)) (h : 0 < l.length) : H24 n l 1 = [.cells ((rep 16 0#8).map w8), .cells (l[0].map w8), .cells (partsL n 1)] := by
  cases l with
  | nil => simp at h
  | cons a r => simp [H24]
theorem H24_succ (n : Int) (l : List (List B8)) (i : Nat) (h0 : 0 < i) (h : i < l.length) : H24 n l (i + 1) = (H24 n l i ++ [AObj.cells (l[i].map w8)]).set 2 (AObj.cells (partsL n (i + 1))) := by
  cases l with
  | nil => simp at h
  | cons a r =>
    obtain ⟨j, rfl⟩ : ∃ j, i = j + 1 := ⟨i - 1, by omega⟩
    simp only [List.length_cons] at h
    have hj : j < r.length := by omega
    simp only [H24, List.take_succ_cons]
    rw [List.take_add_one, List.getElem?_eq_getElem hj]
    simp
    rw [List.take_add_one, List.getElem?_map, List.getElem?_eq_getElem hj]
    rfl
theorem len_H24 (n : Int) (l : List (List B8)) (i : Nat) (h0 : 0 < i) (h : i ≤ l.length) : (H24 n l i).length = i + 2 := by
  cases l with
  | nil => simp at h; omega
  | cons a r =>
    obtain ⟨j, rfl⟩ : ∃ j, i = j + 1 := ⟨i - 1, by omega⟩
    simp only [List.length_cons] at h
    simp [H24]
    omega
theorem get_H24 (n : Int) (l : List (List B8)) (i : Nat) (h0 : 0 < i) (h : i ≤ l.length) : (H24 n l i)[2]? = some (.cells (partsL n i)) := by
  cases l with
  | nil => simp at h; omega
  | cons a r =>
    obtain ⟨j, rfl⟩ : ∃ j, i = j + 1 := ⟨i - 1, by omega⟩
    simp [H24]
theorem obj_H24 {n : Int} {l : List (List B8)} {i : Nat} {o : AObj} (h0 : 0 < i) (h : i ≤ l.length) : objV (H24 n l i ++ [o]) 2 (i + 1) = some (partsL n i) := by
  have hl := len_H24 n l i h0 h
  have hg := get_H24 n l i h0 h
  simp [objV, objAt, List.getElem?_append_left (show 2 < (H24 n l i).length by omega), hg, len_partsL]
theorem obj_H24' {n : Int} {l : List (List B8)} {i : Nat} (h0 : 0 < i) (h : i ≤ l.length) : objV (H24 n l i) 2 (i + 1) = some (partsL n i) := by
  have hg := get_H24 n l i h0 h
  simp [objV, objAt, hg, len_partsL]
theorem mapAll_of {α β : Type} {f : α → Option β} : ∀ {l : List α} {r : List β}, l.length = r.length → (∀ i (h : i < l.length) (h' : i < r.length), f l[i] = some r[i]) → mapAll f l = some r
  | [], [], _, _ => rfl
  | [], _ :: _, h, _ => by simp at h
  | _ :: _, [], h, _ => by simp at h
  | a :: l, b :: r, hl, h => by
    have h0 := h 0 (by simp) (by simp)
    have h1 := mapAll_of (l := l) (r := r) (by simpa using hl) (fun i g g' => h (i + 1) (by simpa using g) (by simpa using g'))
    simp at h0
    simp [mapAll, h0, h1]
theorem ref_H24 {n : Int} {l : List (List B8)} {j : Nat} (hl : FN 16 l) (h : j < l.length) : snap (H24 n l l.length) 2 (refD j) = some (.sl false 1 16 ((l[j]'h).map w8)) := by
  have h16 : (l[j]'h).length = 16 := hl _ (List.getElem_mem h)
  have hp : mapAll (snap (H24 n l l.length) 1) ((l[j]'h).map w8) = some ((l[j]'h).map w8) := snapL_clean (k := 1) pureL_w8
  have ht : ((l[j]'h).map w8).take 16 = (l[j]'h).map w8 := List.take_of_length_le (by simp [h16])
  have hg : (H24 n l l.length)[if j = 0 then 1 else j + 2]? = some (.cells ((l[j]'h).map w8)) := by
    cases l with
    | nil => simp at h
    | cons a r =>
      cases j with
      | zero => simp [H24]
      | succ j =>
        simp only [List.length_cons] at h
        simp [H24, List.getElem?_eq_getElem (show j < r.length by omega)]
  have e : refD j = .ms (if j = 0 then 1 else j + 2) 16 0 1 16 16 := by unfold refD; split <;> rfl
  rw [e]
  show (objAt _ _).bind _ = _
  simp only [objAt, hg, Option.bind_some, List.length_map, h16, if_true, List.drop_zero, Nat.mul_one, ht, hp, Option.map_some]
theorem snap_H24 {n : Int} {l : List (List B8)} (hl : FN 16 l) : snapL (H24 n l l.length) 2 (partsL n l.length) = some (part0 n :: l.map fun a => .sl false 1 16 (a.map w8)) := by
  refine mapAll_of (by simp [partsL]) fun i h h' => ?_
  cases i with
  | zero => exact snap_pure _ _ rfl
  | succ i =>
    simp [partsL] at h
    simpa [partsL] using ref_H24 hl h
def S24 (n : Int) (k : Option Bool) (l : List (List B8)) (i : Nat) : St :=
  a24S0 (hD k l) (.mp 0 16 0) (X24 n i) (.int .i64 i) (H24 n l i)
set_option maxRecDepth 20000 in
theorem runs_refcombine (n : Int) (k : Option Bool) (l : List (List B8)) (hk : k = none → l = []) (hl : FN 16 l) (hn : l.length ≤ 1000) : Runs T22 a24 [.int .i64 n, hD k l] (.agg ((combine n l).map w8)) := by
  refine ⟨?_⟩
  have hln : ∀ h, lenD h (hD k l) = some (.int .i64 l.length) := fun h => lenD_slD (fun e => by rw [hk e]; rfl)
  simp (disch := first | omega | (simp [-List.map_take, -List.map_drop, -List.map_set, -List.map_append, -List.drop_one] <;> omega) | fail) [-List.map_take, -List.map_drop, -List.map_set, -List.map_append, -List.drop_one, a24]
  refine W_loop (S24 n k l) (fun i => l.length - i) (fun i => i ≤ l.length) 0 (weak_same (by simp (disch := first | omega | (simp [-List.map_take, -List.map_drop, -List.map_set, -List.map_append, -List.drop_one] <;> omega) | fail) [-List.map_take, -List.map_drop, -List.map_set, -List.map_append, -List.drop_one, X24, part0]) (by simp (disch := first | omega | (simp [-List.map_take, -List.map_drop, -List.map_set, -List.map_append, -List.drop_one] <;> omega) | fail) [-List.map_take, -List.map_drop, -List.map_set, -List.map_append, -List.drop_one, H24_0])) (by omega) (fun i hi => ?_)
  simp (disch := first | omega | (simp [-List.map_take, -List.map_drop, -List.map_set, -List.map_append, -List.drop_one] <;> omega) | fail) [-List.map_take, -List.map_drop, -List.map_set, -List.map_append, -List.drop_one, a24L0, a24S0, S24, hln]
  by_cases h : i < l.length
  · have h1 : (i : Int) < l.length := by omega
    have hg := get_flN hl h
    have h16 : l[i].length = 16 := hl _ (List.getElem_mem h)
    have h16t : (l[i]).take 16 = l[i] := List.take_of_length_le (by omega)
    cases k with
    | none => simp [hk rfl] at h
    | some f =>
      by_cases h0 : i = 0
      · subst h0
        have hg0 : (fl l).take 16 = l[0].map w8 := by simpa using hg
        have h2 : 0 < l.length := h
        simp (disch := first | omega | (simp [-List.map_take, -List.map_drop, -List.map_set, -List.map_append, -List.drop_one] <;> omega) | fail) [-List.map_take, -List.map_drop, -List.map_set, -List.map_append, -List.drop_one, h1, h, slD_some, hg0, h16, h16t, X24, H24_0, part0]
        refine ⟨1, weak_same (by simp (disch := first | omega | (simp [-List.map_take, -List.map_drop, -List.map_set, -List.map_append, -List.drop_one] <;> omega) | fail) [-List.map_take, -List.map_drop, -List.map_set, -List.map_append, -List.drop_one, slD_some, X24]) (by simp (disch := first | omega | (simp [-List.map_take, -List.map_drop, -List.map_set, -List.map_append, -List.drop_one] <;> omega) | fail) [-List.map_take, -List.map_drop, -List.map_set, -List.map_append, -List.drop_one, H24_1 n l h, partsL, refD, part0]), by omega, by omega⟩
      · have hx : X24 n i = .ms 2 (i + 1) 0 1 (i + 1) (i + 1) := by simp [X24, h0]
        have ho : objV (H24 n l i ++ [AObj.cells (l[i].map w8)]) 2 (i + 1) = some (partsL n i) := obj_H24 (by omega) hi
        have hlh := len_H24 n l i (by omega) hi
        have hr : refD i = .ms (i + 2) 16 0 1 16 16 := by simp [refD, h0]
        simp (disch := first | omega | (simp [-List.map_take, -List.map_drop, -List.map_set, -List.map_append, -List.drop_one] <;> omega) | fail) [-List.map_take, -List.map_drop, -List.map_set, -List.map_append, -List.drop_one, h1, h, slD_some, hg, h16, h16t, hx, ho, hlh]
        refine ⟨i + 1, weak_same (by simp (disch := first | omega | (simp [-List.map_take, -List.map_drop, -List.map_set, -List.map_append, -List.drop_one] <;> omega) | fail) [-List.map_take, -List.map_drop, -List.map_set, -List.map_append, -List.drop_one, slD_some, X24]) (by simp (disch := first | omega | (simp [-List.map_take, -List.map_drop, -List.map_set, -List.map_append, -List.drop_one] <;> omega) | fail) [-List.map_take, -List.map_drop, -List.map_set, -List.map_append, -List.drop_one, H24_succ n l i (by omega) h, partsL_succ, hr]), by omega, by omega⟩
  · have h1 : ¬ (i : Int) < l.length := by omega
    obtain rfl : i = l.length := by omega
    by_cases h0 : l.length = 0
    · have hh := c_half_lit (f := true) (n := 1) (cs := [.sl true 1 3 [w8 5#8, w8 (BitVec.ofInt 8 (n / 256)), w8 (BitVec.ofInt 8 n)]]) (b := cmb n l) [(some true, 5#8 :: two n)] (by simp [WfP]) (by simp [cat, cmb, List.length_eq_zero_iff.1 h0]) (by rw [len_cmb hl]; omega) rfl (by omega) (by simp [partD, bD, slD, two])
      have hx : X24 n 0 = .sl true 1 1 [.sl true 1 3 [w8 5#8, w8 (BitVec.ofInt 8 (n / 256)), w8 (BitVec.ofInt 8 n)]] := by simp [X24, part0]
      simp (disch := first | omega | (simp [-List.map_take, -List.map_drop, -List.map_set, -List.map_append, -List.drop_one] <;> omega) | fail) [-List.map_take, -List.map_drop, -List.map_set, -List.map_append, -List.drop_one, h1, T22_refhalf, hx, hh, H24_0, h0, combine]
    · have hx : X24 n l.length = .ms 2 (l.length + 1) 0 1 (l.length + 1) (l.length + 1) := by simp [X24, h0]
      have hlc := len_cmb (n := n) hl
      have hh := c_half_lit (f := false) (n := l.length + 1) (cs := part0 n :: l.map fun a => .sl false 1 16 (a.map w8)) (b := cmb n l) ((some true, 5#8 :: two n) :: l.map fun a => (some false, a)) (by simp [WfP]) (by simp [cat, cmb, List.flatMap_map, List.flatMap_id']) (by omega) (by simp) (by omega) (by
        simp [partD, bD, slD, part0, two]
        intro a ha; exact hl a ha)
      have ho : objV (H24 n l l.length) 2 (l.length + 1) = some (partsL n l.length) := obj_H24' (by omega) (by omega)
      have htk : (partsL n l.length).take (l.length + 1) = partsL n l.length := List.take_of_length_le (by rw [len_partsL]; omega)
      have hlh := len_H24 n l l.length (by omega) (by omega)
      have hs := snap_H24 (n := n) hl
      obtain ⟨T, hT⟩ : ∃ T, H24 n l l.length = .cells ((rep 16 0#8).map w8) :: T := ⟨_, rfl⟩
      rw [hT] at ho hs
      simp (disch := first | omega | (simp [-List.map_take, -List.map_drop, -List.map_set, -List.map_append, -List.drop_one] <;> omega) | fail) [-List.map_take, -List.map_drop, -List.map_set, -List.map_append, -List.drop_one, h1, T22_refhalf, hx, hT, ho, htk, hs, hh, combine]
end Go.Proofs.Ythkcgeokfcbllaa
