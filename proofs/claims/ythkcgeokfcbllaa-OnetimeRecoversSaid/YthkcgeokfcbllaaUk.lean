/-
  Public, Sign and Recover, of the program and of the reference; Same; the law OnetimeSigns.
-/
import Derived.Test.YthkcgeokfcbllaaUj
set_option linter.unusedSimpArgs false
set_option linter.unusedVariables false
namespace Go.Proofs.Ythkcgeokfcbllaa
open Go Go.Am

theorem len_combine (n : Int) (l : List (List B8)) : (combine n l).length = 16 := len_half _
attribute [simp] len_combine
theorem fl_snoc (l : List (List B8)) (a : List B8) : fl l ++ a.map w8 = fl (l ++ [a]) := by rw [fl_append, fl_one]
theorem all_fl (l : List (List B8)) : (fl l).all DV.one = true := by rw [fl_flat]; simp
theorem snap_fl (h : List AObj) (k : Nat) (l : List (List B8)) : snapL h k (fl l) = some (fl l) := snapL_clean (pure_fl l)
theorem fl_ne {l : List (List B8)} (h : FN 16 l) (h0 : 0 < l.length) : fl l ≠ [] := by
  intro e
  have := len_flN h
  rw [e] at this
  simp at this
  omega
theorem take_flN {n : Nat} {l : List (List B8)} (h : FN n l) {m : Nat} (hm : l.length * n ≤ m) : (fl l).take m = fl l := List.take_of_length_le (by rw [len_flN h]; exact hm)
abbrev upto (F : Nat → List B8) (i : Nat) : List (List B8) := (List.range i).map F
theorem upto_succ (F : Nat → List B8) (i : Nat) : upto F (i + 1) = upto F i ++ [F i] := by simp [upto, List.range_succ]
theorem len_upto (F : Nat → List B8) (i : Nat) : (upto F i).length = i := by simp [upto]
theorem FN_upto {F : Nat → List B8} (h : ∀ i, (F i).length = 16) (i : Nat) : FN 16 (upto F i) := by
  intro a ha
  obtain ⟨j, _, rfl⟩ := List.mem_map.1 ha
  exact h j
abbrev gD (id : Nat) (F : Nat → List B8) (i : Nat) : DV := ownD id 16 .nils i (fl (upto F i))
abbrev gH (F : Nat → List B8) (i : Nat) : List AObj := ownH (fl (upto F i))
theorem gD_succ (id : Nat) (F : Nat → List B8) (i : Nat) : gD id F (i + 1) = ownD id 16 .nils (i + 1) (fl (upto F i ++ [F i])) := by rw [gD, upto_succ]
theorem gH_succ (F : Nat → List B8) (i : Nat) : gH F (i + 1) = ownH (fl (upto F i ++ [F i])) := by rw [gH, upto_succ]
theorem c_combine_upto {n : Int} {F : Nat → List B8} (hF : FN 16 (upto F 68)) : c_combine [.int .i64 n, .sl false 16 68 (fl (upto F 68))] = some (.agg ((combine n (upto F 68)).map w8)) := by
  have hc := c_combine_eq (n := n) (k := some false) (l := upto F 68) ⟨by simp, hF, by rw [len_upto]; omega⟩
  rwa [hD, slD_some, len_upto] at hc
def endF (x : List B8) (n : Int) (i : Nat) : List B8 := climb (secret x n i) n i 0 3
def pub (x : List B8) (n : Int) : List B8 := combine n (upto (endF x n) 68)
theorem len_endF (x : List B8) (n : Int) (i : Nat) : (endF x n i).length = 16 := len_climb (len_secret _ _ _)
def S27 (x : List B8) (n : Int) (i : Nat) : St := a27S0 (.int .i64 n) (.mp 0 16 0) (.mp 1 16 0) (gD 2 (endF x n) i) (.int .i64 i) (.cells (x.map w8) :: .cells ((rep 16 0#8).map w8) :: gH (endF x n) i)
set_option maxRecDepth 20000 in
theorem runs_public (x : List B8) (n : Int) (hx : x.length = 16) : Runs T23 a27 [.agg (x.map w8), .int .i64 n] (.agg ((pub x n).map w8)) := by
  refine ⟨?_⟩
  simp (disch := first | omega | (simp [-List.map_take, -List.map_drop, -List.map_set, -List.map_append, -List.drop_one] <;> omega) | fail) [-List.map_take, -List.map_drop, -List.map_set, -List.map_append, -List.drop_one, a27, hx]
  refine W_loop (S27 x n) (fun i => 68 - i) (fun i => i ≤ 68) 0 (weak_same (by simp (disch := first | omega | (simp [-List.map_take, -List.map_drop, -List.map_set, -List.map_append, -List.drop_one] <;> omega) | fail) [-List.map_take, -List.map_drop, -List.map_set, -List.map_append, -List.drop_one, ownD, fl]) (by simp (disch := first | omega | (simp [-List.map_take, -List.map_drop, -List.map_set, -List.map_append, -List.drop_one] <;> omega) | fail) [-List.map_take, -List.map_drop, -List.map_set, -List.map_append, -List.drop_one, ownH, fl])) (by omega) (fun i hi => ?_)
  have hF := FN_upto (len_endF x n) i
  have hlen := len_flN hF
  rw [len_upto] at hlen
  have x16 : x.take 16 = x := List.take_of_length_le (by omega)
  simp (disch := first | omega | (simp [-List.map_take, -List.map_drop, -List.map_set, -List.map_append, -List.drop_one] <;> omega) | fail) [-List.map_take, -List.map_drop, -List.map_set, -List.map_append, -List.drop_one, a27L0, a27S0, S27]
  by_cases h : i < 68
  · have h1 : (i : Int) < 68 := by omega
    have l1 := len_secret n i x
    have e1 : climb (secret x n i) n i 0 3 = endF x n i := rfl
    have l2 := len_endF x n i
    have l3 : (endF x n i).take 16 = endF x n i := List.take_of_length_le (by omega)
    simp (disch := first | omega | (simp [-List.map_take, -List.map_drop, -List.map_set, -List.map_append, -List.drop_one] <;> omega) | fail) [-List.map_take, -List.map_drop, -List.map_set, -List.map_append, -List.drop_one, h1, hx, x16, T23_secret, c_secret_eq, T23_climb, c_climb_eq, l1, e1, l2, l3, hlen, all_fl]
    refine ⟨i + 1, weak_same (by simp (disch := first | omega | (simp [-List.map_take, -List.map_drop, -List.map_set, -List.map_append, -List.drop_one] <;> omega) | fail) [-List.map_take, -List.map_drop, -List.map_set, -List.map_append, -List.drop_one, gD_succ, fl_snoc]) (by simp (disch := first | omega | (simp [-List.map_take, -List.map_drop, -List.map_set, -List.map_append, -List.drop_one] <;> omega) | fail) [-List.map_take, -List.map_drop, -List.map_set, -List.map_append, -List.drop_one, gH_succ, fl_snoc]), by omega, by omega⟩
  · have h1 : ¬ (i : Int) < 68 := by omega
    obtain rfl : i = 68 := by omega
    have hne := fl_ne hF (by rw [len_upto]; omega)
    have hc := c_combine_upto (n := n) hF
    have ht := take_flN hF (m := 1088) (by rw [len_upto]; omega)
    simp (disch := first | omega | (simp [-List.map_take, -List.map_drop, -List.map_set, -List.map_append, -List.drop_one] <;> omega) | fail) [-List.map_take, -List.map_drop, -List.map_set, -List.map_append, -List.drop_one, h1, ownD_ne hne, ownH_ne hne, hlen, T23_combine, hc, ht, snap_fl, pub]
def S28 (x : List B8) (n : Int) (i : Nat) : St := a28S0 (.int .i64 n) (.mp 0 16 0) (.mp 1 16 0) (gD 2 (endF x n) i) (.int .i64 i) (.cells (x.map w8) :: .cells ((rep 16 0#8).map w8) :: gH (endF x n) i)
set_option maxRecDepth 20000 in
theorem runs_refpublic (x : List B8) (n : Int) (hx : x.length = 16) : Runs T23 a28 [.agg (x.map w8), .int .i64 n] (.agg ((pub x n).map w8)) := by
  refine ⟨?_⟩
  simp (disch := first | omega | (simp [-List.map_take, -List.map_drop, -List.map_set, -List.map_append, -List.drop_one] <;> omega) | fail) [-List.map_take, -List.map_drop, -List.map_set, -List.map_append, -List.drop_one, a28, hx]
  refine W_loop (S28 x n) (fun i => 68 - i) (fun i => i ≤ 68) 0 (weak_same (by simp (disch := first | omega | (simp [-List.map_take, -List.map_drop, -List.map_set, -List.map_append, -List.drop_one] <;> omega) | fail) [-List.map_take, -List.map_drop, -List.map_set, -List.map_append, -List.drop_one, ownD, fl]) (by simp (disch := first | omega | (simp [-List.map_take, -List.map_drop, -List.map_set, -List.map_append, -List.drop_one] <;> omega) | fail) [-List.map_take, -List.map_drop, -List.map_set, -List.map_append, -List.drop_one, ownH, fl])) (by omega) (fun i hi => ?_)
  have hF := FN_upto (len_endF x n) i
  have hlen := len_flN hF
  rw [len_upto] at hlen
  have x16 : x.take 16 = x := List.take_of_length_le (by omega)
  simp (disch := first | omega | (simp [-List.map_take, -List.map_drop, -List.map_set, -List.map_append, -List.drop_one] <;> omega) | fail) [-List.map_take, -List.map_drop, -List.map_set, -List.map_append, -List.drop_one, a28L0, a28S0, S28]
  by_cases h : i < 68
  · have h1 : (i : Int) < 68 := by omega
    have l1 := len_secret n i x
    have e1 : climb (secret x n i) n i 0 3 = endF x n i := rfl
    have l2 := len_endF x n i
    have l3 : (endF x n i).take 16 = endF x n i := List.take_of_length_le (by omega)
    simp (disch := first | omega | (simp [-List.map_take, -List.map_drop, -List.map_set, -List.map_append, -List.drop_one] <;> omega) | fail) [-List.map_take, -List.map_drop, -List.map_set, -List.map_append, -List.drop_one, h1, hx, x16, T23_refsecret, c_secret_eq, T23_refclimb, c_climb_eq, l1, e1, l2, l3, hlen, all_fl]
    refine ⟨i + 1, weak_same (by simp (disch := first | omega | (simp [-List.map_take, -List.map_drop, -List.map_set, -List.map_append, -List.drop_one] <;> omega) | fail) [-List.map_take, -List.map_drop, -List.map_set, -List.map_append, -List.drop_one, gD_succ, fl_snoc]) (by simp (disch := first | omega | (simp [-List.map_take, -List.map_drop, -List.map_set, -List.map_append, -List.drop_one] <;> omega) | fail) [-List.map_take, -List.map_drop, -List.map_set, -List.map_append, -List.drop_one, gH_succ, fl_snoc]), by omega, by omega⟩
  · have h1 : ¬ (i : Int) < 68 := by omega
    obtain rfl : i = 68 := by omega
    have hne := fl_ne hF (by rw [len_upto]; omega)
    have hc := c_combine_upto (n := n) hF
    have ht := take_flN hF (m := 1088) (by rw [len_upto]; omega)
    simp (disch := first | omega | (simp [-List.map_take, -List.map_drop, -List.map_set, -List.map_append, -List.drop_one] <;> omega) | fail) [-List.map_take, -List.map_drop, -List.map_set, -List.map_append, -List.drop_one, h1, ownD_ne hne, ownH_ne hne, hlen, T23_refcombine, hc, ht, snap_fl, pub]
def sigF (x : List B8) (n : Int) (d : List B8) (i : Nat) : List B8 := climb (secret x n i) n i 0 ((digits d).getD i 0)
theorem len_sigF (x : List B8) (n : Int) (d : List B8) (i : Nat) : (sigF x n d i).length = 16 := len_climb (len_secret _ _ _)
def S30 (x : List B8) (n : Int) (d : List B8) (i : Nat) : St := a30S0 (.int .i64 n) (.mp 0 16 0) (gD 2 (sigF x n d) i) (.sl false 1 68 ((digits d).map (DV.int .i64))) (.int .i64 68) (.int .i64 i) (.cells (x.map w8) :: .cells (d.map w8) :: gH (sigF x n d) i)
set_option maxRecDepth 20000 in
theorem runs_sign (x : List B8) (n : Int) (d : List B8) (hx : x.length = 16) (hd : d.length = 32) : Runs T23 a30 [.agg (x.map w8), .int .i64 n, .agg (d.map w8)] (.sl false 16 68 (fl (upto (sigF x n d) 68))) := by
  refine ⟨?_⟩
  have hld := len_digits hd
  simp (disch := first | omega | (simp [-List.map_take, -List.map_drop, -List.map_set, -List.map_append, -List.drop_one] <;> omega) | fail) [-List.map_take, -List.map_drop, -List.map_set, -List.map_append, -List.drop_one, a30, hx, hd, T23_digits, c_digits_eq]
  refine W_loop (S30 x n d) (fun i => 68 - i) (fun i => i ≤ 68) 0 (weak_same (by simp (disch := first | omega | (simp [-List.map_take, -List.map_drop, -List.map_set, -List.map_append, -List.drop_one] <;> omega) | fail) [-List.map_take, -List.map_drop, -List.map_set, -List.map_append, -List.drop_one, ownD, fl]) (by simp (disch := first | omega | (simp [-List.map_take, -List.map_drop, -List.map_set, -List.map_append, -List.drop_one] <;> omega) | fail) [-List.map_take, -List.map_drop, -List.map_set, -List.map_append, -List.drop_one, ownH, fl])) (by omega) (fun i hi => ?_)
  have hF := FN_upto (len_sigF x n d) i
  have hlen := len_flN hF
  rw [len_upto] at hlen
  have x16 : x.take 16 = x := List.take_of_length_le (by omega)
  simp (disch := first | omega | (simp [-List.map_take, -List.map_drop, -List.map_set, -List.map_append, -List.drop_one] <;> omega) | fail) [-List.map_take, -List.map_drop, -List.map_set, -List.map_append, -List.drop_one, a30L0, a30S0, S30]
  by_cases h : i < 68
  · have h1 : (i : Int) < 68 := by omega
    have hil : i < (digits d).length := by omega
    have l1 := len_secret n i x
    have e1 : climb (secret x n i) n i 0 (digits d)[i] = sigF x n d i := by rw [sigF, getD_get hil]
    have l2 := len_sigF x n d i
    have l3 : (sigF x n d i).take 16 = sigF x n d i := List.take_of_length_le (by omega)
    simp (disch := first | omega | (simp [-List.map_take, -List.map_drop, -List.map_set, -List.map_append, -List.drop_one] <;> omega) | fail) [-List.map_take, -List.map_drop, -List.map_set, -List.map_append, -List.drop_one, h1, hx, x16, hld, T23_secret, c_secret_eq, T23_climb, c_climb_eq, l1, e1, l2, l3, hlen, all_fl]
    refine ⟨i + 1, weak_same (by simp (disch := first | omega | (simp [-List.map_take, -List.map_drop, -List.map_set, -List.map_append, -List.drop_one] <;> omega) | fail) [-List.map_take, -List.map_drop, -List.map_set, -List.map_append, -List.drop_one, gD_succ, fl_snoc]) (by simp (disch := first | omega | (simp [-List.map_take, -List.map_drop, -List.map_set, -List.map_append, -List.drop_one] <;> omega) | fail) [-List.map_take, -List.map_drop, -List.map_set, -List.map_append, -List.drop_one, gH_succ, fl_snoc]), by omega, by omega⟩
  · have h1 : ¬ (i : Int) < 68 := by omega
    obtain rfl : i = 68 := by omega
    have hne := fl_ne hF (by rw [len_upto]; omega)
    have ht := take_flN hF (m := 1088) (by rw [len_upto]; omega)
    simp (disch := first | omega | (simp [-List.map_take, -List.map_drop, -List.map_set, -List.map_append, -List.drop_one] <;> omega) | fail) [-List.map_take, -List.map_drop, -List.map_set, -List.map_append, -List.drop_one, h1, ownD_ne hne, ownH_ne hne, hlen, ht, snap_fl]
def S31 (x : List B8) (n : Int) (d : List B8) (i : Nat) : St := a31S0 (.int .i64 n) (.mp 0 16 0) (.sl false 1 68 ((digits d).map (DV.int .i64))) (gD 2 (sigF x n d) i) (.int .i64 i) (.cells (x.map w8) :: .cells (d.map w8) :: gH (sigF x n d) i)
set_option maxRecDepth 20000 in
theorem runs_refsign (x : List B8) (n : Int) (d : List B8) (hx : x.length = 16) (hd : d.length = 32) : Runs T23 a31 [.agg (x.map w8), .int .i64 n, .agg (d.map w8)] (.sl false 16 68 (fl (upto (sigF x n d) 68))) := by
  refine ⟨?_⟩
  have hld := len_digits hd
  simp (disch := first | omega | (simp [-List.map_take, -List.map_drop, -List.map_set, -List.map_append, -List.drop_one] <;> omega) | fail) [-List.map_take, -List.map_drop, -List.map_set, -List.map_append, -List.drop_one, a31, hx, hd, T23_refdigits, c_digits_eq]
  refine W_loop (S31 x n d) (fun i => 68 - i) (fun i => i ≤ 68) 0 (weak_same (by simp (disch := first | omega | (simp [-List.map_take, -List.map_drop, -List.map_set, -List.map_append, -List.drop_one] <;> omega) | fail) [-List.map_take, -List.map_drop, -List.map_set, -List.map_append, -List.drop_one, ownD, fl]) (by simp (disch := first | omega | (simp [-List.map_take, -List.map_drop, -List.map_set, -List.map_append, -List.drop_one] <;> omega) | fail) [-List.map_take, -List.map_drop, -List.map_set, -List.map_append, -List.drop_one, ownH, fl])) (by omega) (fun i hi => ?_)
  have hF := FN_upto (len_sigF x n d) i
  have hlen := len_flN hF
  rw [len_upto] at hlen
  have x16 : x.take 16 = x := List.take_of_length_le (by omega)
  simp (disch := first | omega | (simp [-List.map_take, -List.map_drop, -List.map_set, -List.map_append, -List.drop_one] <;> omega) | fail) [-List.map_take, -List.map_drop, -List.map_set, -List.map_append, -List.drop_one, a31L0, a31S0, S31]
  by_cases h : i < 68
  · have h1 : (i : Int) < 68 := by omega
    have hil : i < (digits d).length := by omega
    have l1 := len_secret n i x
    have e1 : climb (secret x n i) n i 0 (digits d)[i] = sigF x n d i := by rw [sigF, getD_get hil]
    have l2 := len_sigF x n d i
    have l3 : (sigF x n d i).take 16 = sigF x n d i := List.take_of_length_le (by omega)
    simp (disch := first | omega | (simp [-List.map_take, -List.map_drop, -List.map_set, -List.map_append, -List.drop_one] <;> omega) | fail) [-List.map_take, -List.map_drop, -List.map_set, -List.map_append, -List.drop_one, h1, hx, x16, hld, T23_refsecret, c_secret_eq, T23_refclimb, c_climb_eq, l1, e1, l2, l3, hlen, all_fl]
    refine ⟨i + 1, weak_same (by simp (disch := first | omega | (simp [-List.map_take, -List.map_drop, -List.map_set, -List.map_append, -List.drop_one] <;> omega) | fail) [-List.map_take, -List.map_drop, -List.map_set, -List.map_append, -List.drop_one, gD_succ, fl_snoc]) (by simp (disch := first | omega | (simp [-List.map_take, -List.map_drop, -List.map_set, -List.map_append, -List.drop_one] <;> omega) | fail) [-List.map_take, -List.map_drop, -List.map_set, -List.map_append, -List.drop_one, gH_succ, fl_snoc]), by omega, by omega⟩
  · have h1 : ¬ (i : Int) < 68 := by omega
    obtain rfl : i = 68 := by omega
    have hne := fl_ne hF (by rw [len_upto]; omega)
    have ht := take_flN hF (m := 1088) (by rw [len_upto]; omega)
    simp (disch := first | omega | (simp [-List.map_take, -List.map_drop, -List.map_set, -List.map_append, -List.drop_one] <;> omega) | fail) [-List.map_take, -List.map_drop, -List.map_set, -List.map_append, -List.drop_one, h1, ownD_ne hne, ownH_ne hne, hlen, ht, snap_fl]
def recF (sig : List (List B8)) (n : Int) (d : List B8) (i : Nat) : List B8 := climb (sig.getD i (rep 16 0#8)) n i ((digits d).getD i 0) 3
theorem len_recF {sig : List (List B8)} (h : FN 16 sig) (n : Int) (d : List B8) (i : Nat) : (recF sig n d i).length = 16 := by
  refine len_climb ?_
  rw [List.getD_eq_getElem?_getD]
  by_cases hi : i < sig.length
  · rw [List.getElem?_eq_getElem hi]; exact h _ (List.getElem_mem hi)
  · rw [List.getElem?_eq_none (by omega)]; rfl
/-- what Recover returns -/
def recD (sig : List (List B8)) (n : Int) (d : List B8) : DV := if sig.length = 68 then .tup [.agg ((combine n (upto (recF sig n d) 68)).map w8), .bool true] else .tup [.agg ((rep 16 0#8).map w8), .bool false]
def S25 (k : Option Bool) (sig : List (List B8)) (n : Int) (d : List B8) (i : Nat) : St := a25S0 (.int .i64 n) (hD k sig) (.mp 1 16 0) (gD 2 (recF sig n d) i) (.sl false 1 68 ((digits d).map (DV.int .i64))) (.int .i64 68) (.int .i64 i) (.cells (d.map w8) :: .cells ((rep 16 0#8).map w8) :: gH (recF sig n d) i)
set_option maxRecDepth 20000 in
theorem runs_recover (k : Option Bool) (sig : List (List B8)) (n : Int) (d : List B8) (hk : k = none → sig = []) (hs : FN 16 sig) (hd : d.length = 32) : Runs T23 a25 [.int .i64 n, .agg (d.map w8), hD k sig] (recD sig n d) := by
  refine ⟨?_⟩
  have hln : ∀ h, lenD h (hD k sig) = some (.int .i64 sig.length) := fun h => lenD_slD (fun e => by rw [hk e]; rfl)
  have hld := len_digits hd
  by_cases h68 : sig.length = 68
  case neg =>
    have h2 : ¬ ((sig.length : Int) = 68) := by omega
    simp (disch := first | omega | (simp [-List.map_take, -List.map_drop, -List.map_set, -List.map_append, -List.drop_one] <;> omega) | fail) [-List.map_take, -List.map_drop, -List.map_set, -List.map_append, -List.drop_one, a25, hd, hln, h2, recD, h68]
  cases k with
  | none => simp [hk rfl] at h68
  | some f =>
  simp (disch := first | omega | (simp [-List.map_take, -List.map_drop, -List.map_set, -List.map_append, -List.drop_one] <;> omega) | fail) [-List.map_take, -List.map_drop, -List.map_set, -List.map_append, -List.drop_one, a25, hd, hln, h68, T23_digits, c_digits_eq]
  refine W_loop (S25 (some f) sig n d) (fun i => 68 - i) (fun i => i ≤ 68) 0 (weak_same (by simp (disch := first | omega | (simp [-List.map_take, -List.map_drop, -List.map_set, -List.map_append, -List.drop_one] <;> omega) | fail) [-List.map_take, -List.map_drop, -List.map_set, -List.map_append, -List.drop_one, ownD, fl]) (by simp (disch := first | omega | (simp [-List.map_take, -List.map_drop, -List.map_set, -List.map_append, -List.drop_one] <;> omega) | fail) [-List.map_take, -List.map_drop, -List.map_set, -List.map_append, -List.drop_one, ownH, fl])) (by omega) (fun i hi => ?_)
  have hF := FN_upto (len_recF hs n d) i
  have hlen := len_flN hF
  rw [len_upto] at hlen
  simp (disch := first | omega | (simp [-List.map_take, -List.map_drop, -List.map_set, -List.map_append, -List.drop_one] <;> omega) | fail) [-List.map_take, -List.map_drop, -List.map_set, -List.map_append, -List.drop_one, a25L0, a25S0, S25, slD_some]
  by_cases h : i < 68
  · have h1 : (i : Int) < 68 := by omega
    have his : i < sig.length := by omega
    have hil : i < (digits d).length := by omega
    have hg := get_flN hs his
    have l1 : sig[i].length = 16 := hs _ (List.getElem_mem his)
    have e1 : climb sig[i] n i (digits d)[i] 3 = recF sig n d i := by rw [recF, getD_get hil, getD_get his]
    have l2 := len_recF hs n d i
    have l3 : (recF sig n d i).take 16 = recF sig n d i := List.take_of_length_le (by omega)
    simp (disch := first | omega | (simp [-List.map_take, -List.map_drop, -List.map_set, -List.map_append, -List.drop_one] <;> omega) | fail) [-List.map_take, -List.map_drop, -List.map_set, -List.map_append, -List.drop_one, h1, h68, hld, hg, T23_climb, c_climb_eq, l1, e1, l2, l3, hlen, all_fl]
    refine ⟨i + 1, weak_same (by simp (disch := first | omega | (simp [-List.map_take, -List.map_drop, -List.map_set, -List.map_append, -List.drop_one] <;> omega) | fail) [-List.map_take, -List.map_drop, -List.map_set, -List.map_append, -List.drop_one, gD_succ, fl_snoc, slD_some, h68]) (by simp (disch := first | omega | (simp [-List.map_take, -List.map_drop, -List.map_set, -List.map_append, -List.drop_one] <;> omega) | fail) [-List.map_take, -List.map_drop, -List.map_set, -List.map_append, -List.drop_one, gH_succ, fl_snoc]), by omega, by omega⟩
  · have h1 : ¬ (i : Int) < 68 := by omega
    obtain rfl : i = 68 := by omega
    have hne := fl_ne hF (by rw [len_upto]; omega)
    have hc := c_combine_upto (n := n) hF
    have ht := take_flN hF (m := 1088) (by rw [len_upto]; omega)
    simp (disch := first | omega | (simp [-List.map_take, -List.map_drop, -List.map_set, -List.map_append, -List.drop_one] <;> omega) | fail) [-List.map_take, -List.map_drop, -List.map_set, -List.map_append, -List.drop_one, h1, ownD_ne hne, ownH_ne hne, hlen, T23_combine, hc, ht, snap_fl, recD, h68]
def S26 (k : Option Bool) (sig : List (List B8)) (n : Int) (d : List B8) (i : Nat) : St := a26S0 (.int .i64 n) (hD k sig) (.mp 1 16 0) (.sl false 1 68 ((digits d).map (DV.int .i64))) (gD 2 (recF sig n d) i) (.int .i64 i) (.cells (d.map w8) :: .cells ((rep 16 0#8).map w8) :: gH (recF sig n d) i)
set_option maxRecDepth 20000 in
theorem runs_refrecover (k : Option Bool) (sig : List (List B8)) (n : Int) (d : List B8) (hk : k = none → sig = []) (hs : FN 16 sig) (hd : d.length = 32) : Runs T23 a26 [.int .i64 n, .agg (d.map w8), hD k sig] (recD sig n d) := by
  refine ⟨?_⟩
  have hln : ∀ h, lenD h (hD k sig) = some (.int .i64 sig.length) := fun h => lenD_slD (fun e => by rw [hk e]; rfl)
  have hld := len_digits hd
  by_cases h68 : sig.length = 68
  case neg =>
    have h2 : ¬ ((sig.length : Int) = 68) := by omega
    simp (disch := first | omega | (simp [-List.map_take, -List.map_drop, -List.map_set, -List.map_append, -List.drop_one] <;> omega) | fail) [-List.map_take, -List.map_drop, -List.map_set, -List.map_append, -List.drop_one, a26, hd, hln, h2, recD, h68]
  cases k with
  | none => simp [hk rfl] at h68
  | some f =>
  simp (disch := first | omega | (simp [-List.map_take, -List.map_drop, -List.map_set, -List.map_append, -List.drop_one] <;> omega) | fail) [-List.map_take, -List.map_drop, -List.map_set, -List.map_append, -List.drop_one, a26, hd, hln, h68, T23_refdigits, c_digits_eq]
  refine W_loop (S26 (some f) sig n d) (fun i => 68 - i) (fun i => i ≤ 68) 0 (weak_same (by simp (disch := first | omega | (simp [-List.map_take, -List.map_drop, -List.map_set, -List.map_append, -List.drop_one] <;> omega) | fail) [-List.map_take, -List.map_drop, -List.map_set, -List.map_append, -List.drop_one, ownD, fl]) (by simp (disch := first | omega | (simp [-List.map_take, -List.map_drop, -List.map_set, -List.map_append, -List.drop_one] <;> omega) | fail) [-List.map_take, -List.map_drop, -List.map_set, -List.map_append, -List.drop_one, ownH, fl])) (by omega) (fun i hi => ?_)
  have hF := FN_upto (len_recF hs n d) i
  have hlen := len_flN hF
  rw [len_upto] at hlen
  simp (disch := first | omega | (simp [-List.map_take, -List.map_drop, -List.map_set, -List.map_append, -List.drop_one] <;> omega) | fail) [-List.map_take, -List.map_drop, -List.map_set, -List.map_append, -List.drop_one, a26L0, a26S0, S26, slD_some]
  by_cases h : i < 68
  · have h1 : (i : Int) < 68 := by omega
    have his : i < sig.length := by omega
    have hil : i < (digits d).length := by omega
    have hg := get_flN hs his
    have l1 : sig[i].length = 16 := hs _ (List.getElem_mem his)
    have e1 : climb sig[i] n i (digits d)[i] 3 = recF sig n d i := by rw [recF, getD_get hil, getD_get his]
    have l2 := len_recF hs n d i
    have l3 : (recF sig n d i).take 16 = recF sig n d i := List.take_of_length_le (by omega)
    simp (disch := first | omega | (simp [-List.map_take, -List.map_drop, -List.map_set, -List.map_append, -List.drop_one] <;> omega) | fail) [-List.map_take, -List.map_drop, -List.map_set, -List.map_append, -List.drop_one, h1, h68, hld, hg, T23_refclimb, c_climb_eq, l1, e1, l2, l3, hlen, all_fl]
    refine ⟨i + 1, weak_same (by simp (disch := first | omega | (simp [-List.map_take, -List.map_drop, -List.map_set, -List.map_append, -List.drop_one] <;> omega) | fail) [-List.map_take, -List.map_drop, -List.map_set, -List.map_append, -List.drop_one, gD_succ, fl_snoc, slD_some, h68]) (by simp (disch := first | omega | (simp [-List.map_take, -List.map_drop, -List.map_set, -List.map_append, -List.drop_one] <;> omega) | fail) [-List.map_take, -List.map_drop, -List.map_set, -List.map_append, -List.drop_one, gH_succ, fl_snoc]), by omega, by omega⟩
  · have h1 : ¬ (i : Int) < 68 := by omega
    obtain rfl : i = 68 := by omega
    have hne := fl_ne hF (by rw [len_upto]; omega)
    have hc := c_combine_upto (n := n) hF
    have ht := take_flN hF (m := 1088) (by rw [len_upto]; omega)
    simp (disch := first | omega | (simp [-List.map_take, -List.map_drop, -List.map_set, -List.map_append, -List.drop_one] <;> omega) | fail) [-List.map_take, -List.map_drop, -List.map_set, -List.map_append, -List.drop_one, h1, ownD_ne hne, ownH_ne hne, hlen, T23_refcombine, hc, ht, snap_fl, recD, h68]
def S29 (l : List (List B8)) (i : Nat) : St := a29S0 (.sl false 16 68 (fl l)) (.sl false 16 68 (fl l)) (.int .i64 i) []
set_option maxRecDepth 20000 in
theorem runs_same (l : List (List B8)) (hl : FN 16 l) (h68 : l.length = 68) : Runs tbl0 a29 [.sl false 16 68 (fl l), .sl false 16 68 (fl l)] (.bool true) := by
  refine ⟨?_⟩
  simp (disch := first | omega | (simp [-List.map_take, -List.map_drop, -List.map_set, -List.map_append, -List.drop_one] <;> omega) | fail) [-List.map_take, -List.map_drop, -List.map_set, -List.map_append, -List.drop_one, a29]
  refine W_loop (S29 l) (fun i => 68 - i) (fun i => i ≤ 68) 0 (weak_same (by simp (disch := first | omega | (simp [-List.map_take, -List.map_drop, -List.map_set, -List.map_append, -List.drop_one] <;> omega) | fail) [-List.map_take, -List.map_drop, -List.map_set, -List.map_append, -List.drop_one]) (by simp (disch := first | omega | (simp [-List.map_take, -List.map_drop, -List.map_set, -List.map_append, -List.drop_one] <;> omega) | fail) [-List.map_take, -List.map_drop, -List.map_set, -List.map_append, -List.drop_one])) (by omega) (fun i hi => ?_)
  simp (disch := first | omega | (simp [-List.map_take, -List.map_drop, -List.map_set, -List.map_append, -List.drop_one] <;> omega) | fail) [-List.map_take, -List.map_drop, -List.map_set, -List.map_append, -List.drop_one, a29L0, a29S0, S29]
  by_cases h : i < 68
  · have h1 : (i : Int) < 68 := by omega
    have his : i < l.length := by omega
    have hg := get_flN hl his
    have l1 : l[i].length = 16 := hl _ (List.getElem_mem his)
    simp (disch := first | omega | (simp [-List.map_take, -List.map_drop, -List.map_set, -List.map_append, -List.drop_one] <;> omega) | fail) [-List.map_take, -List.map_drop, -List.map_set, -List.map_append, -List.drop_one, h1, hg, l1]
    refine ⟨i + 1, weak_same (by simp (disch := first | omega | (simp [-List.map_take, -List.map_drop, -List.map_set, -List.map_append, -List.drop_one] <;> omega) | fail) [-List.map_take, -List.map_drop, -List.map_set, -List.map_append, -List.drop_one]) (by simp (disch := first | omega | (simp [-List.map_take, -List.map_drop, -List.map_set, -List.map_append, -List.drop_one] <;> omega) | fail) [-List.map_take, -List.map_drop, -List.map_set, -List.map_append, -List.drop_one]), by omega, by omega⟩
  · have h1 : ¬ (i : Int) < 68 := by omega
    simp (disch := first | omega | (simp [-List.map_take, -List.map_drop, -List.map_set, -List.map_append, -List.drop_one] <;> omega) | fail) [-List.map_take, -List.map_drop, -List.map_set, -List.map_append, -List.drop_one, h1]
end Go.Proofs.Ythkcgeokfcbllaa
