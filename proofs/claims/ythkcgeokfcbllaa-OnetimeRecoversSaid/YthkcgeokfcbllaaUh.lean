/-
  Lists of halves; Combine, of the program and of the reference.
-/
import Derived.Test.YthkcgeokfcbllaaUg
import Derived.Test.YthkcgeokfcbllaaTd
set_option linter.unusedSimpArgs false
set_option linter.unusedVariables false
namespace Go.Proofs.Ythkcgeokfcbllaa
open Go Go.Am

abbrev FN (n : Nat) (l : List (List B8)) : Prop := ∀ a ∈ l, a.length = n
theorem len_flN {n : Nat} : ∀ {l : List (List B8)}, FN n l → (fl l).length = l.length * n
  | [], _ => by simp [fl]
  | a :: l, h => by
    rw [fl_cons, List.length_append, List.length_map, h a (by simp), len_flN (fun b hb => h b (by simp [hb])), List.length_cons, Nat.add_mul]
    omega
theorem drop_flN {n : Nat} : ∀ {l : List (List B8)}, FN n l → ∀ i, (fl l).drop (i * n) = fl (l.drop i)
  | [], _, i => by simp [fl]
  | a :: l, h, 0 => by simp [fl]
  | a :: l, h, i + 1 => by
    have ha := h a (by simp)
    have e : (i + 1) * n - n = i * n := by rw [Nat.add_mul]; omega
    have e2 : n ≤ (i + 1) * n := by rw [Nat.add_mul]; omega
    rw [fl_cons, List.drop_append, List.drop_of_length_le (by rw [List.length_map]; omega), List.length_map, ha, e, drop_flN (fun b hb => h b (by simp [hb])), List.nil_append, List.drop_succ_cons]
theorem get_flN {n : Nat} {l : List (List B8)} (h : FN n l) {i : Nat} (hi : i < l.length) : ((fl l).drop (i * n)).take n = l[i].map w8 := by
  rw [drop_flN h, List.drop_eq_getElem_cons hi, fl_cons, List.take_append_of_le_length (by rw [List.length_map, h _ (List.getElem_mem hi)]; omega)]
  exact List.take_of_length_le (by rw [List.length_map, h _ (List.getElem_mem hi)]; omega)
theorem fl_append (l r : List (List B8)) : fl (l ++ r) = fl l ++ fl r := by simp [fl]
theorem fl_one (a : List B8) : fl [a] = a.map w8 := by simp [fl]
theorem fl_flat : ∀ (l : List (List B8)), fl l = l.flatten.map w8
  | [] => rfl
  | a :: l => by rw [fl_cons, fl_flat l, List.flatten_cons, List.map_append]
theorem FN_take {n : Nat} {l : List (List B8)} (h : FN n l) (i : Nat) : FN n (l.take i) := fun a ha => h a (List.mem_of_mem_take ha)
theorem len_flatN {n : Nat} {l : List (List B8)} (h : FN n l) : l.flatten.length = l.length * n := by
  have := len_flN h
  rwa [fl_flat, List.length_map] at this
theorem flat_inj {n : Nat} (hn : 0 < n) : ∀ {l l' : List (List B8)}, FN n l → FN n l' → fl l = fl l' → l = l'
  | [], [], _, _, _ => rfl
  | [], b :: l', _, h', e => by
    have := congrArg List.length e
    rw [len_flN h'] at this
    have h0 : 0 < (b :: l').length * n := Nat.mul_pos (by simp) hn
    simp only [fl, List.flatMap_nil, List.length_nil] at this
    omega
  | a :: l, [], h, _, e => by
    have := congrArg List.length e
    rw [len_flN h] at this
    have h0 : 0 < (a :: l).length * n := Nat.mul_pos (by simp) hn
    simp only [fl, List.flatMap_nil, List.length_nil] at this
    omega
  | a :: l, b :: l', h, h', e => by
    rw [fl_cons, fl_cons] at e
    have h1 := List.append_inj e (by rw [List.length_map, List.length_map, h a (by simp), h' b (by simp)])
    rw [map_inj_w8] at h1
    rw [h1.1, flat_inj hn (fun c hc => h c (by simp [hc])) (fun c hc => h' c (by simp [hc])) h1.2]
abbrev hD (k : Option Bool) (l : List (List B8)) : DV := slD k 16 l.length (fl l)
theorem hD_inj {k k' : Option Bool} {l l' : List (List B8)} (hk : k = none → l = []) (hk' : k' = none → l' = []) (h : FN 16 l) (h' : FN 16 l') (e : hD k l = hD k' l') : l = l' := by
  cases k with
  | none =>
    cases k' with
    | none => rw [hk rfl, hk' rfl]
    | some f => simp [slD] at e
  | some f =>
    cases k' with
    | none => simp [slD] at e
    | some f' =>
      simp only [slD, DV.sl.injEq] at e
      exact flat_inj (by decide) h h' e.2.2.2

theorem below_fl {m : Nat} (l : List (List B8)) : belowL m (fl l) = true := by rw [fl_flat]; exact belowL_w8
def cmb (n : Int) (l : List (List B8)) : List B8 := 5#8 :: (two n ++ l.flatten)
def combine (n : Int) (l : List (List B8)) : List B8 := half (cmb n l)
theorem len_cmb {n : Int} {l : List (List B8)} (h : FN 16 l) : (cmb n l).length = 3 + 16 * l.length := by
  simp [cmb, two, len_flatN h]
  omega
theorem cmb_succ {n : Int} {l : List (List B8)} {i : Nat} (h : i < l.length) : cmb n (l.take (i + 1)) = cmb n (l.take i) ++ l[i] := by
  unfold cmb
  rw [List.take_add_one, List.getElem?_eq_getElem h, List.flatten_append]
  simp
theorem cmb_nil (n : Int) : cmb n [] = [5#8] ++ two n := by simp [cmb]
def S23 (n : Int) (k : Option Bool) (l : List (List B8)) (i : Nat) : St :=
  a23S0 (.mp 0 16 0) (.ms 1 (3 + 16 * i) 0 1 (3 + 16 * i) (3 + 16 * i)) (hD k l) (.int .i64 l.length) (.int .i64 i) [.cells ((rep 16 0#8).map w8), .cells ((cmb n (l.take i)).map w8)]
set_option maxRecDepth 20000 in
theorem runs_combine (n : Int) (k : Option Bool) (l : List (List B8)) (hk : k = none → l = []) (hl : FN 16 l) (hn : l.length ≤ 1000) : Runs T22 a23 [.int .i64 n, hD k l] (.agg ((combine n l).map w8)) := by
  refine ⟨?_⟩
  have hln : ∀ h, lenD h (hD k l) = some (.int .i64 l.length) := fun h => lenD_slD (fun e => by rw [hk e]; rfl)
  have ht : (two n).length = 2 := rfl
  simp (disch := first | omega | (simp [-List.map_take, -List.map_drop, -List.map_set, -List.map_append, -List.drop_one] <;> omega) | fail) [-List.map_take, -List.map_drop, -List.map_set, -List.map_append, -List.drop_one, a23, T22_two, c_two_eq, ht, hln]
  refine W_loop (S23 n k l) (fun i => l.length - i) (fun i => i ≤ l.length) 0 (weak_same (by simp (disch := first | omega | (simp [-List.map_take, -List.map_drop, -List.map_set, -List.map_append, -List.drop_one] <;> omega) | fail) [-List.map_take, -List.map_drop, -List.map_set, -List.map_append, -List.drop_one]) (by simp (disch := first | omega | (simp [-List.map_take, -List.map_drop, -List.map_set, -List.map_append, -List.drop_one] <;> omega) | fail) [-List.map_take, -List.map_drop, -List.map_set, -List.map_append, -List.drop_one, cmb_nil])) (by omega) (fun i hi => ?_)
  have hc := len_cmb (n := n) (FN_take hl i)
  rw [List.length_take_of_le hi] at hc
  simp (disch := first | omega | (simp [-List.map_take, -List.map_drop, -List.map_set, -List.map_append, -List.drop_one] <;> omega) | fail) [-List.map_take, -List.map_drop, -List.map_set, -List.map_append, -List.drop_one, a23L0, a23S0, S23]
  by_cases h : i < l.length
  · have h1 : (i : Int) < l.length := by omega
    have hg := get_flN hl h
    have h16 : l[i].length = 16 := hl _ (List.getElem_mem h)
    cases k with
    | none => simp [hk rfl] at h
    | some f =>
      have e5 : 3 + 16 * (i + 1) = 3 + 16 * i + 16 := by omega
      have h16t : (l[i]).take 16 = l[i] := List.take_of_length_le (by omega)
      simp (disch := first | omega | (simp [-List.map_take, -List.map_drop, -List.map_set, -List.map_append, -List.drop_one] <;> omega) | fail) [-List.map_take, -List.map_drop, -List.map_set, -List.map_append, -List.drop_one, h1, h, slD_some, hg, h16, h16t, hc]
      refine ⟨i + 1, ?_, by omega, by omega⟩
      refine weak_drop (tail := [.cells (l[i].map w8)]) (by simp (disch := first | omega | (simp [-List.map_take, -List.map_drop, -List.map_set, -List.map_append, -List.drop_one] <;> omega) | fail) [-List.map_take, -List.map_drop, -List.map_set, -List.map_append, -List.drop_one, e5, slD_some]) ?_ (by simp (disch := first | omega | (simp [-List.map_take, -List.map_drop, -List.map_set, -List.map_append, -List.drop_one] <;> omega) | fail) [-List.map_take, -List.map_drop, -List.map_set, -List.map_append, -List.drop_one, S23]) ?_ ?_
      · simp (disch := first | omega | (simp [-List.map_take, -List.map_drop, -List.map_set, -List.map_append, -List.drop_one] <;> omega) | fail) [-List.map_take, -List.map_drop, -List.map_set, -List.map_append, -List.drop_one, cmb_succ h]
      · simp (disch := first | omega | (simp [-List.map_take, -List.map_drop, -List.map_set, -List.map_append, -List.drop_one] <;> omega) | fail) [-List.map_take, -List.map_drop, -List.map_set, -List.map_append, -List.drop_one, belowL, below, slD_some, below_fl]
      · simp (disch := first | omega | (simp [-List.map_take, -List.map_drop, -List.map_set, -List.map_append, -List.drop_one] <;> omega) | fail) [-List.map_take, -List.map_drop, -List.map_set, -List.map_append, -List.drop_one, belowH, belowL, below]
  · have h1 : ¬ (i : Int) < l.length := by omega
    obtain rfl : i = l.length := by omega
    rw [List.take_length] at hc
    have hh := c_half_lit (f := true) (n := 1) (cs := [.sl false 1 (3 + 16 * l.length) ((cmb n l).map w8)]) (b := cmb n l) [(some false, cmb n l)] (by simp [WfP]) (by simp [cat]) (by omega) rfl (by omega) (by simp [partD, bD, slD, hc])
    have htk : (cmb n l).take (3 + 16 * l.length) = cmb n l := List.take_of_length_le (by omega)
    simp (disch := first | omega | (simp [-List.map_take, -List.map_drop, -List.map_set, -List.map_append, -List.drop_one] <;> omega) | fail) [-List.map_take, -List.map_drop, -List.map_set, -List.map_append, -List.drop_one, h1, T22_half, hc, htk, hh, combine]
end Go.Proofs.Ythkcgeokfcbllaa
