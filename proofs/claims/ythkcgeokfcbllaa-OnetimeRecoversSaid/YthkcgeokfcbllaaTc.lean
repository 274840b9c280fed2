/-
  The law DigestHalves.
-/
import Derived.Test.YthkcgeokfcbllaaTb
set_option linter.unusedSimpArgs false
set_option linter.unusedVariables false
namespace Go.Proofs.Ythkcgeokfcbllaa
open Go Go.Am

theorem cat_inj : ∀ {l l' : List Part}, (∀ p ∈ l, WfP p) → (∀ p ∈ l', WfP p) → l.map partD = l'.map partD → cat l = cat l'
  | [], [], _, _, _ => rfl
  | [], _ :: _, _, _, e => by simp at e
  | _ :: _, [], _, _, e => by simp at e
  | p :: l, q :: l', h, h', e => by
    simp only [List.map_cons, List.cons.injEq] at e
    have e1 : p.2 = q.2 := bD_inj (h p (by simp)) (h' q (by simp)) e.1
    have e2 := cat_inj (fun r hr => h r (by simp [hr])) (fun r hr => h' r (by simp [hr])) e.2
    unfold cat at *
    rw [List.flatMap_cons, List.flatMap_cons, e1, e2]
abbrev HalfA (a : Option Bool × List Part) : Prop := (a.1 = none → a.2 = []) ∧ (∀ p ∈ a.2, WfP p) ∧ (cat a.2).length ≤ 1000000 ∧ a.2.length ≤ 1000000
theorem parts_inj {k k' : Option Bool} {l l' : List Part} (h : HalfA (k, l)) (h' : HalfA (k', l')) (e : slD k 1 l.length (l.map partD) = slD k' 1 l'.length (l'.map partD)) : cat l = cat l' := by
  cases k with
  | none =>
    cases k' with
    | none =>
      have e1 : l = [] := h.1 rfl
      have e2 : l' = [] := h'.1 rfl
      rw [e1, e2]
    | some f => simp [slD] at e
  | some f =>
    cases k' with
    | none => simp [slD] at e
    | some f' =>
      simp only [slD, DV.sl.injEq] at e
      exact cat_inj h.2.1 h'.2.1 e.2.2.2
noncomputable def c_half : List DV → Option DV := con HalfA (fun a => [slD a.1 1 a.2.length (a.2.map partD)]) (fun a => .agg ((half (cat a.2)).map w8))
theorem c_half_eq {k : Option Bool} {l : List Part} (h : HalfA (k, l)) : c_half [slD k 1 l.length (l.map partD)] = some (.agg ((half (cat l)).map w8)) :=
  con_eq' (A := HalfA) (f := fun a => [slD a.1 1 a.2.length (a.2.map partD)]) (g := fun a => .agg ((half (cat a.2)).map w8)) (a := (k, l)) (by rintro ⟨a, b⟩ ⟨c, d⟩ h1 h2 e; rw [parts_inj h1 h2 (by simpa using e)]) h
/-- a call with parts that are given one by one -/
theorem c_half_lit {f : Bool} {n : Nat} {cs : List DV} {b : List B8} (l : List Part) (hw : ∀ p ∈ l, WfP p) (hb : cat l = b) (hlen : b.length ≤ 1000000) (hn : l.length = n) (hn' : n ≤ 1000000) (hcs : l.map partD = cs) : c_half [.sl f 1 n cs] = some (.agg ((half b).map w8)) := by
  subst hb hn hcs
  exact c_half_eq (k := some f) ⟨by simp, hw, hlen, hn'⟩
noncomputable def T10 : Tbl := addT 39 (.pure c_half) (addT 52 (.pure c_half) T7)
theorem T10_half : T10 39 = .pure c_half := by simp [T10]
theorem T10_refhalf : T10 52 = .pure c_half := by simp [T10]
theorem T10_sum : T10 33 = .pure c_sum := by simp [T10, T7, T6]
theorem T10_awake : T10 32 = .pure c_true := by simp [T10, T7]
theorem T10_sound : T10.Sound P := addT_sound (con_sound fun a h => sem_half a.1 a.2 h.1 h.2.1 h.2.2.1 h.2.2.2) (addT_sound (con_sound fun a h => sem_refhalf a.1 a.2 h.1 h.2.1 h.2.2.1 h.2.2.2) T7_sound)

theorem half_get (b : List B8) (i : Nat) (h : i < 16) : (half b)[i]'(by simpa using h) = (sum b)[i]'(by simp; omega) := by simp [half]
def S11a (k : Option Bool) (l : List Part) (i : Nat) : St :=
  a11S0 (slD k 1 l.length (l.map partD)) (ownD 0 1 .nils (cat (l.take i)).length ((cat (l.take i)).map w8)) (.int .i64 i) (ownH ((cat (l.take i)).map w8))
def S11b (x3 : DV) (pre : List AObj) (b : List B8) (i : Nat) : St :=
  a11S1 x3 (.mp pre.length 16 0) (.mp (pre.length + 1) 32 0) (.int .i64 i) (pre ++ [.cells ((half b).map w8), .cells ((sum b).map w8)])
set_option maxRecDepth 20000 in
theorem halves_tail (b : List B8) (hb : b.length ≤ 1000000) (x3 : DV) (pre : List AObj) (hp : (b = [] ∧ x3 = .nils ∧ pre = []) ∨ (x3 = .ms 0 b.length 0 1 b.length b.length ∧ pre = [.cells (b.map w8)])) (st : St) (hst : Weak 0 st (S11b x3 pre b 0)) :
    W T10 0 (.loop a11L1) (blockK 2 (seqK T10 0 (tailC 6 a11.code) (retK a11.res (.bool true)))) st := by
  refine W_loop (S11b x3 pre b) (fun i => 16 - i) (fun i => i ≤ 16) 0 hst (by omega) (fun i hi => ?_)
  rcases hp with ⟨rfl, rfl, rfl⟩ | ⟨rfl, rfl⟩
  · simp (disch := first | omega | (simp [-List.map_take, -List.map_drop, -List.map_set, -List.map_append, -List.drop_one] <;> omega) | fail) [-List.map_take, -List.map_drop, -List.map_set, -List.map_append, -List.drop_one, a11L1, a11S1, S11b, tailC, a11]
    by_cases h : i < 16
    · have h1 : (i : Int) < 16 := by omega
      have e := half_get [] i h
      simp (disch := first | omega | (simp [-List.map_take, -List.map_drop, -List.map_set, -List.map_append, -List.drop_one] <;> omega) | fail) [-List.map_take, -List.map_drop, -List.map_set, -List.map_append, -List.drop_one, h1, e]
      refine ⟨i + 1, weak_same (by simp (disch := first | omega | (simp [-List.map_take, -List.map_drop, -List.map_set, -List.map_append, -List.drop_one] <;> omega) | fail) [-List.map_take, -List.map_drop, -List.map_set, -List.map_append, -List.drop_one]) (by simp (disch := first | omega | (simp [-List.map_take, -List.map_drop, -List.map_set, -List.map_append, -List.drop_one] <;> omega) | fail) [-List.map_take, -List.map_drop, -List.map_set, -List.map_append, -List.drop_one]), by omega, by omega⟩
    · have h1 : ¬ (i : Int) < 16 := by omega
      obtain rfl : i = 16 := by omega
      have hc := c_half_lit (f := true) (n := 1) (cs := [.nils]) (b := []) [(none, [])] (by simp [WfP]) rfl (by simp) rfl (by omega) rfl
      simp (disch := first | omega | (simp [-List.map_take, -List.map_drop, -List.map_set, -List.map_append, -List.drop_one] <;> omega) | fail) [-List.map_take, -List.map_drop, -List.map_set, -List.map_append, -List.drop_one, h1, T10_awake, c_true_eq, T10_half, hc]
  · simp (disch := first | omega | (simp [-List.map_take, -List.map_drop, -List.map_set, -List.map_append, -List.drop_one] <;> omega) | fail) [-List.map_take, -List.map_drop, -List.map_set, -List.map_append, -List.drop_one, a11L1, a11S1, S11b, tailC, a11]
    by_cases h : i < 16
    · have h1 : (i : Int) < 16 := by omega
      have e := half_get b i h
      simp (disch := first | omega | (simp [-List.map_take, -List.map_drop, -List.map_set, -List.map_append, -List.drop_one] <;> omega) | fail) [-List.map_take, -List.map_drop, -List.map_set, -List.map_append, -List.drop_one, h1, e]
      refine ⟨i + 1, weak_same (by simp (disch := first | omega | (simp [-List.map_take, -List.map_drop, -List.map_set, -List.map_append, -List.drop_one] <;> omega) | fail) [-List.map_take, -List.map_drop, -List.map_set, -List.map_append, -List.drop_one]) (by simp (disch := first | omega | (simp [-List.map_take, -List.map_drop, -List.map_set, -List.map_append, -List.drop_one] <;> omega) | fail) [-List.map_take, -List.map_drop, -List.map_set, -List.map_append, -List.drop_one]), by omega, by omega⟩
    · have h1 : ¬ (i : Int) < 16 := by omega
      obtain rfl : i = 16 := by omega
      have hc := c_half_lit (f := true) (n := 1) (cs := [.sl false 1 b.length (b.map w8)]) (b := b) [(some false, b)] (by simp [WfP]) (by simp [cat]) hb rfl (by omega) rfl
      simp (disch := first | omega | (simp [-List.map_take, -List.map_drop, -List.map_set, -List.map_append, -List.drop_one] <;> omega) | fail) [-List.map_take, -List.map_drop, -List.map_set, -List.map_append, -List.drop_one, h1, T10_awake, c_true_eq, T10_half, hc]
set_option maxRecDepth 20000 in
theorem runs_halves (k : Option Bool) (l : List Part) (hk : k = none → l = []) (hw : ∀ p ∈ l, WfP p) : Runs T10 a11 [slD k 1 l.length (l.map partD)] (.bool true) := by
  refine ⟨?_⟩
  have hln : ∀ h, lenD h (slD k 1 l.length (l.map partD)) = some (.int .i64 l.length) := fun h => lenD_slD (fun e => by rw [hk e]; rfl)
  have hp : pureD (slD k 1 l.length (l.map partD)) = true := pure_slD pure_parts
  by_cases hl : l.length ≤ 50
  · have h1 : ¬ (50 : Int) < l.length := by omega
    simp (disch := first | omega | (simp [-List.map_take, -List.map_drop, -List.map_set, -List.map_append, -List.drop_one] <;> omega) | fail) [-List.map_take, -List.map_drop, -List.map_set, -List.map_append, -List.drop_one, a11, hln, h1]
    refine W_loop (S11a k l) (fun i => l.length - i) (fun i => i ≤ l.length ∧ (cat (l.take i)).length ≤ 1000 * i) 0 (weak_same (by simp (disch := first | omega | (simp [-List.map_take, -List.map_drop, -List.map_set, -List.map_append, -List.drop_one] <;> omega) | fail) [-List.map_take, -List.map_drop, -List.map_set, -List.map_append, -List.drop_one, cat, ownD]) (by simp (disch := first | omega | (simp [-List.map_take, -List.map_drop, -List.map_set, -List.map_append, -List.drop_one] <;> omega) | fail) [-List.map_take, -List.map_drop, -List.map_set, -List.map_append, -List.drop_one, cat, ownH])) (by simp [cat]) (fun i ⟨hi, hi2⟩ => ?_)
    simp (disch := first | omega | (simp [-List.map_take, -List.map_drop, -List.map_set, -List.map_append, -List.drop_one] <;> omega) | fail) [-List.map_take, -List.map_drop, -List.map_set, -List.map_append, -List.drop_one, a11L0, a11S0, S11a, hln]
    by_cases h : i < l.length
    · have h1 : (i : Int) < l.length := by omega
      have hwi := hw _ (List.getElem_mem h)
      have hv : ∀ h', visY h' (partD l[i]) = some (l[i].2.length, l[i].2.map w8) := fun h' => visY_bD hwi
      have hv2 : ∀ h', lenD h' (partD l[i]) = some (.int .i64 l[i].2.length) := fun h' => lenD_bD hwi
      have hc := cat_succ h
      cases k with
      | none => simp [hk rfl] at h
      | some f =>
        by_cases h2 : l[i].2.length ≤ 1000
        · have h3 : ¬ (1000 : Int) < l[i].2.length := by omega
          simp (disch := first | omega | (simp [-List.map_take, -List.map_drop, -List.map_set, -List.map_append, -List.drop_one] <;> omega) | fail) [-List.map_take, -List.map_drop, -List.map_set, -List.map_append, -List.drop_one, h1, h, slD_some, hv, hv2, h3]
          refine ⟨i + 1, weak_same (by simp (disch := first | omega | (simp [-List.map_take, -List.map_drop, -List.map_set, -List.map_append, -List.drop_one] <;> omega) | fail) [-List.map_take, -List.map_drop, -List.map_set, -List.map_append, -List.drop_one, slD_some, hc]) (by simp (disch := first | omega | (simp [-List.map_take, -List.map_drop, -List.map_set, -List.map_append, -List.drop_one] <;> omega) | fail) [-List.map_take, -List.map_drop, -List.map_set, -List.map_append, -List.drop_one, hc]), by omega, by omega, by rw [hc, List.length_append]; omega⟩
        · have h3 : (1000 : Int) < l[i].2.length := by omega
          simp (disch := first | omega | (simp [-List.map_take, -List.map_drop, -List.map_set, -List.map_append, -List.drop_one] <;> omega) | fail) [-List.map_take, -List.map_drop, -List.map_set, -List.map_append, -List.drop_one, h1, h, slD_some, hv, hv2, h3]
    · have h1 : ¬ (i : Int) < l.length := by omega
      obtain rfl : i = l.length := by omega
      rw [List.take_length] at hi2
      have hh := c_half_eq (k := k) (l := l) ⟨hk, hw, (by omega : (cat l).length ≤ 1000000), (by omega : l.length ≤ 1000000)⟩
      by_cases hc : cat l = []
      · simp (disch := first | omega | (simp [-List.map_take, -List.map_drop, -List.map_set, -List.map_append, -List.drop_one] <;> omega) | fail) [-List.map_take, -List.map_drop, -List.map_set, -List.map_append, -List.drop_one, h1, hc, ownD_nil, ownH_nil, T10_half, T10_sum, hh, hp, c_sum_nils]
        exact halves_tail [] (by simp) .nils [] (.inl ⟨rfl, rfl, rfl⟩) _ (weak_same (by simp (disch := first | omega | (simp [-List.map_take, -List.map_drop, -List.map_set, -List.map_append, -List.drop_one] <;> omega) | fail) [-List.map_take, -List.map_drop, -List.map_set, -List.map_append, -List.drop_one]) (by simp (disch := first | omega | (simp [-List.map_take, -List.map_drop, -List.map_set, -List.map_append, -List.drop_one] <;> omega) | fail) [-List.map_take, -List.map_drop, -List.map_set, -List.map_append, -List.drop_one]))
      · have hc' : (cat l).map w8 ≠ [] := by simp [hc]
        simp (disch := first | omega | (simp [-List.map_take, -List.map_drop, -List.map_set, -List.map_append, -List.drop_one] <;> omega) | fail) [-List.map_take, -List.map_drop, -List.map_set, -List.map_append, -List.drop_one, h1, ownD_ne hc', ownH_ne hc', T10_half, T10_sum, hh, hp, c_sum_sl]
        exact halves_tail (cat l) (by omega) _ _ (.inr ⟨rfl, rfl⟩) _ (weak_same (by simp (disch := first | omega | (simp [-List.map_take, -List.map_drop, -List.map_set, -List.map_append, -List.drop_one] <;> omega) | fail) [-List.map_take, -List.map_drop, -List.map_set, -List.map_append, -List.drop_one]) (by simp (disch := first | omega | (simp [-List.map_take, -List.map_drop, -List.map_set, -List.map_append, -List.drop_one] <;> omega) | fail) [-List.map_take, -List.map_drop, -List.map_set, -List.map_append, -List.drop_one]))
  · have h1 : (50 : Int) < l.length := by omega
    simp (disch := first | omega | (simp [-List.map_take, -List.map_drop, -List.map_set, -List.map_append, -List.drop_one] <;> omega) | fail) [-List.map_take, -List.map_drop, -List.map_set, -List.map_append, -List.drop_one, a11, hln, h1]
theorem sem_halves (k : Option Bool) (l : List Part) (hk : k = none → l = []) (hw : ∀ p ∈ l, WfP p) : Am.Sem P 11 [slD k 1 l.length (l.map partD)] (.bool true) := sem_runs mix T10_sound Try.func11 a11_ok (runs_halves k l hk hw)
namespace digestHalves
theorem law_holds (dvs : List DV) (h : Ty.Args [.sl (.sl (.int .u8))] dvs) : Am.Sem P 11 dvs (.bool true) := by
  obtain ⟨ds, l, rfl, h1, rfl⟩ := h
  obtain ⟨k, b, hk, hw, rfl⟩ := ok_sl (f := fun p : Part => [partD p]) (R := WfP) (fun ds h => by
    obtain ⟨k, b, hk, rfl⟩ := ok_bytes h
    exact ⟨(k, b), hk, rfl⟩) h1
  rw [flatMap_one]
  exact sem_halves k b hk hw
end digestHalves
end Go.Proofs.Ythkcgeokfcbllaa
