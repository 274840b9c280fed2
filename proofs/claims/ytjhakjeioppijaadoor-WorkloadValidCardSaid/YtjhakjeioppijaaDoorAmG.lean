/-
  The abstract machine, part 7: slice expressions, new variables, literals.
-/
import Derived.Test.YtjhakjeioppijaaDoorAmF
set_option linter.unusedSimpArgs false
set_option linter.unusedVariables false
namespace Go.Am
open Go.RowKit
section
variable {P : Program} {X0 : Forb} {base : Nat} {w : World} {h : List AObj} {E : Env}

/-- an operand that may be missing -/
def RepO (E : Env) (X : Forb) (w : World) (t : List DV) : Option Value → Option Opd → Prop
  | none, none => True
  | some v, some x => Rep E X w v (ev t x)
  | _, _ => False

theorem run_bound {t : List DV} {x : Opd} {v : Value} {i : Int} (hr : Rep E (FX X0 E) w v (ev t x)) (he : evI t x = some i) (y : Nat) (c : BoundsCode) (h0 : 0 ≤ i) (h1 : i ≤ y) : (Instr.sliceBound v y c).run P w = .ok i.toNat w := by
  obtain ⟨k, rfl⟩ := run_asIntOf hr he
  simp [Instr.sliceBound, asIntOf, h0, h1]

theorem run_bounds {t : List DV} {lo hi : Option Opd} {vl vh : Option Value} (hl : RepO E (FX X0 E) w t vl lo) (hh : RepO E (FX X0 E) w t vh hi) {n l h' : Nat} (hb : bounds t n lo hi = some (l, h')) (isS : Bool) (cap : Nat) (hc : n ≤ cap) :
    (Instr.sliceBounds isS n cap vl vh none).run P w = .ok (l, h', cap) w ∧ l ≤ h' ∧ h' ≤ n := by
  unfold bounds at hb
  simp only [Option.bind_eq_some_iff] at hb
  obtain ⟨hv, e1, lv, e2, e3⟩ := hb
  split at e3
  · rename_i hcond
    simp at e3
    obtain ⟨rfl, rfl⟩ := e3
    obtain ⟨c1, c2, c3⟩ := hcond
    refine ⟨?_, by omega, by omega⟩
    have hi' : (match (generalizing := false) vh, (none : Option Value) with
        | some v, some _ => Instr.sliceBound v cap .slice3B
        | some v, none => Instr.sliceBound v cap (if isS then .sliceAcap else .sliceAlen)
        | none, none => pure n
        | none, some _ => stuck "Slice: max without high" : Sem Nat).run P w = .ok hv.toNat w := by
      cases hi with
      | none => cases vh with
        | none => simp at e1; subst e1; simp
        | some _ => simp [RepO] at hh
      | some x => cases vh with
        | none => simp [RepO] at hh
        | some v => exact run_bound hh e1 _ _ (by omega) (by omega)
    have lo' : ∀ c, (match (generalizing := false) vl with
        | some v => Instr.sliceBound v hv.toNat c
        | none => pure 0 : Sem Nat).run P w = .ok lv.toNat w := by
      intro c
      cases lo with
      | none => cases vl with
        | none => simp at e2; subst e2; simp
        | some _ => simp [RepO] at hl
      | some x => cases vl with
        | none => simp [RepO] at hl
        | some v => exact run_bound hl e2 _ _ c1 (by omega)
    unfold Instr.sliceBounds
    simp only [Sem.run_bind, Sem.run_pure, Result.andThen_ok]
    have h1 := hi'
    cases vh <;> cases vl <;> simp_all
  · simp at e3

theorem mul_split {l h' n s : Nat} (h1 : l ≤ h') (h2 : h' ≤ n) : l * s + (h' - l) * s = h' * s ∧ h' * s ≤ n * s := by
  refine ⟨?_, Nat.mul_le_mul_right s h2⟩
  rw [← Nat.add_mul]; congr 1; omega

theorem slcS_nils (hh : HeapRel X0 base w h E) {t : TypeId} {e : TypeId} (ht : P.underlying t = some (.slice e)) {s : Nat} (hs : szT P e = some s) {vx : Value} (hx : Rep E (FX X0 E) w vx .nils) {ts : List DV} {lo hi : Option Opd} {vl vh : Option Value}
    (hl : RepO E (FX X0 E) w ts vl lo) (hr : RepO E (FX X0 E) w ts vh hi) {l h' : Nat} (hb : bounds ts 0 lo hi = some (l, h')) : Gives P X0 base E w (Instr.sliceAt t vx vl vh none) .nils h := by
  cases hx
  obtain ⟨g1, g2, g3⟩ := run_bounds (P := P) hl hr hb true 0 (Nat.le_refl _)
  refine gives_pure hh (v := .slice none 0 0) ?_ .nils
  have e1 : h' = 0 := by omega
  have e2 : l = 0 := by omega
  subst e1; subst e2
  simp [Instr.sliceAt, run_underlying ht, Instr.slice, g1, run_sizeOf1 hs]

theorem slcS_nils3 (hh : HeapRel X0 base w h E) {t : TypeId} {e : TypeId} (ht : P.underlying t = some (.slice e)) {s : Nat} (hs : szT P e = some s) {vx : Value} (hx : Rep E (FX X0 E) w vx .nils) {ts : List DV} {lo hi : Option Opd} {mx : Opd} {vl vh : Option Value} {vm : Value}
    (hl : RepO E (FX X0 E) w ts vl lo) (hr : RepO E (FX X0 E) w ts vh hi) (hm : Rep E (FX X0 E) w vm (ev ts mx)) (hsome : hi.isSome = true) {l h' : Nat} (hb : bounds ts 0 lo hi = some (l, h')) (he : evI ts mx = some 0) : Gives P X0 base E w (Instr.sliceAt t vx vl vh (some vm)) .nils h := by
  cases hx
  unfold bounds at hb
  simp only [Option.bind_eq_some_iff] at hb
  obtain ⟨hv, e1, lv, e2, e3⟩ := hb
  split at e3
  · rename_i hcond
    simp at e3
    obtain ⟨rfl, rfl⟩ := e3
    obtain ⟨c1, c2, c3⟩ := hcond
    cases hi with
    | none => simp at hsome
    | some xh =>
    cases vh with
    | none => simp [RepO] at hr
    | some vh =>
    have r1 : (Instr.sliceBound vm 0 .slice3Acap).run P w = .ok 0 w := by
      have := run_bound (P := P) hm he 0 .slice3Acap (by omega) (by omega)
      simpa using this
    have r2 : ∀ c, (Instr.sliceBound vh 0 c).run P w = .ok hv.toNat w := fun c => run_bound hr e1 _ _ (by omega) (by omega)
    have r3 : (Instr.sliceBounds true 0 0 vl (some vh) (some vm)).run P w = .ok (lv.toNat, hv.toNat, 0) w := by
      cases lo with
      | none => cases vl with
        | none => simp at e2; subst e2; simp [Instr.sliceBounds, r1, r2]
        | some _ => simp [RepO] at hl
      | some x => cases vl with
        | none => simp [RepO] at hl
        | some v =>
          have r4 : ∀ c, (Instr.sliceBound v hv.toNat c).run P w = .ok lv.toNat w := fun c => run_bound hl e2 _ _ (by omega) (by omega)
          simp [Instr.sliceBounds, r1, r2, r4]
    have q1 : hv.toNat = 0 := by omega
    have q2 : lv.toNat = 0 := by omega
    refine gives_pure hh (v := .slice none 0 0) ?_ .nils
    rw [q1, q2] at r3
    simp [Instr.sliceAt, run_underlying ht, Instr.slice, r3, run_sizeOf1 hs]
  · simp at e3

theorem slcS_sl (hh : HeapRel X0 base w h E) {t : TypeId} {e : TypeId} (ht : P.underlying t = some (.slice e)) {s : Nat} (hs : szT P e = some s) {vx : Value} {full : Bool} {n : Nat} {cs : List DV} (hx : Rep E (FX X0 E) w vx (.sl full s n cs)) {ts : List DV} {lo hi : Option Opd} {vl vh : Option Value}
    (hl : RepO E (FX X0 E) w ts vl lo) (hr : RepO E (FX X0 E) w ts vh hi) {l h' : Nat} (hb : bounds ts n lo hi = some (l, h')) :
    Gives P X0 base E w (Instr.sliceAt t vx vl vh none) (.sl (full && h' == n) s (h' - l) ((cs.drop (l * s)).take ((h' - l) * s))) h := by
  obtain ⟨a, cap, vs, rfl, hn, hf, hlen, hR, hc, hX⟩ := sl_inv hx
  obtain ⟨g1, g2, g3⟩ := run_bounds (P := P) hl hr hb true cap hn
  obtain ⟨m1, m2⟩ := mul_split (s := s) g2 g3
  refine gives_pure hh (v := .slice (some (if cap = l then a else a.add (l * s))) (h' - l) (cap - l)) ?_ ?_
  · simp only [Instr.sliceAt, run_underlying ht, Sem.run_bind, Result.andThen_ok, Instr.slice, g1, run_sizeOf1 hs, Sem.run_pure]
    split <;> rfl
  · by_cases hcl : cap = l
    · rw [if_pos hcl]
      have e0 : h' - l = 0 := by omega
      rw [e0]
      simp only [Nat.zero_mul, List.take_zero]
      exact sl_mk (vs := []) RepA.nil (by omega) (fun _ => by omega) (by simp) (by simp) (fun i hi => by simp at hi)
    · rw [if_neg hcl]
      refine sl_mk ((hR.drop _).take _) (by omega) (fun hF => ?_) ?_ (cells_take _ (cells_drop _ hc)) (fun i hi => ?_)
      · simp at hF
        have := hf hF.1
        omega
      · simp; omega
      · rw [add_block, add_off, Nat.add_assoc]
        simp at hi
        exact hX _ (by omega)

theorem slcS_sl3 (hh : HeapRel X0 base w h E) {t : TypeId} {e : TypeId} (ht : P.underlying t = some (.slice e)) {s : Nat} (hs : szT P e = some s) {vx : Value} {full : Bool} {n : Nat} {cs : List DV} (hx : Rep E (FX X0 E) w vx (.sl full s n cs)) {ts : List DV} {lo hi : Option Opd} {mx : Opd} {vl vh : Option Value} {vm : Value}
    (hl : RepO E (FX X0 E) w ts vl lo) (hr : RepO E (FX X0 E) w ts vh hi) (hm : Rep E (FX X0 E) w vm (ev ts mx)) (hsome : hi.isSome = true) {l h' : Nat} {m : Int} (hb : bounds ts n lo hi = some (l, h')) (he : evI ts mx = some m) (h1 : (h' : Int) ≤ m) (h2 : m ≤ n) :
    Gives P X0 base E w (Instr.sliceAt t vx vl vh (some vm)) (.sl (decide (m = h')) s (h' - l) ((cs.drop (l * s)).take ((h' - l) * s))) h := by
  obtain ⟨a, cap, vs, rfl, hn, hf, hlen, hR, hc, hX⟩ := sl_inv hx
  obtain ⟨M, rfl⟩ := Int.eq_ofNat_of_zero_le (show 0 ≤ m by omega)
  unfold bounds at hb
  simp only [Option.bind_eq_some_iff] at hb
  obtain ⟨hv, e1, lv, e2, e3⟩ := hb
  split at e3
  · rename_i hcond
    simp at e3
    obtain ⟨rfl, rfl⟩ := e3
    obtain ⟨c1, c2, c3⟩ := hcond
    cases hi with
    | none => simp at hsome
    | some xh =>
    cases vh with
    | none => simp [RepO] at hr
    | some vh =>
    have r1 : (Instr.sliceBound vm cap .slice3Acap).run P w = .ok M w := by
      have := run_bound (P := P) hm he cap .slice3Acap (by omega) (by omega)
      simpa using this
    have r2 : ∀ c, (Instr.sliceBound vh M c).run P w = .ok hv.toNat w := fun c => run_bound hr e1 _ _ (by omega) (by omega)
    obtain ⟨m1, m2⟩ := mul_split (s := s) (l := lv.toNat) (h' := hv.toNat) (n := n) (by omega) (by omega)
    have r3 : (Instr.sliceBounds true n cap vl (some vh) (some vm)).run P w = .ok (lv.toNat, hv.toNat, M) w := by
      cases lo with
      | none => cases vl with
        | none => simp at e2; subst e2; simp [Instr.sliceBounds, r1, r2]
        | some _ => simp [RepO] at hl
      | some x => cases vl with
        | none => simp [RepO] at hl
        | some v =>
          have r4 : ∀ c, (Instr.sliceBound v hv.toNat c).run P w = .ok lv.toNat w := fun c => run_bound hl e2 _ _ (by omega) (by omega)
          simp [Instr.sliceBounds, r1, r2, r4]
    refine gives_pure hh (v := .slice (some (if M = lv.toNat then a else a.add (lv.toNat * s))) (hv.toNat - lv.toNat) (M - lv.toNat)) ?_ ?_
    · simp only [Instr.sliceAt, run_underlying ht, Sem.run_bind, Result.andThen_ok, Instr.slice, r3, run_sizeOf1 hs, Sem.run_pure]
      split <;> rfl
    · by_cases hcl : M = lv.toNat
      · rw [if_pos hcl]
        have e0 : hv.toNat - lv.toNat = 0 := by omega
        rw [e0]
        simp only [Nat.zero_mul, List.take_zero]
        exact sl_mk (vs := []) RepA.nil (by omega) (fun _ => by omega) (by simp) (by simp) (fun i hi => by simp at hi)
      · rw [if_neg hcl]
        refine sl_mk ((hR.drop _).take _) (by omega) (fun hF => ?_) ?_ (cells_take _ (cells_drop _ hc)) (fun i hi => ?_)
        · simp at hF; omega
        · simp; omega
        · rw [add_block, add_off, Nat.add_assoc]
          simp at hi
          exact hX _ (by omega)
  · simp at e3

theorem slcS_ms (hh : HeapRel X0 base w h E) {t : TypeId} {e : TypeId} (ht : P.underlying t = some (.slice e)) {s : Nat} (hs : szT P e = some s) {vx : Value} {id ver off n lim : Nat} (hx : Rep E (FX X0 E) w vx (.ms id ver off s n lim)) {ts : List DV} {lo hi : Option Opd} {vl vh : Option Value}
    (hl : RepO E (FX X0 E) w ts vl lo) (hr : RepO E (FX X0 E) w ts vh hi) {l h' : Nat} (hb : bounds ts n lo hi = some (l, h')) {k : List DV} (ho : objAt h id = some k) (hv : k.length = ver) :
    Gives P X0 base E w (Instr.sliceAt t vx vl vh none) (.ms id ver (off + l * s) s (h' - l) lim) h := by
  obtain ⟨b, arr, ty, cap, a, e1, e2, e3, e4, rfl, k1, k2, k3, k4, k5⟩ := ms_inv hh hx ho hv
  obtain ⟨g1, g2, g3⟩ := run_bounds (P := P) hl hr hb true cap k1
  obtain ⟨m1, m2⟩ := mul_split (s := s) g2 g3
  obtain ⟨m3, m4⟩ := mul_split (s := s) (l := l) (h' := cap) (n := cap) (by omega) (Nat.le_refl _)
  refine gives_pure hh (v := .slice (some (if cap = l then a else a.add (l * s))) (h' - l) (cap - l)) ?_ ?_
  · simp only [Instr.sliceAt, run_underlying ht, Sem.run_bind, Result.andThen_ok, Instr.slice, g1, run_sizeOf1 hs, Sem.run_pure]
    split <;> rfl
  · refine ms_mk e1 hv.symm e2 (by omega) (by omega) (fun h0 => ?_) (by omega) (by omega)
    rw [if_neg (by omega), k3 (by omega), add_mk]

theorem slcS_ms3 (hh : HeapRel X0 base w h E) {t : TypeId} {e : TypeId} (ht : P.underlying t = some (.slice e)) {s : Nat} (hs : szT P e = some s) {vx : Value} {id ver off n lim : Nat} (hx : Rep E (FX X0 E) w vx (.ms id ver off s n lim)) {ts : List DV} {lo hi : Option Opd} {mx : Opd} {vl vh : Option Value} {vm : Value}
    (hl : RepO E (FX X0 E) w ts vl lo) (hr : RepO E (FX X0 E) w ts vh hi) (hm : Rep E (FX X0 E) w vm (ev ts mx)) (hsome : hi.isSome = true) {l h' : Nat} {m : Int} (hb : bounds ts n lo hi = some (l, h')) (he : evI ts mx = some m) (h1 : (h' : Int) ≤ m) (h2 : m ≤ n) {k : List DV} (ho : objAt h id = some k) (hv : k.length = ver) :
    Gives P X0 base E w (Instr.sliceAt t vx vl vh (some vm)) .junk h := by
  obtain ⟨b, arr, ty, cap, a, e1, e2, e3, e4, rfl, k1, k2, k3, k4, k5⟩ := ms_inv hh hx ho hv
  obtain ⟨M, rfl⟩ := Int.eq_ofNat_of_zero_le (show 0 ≤ m by omega)
  unfold bounds at hb
  simp only [Option.bind_eq_some_iff] at hb
  obtain ⟨hv, e1, lv, e2, e3⟩ := hb
  split at e3
  · rename_i hcond
    simp at e3
    obtain ⟨rfl, rfl⟩ := e3
    obtain ⟨c1, c2, c3⟩ := hcond
    cases hi with
    | none => simp at hsome
    | some xh =>
    cases vh with
    | none => simp [RepO] at hr
    | some vh =>
    have r1 : (Instr.sliceBound vm cap .slice3Acap).run P w = .ok M w := by
      have := run_bound (P := P) hm he cap .slice3Acap (by omega) (by omega)
      simpa using this
    have r2 : ∀ c, (Instr.sliceBound vh M c).run P w = .ok hv.toNat w := fun c => run_bound hr e1 _ _ (by omega) (by omega)
    have r3 : (Instr.sliceBounds true n cap vl (some vh) (some vm)).run P w = .ok (lv.toNat, hv.toNat, M) w := by
      cases lo with
      | none => cases vl with
        | none => simp at e2; subst e2; simp [Instr.sliceBounds, r1, r2]
        | some _ => simp [RepO] at hl
      | some x => cases vl with
        | none => simp [RepO] at hl
        | some v =>
          have r4 : ∀ c, (Instr.sliceBound v hv.toNat c).run P w = .ok lv.toNat w := fun c => run_bound hl e2 _ _ (by omega) (by omega)
          simp [Instr.sliceBounds, r1, r2, r4]
    refine gives_pure hh (v := .slice (some (if M = lv.toNat then a else a.add (lv.toNat * s))) (hv.toNat - lv.toNat) (M - lv.toNat)) ?_ (.junk _)
    simp only [Instr.sliceAt, run_underlying ht, Sem.run_bind, Result.andThen_ok, Instr.slice, r3, run_sizeOf1 hs, Sem.run_pure]
    split <;> rfl
  · simp at e3

theorem slcA_ref (hh : HeapRel X0 base w h E) {t : TypeId} {e : TypeId} {len : Nat} (ht : P.underlying t = some (.array len e)) {s : Nat} (hs : szT P e = some s) {vx : Value} {cs : List DV} (hx : Rep E (FX X0 E) w vx (.ref cs)) {ts : List DV} {lo hi : Option Opd} {vl vh : Option Value}
    (hl : RepO E (FX X0 E) w ts vl lo) (hr : RepO E (FX X0 E) w ts vh hi) {l h' : Nat} (hb : bounds ts len lo hi = some (l, h')) (hfit : len * s ≤ cs.length) :
    Gives P X0 base E w (Instr.sliceAt t vx vl vh none) (.sl (h' == len) s (h' - l) ((cs.drop (l * s)).take ((h' - l) * s))) h := by
  obtain ⟨a, vs, rfl, hR, hc, hX⟩ := ref_inv hx
  obtain ⟨g1, g2, g3⟩ := run_bounds (P := P) hl hr hb false len (Nat.le_refl _)
  obtain ⟨m1, m2⟩ := mul_split (s := s) g2 g3
  refine gives_pure hh (v := .slice (some (if len = l then a else a.add (l * s))) (h' - l) (len - l)) ?_ ?_
  · simp [Instr.sliceAt, run_underlying ht, Instr.sureAddr, g1, run_sizeOf1 hs]
  · by_cases hcl : len = l
    · rw [if_pos hcl]
      have e0 : h' - l = 0 := by omega
      rw [e0]
      simp only [Nat.zero_mul, List.take_zero]
      exact sl_mk (vs := []) RepA.nil (by omega) (fun _ => by omega) (by simp) (by simp) (fun i hi => by simp at hi)
    · rw [if_neg hcl]
      refine sl_mk ((hR.drop _).take _) (by omega) (fun hF => ?_) ?_ (cells_take _ (cells_drop _ hc)) (fun i hi => ?_)
      · simp at hF; omega
      · simp; omega
      · rw [add_block, add_off, Nat.add_assoc]
        simp at hi
        exact hX _ (by omega)

theorem slcA_mp (hh : HeapRel X0 base w h E) {t : TypeId} {e : TypeId} {len : Nat} (ht : P.underlying t = some (.array len e)) {s : Nat} (hs : szT P e = some s) {vx : Value} {id ver off : Nat} (hx : Rep E (FX X0 E) w vx (.mp id ver off)) {ts : List DV} {lo hi : Option Opd} {vl vh : Option Value}
    (hl : RepO E (FX X0 E) w ts vl lo) (hr : RepO E (FX X0 E) w ts vh hi) {l h' : Nat} (hb : bounds ts len lo hi = some (l, h')) {k : List DV} (ho : objAt h id = some k) (hv : k.length = ver) (hfit : off + len * s ≤ ver) :
    Gives P X0 base E w (Instr.sliceAt t vx vl vh none) (.ms id ver (off + l * s) s (h' - l) (off + len * s)) h := by
  obtain ⟨b, arr, ty, e1, e2, e3, e4, rfl⟩ := mp_inv hh hx ho hv
  obtain ⟨g1, g2, g3⟩ := run_bounds (P := P) hl hr hb false len (Nat.le_refl _)
  obtain ⟨m1, m2⟩ := mul_split (s := s) g2 g3
  obtain ⟨m3, m4⟩ := mul_split (s := s) (l := l) (h' := len) (n := len) (by omega) (Nat.le_refl _)
  refine gives_pure hh (v := .slice (some (if len = l then ⟨b, off, none⟩ else (⟨b, off, none⟩ : Addr).add (l * s))) (h' - l) (len - l)) ?_ ?_
  · simp [Instr.sliceAt, run_underlying ht, Instr.sureAddr, g1, run_sizeOf1 hs]
  · refine ms_mk e1 hv.symm e2 (by omega) (by omega) (fun h0 => ?_) (by omega) (by omega)
    rw [if_neg (by omega), add_mk]

theorem extract_data (s : ByteArray) (l h' : Nat) : (s.extract l h').data.toList = (s.data.toList.drop l).take (h' - l) := by
  rw [ByteArray.data_extract, Array.toList_extract, List.extract_eq_take_drop]

theorem slcStr_ok (hh : HeapRel X0 base w h E) {t : TypeId} (ht : P.underlying t = some .string) {vx : Value} {s : List UInt8} (hx : Rep E (FX X0 E) w vx (.str s)) {ts : List DV} {lo hi : Option Opd} {vl vh : Option Value}
    (hl : RepO E (FX X0 E) w ts vl lo) (hr : RepO E (FX X0 E) w ts vh hi) {l h' : Nat} (hb : bounds ts s.length lo hi = some (l, h')) :
    Gives P X0 base E w (Instr.sliceAt t vx vl vh none) (.str ((s.drop l).take (h' - l))) h := by
  cases hx with
  | str b _ hs =>
    subst hs
    have hsz : b.size = b.data.toList.length := by rw [Array.length_toList]; rfl
    rw [← hsz] at hb
    obtain ⟨g1, g2, g3⟩ := run_bounds (P := P) hl hr hb false b.size (Nat.le_refl _)
    exact gives_pure hh (v := .string (b.extract l h')) (by simp [Instr.sliceAt, run_underlying ht, Instr.slice, g1]) (.str _ _ (extract_data b l h'))

theorem alloc_ok (hh : HeapRel X0 base w h E) {t : TypeId} {zs : List DV} (hz : zerosT P t = some zs) : Gives P X0 base E w (Instr.alloc t true (.tuple #[])) (.mp h.length zs.length 0) (h ++ [.cells zs]) := by
  obtain ⟨z, h1, h2⟩ := run_zero1 hz w
  have hn := obj_new hh (h2 E (FX X0 E) w) [] t
  rw [List.append_nil, Array.toArray_toList] at hn
  refine ⟨.pointer (some ⟨w.heap.size, 0, none⟩), w.alloc (.cells z.cells t), _, ?_, hn.1, ?_, hn.2⟩
  · simp [Instr.alloc, h1, newVar, newRow]
  · rw [← hh.len]
    exact mp_mk (b := w.heap.size) (L := zs.length) (by simp) rfl

theorem box_ok (hh : HeapRel X0 base w h E) {t : TypeId} {v : Value} {d : DV} (hr : Rep E (FX X0 E) w v d) (hk : d.known = true) : Gives P X0 base E w (Instr.box t v) (.mp h.length d.cells.length 0) (h ++ [.cells d.cells]) := by
  have hn := obj_new hh (hr.cells hk) [] t
  rw [List.append_nil, Array.toArray_toList] at hn
  refine ⟨.pointer (some ⟨w.heap.size, 0, none⟩), w.alloc (.cells v.cells t), _, ?_, hn.1, ?_, hn.2⟩
  · simp [Instr.box, newVar, newRow]
  · rw [← hh.len]
    exact mp_mk (b := w.heap.size) (L := d.cells.length) (by simp) rfl

theorem foldl_set (off : Nat) : ∀ (l : List Value) (k : Nat) (cells : Array Value), off + k + l.length ≤ cells.size →
    ((l.zipIdx k).foldl (fun cs (p : Value × Nat) => cs.setIfInBounds (off + p.2) p.1) cells).toList = cells.toList.take (off + k) ++ l ++ cells.toList.drop (off + k + l.length)
  | [], k, cells, _ => by simp
  | v :: l, k, cells, hfit => by
    simp only [List.zipIdx_cons, List.foldl_cons, List.length_cons] at hfit ⊢
    rw [foldl_set off l (k + 1) _ (by simp; omega)]
    have e := list_seg_step cells.toList (off + k) v l (by simp; omega)
    simpa [Array.toList_setIfInBounds, Nat.add_assoc] using e

theorem fill_ok {X : Forb} {place : Nat → Option (Nat × Nat)} : ∀ (parts : List (Nat × Value)) (dp : List (Nat × Nat × DV)) (cells : Array Value) (ds : List DV), RepA E X w cells.toList ds → parts.length = dp.length →
    (∀ i (h1 : i < parts.length) (h2 : i < dp.length), place parts[i].1 = some (dp[i].1, dp[i].2.1) ∧ Rep E X w parts[i].2 dp[i].2.2 ∧ dp[i].2.2.known = true) → ∀ r, fillD ds dp = some r →
    ∃ cells', Instr.fill place cells parts = some cells' ∧ RepA E X w cells'.toList r
  | [], dp, cells, ds, hr, hl, _, r, hf => by
    cases dp with
    | nil => simp [fillD] at hf; subst hf; exact ⟨cells, rfl, hr⟩
    | cons _ _ => simp at hl
  | (i, v) :: parts, dp, cells, ds, hr, hl, hp, r, hf => by
    cases dp with
    | nil => simp at hl
    | cons q dp =>
      obtain ⟨off, n, d⟩ := q
      simp only [fillD] at hf
      split at hf
      · rename_i hc
        obtain ⟨c1, c2⟩ := hc
        obtain ⟨p1, p2, p3⟩ := hp 0 (by simp) (by simp)
        simp only [List.getElem_cons_zero] at p1 p2 p3
        have hcells := p2.cells p3
        have hsz : v.cells.size = n := by have := hcells.1; simp at this; omega
        have hcl := hr.1
        simp only [Array.length_toList] at hcl
        have hfold := foldl_set off v.cells.toList 0 cells (by simp; omega)
        have hR : RepA E X w (v.cells.zipIdx.foldl (fun cs (p : Value × Nat) => cs.setIfInBounds (off + p.2) p.1) cells).toList (splice ds off d.cells) := by
          have e : (v.cells.zipIdx.foldl (fun cs (p : Value × Nat) => cs.setIfInBounds (off + p.2) p.1) cells) = (v.cells.toList.zipIdx.foldl (fun cs (p : Value × Nat) => cs.setIfInBounds (off + p.2) p.1) cells) := by
            rw [← Array.foldl_toList]; simp
          rw [e, hfold]
          unfold splice
          have hl2 := hcells.1
          rw [hl2]
          exact ((hr.take _).append hcells).append (hr.drop _)
        obtain ⟨cells', g1, g2⟩ := fill_ok parts dp _ _ hR (by simpa using hl) (fun j h1 h2 => by have := hp (j + 1) (by simp; omega) (by simp; omega); simpa using this) r hf
        refine ⟨cells', ?_, g2⟩
        simp only [Instr.fill, p1]
        rw [if_neg (by simp [hsz]; omega)]
        exact g1
      · simp at hf
end
end Go.Am
