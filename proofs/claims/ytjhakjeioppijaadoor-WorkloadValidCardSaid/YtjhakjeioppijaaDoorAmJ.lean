/-
  The abstract machine, part 10: '==' between plain structs and arrays.
-/
import Derived.Test.YtjhakjeioppijaaDoorAmI
import Derived.ChangeKeysEq
set_option linter.unusedSimpArgs false
set_option linter.unusedVariables false
namespace Go.Am
open Go.RowKit
section
variable {P : Program} {X0 : Forb} {base : Nat} {w : World} {h : List AObj} {E : Env}

theorem cellsEq_length : ∀ {ks : List Nat} {ds es : List DV} {b : Bool}, cellsEq ks ds es = some b → ds.length = ks.length ∧ es.length = ks.length
  | [], [], [], _, _ => ⟨rfl, rfl⟩
  | [], [], _ :: _, _, h => by simp [cellsEq] at h
  | [], _ :: _, _, _, h => by simp [cellsEq] at h
  | _ :: _, [], _, _, h => by simp [cellsEq] at h
  | _ :: _, _ :: _, [], _, h => by simp [cellsEq] at h
  | k :: ks, x :: xs, y :: ys, b, h => by
    simp only [cellsEq, Option.bind_eq_some_iff, Option.map_eq_some_iff] at h
    obtain ⟨_, _, _, h2, _⟩ := h
    have := cellsEq_length h2
    simp; exact this

theorem cellsEq_append : ∀ {k1 k2 : List Nat} {ds es : List DV} {b : Bool}, cellsEq (k1 ++ k2) ds es = some b →
    ∃ b1 b2, cellsEq k1 (ds.take k1.length) (es.take k1.length) = some b1 ∧ cellsEq k2 (ds.drop k1.length) (es.drop k1.length) = some b2 ∧ b = (b1 && b2)
  | [], k2, ds, es, b, h => ⟨true, b, by simp [cellsEq], by simpa using h, by simp⟩
  | k :: k1, k2, [], es, b, h => by cases es <;> simp [cellsEq] at h
  | k :: k1, k2, d :: ds, [], b, h => by simp [cellsEq] at h
  | k :: k1, k2, d :: ds, e :: es, b, h => by
    simp only [List.cons_append, cellsEq, Option.bind_eq_some_iff, Option.map_eq_some_iff] at h
    obtain ⟨c, h1, c', h2, rfl⟩ := h
    obtain ⟨b1, b2, g1, g2, rfl⟩ := cellsEq_append h2
    exact ⟨c && b1, b2, by simp [cellsEq, h1, g1], by simpa using g2, by simp [Bool.and_assoc]⟩

/-- a value of a type over cells -/
def atT (agg : Bool) (ds : List DV) (d : DV) : Prop := if agg then d = .agg ds else ds = [d]

theorem atT_part {t : TypeId} {n : Nat} {agg : Bool} (hn : szT P t = some n) (ha : aggT P t = some agg) (hsc : agg = false → n = 1) {xs : Array Value} {cs : List DV} (hr : RepA E (FX X0 E) w xs.toList cs) {off : Nat} (hfit : off + n ≤ cs.length) :
    ∃ v d, (part t xs off).run P w = .ok v w ∧ Rep E (FX X0 E) w v d ∧ atT agg ((cs.drop off).take n) d := by
  cases agg with
  | true =>
    obtain ⟨v, h1, h2⟩ := one_part (P := P) (n := n) (agg := true) (d := .agg ((cs.drop off).take n)) (off := off) (by simp [one]; omega) hr hn ha
    exact ⟨v, _, h1, h2, by rw [atT, if_pos rfl]⟩
  | false =>
    obtain rfl := hsc rfl
    have hlt : off < cs.length := by omega
    have e : cs.drop off = cs[off] :: cs.drop (off + 1) := List.drop_eq_getElem_cons hlt
    obtain ⟨v, h1, h2⟩ := one_part (P := P) (n := 1) (agg := false) (d := cs[off]) (off := off) (by unfold one; rw [e]; simp) hr hn ha
    exact ⟨v, _, h1, h2, by rw [atT, if_neg (by simp), e]; rfl⟩

def EqOK (P : Program) (X0 : Forb) (E : Env) (w : World) (fuel : Nat) (t : TypeId) (ks : List Nat) : Prop :=
  ∃ agg, aggT P t = some agg ∧ (agg = false → ks.length = 1) ∧ ∀ (x y : Value) (dx dy : DV) (ds es : List DV) (b : Bool), Rep E (FX X0 E) w x dx → Rep E (FX X0 E) w y dy → atT agg ds dx → atT agg es dy → cellsEq ks ds es = some b →
    (Op.equalIn fuel t x y).run P w = .ok b w

theorem eqItems_ok {e : TypeId} {ks : List Nat} {fuel : Nat} (hi : szT P e = some ks.length) (hpos : 0 < ks.length) (hok : EqOK P X0 E w fuel e ks) {xs ys : Array Value} {ds es : List DV} (hx : RepA E (FX X0 E) w xs.toList ds) (hy : RepA E (FX X0 E) w ys.toList es) :
    ∀ (m k : Nat) (b : Bool), cellsEq (List.replicate m ks).flatten (ds.drop (k * ks.length)) (es.drop (k * ks.length)) = some b → (Op.eqItems fuel e ks.length xs ys (List.range' k m)).run P w = .ok b w
  | 0, k, b, hc => by
    have hl := cellsEq_length hc
    simp only [List.replicate_zero, List.flatten_nil, List.length_nil] at hl
    have h1 := List.eq_nil_of_length_eq_zero hl.1
    have h2 := List.eq_nil_of_length_eq_zero hl.2
    rw [h1, h2] at hc
    simp [cellsEq] at hc
    subst hc
    simp [Op.eqItems]
  | m + 1, k, b, hc => by
    have hl := cellsEq_length hc
    have hsum : (List.replicate (m + 1) ks).flatten.length = ks.length + m * ks.length := by simp [List.replicate_succ]
    rw [List.replicate_succ, List.flatten_cons] at hc
    obtain ⟨b1, b2, g1, g2, rfl⟩ := cellsEq_append hc
    obtain ⟨agg, ha, hsc, hok'⟩ := hok
    rw [hsum] at hl
    simp only [List.length_drop] at hl
    have f1 : k * ks.length + ks.length ≤ ds.length := by omega
    have f2 : k * ks.length + ks.length ≤ es.length := by omega
    obtain ⟨vx, dx, p1, p2, p3⟩ := atT_part (P := P) hi ha hsc hx f1
    obtain ⟨vy, dy, q1, q2, q3⟩ := atT_part (P := P) hi ha hsc hy f2
    have heq := hok' vx vy dx dy _ _ b1 p2 q2 p3 q3 g1
    have ih := eqItems_ok hi hpos ⟨agg, ha, hsc, hok'⟩ hx hy m (k + 1) b2 (by
      rw [List.drop_drop, List.drop_drop] at g2
      rwa [show (k + 1) * ks.length = k * ks.length + ks.length by rw [Nat.add_mul]; omega])
    simp only [List.range'_succ, Op.eqItems, Sem.run_bind, p1, q1, heq, Result.andThen_ok]
    cases b1
    · simp
    · simpa using ih

theorem eqFields_ok {fuel : Nat} {g : TypeId → Option (List Nat)} (hg : ∀ t k, g t = some k → EqOK P X0 E w fuel t k) {xs ys : Array Value} {ds es : List DV} (hx : RepA E (FX X0 E) w xs.toList ds) (hy : RepA E (FX X0 E) w ys.toList es) :
    ∀ (fs : List Field) (off : Nat) (ks : List Nat) (b : Bool), kindsF P g fs off = some ks → cellsEq ks (ds.drop off) (es.drop off) = some b → (Op.eqFields fuel xs ys fs).run P w = .ok b w
  | [], off, ks, b, hk, hc => by
    simp [kindsF] at hk; subst hk
    have hl := cellsEq_length hc
    have h1 := List.eq_nil_of_length_eq_zero hl.1
    have h2 := List.eq_nil_of_length_eq_zero hl.2
    rw [h1, h2] at hc
    simp [cellsEq] at hc
    subst hc
    simp [Op.eqFields]
  | f :: fs, off, ks, b, hk, hc => by
    simp only [kindsF] at hk
    split at hk
    · simp at hk
    · rename_i hf
      simp only [not_or, ne_eq, Decidable.not_not] at hf
      obtain ⟨hf1, hf2⟩ := hf
      simp only [Option.bind_eq_some_iff] at hk
      obtain ⟨k, hk1, hk2⟩ := hk
      split at hk2
      · rename_i hs
        obtain ⟨hs, hpos⟩ := hs
        obtain ⟨l, hl, rfl⟩ := Option.map_eq_some_iff.1 hk2
        have hlen := cellsEq_length hc
        simp only [List.length_drop, List.length_append] at hlen
        obtain ⟨b1, b2, g1, g2, rfl⟩ := cellsEq_append hc
        obtain ⟨agg, ha, hsc, hok'⟩ := hg _ _ hk1
        have f1 : off + k.length ≤ ds.length := by omega
        have f2 : off + k.length ≤ es.length := by omega
        obtain ⟨vx, dx, p1, p2, p3⟩ := atT_part (P := P) hs ha hsc hx f1
        obtain ⟨vy, dy, q1, q2, q3⟩ := atT_part (P := P) hs ha hsc hy f2
        have heq := hok' vx vy dx dy _ _ b1 p2 q2 p3 q3 g1
        have ih := eqFields_ok hg hx hy fs (off + k.length) l b2 hl (by rwa [List.drop_drop, List.drop_drop] at g2)
        rw [← hf2] at p1 q1
        simp only [Op.eqFields, ne_eq, hf1, not_false_eq_true, if_true, Sem.run_bind, p1, q1, heq, Result.andThen_ok]
        cases b1
        · simp
        · simpa using ih
      · simp at hk2

theorem kinds_ok : ∀ (d : Nat) (t : TypeId) (ks : List Nat), kinds P d t = some ks → ∀ fuel, d ≤ fuel → EqOK P X0 E w fuel t ks
  | 0, _, _, h, _, _ => by simp [kinds] at h
  | d + 1, t, ks, hk, 0, hf => by omega
  | d + 1, t, ks, hk, fuel + 1, hf => by
    simp only [kinds] at hk
    cases hu : P.underlying t with
    | none => simp [hu] at hk
    | some td =>
    have agg1 : ∀ b, isAggD td = b → aggT P t = some b := fun b e => by simp [aggT, hu, e]
    have sing : ∀ (x y : Value) (dx dy : DV) (ds es : List DV) (b : Bool) (k : Nat), atT false ds dx → atT false es dy → cellsEq [k] ds es = some b → cellEq k dx dy = some b := by
      intro x y dx dy ds es b k h1 h2 h3
      simp [atT] at h1 h2
      subst h1 h2
      simp only [cellsEq, Option.bind_eq_some_iff, Option.map_eq_some_iff] at h3
      obtain ⟨c, h4, c', h5, h6⟩ := h3
      simp at h5 h6
      subst h5
      simp at h6
      rw [h4, h6]
    rw [hu] at hk
    cases td <;> simp only at hk <;> try (simp at hk; done)
    case int k =>
      simp at hk; subst hk
      refine ⟨false, agg1 _ rfl, fun _ => rfl, fun x y dx dy ds es b hx hy h1 h2 h3 => ?_⟩
      have := sing x y _ _ _ _ _ _ h1 h2 h3
      cases dx <;> simp [cellEq] at this
      cases dy <;> simp at this
      cases hx; cases hy
      obtain ⟨rfl, rfl⟩ := this
      simpa using run_equalIn_int w fuel t _ _ _ _ hu
    case string =>
      simp at hk; subst hk
      refine ⟨false, agg1 _ rfl, fun _ => rfl, fun x y dx dy ds es b hx hy h1 h2 h3 => ?_⟩
      have := sing x y _ _ _ _ _ _ h1 h2 h3
      cases dx <;> simp [cellEq] at this
      cases dy <;> simp at this
      cases hx with
      | str s _ hs => cases hy with
        | str s' _ hs' =>
          rw [run_equalIn_string w fuel t _ _ hu, toList_data, toList_data, hs, hs', this]
    case bool =>
      simp at hk; subst hk
      refine ⟨false, agg1 _ rfl, fun _ => rfl, fun x y dx dy ds es b hx hy h1 h2 h3 => ?_⟩
      have := sing x y _ _ _ _ _ _ h1 h2 h3
      cases dx <;> simp [cellEq] at this
      cases dy <;> simp at this
      cases hx; cases hy
      rw [← this]
      exact run_equalIn_bool' w fuel t _ _ hu
    case array n e =>
      simp only [Option.bind_eq_some_iff] at hk
      obtain ⟨k, hk1, hk2⟩ := hk
      split at hk2
      · rename_i hs
        obtain ⟨hs, hpos⟩ := hs
        simp at hk2; subst hk2
        refine ⟨true, agg1 _ rfl, fun h => by simp at h, fun x y dx dy ds es b hx hy h1 h2 h3 => ?_⟩
        simp [atT] at h1 h2
        subst h1 h2
        obtain ⟨i, hi, hi2⟩ := Option.map_eq_some_iff.1 (show (P.info? e).map (·.size) = some k.length from hs)
        cases hx with
        | agg xs _ hl1 hr1 => cases hy with
          | agg ys _ hl2 hr2 =>
            rw [run_equalIn_array w fuel xs ys hu hi]
            have hc : P.cellsOf e = k.length := by simp [Program.cellsOf, hi, hi2]
            rw [hc, List.range_eq_range']
            exact eqItems_ok hs hpos (kinds_ok d e k hk1 fuel (by omega)) (RepA.of_agg (.agg xs ds hl1 hr1)) (RepA.of_agg (.agg ys es hl2 hr2)) n 0 b (by simpa using h3)
      · simp at hk2
    case struct fs =>
      split at hk
      · simp at hk
      · rename_i hst
        refine ⟨true, agg1 _ rfl, fun h => by simp at h, fun x y dx dy ds es b hx hy h1 h2 h3 => ?_⟩
        simp [atT] at h1 h2
        subst h1 h2
        cases hx with
        | agg xs _ hl1 hr1 => cases hy with
          | agg ys _ hl2 hr2 =>
            have hfo : P.fieldsOf t = fs := by simp [Program.fieldsOf, hu]
            rw [run_equalIn_struct w fuel t xs ys (by rw [hfo]; exact hu) (by simpa using hst), hfo]
            exact eqFields_ok (fun t' k' h' => kinds_ok d t' k' h' fuel (by omega)) (RepA.of_agg (.agg xs ds hl1 hr1)) (RepA.of_agg (.agg ys es hl2 hr2)) fs.toList 0 ks b hk (by simpa using h3)

theorem eqa_ok (hh : HeapRel X0 base w h E) (o1 o2 : Operand) {t : TypeId} {ks : List Nat} (hk : kinds P 20 t = some ks) (hm : P.eqGuardType P.depth t = false) {op : BinOp} (ho : op = .eql ∨ op = .neq) {x y : Value} {ds es : List DV}
    (hx : Rep E (FX X0 E) w x (.agg ds)) (hy : Rep E (FX X0 E) w y (.agg es)) {b : Bool} (hb : cellsEq ks ds es = some b) (hagg : aggT P t = some true) :
    Gives P X0 base E w (do eqGuard op t o1 o2 x y; binOp op t x y) (.bool (if decide (op = .neq) then !b else b)) h := by
  obtain ⟨agg, ha, _, hok⟩ := kinds_ok (X0 := X0) (E := E) (w := w) 20 t ks hk 10000 (by omega)
  rw [hagg] at ha
  simp at ha; subst ha
  have heq := hok x y _ _ _ _ b hx hy (by simp [atT]) (by simp [atT]) hb
  cases hx with
  | agg xs _ _ _ => cases hy with
    | agg ys _ _ _ =>
      rcases ho with rfl | rfl
      · refine gives_pure (v := .bool b) hh ?_ (by simpa using .bool _)
        simp only [Sem.run_bind, run_eqGuard_agg w .eql t o1 o2 xs ys hm, Result.andThen_ok, run_eql_struct, heq]
      · refine gives_pure (v := .bool (!b)) hh ?_ (by simpa using .bool _)
        simp only [Sem.run_bind, run_eqGuard_agg w .neq t o1 o2 xs ys hm, Result.andThen_ok, run_neq_struct, heq]
end
end Go.Am
