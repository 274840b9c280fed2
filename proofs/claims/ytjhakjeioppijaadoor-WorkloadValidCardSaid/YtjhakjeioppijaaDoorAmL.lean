/-
  The abstract machine, part 12: whatever operation is evaluated on data is carried out so by the model.
-/
import Derived.Test.YtjhakjeioppijaaDoorAmK
set_option linter.unusedSimpArgs false
set_option linter.unusedVariables false
namespace Go.Am
open Go.RowKit
section
variable {P : Program} {X0 : Forb} {base : Nat} {w : World} {h : List AObj} {E : Env}

/-- what an operation leaves: a value (or nothing), new memory, a datum -/
def Leaves (P : Program) (X0 : Forb) (base : Nat) (E : Env) (w : World) (s : Sem Next) (d : DV) (h' : List AObj) : Prop :=
  ∃ v w' E', (s.run P w = .ok (.value v) w' ∨ (s.run P w = .ok .skip w' ∧ v = undef)) ∧ HeapRel X0 base w' h' E' ∧ Rep E' (FX X0 E') w' v d ∧ Trans X0 base E w E' w'

theorem Gives.leaves {s : Sem Value} {d : DV} {h' : List AObj} (hg : Gives P X0 base E w s d h') : Leaves P X0 base E w (do pure (.value (← s))) d h' := by
  obtain ⟨v, w', E', h1, h2, h3, h4⟩ := hg
  exact ⟨v, w', E', .inl (by simp [h1]), h2, h3, h4⟩

theorem leaves_pure (hh : HeapRel X0 base w h E) {v : Value} {d : DV} (hr : Rep E (FX X0 E) w v d) : Leaves P X0 base E w (pure (.value v)) d h :=
  ⟨v, w, E, .inl rfl, hh, hr, .refl _ _ _ _⟩

theorem opd_rep {x : Operand} {y : Opd} (ho : opd x = some y) {ts : List DV} {tm : Array Value} (ht : ∀ i, x = .tmp i → Rep E (FX X0 E) w (tm.getD i undef) (ts.getD i .junk)) {a : Act} (ha : a.tmps = tm) : Rep E (FX X0 E) w (a.eval x) (ev ts y) := by
  subst ha
  cases x <;> simp [opd] at ho
  case tmp i => subst ho; exact ht i rfl
  case const v => obtain ⟨d, hd, rfl⟩ := ho; exact const hd
  case func f => subst ho; exact .fn _ _ _ _ _ rfl rfl (fun i h1 => by simp at h1) (fun i h1 => by simp at h1)

theorem opds_some {l : Array Operand} {r : List Opd} (hl : opds l = some r) : l.size = r.length ∧ ∀ i (h1 : i < l.size) (h2 : i < r.length), opd l[i] = some r[i] := by
  obtain ⟨h1, h2⟩ := mapAll_some hl
  exact ⟨by simpa using h1, fun i a b => by have := h2 i (by rw [Array.length_toList]; exact a) b; rwa [Array.getElem_toList] at this⟩

theorem fn_rep {f : Fn} {a b : Array Value} {da db : List DV} (ha : RepA E (FX X0 E) w a.toList da) (hb : RepA E (FX X0 E) w b.toList db) : Rep E (FX X0 E) w (.func f a b) (.fn f da db) :=
  .fn f a b da db (by simpa using ha.1) (by simpa using hb.1) (fun i h1 h2 => by have := ha.2 i (by rw [Array.length_toList]; exact h1) h2; rwa [Array.getElem_toList] at this) (fun i h1 h2 => by have := hb.2 i (by rw [Array.length_toList]; exact h1) h2; rwa [Array.getElem_toList] at this)

theorem opds_repA {l : Array Operand} {r : List Opd} (hl : opds l = some r) {ts : List DV} {ρ : Operand → Value} (hρ : ∀ x y, x ∈ l → opd x = some y → Rep E (FX X0 E) w (ρ x) (ev ts y)) : RepA E (FX X0 E) w (l.map ρ).toList (r.map (ev ts)) := by
  obtain ⟨h1, h2⟩ := opds_some hl
  refine ⟨by simp [h1], fun i a b => ?_⟩
  simp at a b
  simpa using hρ l[i] r[i] (by simp) (h2 i a b)

theorem opdO_rep {x : Option Operand} {y : Option Opd} (ho : opdO x = some y) {ts : List DV} {ρ : Operand → Value} (hρ : ∀ a b, x = some a → opd a = some b → Rep E (FX X0 E) w (ρ a) (ev ts b)) : RepO E (FX X0 E) w ts (x.map ρ) y := by
  cases x with
  | none => simp [opdO] at ho; subst ho; trivial
  | some a =>
    simp [opdO] at ho
    obtain ⟨b, hb, rfl⟩ := ho
    exact hρ a b rfl hb

theorem conv_ok (hh : HeapRel X0 base w h E) {src dst : TypeId} {k0 k : IntKind} (hs : P.underlying src = some (.int k0)) (hd : P.underlying dst = some (.int k)) {v : Value} {kk : IntKind} {n : Int} (hr : Rep E (FX X0 E) w v (.int kk n)) : Gives P X0 base E w (convert src dst v) (.int k (k.wrap n)) h := by
  cases hr
  exact gives_pure hh (v := .int k (k.wrap n)) (by simp [convert, run_underlying hs, run_underlying hd, Conv.intToInt]) (.int _ _)

theorem un_ok (hh : HeapRel X0 base w h E) {op : UnOp} {v : Value} {x : DV} (hr : Rep E (FX X0 E) w v x) {ts : List DV} {o : Opd} (ho : ev ts o = x) {d : DV} {h' : List AObj} (he : evOp (.un op o) ts h = some (d, h')) : Gives P X0 base E w (Op.unary op v) d h' := by
  simp only [evOp, ho] at he
  cases op <;> cases x <;> simp at he
  case neg.int k n => obtain ⟨rfl, rfl⟩ := he; cases hr; exact gives_pure hh (v := .int k (k.wrap (0 - n))) (by simp [Op.unary, Op.intArith]) (by simpa using .int _ _)
  case xor.int k n => obtain ⟨rfl, rfl⟩ := he; cases hr; exact gives_pure hh (v := .int k (bits .xor k (if k.signed then -1 else k.max) n)) (by simp [Op.unary, intBits_xor]) (.int _ _)
  case not.bool b => obtain ⟨rfl, rfl⟩ := he; cases hr; exact gives_pure hh (v := .bool (!b)) (by simp [Op.unary]) (.bool _)

theorem getf_ok (hh : HeapRel X0 base w h E) {t : TypeId} {fs : Array Field} (ht : P.underlying t = some (.struct fs)) {i : Nat} {f : Field} (hf : fs[i]? = some f) {n : Nat} {agg : Bool} (hn : szT P f.type = some n) (ha : aggT P f.type = some agg) {v : Value} {cs : List DV} (hr : Rep E (FX X0 E) w v (.agg cs)) {d : DV} (hd : one n agg (cs.drop f.offset) = some d) :
    Gives P X0 base E w (Instr.field t v i) d h := by
  cases hr with
  | agg xs _ hl hr =>
    obtain ⟨u, h1, h2⟩ := one_part (P := P) hd (RepA.of_agg (.agg xs cs hl hr)) hn ha
    exact gives_pure hh (v := u) (by simp [Instr.field, run_underlying ht, hf, asAgg, h1]) h2

theorem idxV_ok (hh : HeapRel X0 base w h E) {t e : TypeId} {len : Nat} (ht : P.underlying t = some (.array len e)) {n : Nat} {agg : Bool} (hn : szT P e = some n) (ha : aggT P e = some agg) {v : Value} {cs : List DV} (hr : Rep E (FX X0 E) w v (.agg cs)) {k : IntKind} {i : Int} (h0 : 0 ≤ i) (h1 : i < len) {d : DV} (hd : one n agg (cs.drop (i.toNat * n)) = some d) :
    Gives P X0 base E w (Instr.index t v (.int k i)) d h := by
  cases hr with
  | agg xs _ hl hr =>
    obtain ⟨u, g1, g2⟩ := one_part (P := P) hd (RepA.of_agg (.agg xs cs hl hr)) hn ha
    exact gives_pure hh (v := u) (by simp [Instr.index, asIntOf, run_underlying ht, h0, h1, run_sizeOf1 hn, g1]) g2

theorem idxStr_ok (hh : HeapRel X0 base w h E) {t : TypeId} (ht : P.underlying t = some .string) {v : Value} {s : List UInt8} (hr : Rep E (FX X0 E) w v (.str s)) {k : IntKind} {i : Int} (h0 : 0 ≤ i) {b : UInt8} (hb : s[i.toNat]? = some b) :
    Gives P X0 base E w (Instr.index t v (.int k i)) (.int .u8 b.toNat) h := by
  cases hr with
  | str z _ hz =>
    subst hz
    have hg : z[i.toNat]? = some b := by
      have hlt : i.toNat < z.size := by have := (List.getElem?_eq_some_iff.1 hb).1; rw [Array.length_toList] at this; exact this
      rw [getElem?_pos z i.toNat hlt]
      have := (List.getElem?_eq_some_iff.1 hb).2
      rw [← this]; rfl
    exact gives_pure hh (v := .int .u8 b.toNat) (by simp [Instr.index, asIntOf, run_underlying ht, h0, hg]) (.int _ _)

theorem mm_fold (mx : Bool) (w : World) : ∀ (l : List Int) (a : Int), ((l.map (Value.int .i64)).foldlM (if mx then Builtin.max2 else Builtin.min2) (Value.int .i64 a)).run P w = .ok (.int .i64 (l.foldl (fun x y => if mx then max x y else min x y) a)) w
  | [], a => by simp
  | b :: l, a => by
    have ih := mm_fold mx w l (if mx then max a b else min a b)
    simp only [List.map_cons, List.foldlM_cons, Sem.run_bind, List.foldl_cons]
    have e : (((if mx then Builtin.max2 else Builtin.min2) (Value.int .i64 a) (Value.int .i64 b)) : Sem Value).run P w = .ok (.int .i64 (if mx then max a b else min a b)) w := by
      cases mx
      · simp [Builtin.min2]; omega
      · simp [Builtin.max2]; omega
    rw [e]
    exact ih

theorem ints_rep {X : Forb} {w : World} {ts : List DV} : ∀ {vs : List Value} {xs : List Opd} {l : List Int}, RepA E X w vs (xs.map (ev ts)) → mapAll (fun x => match ev ts x with | .int .i64 n => some n | _ => none) xs = some l → vs = l.map (Value.int .i64)
  | [], [], l, _, h => by simp [mapAll] at h; subst h; rfl
  | [], _ :: _, _, h, _ => by simp [RepA] at h
  | _ :: _, [], _, h, _ => by simp [RepA] at h
  | v :: vs, x :: xs, l, hr, h => by
    simp only [mapAll, Option.bind_eq_some_iff, Option.map_eq_some_iff] at h
    obtain ⟨n, h1, l', h2, rfl⟩ := h
    have := ints_rep hr.tail h2
    subst this
    have hd := hr.head
    split at h1
    · rename_i m hm
      simp at h1; subst h1
      rw [hm] at hd
      cases hd
      rfl
    · simp at h1

theorem evI_rep {ts : List DV} {x : Opd} {v : Value} {n : Int} (hr : Rep E (FX X0 E) w v (ev ts x)) (he : evI ts x = some n) : ∃ k, v = .int k n ∧ ev ts x = .int k n := by
  unfold evI at he
  split at he
  · rename_i k m hk
    simp at he; subst he
    rw [hk] at hr; cases hr
    exact ⟨k, rfl, hk⟩
  · simp at he

/-- the parts of a literal -/
theorem parts_rep {ts : List DV} {ρ : Operand → Value} {parts : Array (Nat × Operand)} {place : Nat → Option (Nat × Nat)} {ps : List (Nat × Nat × Opd)}
    (hl : mapAll (fun p : Nat × Operand => (opd p.2).bind fun x => (place p.1).map fun q => (q.1, q.2, x)) parts.toList = some ps) (hρ : ∀ x y, x ∈ parts.map (·.2) → opd x = some y → Rep E (FX X0 E) w (ρ x) (ev ts y))
    (hk : (ps.all fun p => (ev ts p.2.2).known) = true) :
    (parts.map fun (p : Nat × Operand) => (p.1, ρ p.2)).size = (ps.map fun p => (p.1, p.2.1, ev ts p.2.2)).length ∧
    ∀ i (h1 : i < (parts.map fun (p : Nat × Operand) => (p.1, ρ p.2)).size) (h2 : i < (ps.map fun p => (p.1, p.2.1, ev ts p.2.2)).length),
      place (parts.map fun (p : Nat × Operand) => (p.1, ρ p.2))[i].1 = some ((ps.map fun p => (p.1, p.2.1, ev ts p.2.2))[i].1, (ps.map fun p => (p.1, p.2.1, ev ts p.2.2))[i].2.1) ∧
      Rep E (FX X0 E) w (parts.map fun (p : Nat × Operand) => (p.1, ρ p.2))[i].2 (ps.map fun p => (p.1, p.2.1, ev ts p.2.2))[i].2.2 ∧ (ps.map fun p => (p.1, p.2.1, ev ts p.2.2))[i].2.2.known = true := by
  obtain ⟨h1, h2⟩ := mapAll_some hl
  refine ⟨by simpa using h1, fun i a b => ?_⟩
  simp only [Array.size_map, List.length_map] at a b
  have h3 := h2 i (by rw [Array.length_toList]; exact a) b
  simp only [Option.bind_eq_some_iff, Option.map_eq_some_iff, Array.getElem_toList] at h3
  obtain ⟨x, hx, q, hq, e⟩ := h3
  simp only [Array.getElem_map, List.getElem_map]
  rw [← e]
  refine ⟨hq, hρ _ _ (Array.mem_map.2 ⟨parts[i], Array.getElem_mem a, rfl⟩) hx, ?_⟩
  have := List.all_eq_true.1 hk _ (List.getElem_mem b)
  rw [← e] at this
  exact this
end
end Go.Am
