/-
  The abstract machine, part 5: what each operation gives, one by one.
-/
import Derived.Test.YtjhakjeioppijaaDoorAmD
set_option linter.unusedSimpArgs false
set_option linter.unusedVariables false
namespace Go.Am
open Go.RowKit

def Gives (P : Program) (X0 : Forb) (base : Nat) (E : Env) (w : World) (s : Sem Value) (d : DV) (h' : List AObj) : Prop :=
  ∃ v w' E', s.run P w = .ok v w' ∧ HeapRel X0 base w' h' E' ∧ Rep E' (FX X0 E') w' v d ∧ Trans X0 base E w E' w'

section
variable {P : Program} {X0 : Forb} {base : Nat} {w : World} {h : List AObj} {E : Env}

theorem gives_pure (hh : HeapRel X0 base w h E) {s : Sem Value} {v : Value} {d : DV} (hs : s.run P w = .ok v w) (hr : Rep E (FX X0 E) w v d) : Gives P X0 base E w s d h :=
  ⟨v, w, E, hs, hh, hr, .refl _ _ _ _⟩

theorem run_sizeOf1 {t : TypeId} {n : Nat} (hi : szT P t = some n) (w : World) : (sizeOf t).run P w = .ok n w := by
  unfold szT at hi
  obtain ⟨i, hj, rfl⟩ := Option.map_eq_some_iff.1 hi
  simp [sizeOf, typeInfo, hj]
theorem run_bytes1 {t : TypeId} {n : Nat} (hi : bytesT P t = some n) (w : World) : ∃ i, (typeInfo t).run P w = .ok i w ∧ i.bytes = n := by
  unfold bytesT at hi
  obtain ⟨i, hj, rfl⟩ := Option.map_eq_some_iff.1 hi
  exact ⟨i, by simp [typeInfo, hj], rfl⟩
theorem run_isAgg1 {t : TypeId} {b : Bool} (hi : aggT P t = some b) (w : World) : (isAgg t).run P w = .ok b w := by
  unfold aggT at hi
  obtain ⟨d, hd, rfl⟩ := Option.map_eq_some_iff.1 hi
  simp only [isAgg, Sem.run_bind, run_underlying hd, Result.andThen_ok]
  cases d <;> rfl
theorem run_zero1 {t : TypeId} {zs : List DV} (hz : zerosT P t = some zs) (w : World) : ∃ z : Value, (zeroValue t).run P w = .ok z w ∧ ∀ E X (w' : World), RepA E X w' z.cells.toList zs := by
  unfold zerosT at hz
  simp only [Option.bind_eq_some_iff] at hz
  obtain ⟨z, ⟨i, hi, hiz⟩, hm⟩ := hz
  exact ⟨z, by simp [zeroValue, typeInfo, hi, hiz], fun E X w' => constA hm⟩

theorem run_asIntOf {t : List DV} {x : Opd} {v : Value} {n : Int} (hr : Rep E (FX X0 E) w v (ev t x)) (he : evI t x = some n) : ∃ k, v = .int k n := by
  unfold evI at he
  split at he
  · rename_i k m hk
    simp at he; subst he
    rw [hk] at hr; cases hr
    exact ⟨k, rfl⟩
  · simp at he

/-- reading one variable out of cells -/
theorem one_load {n : Nat} {agg : Bool} {cs : List DV} {d : DV} (ho : one n agg cs = some d) {vs : List Value} (hr : RepA E (FX X0 E) w vs cs) {t : TypeId} (hn : szT P t = some n) (ha : aggT P t = some agg)
    {a : Addr} (hc : ∀ j u, vs[j]? = some u → w.cell? (a.add j) = some u) : ∃ v, (loadVar t a).run P w = .ok v w ∧ Rep E (FX X0 E) w v d := by
  unfold one at ho
  cases agg with
  | true =>
    simp only [if_true] at ho
    split at ho
    · rename_i hle
      simp at ho; subst ho
      have hlen : (vs.take n).length = n := by simp [hr.1]; omega
      refine ⟨.agg (vs.take n).toArray, ?_, (hr.take n).agg⟩
      have := run_loadCells_list (P := P) w a (vs.take n) (fun j u hj => hc j u (by rw [List.getElem?_take] at hj; split at hj; exact hj; simp at hj))
      rw [hlen] at this
      simp [loadVar, run_isAgg1 ha, run_sizeOf1 hn, this]
    · simp at ho
  | false =>
    simp only [Bool.false_eq_true, if_false] at ho
    cases cs with
    | nil => simp at ho
    | cons c r =>
      cases vs with
      | nil => simp [RepA] at hr
      | cons u vs =>
        simp only at ho
        split at ho
        · simp at ho; subst ho
          refine ⟨u, ?_, hr.head⟩
          have h0 := hc 0 u rfl
          simp [Addr.add] at h0
          simp [loadVar, run_isAgg1 ha, h0]
        · simp at ho

theorem one_part {n : Nat} {agg : Bool} {cs : List DV} {d : DV} {off : Nat} (ho : one n agg (cs.drop off) = some d) {vs : Array Value} (hr : RepA E (FX X0 E) w vs.toList cs) {t : TypeId} (hn : szT P t = some n) (ha : aggT P t = some agg) :
    ∃ v, (part t vs off).run P w = .ok v w ∧ Rep E (FX X0 E) w v d := by
  unfold one at ho
  cases agg with
  | true =>
    simp only [if_true] at ho
    split at ho
    · rename_i hle
      simp at ho; subst ho
      refine ⟨.agg (vs.extract off (off + n)), by simp [part, run_isAgg1 ha, run_sizeOf1 hn], ?_⟩
      have e : vs.extract off (off + n) = ((vs.toList.drop off).take n).toArray := by
        apply Array.ext'
        rw [Array.toList_extract, List.extract_eq_take_drop]
        simp
      rw [e]
      exact ((hr.drop off).take n).agg
    · simp at ho
  | false =>
    simp only [Bool.false_eq_true, if_false] at ho
    cases hd : cs.drop off with
    | nil => rw [hd] at ho; simp at ho
    | cons c r =>
      rw [hd] at ho
      simp only at ho
      split at ho
      · simp at ho; subst ho
        have hlt : off < cs.length := by
          rcases Nat.lt_or_ge off cs.length with g | g
          · exact g
          · rw [List.drop_eq_nil_of_le g] at hd; simp at hd
        have hlt' : off < vs.size := by have := hr.1; simp at this; omega
        have hc : cs[off] = c := by
          have := List.getElem_drop (xs := cs) (i := off) (j := 0) (h := by rw [hd]; simp)
          simp only [hd] at this
          simpa using this.symm
        refine ⟨vs[off], by simp [part, run_isAgg1 ha, hlt'], ?_⟩
        have := hr.2 off (by simpa using hlt') hlt
        rw [hc] at this
        simpa using this
      · simp at ho

theorem load_ok (hh : HeapRel X0 base w h E) {v : Value} {d d' : DV} (hr : Rep E (FX X0 E) w v d) {n : Nat} {agg : Bool} {t : TypeId} (hn : szT P t = some n) (ha : aggT P t = some agg) {cs : List DV}
    (hv : vis h d = some cs) (ho : one n agg cs = some d') : Gives P X0 base E w (Instr.loadAt t v) d' h := by
  obtain ⟨a, vs, rfl, hra, hc⟩ := vis_sound hh hr hv
  obtain ⟨u, h1, h2⟩ := one_load (P := P) ho hra hn ha hc
  exact gives_pure hh (by simp [Instr.loadAt, Instr.sureAddr, h1]) h2

theorem shift_ok (op : BinOp) (k yk : IntKind) (x y : Int) {d : DV} (hd : shiftOp op k x y = some d) (w : World) : ∃ v, (Op.shift op k x yk y).run P w = .ok v w ∧ ∀ E X (w' : World), Rep E X w' v d := by
  unfold shiftOp at hd
  split at hd
  · simp at hd
  · rename_i hy
    cases op <;> simp at hd <;> subst hd <;> exact ⟨_, by simp [Op.shift, hy], fun _ _ _ => .int _ _⟩

theorem intOp_ok (t : TypeId) (op : BinOp) (k : IntKind) (x y : Int) {d : DV} (hd : intOp op k x y = some d) (hs : op ≠ .shl) (hs' : op ≠ .shr) (w : World) : ∃ v, (binOp op t (.int k x) (.int k y)).run P w = .ok v w ∧ ∀ E X (w' : World), Rep E X w' v d := by
  cases op
  case shl => exact absurd rfl hs
  case shr => exact absurd rfl hs'
  case quo =>
    simp only [intOp] at hd
    split at hd
    · simp at hd
    · rename_i hy
      simp at hd; subst hd
      exact ⟨.int k (k.wrap (x.tdiv y)), by simp only [binOp]; simp [Op.intDiv, hy], fun _ _ _ => .int _ _⟩
  case rem =>
    simp only [intOp] at hd
    split at hd
    · simp at hd
    · rename_i hy
      simp at hd; subst hd
      exact ⟨.int k (x.tmod y), by simp only [binOp]; simp [Op.intDiv, hy], fun _ _ _ => .int _ _⟩
  all_goals
    simp only [intOp, Option.some.injEq] at hd
    subst hd
    first
      | exact ⟨.int k _, by simp only [binOp, ne_eq, not_true_eq_false, if_false]; rfl, fun _ _ _ => .int _ _⟩
      | exact ⟨.bool _, by simp only [binOp, ne_eq, not_true_eq_false, if_false]; rfl, fun _ _ _ => .bool _⟩

theorem toList_data (s : ByteArray) : s.toList = s.data.toList := by rw [ByteArray.toList_eq]

theorem strOp_ok (op : BinOp) (x y : ByteArray) {d : DV} (hd : strOp op x.data.toList y.data.toList = some d) (w : World) : ∃ v, (Op.stringOp op x y).run P w = .ok v w ∧ ∀ E X (w' : World), Rep E X w' v d := by
  have e1 := toList_data x
  have e2 := toList_data y
  have s1 : x.size = x.data.toList.length := by rw [Array.length_toList]; rfl
  have s2 : y.size = y.data.toList.length := by rw [Array.length_toList]; rfl
  cases op <;> simp only [strOp] at hd <;> try (simp at hd; done)
  case add =>
    split at hd
    · rename_i hle
      simp at hd; subst hd
      refine ⟨.string (x ++ y), ?_, fun _ _ _ => .str _ _ (by simp)⟩
      have : ¬ (IntKind.i64.max < ((x.size + y.size : Nat) : Int)) := by
        simp [IntKind.max, IntKind.signed, IntKind.bits]; omega
      simp only [Op.stringOp]
      rw [if_neg (by simpa using this)]; rfl
    · simp at hd
  all_goals (simp only [Option.some.injEq] at hd; subst hd; exact ⟨_, by simp only [Op.stringOp, e1, e2]; rfl, fun _ _ _ => .bool _⟩)

theorem eqGuard_plain (op : BinOp) (t : TypeId) (x y : Operand) {a b : Value} (h1 : ∀ c, a ≠ .agg c) (h2 : a ≠ .nilIface) (w : World) : (eqGuard op t x y a b).run P w = .ok () w := by
  unfold eqGuard
  cases op <;> simp <;> (split <;> first | rfl | (simp_all; done))

theorem bin_ok (hh : HeapRel X0 base w h E) (o1 o2 : Operand) (t : TypeId) {op : BinOp} {x y : Value} {dx dy d : DV} (hx : Rep E (FX X0 E) w x dx) (hy : Rep E (FX X0 E) w y dy) (hd : binOpD op dx dy = some d) :
    Gives P X0 base E w (do eqGuard op t o1 o2 x y; binOp op t x y) d h := by
  have fin : ∀ {v : Value}, (∀ c, x ≠ .agg c) → x ≠ .nilIface → (binOp op t x y).run P w = .ok v w → Rep E (FX X0 E) w v d → Gives P X0 base E w (do eqGuard op t o1 o2 x y; binOp op t x y) d h :=
    fun h1 h2 h3 h4 => gives_pure hh (by simp [eqGuard_plain op t o1 o2 h1 h2, h3]) h4
  unfold binOpD at hd
  split at hd
  · cases hx; cases hy
    split at hd
    · obtain ⟨v, h1, h2⟩ := shift_ok (P := P) _ _ _ _ _ hd w
      exact fin (by simp) (by simp) (by simpa [binOp] using h1) (h2 _ _ _)
    · obtain ⟨v, h1, h2⟩ := shift_ok (P := P) _ _ _ _ _ hd w
      exact fin (by simp) (by simp) (by simpa [binOp] using h1) (h2 _ _ _)
    · rename_i hs1 hs2
      split at hd
      · rename_i hk; subst hk
        obtain ⟨v, h1, h2⟩ := intOp_ok (P := P) t op _ _ _ hd (fun e => hs1 e) (fun e => hs2 e) w
        exact fin (by simp) (by simp) h1 (h2 _ _ _)
      · simp at hd
  · cases hx with
    | str s _ hs => cases hy with
      | str s' _ hs' =>
        subst hs hs'
        obtain ⟨v, h1, h2⟩ := strOp_ok (P := P) op s s' hd w
        refine fin (by simp) (by simp) ?_ (h2 _ _ _)
        cases op <;> simpa [binOp] using h1
  · simp at hd

theorem eqb_ok (hh : HeapRel X0 base w h E) (o1 o2 : Operand) (t : TypeId) (ht : P.underlying t = some .bool) {op : BinOp} (ho : op = .eql ∨ op = .neq) {x y : Value} {a b : Bool} (hx : Rep E (FX X0 E) w x (.bool a)) (hy : Rep E (FX X0 E) w y (.bool b)) :
    Gives P X0 base E w (do eqGuard op t o1 o2 x y; binOp op t x y) (.bool (if decide (op = .neq) then !(a == b) else (a == b))) h := by
  cases hx; cases hy
  rcases ho with rfl | rfl
  · refine gives_pure (v := .bool (a == b)) hh ?_ (by simpa using .bool _)
    have h1 := run_equalIn_bool' (P := P) w 9999 t a b ht
    simp only [Sem.run_bind, eqGuard_plain (P := P) .eql t o1 o2 (a := .bool a) (b := .bool b) (by simp) (by simp) w, Result.andThen_ok, binOp, Op.equal, Op.maxDepth, h1, Sem.run_pure]
  · refine gives_pure (v := .bool (!(a == b))) hh ?_ (by simpa using .bool _)
    have h1 := run_equalIn_bool' (P := P) w 9999 t a b ht
    simp only [Sem.run_bind, eqGuard_plain (P := P) .neq t o1 o2 (a := .bool a) (b := .bool b) (by simp) (by simp) w, Result.andThen_ok, binOp, Op.equal, Op.maxDepth, h1, Sem.run_pure]
end
end Go.Am
