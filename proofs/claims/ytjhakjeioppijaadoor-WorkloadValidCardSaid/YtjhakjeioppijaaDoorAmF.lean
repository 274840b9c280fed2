/-
  The abstract machine, part 6: addresses, stores, slices.
-/
import Derived.Test.YtjhakjeioppijaaDoorAmE
set_option linter.unusedSimpArgs false
set_option linter.unusedVariables false
namespace Go.Am
open Go.RowKit
section
variable {P : Program} {X0 : Forb} {base : Nat} {w : World} {h : List AObj} {E : Env}

theorem mp_inv (hh : HeapRel X0 base w h E) {v : Value} {id ver off : Nat} (hr : Rep E (FX X0 E) w v (.mp id ver off)) {l : List DV} (ho : objAt h id = some l) (hv : l.length = ver) :
    ∃ b arr t, E[id]? = some (some (b, l.length)) ∧ w.heap[b]? = some (.cells arr t (0, 0)) ∧ l.length ≤ arr.size ∧ RepA E (FX X0 E) w (arr.toList.take l.length) l ∧ v = .pointer (some ⟨b, off, none⟩) := by
  obtain ⟨b, arr, t, e1, e2, e3, e4, e5⟩ := hh.obj ho
  cases hr with
  | mp _ _ _ a hid hm =>
    obtain ⟨_, g⟩ := hm b l.length e1
    exact ⟨b, arr, t, e1, e3, e4, e5, by rw [g hv.symm]⟩

theorem ms_inv (hh : HeapRel X0 base w h E) {v : Value} {id ver off s n lim : Nat} (hr : Rep E (FX X0 E) w v (.ms id ver off s n lim)) {l : List DV} (ho : objAt h id = some l) (hv : l.length = ver) :
    ∃ b arr t cap a, E[id]? = some (some (b, l.length)) ∧ w.heap[b]? = some (.cells arr t (0, 0)) ∧ l.length ≤ arr.size ∧ RepA E (FX X0 E) w (arr.toList.take l.length) l ∧ v = .slice (some a) n cap ∧
      n ≤ cap ∧ off + n * s ≤ l.length ∧ (0 < cap → a = ⟨b, off, none⟩) ∧ lim ≤ off + cap * s ∧ off + cap * s ≤ arr.size := by
  obtain ⟨b, arr, t, e1, e2, e3, e4, e5⟩ := hh.obj ho
  cases hr with
  | ms _ _ _ _ _ _ a k cap hid hm =>
    obtain ⟨_, g⟩ := hm b l.length e1
    obtain ⟨g1, g2, g3, ⟨a', g4, g5⟩, g6, g7⟩ := g hv.symm
    subst g3 g4
    exact ⟨b, arr, t, cap, a', e1, e3, e4, e5, rfl, g2, g1, g5, g6, g7 _ _ _ e3⟩

/-- an address in a live object -/
theorem mp_mk {id b L off ver : Nat} (hE : E[id]? = some (some (b, L))) (hv : ver = L) {X : Forb} {w : World} : Rep E X w (.pointer (some ⟨b, off, none⟩)) (.mp id ver off) :=
  .mp id ver off _ (List.getElem?_eq_some_iff.1 hE).1 (fun b' L' h' => by rw [hE] at h'; simp at h'; exact ⟨by omega, fun _ => by rw [h'.1]⟩)

theorem ms_mk {id b L off ver s n lim cap : Nat} {arr : Array Value} {t : TypeId} {X : Forb} {w : World} {a : Addr} (hE : E[id]? = some (some (b, L))) (hv : ver = L) (hb : w.heap[b]? = some (.cells arr t (0, 0)))
    (h1 : off + n * s ≤ L) (h2 : n ≤ cap) (h3 : 0 < cap → a = ⟨b, off, none⟩) (h4 : lim ≤ off + cap * s) (h5 : off + cap * s ≤ arr.size) : Rep E X w (.slice (some a) n cap) (.ms id ver off s n lim) :=
  .ms id ver off s n lim _ _ _ (List.getElem?_eq_some_iff.1 hE).1 (fun b' L' h' => by
    rw [hE] at h'; simp at h'
    obtain ⟨rfl, rfl⟩ := h'
    exact ⟨by omega, fun _ => ⟨h1, h2, rfl, ⟨a, rfl, h3⟩, h4, fun c t' fr hc => by rw [hb] at hc; simp at hc; rw [← hc.1]; exact h5⟩⟩)

theorem ref_mk {X : Forb} {w : World} {a : Addr} {vs : List Value} {cs : List DV} (hr : RepA E X w vs cs) (hc : ∀ j u, vs[j]? = some u → w.cell? (a.add j) = some u) (hx : ∀ i, i < cs.length → ¬ X a.block (a.off + i)) : Rep E X w (.pointer (some a)) (.ref cs) :=
  .ref a cs (fun i => vs.getD i undef) (fun i hi => hc i _ (by rw [List.getD_eq_getElem?_getD, List.getElem?_eq_getElem (by rw [hr.1]; exact hi)]; rfl)) hx
    (fun i hi => by rw [List.getD_eq_getElem?_getD, List.getElem?_eq_getElem (by rw [hr.1]; exact hi)]; exact hr.2 i (by rw [hr.1]; exact hi) hi)

theorem ref_inv {X : Forb} {w : World} {v : Value} {cs : List DV} (hr : Rep E X w v (.ref cs)) : ∃ a vs, v = .pointer (some a) ∧ RepA E X w vs cs ∧ (∀ j u, vs[j]? = some u → w.cell? (a.add j) = some u) ∧ ∀ i, i < cs.length → ¬ X a.block (a.off + i) := by
  cases hr with
  | ref a ds cv hc hx hr =>
    refine ⟨a, (List.range cs.length).map cv, rfl, ⟨by simp, fun i h1 h2 => by simpa using hr i h2⟩, fun j u hj => ?_, hx⟩
    obtain ⟨hj1, hj2⟩ := List.getElem?_eq_some_iff.1 hj
    simp at hj1 hj2
    rw [← hj2]; exact hc j hj1

/-- a slice of cells that nobody writes -/
theorem sl_mk {X : Forb} {w : World} {a : Addr} {vs : List Value} {cs : List DV} {full : Bool} {s n cap : Nat} (hr : RepA E X w vs cs) (hn : n ≤ cap) (hf : full = true → cap = n) (hl : cs.length = n * s)
    (hc : ∀ j u, vs[j]? = some u → w.cell? (a.add j) = some u) (hx : ∀ i, i < cs.length → ¬ X a.block (a.off + i)) : Rep E X w (.slice (some a) n cap) (.sl full s n cs) :=
  .sl full s n cap a cs (fun i => vs.getD i undef) hn hf hl (fun i hi => hc i _ (by rw [List.getD_eq_getElem?_getD, List.getElem?_eq_getElem (by rw [hr.1]; exact hi)]; rfl)) hx
    (fun i hi => by rw [List.getD_eq_getElem?_getD, List.getElem?_eq_getElem (by rw [hr.1]; exact hi)]; exact hr.2 i (by rw [hr.1]; exact hi) hi)

theorem sl_inv {X : Forb} {w : World} {v : Value} {full : Bool} {s n : Nat} {cs : List DV} (hr : Rep E X w v (.sl full s n cs)) : ∃ a cap vs, v = .slice (some a) n cap ∧ n ≤ cap ∧ (full = true → cap = n) ∧ cs.length = n * s ∧
    RepA E X w vs cs ∧ (∀ j u, vs[j]? = some u → w.cell? (a.add j) = some u) ∧ ∀ i, i < cs.length → ¬ X a.block (a.off + i) := by
  cases hr with
  | sl _ _ _ cap a _ cv hn hf hl hc hx hr =>
    refine ⟨a, cap, (List.range cs.length).map cv, rfl, hn, hf, hl, ⟨by simp, fun i h1 h2 => by simpa using hr i h2⟩, fun j u hj => ?_, hx⟩
    obtain ⟨hj1, hj2⟩ := List.getElem?_eq_some_iff.1 hj
    simp at hj1 hj2
    rw [← hj2]; exact hc j hj1

/-- cells further on: for '.ref', '.sl' -/
theorem cells_drop {w : World} {a : Addr} {vs : List Value} (k : Nat) (hc : ∀ j u, vs[j]? = some u → w.cell? (a.add j) = some u) : ∀ j u, (vs.drop k)[j]? = some u → w.cell? ((a.add k).add j) = some u := by
  intro j u hj
  rw [add_add]
  exact hc _ _ (by simpa using hj)
theorem cells_take {w : World} {a : Addr} {vs : List Value} (k : Nat) (hc : ∀ j u, vs[j]? = some u → w.cell? (a.add j) = some u) : ∀ j u, (vs.take k)[j]? = some u → w.cell? (a.add j) = some u := by
  intro j u hj
  rw [List.getElem?_take] at hj
  split at hj
  · exact hc _ _ hj
  · simp at hj

theorem idx_int {t : List DV} {i : Opd} {vi : Value} {n : Int} (hi : Rep E (FX X0 E) w vi (ev t i)) (he : evI t i = some n) : ∃ k, vi = .int k n ∧ (asIntOf vi).run P w = .ok (k, n) w := by
  obtain ⟨k, rfl⟩ := run_asIntOf hi he
  exact ⟨k, rfl, by simp [asIntOf]⟩

theorem idxS_sl (hh : HeapRel X0 base w h E) {t e : TypeId} (ht : P.underlying t = some (.slice e)) {s : Nat} (hs : szT P e = some s) {vx : Value} {full : Bool} {n : Nat} {cs : List DV} (hx : Rep E (FX X0 E) w vx (.sl full s n cs))
    {k : IntKind} {i : Int} (h0 : 0 ≤ i) (h1 : i < n) : Gives P X0 base E w (Instr.indexAt t vx (.int k i)) (.ref ((cs.drop (i.toNat * s)).take s)) h := by
  obtain ⟨a, cap, vs, rfl, hn, hf, hl, hr, hc, hX⟩ := sl_inv hx
  refine gives_pure hh (v := .pointer (some (a.add (i.toNat * s)))) ?_ (ref_mk ((hr.drop _).take s) (cells_take s (cells_drop _ hc)) (fun j hj => ?_))
  · simp [Instr.indexAt, run_underlying ht, asIntOf, run_sizeOf1 hs, h0, h1]
  · rw [add_block, add_off, Nat.add_assoc]
    simp at hj
    exact hX _ (by omega)

theorem idxS_ms (hh : HeapRel X0 base w h E) {t e : TypeId} (ht : P.underlying t = some (.slice e)) {s : Nat} (hs : szT P e = some s) {vx : Value} {id ver off n lim : Nat} (hx : Rep E (FX X0 E) w vx (.ms id ver off s n lim))
    {l : List DV} (ho : objAt h id = some l) (hv : l.length = ver) {k : IntKind} {i : Int} (h0 : 0 ≤ i) (h1 : i < n) : Gives P X0 base E w (Instr.indexAt t vx (.int k i)) (.mp id ver (off + i.toNat * s)) h := by
  obtain ⟨b, arr, ty, cap, a, e1, e2, e3, e4, rfl, g1, g2, g3, g4, g5⟩ := ms_inv hh hx ho hv
  have ha := g3 (by omega)
  subst ha
  refine gives_pure hh (v := .pointer (some ((⟨b, off, none⟩ : Addr).add (i.toNat * s)))) ?_ ?_
  · simp [Instr.indexAt, run_underlying ht, asIntOf, run_sizeOf1 hs, h0, h1]
  · rw [add_mk]; exact mp_mk e1 hv.symm

theorem idxA_ref (hh : HeapRel X0 base w h E) {t e : TypeId} {len : Nat} (ht : P.underlying t = some (.array len e)) {s : Nat} (hs : szT P e = some s) {vx : Value} {cs : List DV} (hx : Rep E (FX X0 E) w vx (.ref cs))
    {k : IntKind} {i : Int} (h0 : 0 ≤ i) (h1 : i < len) : Gives P X0 base E w (Instr.indexAt t vx (.int k i)) (.ref ((cs.drop (i.toNat * s)).take s)) h := by
  obtain ⟨a, vs, rfl, hr, hc, hX⟩ := ref_inv hx
  refine gives_pure hh (v := .pointer (some (a.add (i.toNat * s)))) ?_ (ref_mk ((hr.drop _).take s) (cells_take s (cells_drop _ hc)) (fun j hj => ?_))
  · simp [Instr.indexAt, run_underlying ht, asIntOf, run_sizeOf1 hs, h0, h1, Instr.sureAddr]
  · rw [add_block, add_off, Nat.add_assoc]
    simp at hj
    exact hX _ (by omega)

theorem idxA_mp (hh : HeapRel X0 base w h E) {t e : TypeId} {len : Nat} (ht : P.underlying t = some (.array len e)) {s : Nat} (hs : szT P e = some s) {vx : Value} {id ver off : Nat} (hx : Rep E (FX X0 E) w vx (.mp id ver off))
    {l : List DV} (ho : objAt h id = some l) (hv : l.length = ver) {k : IntKind} {i : Int} (h0 : 0 ≤ i) (h1 : i < len) : Gives P X0 base E w (Instr.indexAt t vx (.int k i)) (.mp id ver (off + i.toNat * s)) h := by
  obtain ⟨b, arr, ty, e1, e2, e3, e4, rfl⟩ := mp_inv hh hx ho hv
  refine gives_pure hh (v := .pointer (some ((⟨b, off, none⟩ : Addr).add (i.toNat * s)))) ?_ ?_
  · simp [Instr.indexAt, run_underlying ht, asIntOf, run_sizeOf1 hs, h0, h1, Instr.sureAddr]
  · rw [add_mk]; exact mp_mk e1 hv.symm

theorem fld_ref (hh : HeapRel X0 base w h E) {t : TypeId} {fs : Array Field} (ht : P.underlying t = some (.struct fs)) {i : Nat} {f : Field} (hf : fs[i]? = some f) {n : Nat} (hs : szT P f.type = some n) (hn : n ≠ 0) {vx : Value} {cs : List DV} (hx : Rep E (FX X0 E) w vx (.ref cs)) :
    Gives P X0 base E w (Instr.fieldAt t vx i) (.ref (cs.drop f.offset)) h := by
  obtain ⟨a, vs, rfl, hr, hc, hX⟩ := ref_inv hx
  refine gives_pure hh (v := .pointer (some (a.add f.offset))) ?_ (ref_mk (hr.drop _) (cells_drop _ hc) (fun j hj => ?_))
  · simp [Instr.fieldAt, run_underlying ht, hf, Instr.sureAddr, fieldPlace, run_sizeOf1 hs, hn]
  · rw [add_block, add_off, Nat.add_assoc]
    simp at hj
    exact hX _ (by omega)

theorem fld_mp (hh : HeapRel X0 base w h E) {t : TypeId} {fs : Array Field} (ht : P.underlying t = some (.struct fs)) {i : Nat} {f : Field} (hf : fs[i]? = some f) {n : Nat} (hs : szT P f.type = some n) (hn : n ≠ 0) {vx : Value} {id ver off : Nat} (hx : Rep E (FX X0 E) w vx (.mp id ver off))
    {l : List DV} (ho : objAt h id = some l) (hv : l.length = ver) : Gives P X0 base E w (Instr.fieldAt t vx i) (.mp id ver (off + f.offset)) h := by
  obtain ⟨b, arr, ty, e1, e2, e3, e4, rfl⟩ := mp_inv hh hx ho hv
  refine gives_pure hh (v := .pointer (some ((⟨b, off, none⟩ : Addr).add f.offset))) ?_ ?_
  · simp [Instr.fieldAt, run_underlying ht, hf, Instr.sureAddr, fieldPlace, run_sizeOf1 hs, hn]
  · rw [add_mk]; exact mp_mk e1 hv.symm

theorem splice_length (l : List DV) (off : Nat) (cs : List DV) (h1 : off + cs.length ≤ l.length) : (splice l off cs).length = l.length := by
  simp [splice]; omega

/-- the block behind a store of 'vs' at 'off' -/
theorem repA_splice {X : Forb} {w : World} {A vs : List Value} {l cs : List DV} {L off : Nat} (hA : RepA E X w (A.take L) l) (hL : L ≤ A.length) (hr : RepA E X w vs cs) (hfit : off + cs.length ≤ L) :
    RepA E X w ((A.take off ++ vs ++ A.drop (off + vs.length)).take L) (splice l off cs) := by
  have e1 : (A.take off ++ vs ++ A.drop (off + vs.length)).take L = (A.take L).take off ++ vs ++ (A.take L).drop (off + vs.length) := by
    have hl := hr.1
    rw [List.take_take, show min off L = off by omega, List.take_append, List.take_append]
    rw [List.take_of_length_le (l := A.take off) (by simp; omega), List.take_of_length_le (l := vs) (by simp; omega)]
    rw [List.take_drop]
    congr 2
    simp
    omega
  rw [e1]
  unfold splice
  have hl := hr.1
  rw [hl]
  exact ((hA.take off).append hr).append (hA.drop _)

theorem store_run (hh : HeapRel X0 base w h E) {id b off : Nat} {l : List DV} {arr : Array Value} {ty : TypeId} (ho : objAt h id = some l) (e1 : E[id]? = some (some (b, l.length))) (e2 : w.heap[b]? = some (.cells arr ty (0, 0)))
    (e3 : l.length ≤ arr.size) (e4 : RepA E (FX X0 E) w (arr.toList.take l.length) l) {vs : List Value} {cs : List DV} (hr : RepA E (FX X0 E) w vs cs) (h1 : cs.all DV.one = true) (hfit : off + cs.length ≤ l.length) :
    ∃ w' E', (storeCells ⟨b, off, none⟩ vs 0).run P w = .ok () w' ∧ HeapRel X0 base w' (h.set id (.cells (splice l off cs))) E' ∧ Trans X0 base E w E' w' ∧ E'[id]? = some (some (b, l.length)) ∧
      ∃ arr', w'.heap[b]? = some (.cells arr' ty (0, 0)) ∧ arr'.size = arr.size := by
  have hl := hr.1
  have hrun := run_storeCells_at P b off ty vs 0 arr w e2 (by omega) (hr.oneCells h1)
  have hsz : ((arr.toList.take (off + 0) ++ vs ++ arr.toList.drop (off + 0 + vs.length)).toArray).size = arr.size := by simp; omega
  have hsl := splice_length l off cs hfit
  have hw := obj_write hh ho e1 e2 hsz (l' := splice l off cs) (by omega) (by omega) (by
    rw [hsl]
    have := repA_splice e4 (by simpa using e3) hr hfit
    simpa using this)
  refine ⟨_, _, hrun, hw.1, hw.2, ?_, _, setRow_heap w b arr _ ty (0, 0) e2, hsz⟩
  rw [List.getElem?_set_self (List.getElem?_eq_some_iff.1 e1).1, hsl]

theorem store_ok (hh : HeapRel X0 base w h E) {t : TypeId} {n : Nat} (hn : szT P t = some n) {va v : Value} {id ver off : Nat} {d : DV} (ha : Rep E (FX X0 E) w va (.mp id ver off)) (hv : Rep E (FX X0 E) w v d)
    {l : List DV} (ho : objAt h id = some l) (hver : l.length = ver) (hd : d.cells.length = n) (hfit : off + n ≤ ver) (h1 : d.cells.all DV.one = true) :
    ∃ w' E', (Instr.storeAt t va v).run P w = .ok () w' ∧ HeapRel X0 base w' (h.set id (.cells (splice l off d.cells))) E' ∧ Trans X0 base E w E' w' := by
  obtain ⟨b, arr, ty, e1, e2, e3, e4, rfl⟩ := mp_inv hh ha ho hver
  have hk : d.known = true := by cases d <;> simp_all [DV.known, DV.cells, DV.one]
  have hc := hv.cells hk
  obtain ⟨w', E', g1, g2, g3, _⟩ := store_run (P := P) hh ho e1 e2 e3 e4 hc h1 (off := off) (by omega)
  have hsz : v.cells.size = n := by have := hc.1; simp at this; omega
  exact ⟨w', E', by simp [Instr.storeAt, Instr.sureAddr, storeVar, run_sizeOf1 hn, hsz, g1], g2, g3⟩
end
end Go.Am
