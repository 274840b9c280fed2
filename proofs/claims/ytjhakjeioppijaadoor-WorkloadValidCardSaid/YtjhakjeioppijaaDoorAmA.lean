/-
  The abstract machine, part 1: pure data 'DV', objects that a call owns, the relation 'Rep' between a machine value in a world and its datum, and how it is kept.
-/
import Derived.WalkKit
import Derived.RangeFuncFrom
import Derived.RangeFuncCalls
set_option linter.unusedSimpArgs false
set_option linter.unusedVariables false
namespace Go.Am
open Go.RowKit

/-- A datum: what a machine value stands for. -/
inductive DV where
  | int (k : IntKind) (n : Int)
  | bool (b : Bool)
  | str (s : List UInt8)
  | agg (cs : List DV)
  | tup (vs : List DV)
  | nilp | nilm | nilf | nili | nils
  | sl (full : Bool) (s n : Nat) (cs : List DV)
  | ref (cs : List DV)
  | fn (f : Fn) (first captured : List DV)
  | iface (t : Nat) (v : DV)
  | ms (id ver off s n lim : Nat)
  | mp (id ver off : Nat)
  | junk
  deriving Inhabited

def DV.cells : DV → List DV
  | .agg cs => cs
  | d => [d]

abbrev Forb := Nat → Nat → Prop
/-- per object: its block and its length in cells; none: dead -/
abbrev Env := List (Option (Nat × Nat))

inductive Rep (E : Env) (X : Forb) (w : World) : Value → DV → Prop
  | int (k : IntKind) (n : Int) : Rep E X w (.int k n) (.int k n)
  | bool (b : Bool) : Rep E X w (.bool b) (.bool b)
  | str (s : ByteArray) (l : List UInt8) (h : s.data.toList = l) : Rep E X w (.string s) (.str l)
  | agg (cs : Array Value) (ds : List DV) (hl : cs.size = ds.length) (h : ∀ i (h1 : i < cs.size) (h2 : i < ds.length), Rep E X w cs[i] ds[i]) : Rep E X w (.agg cs) (.agg ds)
  | tup (cs : Array Value) (ds : List DV) (hl : cs.size = ds.length) (h : ∀ i (h1 : i < cs.size) (h2 : i < ds.length), Rep E X w cs[i] ds[i]) : Rep E X w (.tuple cs) (.tup ds)
  | nilp : Rep E X w (.pointer none) .nilp
  | nilm : Rep E X w (.map none) .nilm
  | nilf : Rep E X w .nilFunc .nilf
  | nili : Rep E X w .nilIface .nili
  | nils : Rep E X w (.slice none 0 0) .nils
  | sl (full : Bool) (s n cap : Nat) (a : Addr) (ds : List DV) (cv : Nat → Value) (hn : n ≤ cap) (hf : full = true → cap = n) (hl : ds.length = n * s)
      (hc : ∀ i, i < ds.length → w.cell? (a.add i) = some (cv i)) (hx : ∀ i, i < ds.length → ¬ X a.block (a.off + i))
      (hr : ∀ i (h : i < ds.length), Rep E X w (cv i) ds[i]) : Rep E X w (.slice (some a) n cap) (.sl full s n ds)
  | ref (a : Addr) (ds : List DV) (cv : Nat → Value)
      (hc : ∀ i, i < ds.length → w.cell? (a.add i) = some (cv i)) (hx : ∀ i, i < ds.length → ¬ X a.block (a.off + i))
      (hr : ∀ i (h : i < ds.length), Rep E X w (cv i) ds[i]) : Rep E X w (.pointer (some a)) (.ref ds)
  | fn (f : Fn) (first captured : Array Value) (df dc : List DV) (h1 : first.size = df.length) (h2 : captured.size = dc.length)
      (r1 : ∀ i (h1 : i < first.size) (h2 : i < df.length), Rep E X w first[i] df[i]) (r2 : ∀ i (h1 : i < captured.size) (h2 : i < dc.length), Rep E X w captured[i] dc[i]) :
      Rep E X w (.func f first captured) (.fn f df dc)
  | iface (t : Nat) (v : Value) (d : DV) (h : Rep E X w v d) : Rep E X w (.iface t v) (.iface t d)
  | ms (id ver off s n lim : Nat) (a : Option Addr) (k cap : Nat) (hid : id < E.length)
      (h : ∀ b L, E[id]? = some (some (b, L)) → ver ≤ L ∧ (ver = L → off + n * s ≤ L ∧ n ≤ cap ∧ k = n ∧ (∃ a', a = some a' ∧ (0 < cap → a' = ⟨b, off, none⟩)) ∧ lim ≤ off + cap * s ∧
        ∀ c t fr, w.heap[b]? = some (.cells c t fr) → off + cap * s ≤ c.size)) : Rep E X w (.slice a k cap) (.ms id ver off s n lim)
  | mp (id ver off : Nat) (a : Option Addr) (hid : id < E.length)
      (h : ∀ b L, E[id]? = some (some (b, L)) → ver ≤ L ∧ (ver = L → a = some ⟨b, off, none⟩)) : Rep E X w (.pointer a) (.mp id ver off)
  | junk (v : Value) : Rep E X w v .junk

theorem add_block (a : Addr) (i : Nat) : (a.add i).block = a.block := by unfold Addr.add; split <;> rfl
theorem add_off (a : Addr) (i : Nat) : (a.add i).off = a.off + i := by unfold Addr.add; split <;> simp_all

/-- what may be read outside X still reads so, outside X' -/
structure Keep (X : Forb) (w : World) (X' : Forb) (w' : World) : Prop where
  cell : ∀ a v, w.cell? a = some v → ¬ X a.block a.off → w'.cell? a = some v ∧ ¬ X' a.block a.off

/-- objects only grow or die; a live object's block has kept its number of cells -/
structure ERel (E : Env) (w : World) (E' : Env) (w' : World) : Prop where
  len : E.length ≤ E'.length
  at_ : ∀ id, id < E.length → ∀ b' L', E'[id]? = some (some (b', L')) → ∃ b L, E[id]? = some (some (b, L)) ∧ L ≤ L' ∧
    (L = L' → b = b' ∧ ∀ c' t' fr', w'.heap[b']? = some (.cells c' t' fr') → ∃ c t fr, w.heap[b]? = some (.cells c t fr) ∧ c.size = c'.size)

theorem Keep.refl (X : Forb) (w : World) : Keep X w X w := ⟨fun _ _ h hx => ⟨h, hx⟩⟩
theorem Keep.trans {X w X' w' X'' w''} (h : Keep X w X' w') (k : Keep X' w' X'' w'') : Keep X w X'' w'' :=
  ⟨fun a v h1 h2 => let ⟨h3, h4⟩ := h.cell a v h1 h2; k.cell a v h3 h4⟩

theorem ERel.refl (E : Env) (w : World) : ERel E w E w :=
  ⟨Nat.le_refl _, fun _ _ b' L' h => ⟨b', L', h, Nat.le_refl _, fun _ => ⟨rfl, fun c t fr hc => ⟨c, t, fr, hc, rfl⟩⟩⟩⟩
theorem ERel.trans {E w E' w' E'' w''} (h : ERel E w E' w') (k : ERel E' w' E'' w'') : ERel E w E'' w'' := by
  refine ⟨Nat.le_trans h.len k.len, fun id hid b2 L2 h2 => ?_⟩
  obtain ⟨b1, L1, h1, hl1, e1⟩ := k.at_ id (Nat.lt_of_lt_of_le hid h.len) b2 L2 h2
  obtain ⟨b0, L0, h0, hl0, e0⟩ := h.at_ id hid b1 L1 h1
  refine ⟨b0, L0, h0, Nat.le_trans hl0 hl1, fun e => ?_⟩
  have e01 : L0 = L1 := by omega
  have e12 : L1 = L2 := by omega
  obtain ⟨p1, q1⟩ := e1 e12
  obtain ⟨p0, q0⟩ := e0 e01
  refine ⟨p0.trans p1, fun c2 t2 f2 hc2 => ?_⟩
  obtain ⟨c1, t1, f1, hc1, s1⟩ := q1 c2 t2 f2 hc2
  obtain ⟨c0, t0, f0, hc0, s0⟩ := q0 c1 t1 f1 hc1
  exact ⟨c0, t0, f0, hc0, s0.trans s1⟩

theorem Rep.mono {E X w E' X' w'} {v : Value} {d : DV} (h : Rep E X w v d) (he : ERel E w E' w') (hk : Keep X w X' w') : Rep E' X' w' v d := by
  induction h with
  | int k n => exact .int k n
  | bool b => exact .bool b
  | str s l h => exact .str s l h
  | agg cs ds hl _ ih => exact .agg cs ds hl ih
  | tup cs ds hl _ ih => exact .tup cs ds hl ih
  | nilp => exact .nilp
  | nilm => exact .nilm
  | nilf => exact .nilf
  | nili => exact .nili
  | nils => exact .nils
  | sl full s n cap a ds cv hn hf hl hc hx _ ih =>
    refine .sl full s n cap a ds cv hn hf hl (fun i hi => ?_) (fun i hi => ?_) ih
    · exact (hk.cell _ _ (hc i hi) (by rw [add_block, add_off]; exact hx i hi)).1
    · have := (hk.cell _ _ (hc i hi) (by rw [add_block, add_off]; exact hx i hi)).2
      rwa [add_block, add_off] at this
  | ref a ds cv hc hx _ ih =>
    refine .ref a ds cv (fun i hi => ?_) (fun i hi => ?_) ih
    · exact (hk.cell _ _ (hc i hi) (by rw [add_block, add_off]; exact hx i hi)).1
    · have := (hk.cell _ _ (hc i hi) (by rw [add_block, add_off]; exact hx i hi)).2
      rwa [add_block, add_off] at this
  | fn f first captured df dc h1 h2 _ _ ih1 ih2 => exact .fn f first captured df dc h1 h2 ih1 ih2
  | iface t v d _ ih => exact .iface t v d ih
  | ms id ver off s n lim a k cap hid h =>
    refine .ms id ver off s n lim a k cap (Nat.lt_of_lt_of_le hid he.len) (fun b' L' h' => ?_)
    obtain ⟨b, L, h0, hl, e⟩ := he.at_ id hid b' L' h'
    obtain ⟨g1, g2⟩ := h b L h0
    refine ⟨Nat.le_trans g1 hl, fun ev => ?_⟩
    have e1 : L = L' := by omega
    have e2 : ver = L := by omega
    obtain ⟨p, q⟩ := e e1
    obtain ⟨r1, r2, r3, r4, r5, r6⟩ := g2 e2
    refine ⟨by omega, r2, r3, p ▸ r4, r5, fun c t fr hc => ?_⟩
    obtain ⟨c0, t0, f0, hc0, hs⟩ := q c t fr hc
    rw [← hs]; exact r6 c0 t0 f0 hc0
  | mp id ver off a hid h =>
    refine .mp id ver off a (Nat.lt_of_lt_of_le hid he.len) (fun b' L' h' => ?_)
    obtain ⟨b, L, h0, hl, e⟩ := he.at_ id hid b' L' h'
    obtain ⟨g1, g2⟩ := h b L h0
    refine ⟨Nat.le_trans g1 hl, fun ev => ?_⟩
    obtain ⟨p, _⟩ := e (by omega)
    rw [g2 (by omega), p]
  | junk v => exact .junk v

/-- a whole object -/
inductive AObj where
  | cells (cs : List DV)
  | dead
  deriving Inhabited

/-- what is forbidden to pure data: the caller's own, and every live object's block -/
def FX (X0 : Forb) (E : Env) : Forb := fun b o => X0 b o ∨ ∃ (id : Nat) (L : Nat), E[id]? = some (some (b, L))

structure HeapRel (X0 : Forb) (base : Nat) (w : World) (h : List AObj) (E : Env) : Prop where
  len : E.length = h.length
  x0 : ∀ b o, X0 b o → b < base
  size : base ≤ w.heap.size
  cells : ∀ (id : Nat) (cs : List DV), h[id]? = some (AObj.cells cs) → ∃ b arr t, E[id]? = some (some (b, cs.length)) ∧ base ≤ b ∧ w.heap[b]? = some (.cells arr t (0, 0)) ∧ cs.length ≤ arr.size ∧
    ∀ i (h1 : i < cs.length) (h2 : i < arr.size), Rep E (FX X0 E) w arr[i] cs[i]
  dead : ∀ (id : Nat), h[id]? = some AObj.dead → E[id]? = some none
  apart : ∀ (id id' b L b' L' : Nat), id ≠ id' → E[id]? = some (some (b, L)) → E[id']? = some (some (b', L')) → b ≠ b'

/-- a list of values and of their data -/
def RepL (E : Env) (X : Forb) (w : World) (vs : Array Value) (ds : List DV) : Prop :=
  ∀ i, Rep E X w (vs.getD i undef) (ds.getD i .junk)

theorem RepL.mono {E X w E' X' w'} {vs : Array Value} {ds : List DV} (h : RepL E X w vs ds) (he : ERel E w E' w') (hk : Keep X w X' w') : RepL E' X' w' vs ds :=
  fun i => (h i).mono he hk

/-- One step of the call: what was there stays, as far as it may be read. -/
structure Trans (X0 : Forb) (base : Nat) (E : Env) (w : World) (E' : Env) (w' : World) : Prop where
  env : ERel E w E' w'
  keep : Keep (FX X0 E) w (FX X0 E') w'
  below : Below base w w'
  others : KeepsOthers w w'

theorem Trans.refl (X0 : Forb) (base : Nat) (E : Env) (w : World) : Trans X0 base E w E w := ⟨.refl _ _, .refl _ _, .refl _ _, .refl _⟩
theorem Trans.trans {X0 base E w E' w' E'' w''} (h : Trans X0 base E w E' w') (k : Trans X0 base E' w' E'' w'') : Trans X0 base E w E'' w'' :=
  ⟨h.env.trans k.env, h.keep.trans k.keep, h.below.trans k.below, h.others.trans k.others⟩
theorem Trans.rep {X0 base E w E' w'} (h : Trans X0 base E w E' w') {v : Value} {d : DV} (r : Rep E (FX X0 E) w v d) : Rep E' (FX X0 E') w' v d := r.mono h.env h.keep
theorem Trans.repL {X0 base E w E' w'} (h : Trans X0 base E w E' w') {v : Array Value} {d : List DV} (r : RepL E (FX X0 E) w v d) : RepL E' (FX X0 E') w' v d := r.mono h.env h.keep
end Go.Am
