/-
  14 texts of mine in one.
-/
import Derived.WalkKit
import Derived.RangeFuncFrom
import Derived.RangeFuncCalls
import Derived.ChangeKeysEq
set_option maxRecDepth 20000
set_option maxHeartbeats 4000000
open List renaming map_take → zA, map_drop → zB, map_set → zC, map_append → zD, drop_one → zE
open Bool renaming false_eq_true → y0r
open Int renaming eq_ofNat_of_zero_le → y0j
open List renaming getElem?_eq_some_iff → y02, getElem?_set_self → y03, getElem?_set_ne → y04, getElem?_eq_getElem → y06, getElem?_append_left → y08, eq_nil_of_length_eq_zero → y09, getElem?_take → y0b, length_append → y0d, getElem?_eq_none → y0e, getD_eq_getElem?_getD → y0g, getElem_append_left → y0i, getElem?_append → y0k, replicate_succ → y0l, take_of_length_le → y0m, append_nil → y0o, drop_drop → y0p, getElem?_append_right → y0s, getElem_append_right → y0t, extract_eq_take_drop → y0u, getElem?_cons_zero → y0v, take_zero → y0w, set_getElem_self → y0x, getElem?_toArray → y0y, map_cons → y0z
open Nat renaming le_refl → y05, add_mul → y0a, eq_zero_or_pos → y0c, add_assoc → y0f, le_trans → y0h, mul_le_mul_right → y0n, lt_of_lt_of_le → y0q, zero_mul → y10
open Option renaming bind_eq_some_iff → y00, map_eq_some_iff → y01, map_some → y07
set_option linter.unusedSimpArgs false
set_option linter.unusedVariables false
namespace Go.Am
open Go.RowKit
inductive DV where
  | int (k:IntKind) (n:Int)
  | bool (b:Bool)
  | str (s:List UInt8)
  | agg (cs:List DV)
  | tup (vs:List DV)
  | nilp|nilm|nilf|nili|nils
  | sl (full:Bool) (s n:Nat) (cs:List DV)
  | ref (cs:List DV)
  | fn (f:Fn) (first captured:List DV)
  | iface (t:Nat) (v:DV)
  | ms (id ver off s n lim:Nat)
  | mp (id ver off:Nat)
  | junk
  deriving Inhabited
def DV.cells:DV→List DV
  | .agg cs=>cs
  | d=>[d]
abbrev Forb:=Nat→Nat→Prop
abbrev Env:=List (Option (Nat × Nat))
inductive Rep (E:Env) (X:Forb) (w:World):Value→DV→Prop
  | int (k:IntKind) (n:Int):Rep E X w (.int k n) (.int k n)
  | bool (b:Bool):Rep E X w (.bool b) (.bool b)
  | str (s:ByteArray) (l:List UInt8) (h:s.data.toList=l):Rep E X w (.string s) (.str l)
  | agg (cs:Array Value) (ds:List DV) (hl:cs.size=ds.length) (h : ∀ i (h1:i<cs.size) (h2:i<ds.length),Rep E X w cs[i] ds[i]):Rep E X w (.agg cs) (.agg ds)
  | tup (cs:Array Value) (ds:List DV) (hl:cs.size=ds.length) (h : ∀ i (h1:i<cs.size) (h2:i<ds.length),Rep E X w cs[i] ds[i]):Rep E X w (.tuple cs) (.tup ds)
  | nilp:Rep E X w (.pointer none) .nilp
  | nilm:Rep E X w (.map none) .nilm
  | nilf:Rep E X w .nilFunc .nilf
  | nili:Rep E X w .nilIface .nili
  | nils:Rep E X w (.slice none 0 0) .nils
  | sl (full:Bool) (s n cap:Nat) (a:Addr) (ds:List DV) (cv:Nat→Value) (hn:n≤cap) (hf:full=true→cap=n) (hl:ds.length=n*s)
      (hc : ∀ i,i<ds.length→w.cell? (a.add i)=some (cv i)) (hx : ∀ i,i<ds.length→¬ X a.block (a.off+i))
      (hr : ∀ i (h:i<ds.length),Rep E X w (cv i) ds[i]):Rep E X w (.slice (some a) n cap) (.sl full s n ds)
  | ref (a:Addr) (ds:List DV) (cv:Nat→Value)
      (hc : ∀ i,i<ds.length→w.cell? (a.add i)=some (cv i)) (hx : ∀ i,i<ds.length→¬ X a.block (a.off+i))
      (hr : ∀ i (h:i<ds.length),Rep E X w (cv i) ds[i]):Rep E X w (.pointer (some a)) (.ref ds)
  | fn (f:Fn) (first captured:Array Value) (df dc:List DV) (h1:first.size=df.length) (h2:captured.size=dc.length)
      (r1 : ∀ i (h1:i<first.size) (h2:i<df.length),Rep E X w first[i] df[i]) (r2 : ∀ i (h1:i<captured.size) (h2:i<dc.length),Rep E X w captured[i] dc[i]) :
      Rep E X w (.func f first captured) (.fn f df dc)
  | iface (t:Nat) (v:Value) (d:DV) (h:Rep E X w v d):Rep E X w (.iface t v) (.iface t d)
  | ms (id ver off s n lim:Nat) (a:Option Addr) (k cap:Nat) (hid:id<E.length)
      (h : ∀ b L,E[id]? = some (some (b,L))→ver≤L∧(ver=L→off+n*s≤L∧n≤cap∧k=n∧(∃ a',a=some a'∧(0<cap→a'=⟨b,off,none⟩))∧lim≤off+cap*s ∧
        ∀ c t fr,w.heap[b]? = some (.cells c t fr)→off+cap*s≤c.size)):Rep E X w (.slice a k cap) (.ms id ver off s n lim)
  | mp (id ver off:Nat) (a:Option Addr) (hid:id<E.length)
      (h : ∀ b L,E[id]? = some (some (b,L))→ver≤L∧(ver=L→a=some ⟨b,off,none⟩)):Rep E X w (.pointer a) (.mp id ver off)
  | junk (v:Value):Rep E X w v .junk
theorem z1lx (a:Addr) (i:Nat):(a.add i).block=a.block:=by unfold Addr.add; split<;>rfl
theorem zv5o (a:Addr) (i:Nat):(a.add i).off=a.off+i:=by unfold Addr.add; split<;>simp_all
structure Keep (X:Forb) (w:World) (X':Forb) (w':World):Prop where
  cell : ∀ a v,w.cell? a=some v→¬ X a.block a.off→w'.cell? a=some v∧¬ X' a.block a.off
structure ERel (E:Env) (w:World) (E':Env) (w':World):Prop where
  len:E.length≤E'.length
  at_ : ∀ id,id<E.length → ∀ b' L',E'[id]? = some (some (b',L')) → ∃ b L,E[id]? = some (some (b,L))∧L≤L' ∧
    (L=L'→b=b' ∧ ∀ c' t' fr',w'.heap[b']? = some (.cells c' t' fr') → ∃ c t fr,w.heap[b]? = some (.cells c t fr)∧c.size=c'.size)
theorem Keep.refl (X:Forb) (w:World):Keep X w X w:=⟨fun _ _ h hx=>⟨h,hx⟩⟩
theorem Keep.trans {X w X' w' X'' w''} (h:Keep X w X' w') (k:Keep X' w' X'' w''):Keep X w X'' w'' :=
  ⟨fun a v h1 h2=>let ⟨h3,h4⟩:=h.cell a v h1 h2; k.cell a v h3 h4⟩
theorem ERel.refl (E:Env) (w:World):ERel E w E w :=
  ⟨y05 _,fun _ _ b' L' h=>⟨b',L',h,y05 _,fun _=>⟨rfl,fun c t fr hc=>⟨c,t,fr,hc,rfl⟩⟩⟩⟩
theorem ERel.trans {E w E' w' E'' w''} (h:ERel E w E' w') (k:ERel E' w' E'' w''):ERel E w E'' w'':=by
  refine ⟨y0h h.len k.len,fun id hid b2 L2 h2 => ?_⟩
  obtain ⟨b1,L1,h1,hl1,e1⟩:=k.at_ id (y0q hid h.len) b2 L2 h2
  obtain ⟨b0,L0,h0,hl0,e0⟩:=h.at_ id hid b1 L1 h1
  refine ⟨b0,L0,h0,y0h hl0 hl1,fun e => ?_⟩
  have e01:L0=L1:=by omega
  have e12:L1=L2:=by omega
  obtain ⟨p1,q1⟩:=e1 e12
  obtain ⟨p0,q0⟩:=e0 e01
  refine ⟨p0.trans p1,fun c2 t2 f2 hc2 => ?_⟩
  obtain ⟨c1,t1,f1,hc1,s1⟩:=q1 c2 t2 f2 hc2
  obtain ⟨c0,t0,f0,hc0,s0⟩:=q0 c1 t1 f1 hc1
  exact ⟨c0,t0,f0,hc0,s0.trans s1⟩
theorem Rep.mono {E X w E' X' w'} {v:Value} {d:DV} (h:Rep E X w v d) (he:ERel E w E' w') (hk:Keep X w X' w'):Rep E' X' w' v d:=by
  induction h with
  | int k n=>exact .int k n
  | bool b=>exact .bool b
  | str s l h=>exact .str s l h
  | agg cs ds hl _ ih=>exact .agg cs ds hl ih
  | tup cs ds hl _ ih=>exact .tup cs ds hl ih
  | nilp=>exact .nilp
  | nilm=>exact .nilm
  | nilf=>exact .nilf
  | nili=>exact .nili
  | nils=>exact .nils
  | sl full s n cap a ds cv hn hf hl hc hx _ ih =>
    refine .sl full s n cap a ds cv hn hf hl (fun i hi => ?_) (fun i hi => ?_) ih
    · exact (hk.cell _ _ (hc i hi) (by rw [z1lx,zv5o]; exact hx i hi)).1
    · have:=(hk.cell _ _ (hc i hi) (by rw [z1lx,zv5o]; exact hx i hi)).2
      rwa [z1lx,zv5o] at this
  | ref a ds cv hc hx _ ih =>
    refine .ref a ds cv (fun i hi => ?_) (fun i hi => ?_) ih
    · exact (hk.cell _ _ (hc i hi) (by rw [z1lx,zv5o]; exact hx i hi)).1
    · have:=(hk.cell _ _ (hc i hi) (by rw [z1lx,zv5o]; exact hx i hi)).2
      rwa [z1lx,zv5o] at this
  | fn f first captured df dc h1 h2 _ _ ih1 ih2=>exact .fn f first captured df dc h1 h2 ih1 ih2
  | iface t v d _ ih=>exact .iface t v d ih
  | ms id ver off s n lim a k cap hid h =>
    refine .ms id ver off s n lim a k cap (y0q hid he.len) (fun b' L' h' => ?_)
    obtain ⟨b,L,h0,hl,e⟩:=he.at_ id hid b' L' h'
    obtain ⟨g1,g2⟩:=h b L h0
    refine ⟨y0h g1 hl,fun ev => ?_⟩
    have e1:L=L':=by omega
    have e2:ver=L:=by omega
    obtain ⟨p,q⟩:=e e1
    obtain ⟨r1,r2,r3,r4,r5,r6⟩:=g2 e2
    refine ⟨by omega,r2,r3,p▸r4,r5,fun c t fr hc => ?_⟩
    obtain ⟨c0,t0,f0,hc0,hs⟩:=q c t fr hc
    rw [← hs]; exact r6 c0 t0 f0 hc0
  | mp id ver off a hid h =>
    refine .mp id ver off a (y0q hid he.len) (fun b' L' h' => ?_)
    obtain ⟨b,L,h0,hl,e⟩:=he.at_ id hid b' L' h'
    obtain ⟨g1,g2⟩:=h b L h0
    refine ⟨y0h g1 hl,fun ev => ?_⟩
    obtain ⟨p,_⟩:=e (by omega)
    rw [g2 (by omega),p]
  | junk v=>exact .junk v
inductive AObj where
  | cells (cs:List DV)
  | dead
  deriving Inhabited
def FX (X0:Forb) (E:Env):Forb:=fun b o=>X0 b o ∨ ∃ (id:Nat) (L:Nat),E[id]? = some (some (b,L))
structure HeapRel (X0:Forb) (base:Nat) (w:World) (h:List AObj) (E:Env):Prop where
  len:E.length=h.length
  x0 : ∀ b o,X0 b o→b<w.heap.size ∧ ∀ (id L:Nat),E[id]? ≠ some (some (b,L))
  size:base≤w.heap.size
  cells : ∀ (id:Nat) (cs:List DV),h[id]? = some (AObj.cells cs) → ∃ b arr t,E[id]? = some (some (b,cs.length))∧base≤b∧w.heap[b]? = some (.cells arr t (0,0))∧cs.length≤arr.size ∧
    ∀ i (h1:i<cs.length) (h2:i<arr.size),Rep E (FX X0 E) w arr[i] cs[i]
  dead : ∀ (id:Nat),h[id]? = some AObj.dead→E[id]? = some none
  apart : ∀ (id id' b L b' L':Nat),id≠id'→E[id]? = some (some (b,L))→E[id']? = some (some (b',L'))→b≠b'
def RepL (E:Env) (X:Forb) (w:World) (vs:Array Value) (ds:List DV):Prop :=
  ∀ i,Rep E X w (vs.getD i undef) (ds.getD i .junk)
theorem RepL.mono {E X w E' X' w'} {vs:Array Value} {ds:List DV} (h:RepL E X w vs ds) (he:ERel E w E' w') (hk:Keep X w X' w'):RepL E' X' w' vs ds :=
  fun i=>(h i).mono he hk
structure BelowD (B:Nat) (w w':World):Prop where
  bel:Below B w w'
  drn:w.drawn≤w'.drawn
theorem BelowD.refl (B:Nat) (w:World):BelowD B w w:=⟨.refl _ _,y05 _⟩
theorem BelowD.trans {B:Nat} {a b c:World} (h:BelowD B a b) (k:BelowD B b c):BelowD B a c:=⟨h.bel.trans k.bel,y0h h.drn k.drn⟩
theorem BelowD.mono {B B':Nat} {w w':World} (h:BelowD B w w') (hB:B'≤B):BelowD B' w w':=⟨h.bel.mono hB,h.drn⟩
theorem BelowD.drew {B:Nat} {a w:World} (h:BelowD B a w):BelowD B a w.drew:=⟨h.bel.drew,y0h h.drn (Nat.le_succ _)⟩
theorem BelowD.alloc {B:Nat} {a w:World} (h:BelowD B a w) (hB:B≤w.heap.size) (o:Obj):BelowD B a (w.alloc o):=⟨h.bel.alloc hB o,h.drn⟩
theorem BelowD.size {B:Nat} {w w':World} (h:BelowD B w w'):w.heap.size≤w'.heap.size:=h.bel.size
theorem BelowD.block {B:Nat} {w w':World} (h:BelowD B w w') : ∀ k,k<B→w'.heap[k]? = w.heap[k]? := h.bel.block
structure Trans (X0:Forb) (base:Nat) (E:Env) (w:World) (E':Env) (w':World):Prop where
  env:ERel E w E' w'
  keep:Keep (FX X0 E) w (FX X0 E') w'
  below:BelowD base w w'
  others:KeepsOthers w w'
  frame : ∀ b,b<w.heap.size→(∀ (id L:Nat),E[id]? ≠ some (some (b,L)))→w'.heap[b]? = w.heap[b]? ∧ ∀ (id L:Nat),E'[id]? ≠ some (some (b,L))
theorem Trans.refl (X0:Forb) (base:Nat) (E:Env) (w:World):Trans X0 base E w E w:=⟨.refl _ _,.refl _ _,.refl _ _,.refl _,fun _ _ hl=>⟨rfl,hl⟩⟩
theorem Trans.trans {X0 base E w E' w' E'' w''} (h:Trans X0 base E w E' w') (k:Trans X0 base E' w' E'' w''):Trans X0 base E w E'' w'' :=
  ⟨h.env.trans k.env,h.keep.trans k.keep,h.below.trans k.below,h.others.trans k.others,fun b hb hl=>by
    obtain ⟨h1,h2⟩:=h.frame b hb hl
    have hb':b<w'.heap.size:=by
      rw [Array.getElem?_eq_getElem hb] at h1
      exact (Array.getElem?_eq_some_iff.1 h1).1
    obtain ⟨k1,k2⟩:=k.frame b hb' h2
    exact ⟨k1.trans h1,k2⟩⟩
theorem HeapRel.x0' {X0 base E w E' w' h} (hh:HeapRel X0 base w h E) (ht:Trans X0 base E w E' w') : ∀ b o,X0 b o→b<w'.heap.size ∧ ∀ (id L:Nat),E'[id]? ≠ some (some (b,L)):=by
  intro b o hx
  obtain ⟨h1,h2⟩:=hh.x0 b o hx
  obtain ⟨k1,k2⟩:=ht.frame b h1 h2
  rw [Array.getElem?_eq_getElem h1] at k1
  exact ⟨(Array.getElem?_eq_some_iff.1 k1).1,k2⟩
theorem Trans.rep {X0 base E w E' w'} (h:Trans X0 base E w E' w') {v:Value} {d:DV} (r:Rep E (FX X0 E) w v d):Rep E' (FX X0 E') w' v d:=r.mono h.env h.keep
theorem Trans.repL {X0 base E w E' w'} (h:Trans X0 base E w E' w') {v:Array Value} {d:List DV} (r:RepL E (FX X0 E) w v d):RepL E' (FX X0 E') w' v d:=r.mono h.env h.keep
end Go.Am
set_option linter.unusedSimpArgs false
set_option linter.unusedVariables false
namespace Go.Am
open Go.RowKit
inductive Opd where
  | t (i:Nat)
  | k (d:DV)
  deriving Inhabited
inductive AOp where
  | mov (x:Opd)
  | pick (c a b:Opd)
  | bin (op:BinOp) (x y:Opd)
  | eqa (neg:Bool) (ks:List (Nat × Nat)) (x y:Opd)
  | eqb (neg:Bool) (x y:Opd)
  | eqn (kd:Nat) (neg:Bool) (x y:Opd)
  | un (op:UnOp) (x:Opd)
  | conv (k:IntKind) (x:Opd)
  | strid (x:Opd)
  | csb (x:Opd)
  | cbs (x:Opd)
  | load (n:Nat) (agg:Bool) (x:Opd)
  | store (n:Nat) (x v:Opd)
  | idxS (s:Nat) (x i:Opd)
  | idxA (len s:Nat) (x i:Opd)
  | fld (off:Nat) (x:Opd)
  | getf (off n:Nat) (agg:Bool) (x:Opd)
  | idxV (len n:Nat) (agg:Bool) (x i:Opd)
  | idxStr (x i:Opd)
  | slcS (s:Nat) (x:Opd) (lo hi mx:Option Opd)
  | slcA (len s:Nat) (x:Opd) (lo hi:Option Opd)
  | slcStr (x:Opd) (lo hi:Option Opd)
  | alloc (zs:List DV)
  | box (x:Opd)
  | build (zs:List DV) (parts:List (Nat × Nat × Opd))
  | bsl (s len:Nat) (zs:List DV) (parts:List (Nat × Nat × Opd))
  | mks (s bytes:Nat) (zs:List DV) (len cap:Opd)
  | len (x:Opd)
  | lenStr (x:Opd)
  | app (s bytes:Nat) (x y:Opd)
  | cpy (s:Nat) (x y:Opd)
  | clr (s:Nat) (zs:List DV) (x:Opd)
  | apart (x y:Opd)
  | mkf (f:Fn) (first captured:List Opd)
  | nilc (x:Opd)
  | ext (x:Opd) (i:Nat)
  | call (f:Opd) (args:List Opd)
  | callN (f:Opd) (args:List Opd)
  | callT (f:Opd) (args:List Opd)
  | mm (mx:Bool) (xs:List Opd)
  deriving Inhabited
structure AOper where
  g:Option (Nat × Bool)
  d:Option Nat
  op:AOp
  deriving Inhabited
inductive ACode where
  | skip
  | region (draw:Bool) (ops:List AOper)
  | seq (a b:ACode)
  | cond (c:Opd) (x y:ACode)
  | block (id:Nat) (c:ACode)
  | loop (c:ACode)
  | exit (id:Nat)
  | ret
  | rangeF (f:Opd) (p d:Nat) (c:ACode)
  deriving Inhabited
structure St where
  t:List DV
  h:List AObj
  deriving Inhabited
def ev (t:List DV):Opd→DV
  | .t i=>t.getD i .junk
  | .k d=>d
def ziu0 (h:List AObj) (id:Nat):Option (List DV) :=
  match h[id]? with
  | some (.cells l)=>some l
  | _=>none
def vis (h:List AObj):DV→Option (List DV)
  | .ref cs=>some cs
  | .mp id ver off=>(ziu0 h id).bind fun l=>if l.length=ver then some (l.drop off) else none
  | _=>none
def visS (h:List AObj):DV→Option (Nat × List DV)
  | .nils=>some (0,[])
  | .sl _ _ n cs=>some (n,cs)
  | .ms id ver off s n _=>(ziu0 h id).bind fun l=>if l.length=ver then some (n,(l.drop off).take (n*s)) else none
  | _=>none
def oneC (n:Nat) (agg:Bool) (cs:List DV):Option DV :=
  if agg then (if n≤cs.length then some (.agg (cs.take n)) else none)
  else match cs with
    | []=>none
    | c::_=>if n=1 then some c else none
def zfzn (op:BinOp) (k:IntKind) (x y:Int):Option DV :=
  match op with
  | .add=>some (.int k (k.wrap (x+y)))
  | .sub=>some (.int k (k.wrap (x-y)))
  | .mul=>some (.int k (k.wrap (x*y)))
  | .quo=>if y=0 then none else some (.int k (k.wrap (x.tdiv y)))
  | .rem=>if y=0 then none else some (.int k (x.tmod y))
  | .and | .or | .xor | .andNot=>some (.int k (bits op k x y))
  | .eql=>some (.bool (x == y))
  | .neq=>some (.bool (x != y))
  | .lss=>some (.bool (decide (x<y)))
  | .leq=>some (.bool (decide (x≤y)))
  | .gtr=>some (.bool (decide (x > y)))
  | .geq=>some (.bool (decide (x ≥ y)))
  | _=>none
def zj0g (op:BinOp) (k:IntKind) (x y:Int):Option DV :=
  if y<0 then none else
  match op with
  | .shl=>some (.int k (k.wrap (x*2 ^ min y.toNat k.bits)))
  | .shr=>some (.int k (x.fdiv (2 ^ min y.toNat k.bits)))
  | _=>none
def zdnj (op:BinOp) (x y:List UInt8):Option DV :=
  match op with
  | .add=>if x.length+y.length≤4611686018427387904 then some (.str (x++y)) else none
  | .eql=>some (.bool (x == y))
  | .neq=>some (.bool (!(x == y)))
  | .lss=>some (.bool (Op.bytesLess x y))
  | .leq=>some (.bool (Op.bytesLess x y||x == y))
  | .gtr=>some (.bool (!(Op.bytesLess x y||x == y)))
  | .geq=>some (.bool (!(Op.bytesLess x y)))
  | _=>none
def zhl4 (op:BinOp):DV→DV→Option DV
  | .int k a,.int k' b =>
    match op with
    | .shl=>zj0g .shl k a b
    | .shr=>zj0g .shr k a b
    | _=>if k=k' then zfzn op k a b else none
  | .str a,.str b=>zdnj op a b
  | _,_=>none
def znnj:Nat→DV→DV→Option Bool
  | 0,.int k a,.int k' b=>if k=k' then some (a == b) else none
  | 1,.str a,.str b=>some (a == b)
  | 2,.bool a,.bool b=>some (a == b)
  | _,_,_=>none
def z32s:List Nat→List DV→List DV→Option Bool
  | [],[],[]=>some true
  | k::ks,x::xs,y::ys=>(znnj k x y).bind fun b=>(z32s ks xs ys).map fun c=>b&&c
  | _,_,_=>none
def zi5g (l:List (Nat × Nat)):List Nat:=l.flatMap fun p=>List.replicate p.1 p.2
def zrfk (h:List AObj):DV→Option (Nat × Bool)
  | .nils=>some (0,true)
  | .sl .. => some (0,false)
  | .ms id ver _ _ _ _=>(ziu0 h id).bind fun l=>if l.length=ver then some (0,false) else none
  | .nilp=>some (1,true)
  | .ref _=>some (1,false)
  | .mp id ver _=>(ziu0 h id).bind fun l=>if l.length=ver then some (1,false) else none
  | .nilm=>some (2,true)
  | .nilf=>some (3,true)
  | .fn .. => some (3,false)
  | .nili=>some (4,true)
  | .iface .. => some (4,false)
  | _=>none
def zk7y (l:List DV) (off:Nat) (cs:List DV):List DV:=l.take off++cs++l.drop (off+cs.length)
def zi03 (cells:List DV):List (Nat × Nat × DV)→Option (List DV)
  | []=>some cells
  | (off,n,v)::r=>if v.cells.length=n∧off+n≤cells.length then zi03 (zk7y cells off v.cells) r else none
def DV.one:DV→Bool
  | .agg _ | .tup _ | .junk=>false
  | _=>true
def DV.known:DV→Bool
  | .junk=>false
  | _=>true
def DV.isStr:DV→Bool
  | .str _=>true
  | _=>false
def evI (t:List DV) (x:Opd):Option Int:=match ev t x with | .int _ n=>some n|_=>none
def zmxv (t:List DV) (n:Nat) (lo hi:Option Opd):Option (Nat × Nat) :=
  let h:=match hi with|none=>some (n:Int)|some x=>evI t x
  let l:=match lo with|none=>some 0|some x=>evI t x
  h.bind fun h=>l.bind fun l=>if 0≤l∧l≤h∧h≤n then some (l.toNat,h.toNat) else none
def reps (n:Nat) (zs:List DV):List DV:=(List.replicate n zs).flatten
abbrev big:Nat:=4294967296
def u8s (l:List UInt8):List DV:=l.map fun b => .int .u8 b.toNat
def visY (h:List AObj):DV→Option (Nat × List DV)
  | .str s=>some (s.length,u8s s)
  | d=>visS h d
def z9pr:List DV→Option (List UInt8)
  | []=>some []
  | .int .u8 n::r=>(z9pr r).map fun l=>UInt8.ofNat n.toNat::l
  | _=>none
def zqbw (h:List AObj) (s bytes:Nat) (x y:DV):Option (DV × List AObj) :=
  (visY h y).bind fun (m,cs) =>
  if m*s≠cs.length∨bytes > 16384∨s=0 then none else
  match x with
  | .nils=>if m=0 then some (x,h) else if m≤big then some (.ms h.length cs.length 0 s m cs.length,h++[.cells cs]) else none
  | .sl full s' n ds=>if m=0 then some (x,h) else if full=true∧s'=s∧n+m≤big then
      some (.ms h.length (ds++cs).length 0 s (n+m) (ds++cs).length,h++[.cells (ds++cs)]) else none
  | .ms id ver off s' n lim=>(ziu0 h id).bind fun l =>
      if l.length=ver∧s'=s∧cs.all DV.one=true then
        (if m=0 then some (x,h)
         else if off+(n+m)*s≤lim∧lim≤ver then some (.ms id ver off s (n+m) lim,h.set id (.cells (zk7y l (off+n*s) cs)))
         else if off=0∧n*s=ver∧n+m≤big then some (.ms id (l++cs).length 0 s (n+m) (l++cs).length,h.set id (.cells (l++cs)))
         else none)
      else none
  | _=>none
def zp5p {α β:Type} (f:α→Option β):List α→Option (List β)
  | []=>some []
  | a::r=>(f a).bind fun b=>(zp5p f r).map fun l=>b::l
def zhun (h:List AObj) (s id ver off s' lim:Nat) (mx:Bool) (l h':Option Int):Option DV :=
  if mx=true then none else l.bind fun l=>h'.bind fun k=>if s'=s∧0≤l∧l≤k∧0<s∧off+k.toNat*s≤lim∧lim≤ver then
    (ziu0 h id).bind fun c=>if c.length=ver then some (.ms id ver (off+l.toNat*s) s (k.toNat-l.toNat) lim) else none else none
def zi6q:DV→Option Nat
  | .mp id _ _=>some id
  | .ms id _ _ _ _ _=>some id
  | _=>none
def z87v (a b:DV):Bool :=
  match b with
  | .junk=>false
  | b=>match zi6q a,zi6q b with
    | some i,some j=>i != j
    | _,_=>true
def evOp (op:AOp) (t:List DV) (h:List AObj):Option (DV × List AObj) :=
  let v (d:Option DV):Option (DV × List AObj):=d.map fun d=>(d,h)
  match op with
  | .mov x=>v (some (ev t x))
  | .pick c a b=>match ev t c with
    | .bool true=>v (some (ev t a))
    | .bool false=>v (some (ev t b))
    | _=>none
  | .bin op x y=>v (zhl4 op (ev t x) (ev t y))
  | .eqa neg ks x y=>match ev t x,ev t y with
    | .agg xs,.agg ys=>v ((z32s (zi5g ks) xs ys).map fun b => .bool (if neg then !b else b))
    | _,_=>none
  | .eqb neg x y=>match ev t x,ev t y with
    | .bool a,.bool b=>v (some (.bool (if neg then !(a == b) else (a == b))))
    | _,_=>none
  | .eqn kd neg x y=>match zrfk h (ev t x),zrfk h (ev t y) with
    | some (k,a),some (k',b)=>if k=kd∧k'=kd∧(a||b)=true then v (some (.bool (if neg then !(a&&b) else (a&&b)))) else none
    | _,_=>none
  | .un op x=>match op,ev t x with
    | .not,.bool b=>v (some (.bool (!b)))
    | .neg,.int k n=>v (some (.int k (k.wrap (0-n))))
    | .xor,.int k n=>v (some (.int k (bits .xor k (if k.signed then -1 else k.max) n)))
    | _,_=>none
  | .conv k x=>match ev t x with
    | .int _ n=>v (some (.int k (k.wrap n)))
    | _=>none
  | .strid x=>match ev t x with
    | .str s=>v (some (.str s))
    | _=>none
  | .csb x=>match ev t x with
    | .str s=>some (.sl false 1 s.length (u8s s),h)
    | _=>none
  | .cbs x=>(visS h (ev t x)).bind fun (n,cs)=>if n=cs.length then v ((z9pr cs).map .str) else none
  | .load n agg x=>(vis h (ev t x)).bind fun cs=>v (oneC n agg cs)
  | .store n x y=>match ev t x with
    | .mp id ver off=>(ziu0 h id).bind fun l =>
      if l.length=ver∧(ev t y).cells.length=n∧off+n≤ver∧(ev t y).cells.all DV.one=true then some (.junk,h.set id (.cells (zk7y l off (ev t y).cells))) else none
    | _=>none
  | .idxS s x i=>(evI t i).bind fun i=>match ev t x with
    | .sl _ s' n cs=>if s'=s∧0≤i∧i<n then v (some (.ref ((cs.drop (i.toNat*s)).take s))) else none
    | .ms id ver off s' n _=>if s'=s∧0≤i∧i<n then (ziu0 h id).bind fun l=>if l.length=ver then v (some (.mp id ver (off+i.toNat*s))) else none else none
    | _=>none
  | .idxA len s x i=>(evI t i).bind fun i=>if 0≤i∧i<len then (match ev t x with
    | .ref cs=>v (some (.ref ((cs.drop (i.toNat*s)).take s)))
    | .mp id ver off=>(ziu0 h id).bind fun l=>if l.length=ver then v (some (.mp id ver (off+i.toNat*s))) else none
    | _=>none) else none
  | .fld off x=>match ev t x with
    | .ref cs=>v (some (.ref (cs.drop off)))
    | .mp id ver o=>(ziu0 h id).bind fun l=>if l.length=ver then v (some (.mp id ver (o+off))) else none
    | _=>none
  | .getf off n agg x=>match ev t x with
    | .agg cs=>if off+n≤cs.length then v (oneC n agg (cs.drop off)) else none
    | _=>none
  | .idxV len n agg x i=>(evI t i).bind fun i=>match ev t x with
    | .agg cs=>if 0≤i∧i<len∧i.toNat*n+n≤cs.length then v (oneC n agg (cs.drop (i.toNat*n))) else none
    | _=>none
  | .idxStr x i=>(evI t i).bind fun i=>match ev t x with
    | .str s=>if 0≤i then v ((s[i.toNat]?).map fun b => .int .u8 b.toNat) else none
    | _=>none
  | .slcS s x lo hi mx=>match ev t x with
    | .nils=>(zmxv t 0 lo hi).bind fun _=>match mx with
      | none=>v (some .nils)
      | some m=>(evI t m).bind fun m=>if m=0∧hi.isSome then v (some .nils) else none
    | .sl full s' n cs=>(zmxv t n lo hi).bind fun (l,h')=>if s'≠s then none else match mx with
      | none=>v (some (.sl (full&&h' == n) s (h'-l) ((cs.drop (l*s)).take ((h'-l)*s))))
      | some m=>(evI t m).bind fun m=>if h'≤m∧m≤n∧hi.isSome then v (some (.sl (decide (m=h')) s (h'-l) ((cs.drop (l*s)).take ((h'-l)*s)))) else none
    | .ms id ver off s' n lim=>match zmxv t n lo hi with
      | some (l,h')=>if s'≠s then none else match mx with
        | none=>(ziu0 h id).bind fun k=>if k.length=ver then v (some (.ms id ver (off+l*s) s (h'-l) lim)) else none
        | some m=>(evI t m).bind fun m=>if h'≤m∧m≤n∧hi.isSome then (ziu0 h id).bind fun k=>if k.length=ver then v (some .junk) else none else none
      | none=>v (zhun h s id ver off s' lim mx.isSome (lo.bind (evI t)) (hi.bind (evI t)))
    | _=>none
  | .slcA len s x lo hi=>(zmxv t len lo hi).bind fun (l,h')=>match ev t x with
    | .ref cs=>if len*s≤cs.length then v (some (.sl (h' == len) s (h'-l) ((cs.drop (l*s)).take ((h'-l)*s)))) else none
    | .mp id ver off=>(ziu0 h id).bind fun k=>if k.length=ver∧off+len*s≤ver then v (some (.ms id ver (off+l*s) s (h'-l) (off+len*s))) else none
    | _=>none
  | .slcStr x lo hi=>match ev t x with
    | .str s=>(zmxv t s.length lo hi).bind fun (l,h')=>v (some (.str ((s.drop l).take (h'-l))))
    | _=>none
  | .alloc zs=>some (.mp h.length zs.length 0,h++[.cells zs])
  | .box x=>if (ev t x).known then some (.mp h.length (ev t x).cells.length 0,h++[.cells (ev t x).cells]) else none
  | .build zs parts=>if parts.all (fun p=>(ev t p.2.2).known) then v ((zi03 zs (parts.map fun p=>(p.1,p.2.1,ev t p.2.2))).map .agg) else none
  | .bsl s len zs parts=>if parts.all (fun p=>(ev t p.2.2).known) then v ((zi03 (reps len zs) (parts.map fun p=>(p.1,p.2.1,ev t p.2.2))).map fun cs => .sl true s len cs) else none
  | .mks s bytes zs ln cp=>(evI t ln).bind fun l=>(evI t cp).bind fun c=>if 0≤l∧l≤c∧c≤big∧bytes≤16384 then
      some (.ms h.length (l.toNat*s) 0 s l.toNat (l.toNat*s),h++[.cells (reps l.toNat zs)]) else none
  | .lenStr x=>match ev t x with
    | .str s=>v (some (.int .i64 s.length))
    | _=>none
  | .len x=>match ev t x with
    | .nils=>v (some (.int .i64 0))
    | .sl _ _ n _=>v (some (.int .i64 n))
    | .ms id ver _ _ n _=>(ziu0 h id).bind fun l=>if l.length=ver then v (some (.int .i64 n)) else none
    | _=>none
  | .app s bytes x y=>zqbw h s bytes (ev t x) (ev t y)
  | .cpy s x y=>(visY h (ev t y)).bind fun (m,cs)=>match ev t x with
    | .ms id ver off s' n _=>(ziu0 h id).bind fun l=>if l.length=ver∧s'=s∧(cs.take (min m n*s)).all DV.one=true∧min m n*s≤cs.length∧off+n*s≤ver∧((ev t y).isStr=true→s=1) then
        some (.int .i64 (min m n:Nat),h.set id (.cells (zk7y l off (cs.take (min m n*s))))) else none
    | .nils=>if (ev t y).isStr=true→s=1 then v (some (.int .i64 0)) else none
    | _=>none
  | .apart x y=>if z87v (ev t x) (ev t y)=true then some (.junk,h) else none
  | .clr s zs x=>match ev t x with
    | .ms id ver off s' n _=>(ziu0 h id).bind fun l=>if l.length=ver∧s'=s∧zs.length=s∧0<s∧zs.all DV.one=true∧off+n*s≤ver then some (.tup [],h.set id (.cells (zk7y l off (reps n zs)))) else none
    | _=>none
  | .mkf f first captured=>v (some (.fn f (first.map (ev t)) (captured.map (ev t))))
  | .nilc x=>match ev t x with
    | .mp id ver o=>(ziu0 h id).bind fun l=>if l.length=ver then v (some (.mp id ver o)) else none
    | .ref cs=>v (some (.ref cs))
    | .fn (.func f) a b=>v (some (.fn (.func f) a b))
    | _=>none
  | .ext x i=>match ev t x with
    | .tup vs=>v (vs[i]?)
    | _=>none
  | .call _ _=>none
  | .callN _ _=>none
  | .callT _ _=>none
  | .mm mx xs=>(zp5p (fun x=>match ev t x with | .int .i64 n=>some n|_=>none) xs).bind fun l=>match l with
    | []=>none
    | a::r=>v (some (.int .i64 (r.foldl (fun x y=>if mx then max x y else min x y) a)))
end Go.Am
set_option linter.unusedSimpArgs false
set_option linter.unusedVariables false
namespace Go.Am
open Go.RowKit
def szT (P:Program) (t:TypeId):Option Nat:=(P.info? t).map (·.size)
def z8gh (P:Program) (t:TypeId):Option Nat:=(P.info? t).map (·.bytes)
def zdui:TypeDesc→Bool
  | .struct _ | .array _ _=>true
  | _=>false
def aggT (P:Program) (t:TypeId):Option Bool:=(P.underlying t).map zdui
def zgqz:Value→Option DV
  | .int k n=>some (.int k n)
  | .bool b=>some (.bool b)
  | .string s=>some (.str s.data.toList)
  | .pointer none=>some .nilp
  | .map none=>some .nilm
  | .nilFunc=>some .nilf
  | .nilIface=>some .nili
  | .slice none 0 0=>some .nils
  | _=>none
def ziwr:Value→Option DV
  | .agg cs=>(zp5p zgqz cs.toList).map .agg
  | v=>zgqz v
def opd:Operand→Option Opd
  | .tmp t=>some (.t t)
  | .const v=>(ziwr v).map .k
  | .func f=>some (.k (.fn (.func f) [] []))
  | .global _=>none
def opds (l:Array Operand):Option (List Opd):=zp5p opd l.toList
def opdO:Option Operand→Option (Option Opd)
  | none=>some none
  | some x=>(opd x).map some
def zw9d (P:Program) (t:TypeId):Option (List DV) :=
  ((P.info? t).bind (·.zero)).bind fun v=>zp5p zgqz v.cells.toList
def z79o (P:Program) (g:TypeId→Option (List Nat)):List Field→Nat→Option (List Nat)
  | [],_=>some []
  | f :: r, off => if f.name = "_" ∨ f.offset ≠ off then none else
    (g f.type).bind fun k=>if szT P f.type=some k.length∧0<k.length then (z79o P g r (off+k.length)).map fun l=>k++l else none
def z8ef (P:Program):Nat→TypeId→Option (List Nat)
  | 0,_=>none
  | d+1,t =>
    match P.underlying t with
    | some (.int _)=>some [0]
    | some .string=>some [1]
    | some .bool=>some [2]
    | some (.array n e)=>(z8ef P d e).bind fun k=>if szT P e=some k.length∧0<k.length then some (List.replicate n k).flatten else none
    | some (.struct fs)=>if P.stoodInHeld t then none else z79o P (z8ef P d) fs.toList 0
    | _=>none
def rle:List Nat→List (Nat × Nat)
  | []=>[]
  | k::r=>match rle r with
    | (n,k')::q=>if k=k' then (n+1,k)::q else (1,k)::(n,k')::q
    | []=>[(1,k)]
def zufb (P:Program) (t:TypeId):Option Nat :=
  match P.underlying t with
  | some (.int _)|some .string=>some 0
  | some .bool=>some 1
  | some (.array _ _)|some (.struct _)=>some 2
  | some (.slice _)=>some 3
  | some (.pointer _)=>some 4
  | some (.map _ _)=>some 5
  | some (.func _ _ _)=>some 6
  | some (.interface _)=>some 7
  | _=>none
def zuku:Operand→Bool
  | .const .nilIface=>true
  | _=>false
def zkxg (P:Program) (u:TypeId):Bool :=
  match P.underlying u with
  | some (.slice _)|some .string=>true
  | _=>false
def zdkj (P:Program) (c:Call):Option AOp :=
  match c.callee with
  | .value f=>(opd f).bind fun f=>(opds c.args).map fun a => .call f a
  | .builtin .len=>match c.args.toList,c.argTypes.toList with
    | [x],[t]=>match P.underlying t with
      | some .string=>(opd x).map .lenStr
      | some (.slice _)=>(opd x).map .len
      | some (.array n _)=>some (.mov (.k (.int .i64 n)))
      | _=>none
    | _,_=>none
  | .builtin .append=>match c.args.toList,c.argTypes.toList with
    | [x,y],[t,u]=>match P.underlying t with
      | some (.slice e) =>
        if zkxg P u then
          (szT P e).bind fun s=>(z8gh P e).bind fun b=>(opd x).bind fun x=>(opd y).bind fun y=>(zw9d P e).bind fun z=>if z.length=s then some (.app s b x y) else none
        else none
      | _=>none
    | _,_=>none
  | .builtin .copy=>match c.args.toList,c.argTypes.toList with
    | [x,y],[t,_]=>match P.underlying t with
      | some (.slice e)=>(szT P e).bind fun s=>(opd x).bind fun x=>(opd y).map fun y => .cpy s x y
      | _=>none
    | _,_=>none
  | .builtin .clear=>match c.args.toList,c.argTypes.toList with
    | [x],[t]=>match P.underlying t with
      | some (.slice e)=>(szT P e).bind fun s=>(zw9d P e).bind fun z=>(opd x).map fun x => .clr s z x
      | _=>none
    | _,_=>none
  | .builtin .max=>(opds c.args).map fun l => .mm true l
  | .builtin .min=>(opds c.args).map fun l => .mm false l
  | _=>none
def zoe1 (P:Program) (o:Oper):Option AOp :=
  match o.op with
  | .move x | .assign x=>(opd x).map .mov
  | .pick c a b=>(opd c).bind fun c=>(opd a).bind fun a=>(opd b).map fun b => .pick c a b
  | .alloc e=>(zw9d P e).map .alloc
  | .box _ x=>(opd x).map .box
  | .build t parts=>(zw9d P t).bind fun zs=>match P.underlying t with
    | some (.struct fs)=>(fs.toList.mapM fun f=>(P.info? f.type).map fun i=>(f.offset,i.size)).bind fun pl =>
      (zp5p (fun p:Nat × Operand=>(opd p.2).bind fun x=>(pl[p.1]?).map fun q=>(q.1,q.2,x)) parts.toList).map fun ps => .build zs ps
    | some (.array _ e)=>(szT P e).bind fun s=>(zp5p (fun p:Nat × Operand=>(opd p.2).map fun x=>(p.1*s,s,x)) parts.toList).map fun ps => .build zs ps
    | _=>none
  | .buildSlice t len parts=>match P.underlying t with
    | some (.slice e)=>(szT P e).bind fun s=>(zw9d P e).bind fun zs=>(zp5p (fun p:Nat × Operand=>(opd p.2).map fun x=>(p.1*s,s,x)) parts.toList).bind fun ps =>
        if len*s≤16777216∧zs.length=s∧0<s then some (.bsl s len zs ps) else none
    | _=>none
  | .load t x=>(szT P t).bind fun n=>(aggT P t).bind fun a=>(opd x).map fun x => .load n a x
  | .store t x v=>(szT P t).bind fun n=>(opd x).bind fun x=>(opd v).map fun v => .store n x v
  | .nilCheck x=>(opd x).map .nilc
  | .binOp op t x y _ =>
    (opd x).bind fun x'=>(opd y).bind fun y' =>
    if op = .eql∨op = .neq then
      match zufb P t with
      | some 0=>some (.bin op x' y')
      | some 1=>some (.eqb (decide (op = .neq)) x' y')
      | some 2=>(z8ef P 20 t).bind fun ks=>if zi5g (rle ks)=ks∧P.eqGuardType P.depth t=false then some (.eqa (decide (op = .neq)) (rle ks) x' y') else none
      | some 7=>if zuku x||zuku y then some (.eqn 4 (decide (op = .neq)) x' y') else none
      | some k=>if 3≤k then some (.eqn (k-3) (decide (op = .neq)) x' y') else none
      | _=>none
    else some (.bin op x' y')
  | .unOp op _ x=>(opd x).map fun x => .un op x
  | .convert src dst x=>(opd x).bind fun x=>match P.underlying src,P.underlying dst with
    | some (.int _),some (.int k)=>some (.conv k x)
    | some .string,some .string=>some (.strid x)
    | some .string,some (.slice e)=>match P.underlying e with
      | some (.int .u8)=>some (.csb x)
      | _=>none
    | some (.slice e),some .string=>match P.underlying e with
      | some (.int .u8)=>if szT P e=some 1 then some (.cbs x) else none
      | _=>none
    | _,_=>none
  | .makeFunc f first captured=>(opds first).bind fun a=>(opds captured).map fun b => .mkf f a b
  | .makeSlice t l c=>match P.underlying t with
    | some (.slice e)=>(szT P e).bind fun s=>(z8gh P e).bind fun b=>(zw9d P e).bind fun z=>(opd l).bind fun l=>(opd c).bind fun c=>if z.length=s∧0<s then some (.mks s b z l c) else none
    | _=>none
  | .slice t x lo hi mx=>(opd x).bind fun x=>(opdO lo).bind fun lo=>(opdO hi).bind fun hi=>(opdO mx).bind fun mx=>match P.underlying t with
    | some (.array n e)=>(szT P e).bind fun s=>if mx.isNone then some (.slcA n s x lo hi) else none
    | some (.slice e)=>(szT P e).map fun s => .slcS s x lo hi mx
    | some .string=>if mx.isNone then some (.slcStr x lo hi) else none
    | _=>none
  | .fieldAddr s x f=>(opd x).bind fun x=>match P.underlying s with
    | some (.struct fs)=>(fs[f]?).bind fun f=>(szT P f.type).bind fun n=>if n=0 then none else some (.fld f.offset x)
    | _=>none
  | .field t x f=>(opd x).bind fun x=>match P.underlying t with
    | some (.struct fs)=>(fs[f]?).bind fun f=>(szT P f.type).bind fun n=>(aggT P f.type).map fun a => .getf f.offset n a x
    | _=>none
  | .indexAddr t x i=>(opd x).bind fun x=>(opd i).bind fun i=>match P.underlying t with
    | some (.array n e)=>(szT P e).map fun s => .idxA n s x i
    | some (.slice e)=>(szT P e).map fun s => .idxS s x i
    | _=>none
  | .index t x i=>(opd x).bind fun x=>(opd i).bind fun i=>match P.underlying t with
    | some (.array n e)=>(szT P e).bind fun s=>(aggT P e).map fun a => .idxV n s a x i
    | some .string=>some (.idxStr x i)
    | _=>none
  | .extract x i=>(opd x).map fun x => .ext x i
  | .call c=>zdkj P c
  | _=>none
def AOp.isCall:AOp→Bool
  | .call .. | .callN .. | .callT .. => true
  | _=>false
def zw4w (o:Oper):Option (Operand × Array Operand) :=
  match o.op with
  | .call ⟨.value f,args,_⟩=>some (f,args)
  | _=>none
def zep4 (ops:Array Oper) (o:Oper):Option (Option (Nat × Bool)) :=
  match o.guard with
  | none=>some none
  | some (j,b)=>((ops[j]?).bind (·.dst)).map fun t=>some (t,b)
def zrr3:AOp := .ext (.k .junk) 0
def zgyr:Option AOp→AOp
  | some op=>if op.isCall then zrr3 else op
  | none=>zrr3
def zjj7 (P:Program) (ops:Array Oper) (o:Oper):Option AOper :=
  (zep4 ops o).map fun g =>
  match zw4w o with
  | some (f,args)=>match opd f,opds args with
    | some f,some a=>{ g,d:=o.dst,op := .call f a }
    | _,_=>{ g,d:=o.dst,op:=zrr3 }
  | none=>{ g,d:=o.dst,op:=zgyr (zoe1 P o) }
theorem zsut {o:Oper} {f:Operand} {args:Array Operand} (h:zw4w o=some (f,args)) : ∃ c,o.op = .call c∧c.callee = .value f∧c.args=args:=by
  unfold zw4w at h
  split at h
  · rename_i f' a' t' e
    simp at h
    obtain ⟨rfl,rfl⟩:=h
    exact ⟨_,e,rfl,rfl⟩
  · simp at h
theorem zz0x {P:Program} {ops:Array Oper} {o:Oper} {ao:AOper} (h:zjj7 P ops o=some ao):zep4 ops o=some ao.g∧ao.d=o.dst ∧
    ((∃ c f0 f as,o.op = .call c∧c.callee = .value f0∧opd f0=some f∧opds c.args=some as∧ao.op = .call f as)∨(zoe1 P o=some ao.op∧ao.op.isCall=false)∨ao.op=zrr3):=by
  unfold zjj7 at h
  obtain ⟨g,hg,h⟩:=y01.1 h
  split at h
  · rename_i f args hc
    obtain ⟨c,c1,c2,c3⟩:=zsut hc
    split at h
    · rename_i f' a hf ha
      subst h
      exact ⟨hg,rfl,.inl ⟨c,f,f',a,c1,c2,hf,by rw [c3]; exact ha,rfl⟩⟩
    · subst h; exact ⟨hg,rfl,.inr (.inr rfl)⟩
  · subst h
    refine ⟨hg,rfl,.inr ?_⟩
    unfold zgyr
    split
    · rename_i op hop
      split
      · exact .inr rfl
      · rename_i hn; exact .inl ⟨hop,by simpa using hn⟩
    · exact .inr rfl
def zpsh:AOp→Nat
  | .store .. | .alloc .. | .box .. | .mks .. | .app .. | .cpy .. | .clr .. | .callN .. | .callT .. => 2
  | .eqn .. | .load .. | .idxS .. | .idxA .. | .fld .. | .slcS .. | .slcA .. | .cbs .. | .len .. | .nilc .. | .call .. => 1
  | _=>0
def ancs (ops:List Oper):List Nat :=
  ops.foldl (fun acc o=>acc++[o.after.toList.foldl (fun m e=>if Region.binds .any e then (m ||| acc.getD e.on 0) ||| (1 <<< e.on) else m) 0]) []
def z3i0 (as:List Nat) (j k:Nat):Bool:=(as.getD j 0).testBit k
def Opd.tmps:Opd→List Nat
  | .t i=>[i]
  | .k _=>[]
def zjp0:Option Opd→List Nat
  | some x=>x.tmps
  | none=>[]
def AOp.reads:AOp→List Nat
  | .mov x=>x.tmps
  | .pick c a b=>c.tmps++a.tmps++b.tmps
  | .bin _ x y=>x.tmps++y.tmps
  | .eqa _ _ x y=>x.tmps++y.tmps
  | .eqb _ x y=>x.tmps++y.tmps
  | .eqn _ _ x y=>x.tmps++y.tmps
  | .un _ x=>x.tmps
  | .conv _ x=>x.tmps
  | .strid x=>x.tmps
  | .csb x=>x.tmps
  | .cbs x=>x.tmps
  | .load _ _ x=>x.tmps
  | .store _ x v=>x.tmps++v.tmps
  | .idxS _ x i=>x.tmps++i.tmps
  | .idxA _ _ x i=>x.tmps++i.tmps
  | .fld _ x=>x.tmps
  | .getf _ _ _ x=>x.tmps
  | .idxV _ _ _ x i=>x.tmps++i.tmps
  | .idxStr x i=>x.tmps++i.tmps
  | .slcS _ x lo hi mx=>x.tmps++zjp0 lo++zjp0 hi++zjp0 mx
  | .slcA _ _ x lo hi=>x.tmps++zjp0 lo++zjp0 hi
  | .slcStr x lo hi=>x.tmps++zjp0 lo++zjp0 hi
  | .alloc _=>[]
  | .box x=>x.tmps
  | .build _ ps=>ps.flatMap fun p=>p.2.2.tmps
  | .bsl _ _ _ ps=>ps.flatMap fun p=>p.2.2.tmps
  | .mks _ _ _ l c=>l.tmps++c.tmps
  | .len x=>x.tmps
  | .lenStr x=>x.tmps
  | .app _ _ x y=>x.tmps++y.tmps
  | .cpy _ x y=>x.tmps++y.tmps
  | .clr _ _ x=>x.tmps
  | .apart x y=>x.tmps++y.tmps
  | .mkf _ a b=>a.flatMap Opd.tmps++b.flatMap Opd.tmps
  | .nilc x=>x.tmps
  | .ext x _=>x.tmps
  | .call f as=>f.tmps++as.flatMap Opd.tmps
  | .callN f as=>f.tmps++as.flatMap Opd.tmps
  | .callT f as=>f.tmps++as.flatMap Opd.tmps
  | .mm _ xs=>xs.flatMap Opd.tmps
def AOper.looks (o:AOper):List Nat:=o.op.reads++(match o.g with|some (t,_)=>[t]|none=>[])
def zxwz:AOp→Bool
  | .alloc .. | .box .. | .mks .. | .callN .. => true
  | _=>false
def z6fp:AOp→Bool
  | .callT .. => true
  | _=>false
def ztgi:AOp→Bool
  | .alloc .. | .box .. | .mks .. => true
  | _=>false
def z27y (x y:AOper):Bool :=
  (match x.d with|some d => !y.looks.contains d&&y.d != some d|none=>true) &&
  (match y.d with|some d => !x.looks.contains d|none=>true) &&
  (!(zpsh x.op == 2&&zpsh y.op ≥ 1)||(z6fp x.op&&ztgi y.op))&&(!(zpsh y.op == 2&&zpsh x.op ≥ 1)||(zxwz y.op&&zpsh x.op == 1)||(z6fp x.op&&ztgi y.op))
def zu5r:AOp→Option Nat
  | .load _ _ (.t a) | .fld _ (.t a) | .idxS _ (.t a) _ | .slcS _ (.t a) _ _ _ | .len (.t a)=>some a
  | _=>none
def zsx1 (o:AOper):Option (Nat × Bool) :=
  match o.op with
  | .store _ (.t a) _=>some (a,false)
  | .app .. => o.d.map fun d=>(d,true)
  | .callT (.k (.fn _ [] _)) (.t a::_)=>some (a,false)
  | _=>none
def zlj8 (x y:AOper):Bool :=
  (match x.d with|some d => !y.looks.contains d&&y.d != some d|none=>true) &&
  (match y.d with|some d => !x.looks.contains d|none=>true)
def z5vb (as:List Nat) (al:List AOper) (rd wr:Nat):Option (Nat × Nat) :=
  match al[rd]?,al[wr]? with
  | some x,some y=>match zu5r x.op,zsx1 y with
    | some a,some (b,res) =>
      if zlj8 x y&&x.d != some a&&(res||y.d != some b)&&(List.range al.length).all (fun k=>match al[k]? with|some o=>(o.d != some a||z3i0 as rd k)&&(o.d != some b||(if res then k == wr else z3i0 as wr k))|none=>true) then some (a,b) else none
    | _,_=>none
  | _,_=>none
def zsbi (as:List Nat) (al:List AOper) (i j:Nat):Option (Nat × Nat) :=
  match z5vb as al i j with
  | some p=>some p
  | none=>z5vb as al j i
def zm09 (as:List Nat) (aops:List AOper):Nat→List Nat→List Nat
  | 0,rem=>rem
  | n+1,rem =>
    let ready:=fun k=>rem.all fun p=>p == k || !z3i0 as k p
    match rem.find? (fun k => !((aops[k]?).any fun a=>zxwz a.op)&&ready k) with
    | some k=>k::zm09 as aops n (rem.filter (· != k))
    | none=>match rem.find? ready with
      | some k=>k::zm09 as aops n (rem.filter (· != k))
      | none=>rem
def zzfy (as:List Nat) (aops:List AOper):List Nat:=zm09 as aops aops.length (List.range aops.length)
def zi4o (P:Program) (f:Opd) (as:List Opd):Bool :=
  match f,as with
  | .k (.fn (.func g) [] _),.t _::_=>match P.funcs[g]? with
    | some fn=>match fn.params[0]? with
      | some t=>match P.underlying t with
        | some (.pointer _)=>true
        | _=>false
      | none=>false
    | none=>false
  | _,_=>false
def tN (P:Program) (b:Nat) (o:AOper):AOper :=
  match b,o.op with
  | 1,.call f a=>{ o with op := .callN f a }
  | 2,.call f a=>{ o with op:=if zi4o P f a then .callT f a else .callN f a }
  | 3,.call f a=>{ o with op:=if zi4o P f a then .callT f a else .call f a }
  | _,_=>o
def zqo4 (as:List Nat) (al:List AOper) (A:Nat):Bool :=
  match al[A]? with
  | some ⟨none,some d0,.alloc _⟩=>(List.range al.length).all fun k => !z3i0 as A k&&(k == A||match al[k]? with
    | some o=>o.d != some d0&&(!o.looks.contains d0||z3i0 as k A)
    | none=>true)
  | _=>false
def zahl (as:List Nat) (al:List AOper) (perm:List Nat):Option Nat :=
  perm.find? fun A=>zqo4 as al A&&(perm.takeWhile (· != A)).any fun y => !z27y (al.getD y default) (al.getD A default)
def zm0q (as:List Nat) (aops:List AOper) (pend:Option Nat) (i j:Nat):Bool :=
  i != j && !z3i0 as i j&&(z3i0 as j i ||
      (match aops[i]?,aops[j]? with
      | some a,some b=>z27y a b||(zsbi as aops i j).isSome
      | _,_=>false)||(pend == some j&&(List.range aops.length).all fun k => !z3i0 as k j||z3i0 as k i))
def chks (as:List Nat) (aops:List AOper):List Nat→List AOper
  | []=>[]
  | i::r=>(r.filterMap fun j=>if z3i0 as j i||z27y (aops.getD i default) (aops.getD j default) then none else (zsbi as aops i j).map fun p=>⟨none,none,.apart (.t p.1) (.t p.2)⟩)++chks as aops r
def zrwp (as:List Nat) (aops:List AOper) (pend:Option Nat):List Nat→Bool
  | []=>true
  | i::r=>r.all (zm0q as aops pend i)&&zrwp as aops pend r
def zu7l (ops:List Oper) (aops:List AOper):Bool :=
  let as:=ancs ops
  let perm:=zzfy as aops
  ((List.range ops.length).all fun j=>perm.contains j&&((ops[j]?).map fun o=>(o.after.toList.all fun e => !Region.binds .any e||(decide (e.on<j)&&z3i0 as j e.on))&&(List.range ops.length).all fun k => !z3i0 as j k||o.after.toList.any fun e=>Region.binds .any e&&(e.on == k||z3i0 as e.on k)).getD false) &&
  perm.all (fun k=>decide (k<ops.length))&&decide (perm.length≤ops.length)&&(zrwp as aops (zahl as aops perm) perm&&(match zahl as aops perm with|some A=>zqo4 as aops A&&(match ops[A]? with|some o=>(match o.op with | .alloc _=>true|_=>false)|none=>false)|none=>true))
def zrpy (as:List Nat) (l:List AOper):List AOper:=((zzfy as l).map fun k=>l.getD k default)++chks as l (zzfy as l)
def zwv5 (P:Program):Code→Option ACode
  | .skip=>some .skip
  | .region _ ops draw=>(zp5p (zjj7 P ops) ops.toList).bind fun l=>if draw then (if zu7l ops.toList (l.map (tN P 2)) then some (.region true (zrpy (ancs ops.toList) (l.map (tN P 2)))) else if l.any (fun o=>match o.op with | .call f a=>zi4o P f a|_=>false)&&zu7l ops.toList (l.map (tN P 3)) then some (.region true (zrpy (ancs ops.toList) (l.map (tN P 3)))) else if zu7l ops.toList (l.map (tN P 1)) then some (.region true (zrpy (ancs ops.toList) (l.map (tN P 1)))) else if zu7l ops.toList (l.map (tN P 0)) then some (.region true (zrpy (ancs ops.toList) (l.map (tN P 0)))) else none) else some (.region false l)
  | .seq a b=>(zwv5 P a).bind fun a=>(zwv5 P b).map fun b => .seq a b
  | .cond c x y=>(opd c).bind fun c=>(zwv5 P x).bind fun x=>(zwv5 P y).map fun y => .cond c x y
  | .block id c=>(zwv5 P c).map fun c => .block id c
  | .loop c=>(zwv5 P c).map fun c => .loop c
  | .exit id=>some (.exit id)
  | .ret=>some .ret
  | _=>none
end Go.Am
set_option linter.unusedSimpArgs false
set_option linter.unusedVariables false
namespace Go.Am
open Go.RowKit
def RepA (E:Env) (X:Forb) (w:World) (cs:List Value) (ds:List DV):Prop :=
  cs.length=ds.length ∧ ∀ i (h1:i<cs.length) (h2:i<ds.length),Rep E X w cs[i] ds[i]
theorem RepA.nil {E X w}:RepA E X w [] []:=⟨rfl,fun i h1 _=>by simp at h1⟩
theorem RepA.mono {E X w E' X' w'} {cs:List Value} {ds:List DV} (h:RepA E X w cs ds) (he:ERel E w E' w') (hk:Keep X w X' w'):RepA E' X' w' cs ds :=
  ⟨h.1,fun i h1 h2=>(h.2 i h1 h2).mono he hk⟩
theorem RepA.take {E X w} {cs:List Value} {ds:List DV} (h:RepA E X w cs ds) (n:Nat):RepA E X w (cs.take n) (ds.take n):=by
  refine ⟨by simp [h.1],fun i h1 h2 => ?_⟩
  simp only [List.getElem_take]
  exact h.2 i (by simp at h1; omega) (by simp at h2; omega)
theorem RepA.drop {E X w} {cs:List Value} {ds:List DV} (h:RepA E X w cs ds) (n:Nat):RepA E X w (cs.drop n) (ds.drop n):=by
  refine ⟨by simp [h.1],fun i h1 h2 => ?_⟩
  simp only [List.getElem_drop]
  exact h.2 (n+i) (by simp at h1; omega) (by simp at h2; omega)
theorem RepA.append {E X w} {cs cs':List Value} {ds ds':List DV} (h:RepA E X w cs ds) (k:RepA E X w cs' ds'):RepA E X w (cs++cs') (ds++ds'):=by
  refine ⟨by simp [h.1,k.1],fun i h1 h2 => ?_⟩
  by_cases hi:i<cs.length
  · rw [y0i hi,y0i (by rw [← h.1]; exact hi)]
    exact h.2 i hi (by rw [← h.1]; exact hi)
  · rw [y0t (by omega),y0t (by rw [← h.1]; omega)]
    have e:=h.1
    simp only [← e]
    exact k.2 _ (by simp at h1; omega) (by simp at h2; omega)
theorem RepA.cons {E X w} {c:Value} {d:DV} {cs:List Value} {ds:List DV} (h:Rep E X w c d) (k:RepA E X w cs ds):RepA E X w (c::cs) (d::ds):=by
  refine ⟨by simp [k.1],fun i h1 h2 => ?_⟩
  cases i with
  | zero=>exact h
  | succ i=>exact k.2 i (by simpa using h1) (by simpa using h2)
theorem RepA.head {E X w} {c:Value} {d:DV} {cs:List Value} {ds:List DV} (k:RepA E X w (c::cs) (d::ds)):Rep E X w c d:=k.2 0 (by simp) (by simp)
theorem RepA.tail {E X w} {c:Value} {d:DV} {cs:List Value} {ds:List DV} (k:RepA E X w (c::cs) (d::ds)):RepA E X w cs ds:=by simpa using k.drop 1
theorem RepA.of_agg {E X w} {cs:Array Value} {ds:List DV} (h:Rep E X w (.agg cs) (.agg ds)):RepA E X w cs.toList ds:=by
  cases h with
  | agg _ _ hl h=>exact ⟨by simpa using hl,fun i h1 h2=>by simpa using h i (by simpa using h1) h2⟩
theorem RepA.agg {E X w} {cs:List Value} {ds:List DV} (h:RepA E X w cs ds):Rep E X w (.agg cs.toArray) (.agg ds) :=
  .agg _ _ (by simpa using h.1) (fun i h1 h2=>by simpa using h.2 i (by simpa using h1) h2)
theorem RepA.tup {E X w} {cs:List Value} {ds:List DV} (h:RepA E X w cs ds):Rep E X w (.tuple cs.toArray) (.tup ds) :=
  .tup _ _ (by simpa using h.1) (fun i h1 h2=>by simpa using h.2 i (by simpa using h1) h2)
theorem Rep.cells {E X w} {v:Value} {d:DV} (h:Rep E X w v d) (hk:d.known=true):RepA E X w v.cells.toList d.cells:=by
  cases h with
  | agg cs ds hl h=>exact RepA.of_agg (.agg cs ds hl h)
  | junk v=>simp [DV.known] at hk
  | _=>exact RepA.cons (by constructor<;>assumption) RepA.nil
theorem Rep.oneCell {E X w} {v:Value} {d:DV} (h:Rep E X w v d) (h1:d.one=true):v.oneCell'=true:=by
  cases h<;>first|rfl|simp [DV.one] at h1
theorem RepA.oneCells {E X w} {cs:List Value} {ds:List DV} (h:RepA E X w cs ds) (h1:ds.all DV.one=true) : ∀ v ∈ cs,v.oneCell'=true:=by
  intro v hv
  obtain ⟨i,hi,rfl⟩:=List.mem_iff_getElem.1 hv
  have h2:i<ds.length:=by rw [← h.1]; exact hi
  exact (h.2 i hi h2).oneCell (List.all_eq_true.1 h1 _ (List.getElem_mem h2))
theorem zrwb {E X w} {v:Value} {d:DV} (h:zgqz v=some d):Rep E X w v d:=by
  unfold zgqz at h
  split at h<;>(simp at h; try subst h)<;>first|(constructor; done)|(constructor; rfl)
theorem zh8x {α β:Type} {f:α→Option β} : ∀ {l:List α} {r:List β},zp5p f l=some r→l.length=r.length ∧ ∀ i (h1:i<l.length) (h2:i<r.length),f l[i]=some r[i]
  | [],r,h=>by simp [zp5p] at h; subst h; exact ⟨rfl,fun i h1=>by simp at h1⟩
  | a::l,r,h=>by
    simp only [zp5p,y00,y01] at h
    obtain ⟨b,hb,r',hr,rfl⟩:=h
    obtain ⟨h1,h2⟩:=zh8x hr
    refine ⟨by simp [h1],fun i h3 h4 => ?_⟩
    cases i with
    | zero=>exact hb
    | succ i=>exact h2 i (by simpa using h3) (by simpa using h4)
theorem zfm2 {E X w} {vs:List Value} {ds:List DV} (h:zp5p zgqz vs=some ds):RepA E X w vs ds :=
  let ⟨h1,h2⟩:=zh8x h
  ⟨h1,fun i a b=>zrwb (h2 i a b)⟩
theorem const {E X w} {v:Value} {d:DV} (h:ziwr v=some d):Rep E X w v d:=by
  unfold ziwr at h
  split at h
  · rename_i cs
    obtain ⟨l,hl,rfl⟩:=y01.1 h
    simpa using (zfm2 (E:=E) (X:=X) (w:=w) hl).agg
  · exact zrwb h
theorem zr1z {h:List AObj} {id:Nat} {l:List DV} (e:ziu0 h id=some l):h[id]? = some (.cells l):=by
  unfold ziu0 at e
  split at e
  · simp at e; subst e; assumption
  · simp at e
theorem add_add (a:Addr) (i j:Nat):(a.add i).add j=a.add (i+j):=by
  unfold Addr.add
  by_cases hi:i=0<;>by_cases hj:j=0<;>simp_all [y0f]
theorem z689 (b o i:Nat):(⟨b,o,none⟩:Addr).add i=⟨b,o+i,none⟩:=by
  unfold Addr.add; split<;>simp_all
variable {X0:Forb} {base:Nat} {w:World} {h:List AObj} {E:Env}
theorem HeapRel.obj (hh:HeapRel X0 base w h E) {id:Nat} {l:List DV} (e:ziu0 h id=some l) :
    ∃ b arr t,E[id]? = some (some (b,l.length))∧base≤b∧w.heap[b]? = some (.cells arr t (0,0))∧l.length≤arr.size∧RepA E (FX X0 E) w (arr.toList.take l.length) l:=by
  obtain ⟨b,arr,t,h1,h2,h3,h4,h5⟩:=hh.cells id l (zr1z e)
  refine ⟨b,arr,t,h1,h2,h3,h4,by simp; omega,fun i g1 g2 => ?_⟩
  simp only [List.getElem_take,Array.getElem_toList]
  exact h5 i g2 (by omega)
theorem z4jt {b:Nat} {arr:Array Value} {t:TypeId} {fr:Nat × Nat} (hb:w.heap[b]? = some (.cells arr t fr)) (j:Nat):w.cell? ⟨b,j,none⟩=arr[j]? := by
  simp [World.cell?,hb]
theorem zn2t (hh:HeapRel X0 base w h E) {v:Value} {d:DV} (hr:Rep E (FX X0 E) w v d) {cs:List DV} (hv:vis h d=some cs) :
    ∃ a vs,v = .pointer (some a)∧RepA E (FX X0 E) w vs cs ∧ ∀ j u,vs[j]? = some u→w.cell? (a.add j)=some u:=by
  cases hr with
  | ref a ds cv hc hx hr =>
    simp [vis] at hv; subst hv
    refine ⟨a,(List.range ds.length).map cv,rfl,⟨by simp,fun i h1 h2=>by simpa using hr i h2⟩,fun j u hj => ?_⟩
    obtain ⟨hj1,hj2⟩:=y02.1 hj
    simp at hj1 hj2
    rw [← hj2]; exact hc j hj1
  | mp id ver off a hid hm =>
    simp only [vis,y00] at hv
    obtain ⟨l,hl,hv⟩:=hv
    split at hv
    · rename_i hver
      simp at hv; subst hv
      obtain ⟨b,arr,t,e1,e2,e3,e4,e5⟩:=hh.obj hl
      obtain ⟨_,g⟩:=hm b l.length e1
      have ga:=g hver.symm
      subst ga
      refine ⟨⟨b,off,none⟩,(arr.toList.take l.length).drop off,rfl,e5.drop off,fun j u hj => ?_⟩
      rw [z689,z4jt e3]
      rw [List.getElem?_drop,y0b] at hj
      split at hj
      · simpa using hj
      · simp at hj
    · simp at hv
  | _=>simp [vis] at hv
theorem ztc5 (hh:HeapRel X0 base w h E) {v:Value} {d:DV} (hr:Rep E (FX X0 E) w v d) {n:Nat} {cs:List DV} (hv:visS h d=some (n,cs)) :
    ∃ a cap vs,v = .slice a n cap∧n≤cap∧RepA E (FX X0 E) w vs cs∧(a=none→n=0∧vs=[]) ∧ ∀ ad,a=some ad → ∀ j u,vs[j]? = some u→w.cell? (ad.add j)=some u:=by
  cases hr with
  | nils=>simp [visS] at hv; obtain ⟨rfl,rfl⟩:=hv; exact ⟨none,0,[],rfl,y05 _,RepA.nil,fun _=>⟨rfl,rfl⟩,fun ad e=>by simp at e⟩
  | sl full s m cap a ds cv hn hf hl hc hx hr =>
    simp [visS] at hv; obtain ⟨rfl,rfl⟩:=hv
    refine ⟨some a,cap,(List.range ds.length).map cv,rfl,hn,⟨by simp,fun i h1 h2=>by simpa using hr i h2⟩,fun e=>by simp at e,fun ad e j u hj => ?_⟩
    simp at e; subst e
    obtain ⟨hj1,hj2⟩:=y02.1 hj
    simp at hj1 hj2
    rw [← hj2]; exact hc j hj1
  | ms id ver off s m lim a k cap hid hm =>
    simp only [visS,y00] at hv
    obtain ⟨l,hl,hv⟩:=hv
    split at hv
    · rename_i hver
      simp at hv; obtain ⟨rfl,rfl⟩:=hv
      obtain ⟨b,arr,t,e1,e2,e3,e4,e5⟩:=hh.obj hl
      obtain ⟨_,g⟩:=hm b l.length e1
      obtain ⟨g1,g2,g3,⟨a',g4,g5⟩,g6,g7⟩:=g hver.symm
      subst g3 g4
      refine ⟨some a',cap,((arr.toList.take l.length).drop off).take (k*s),rfl,g2,(e5.drop off).take (k*s),fun e=>by simp at e,fun ad e j u hj => ?_⟩
      simp at e; subst e
      rw [y0b] at hj
      split at hj
      · rename_i hj1
        have hk:0<cap:=by
          rcases y0c cap with h0|h0
          · have:k=0:=by omega
            subst this; simp at hj1
          · exact h0
        rw [g5 hk,z689,z4jt e3]
        rw [List.getElem?_drop,y0b] at hj
        split at hj
        · simpa using hj
        · simp at hj
      · simp at hj
    · simp at hv
  | _=>simp [visS] at hv
theorem zkno {b o:Nat} {x:Nat × Nat} (hf:FX X0 (E++[some x]) b o):FX X0 E b o∨b=x.1:=by
  rcases hf with hf|⟨id,L,hid⟩
  · exact .inl (.inl hf)
  · rw [y0k] at hid
    split at hid
    · exact .inl (.inr ⟨id,L,hid⟩)
    · rename_i hge
      have:id-E.length=0:=by
        rcases y0c (id-E.length) with h0|h0
        · exact h0
        · rw [y0e (by simp; omega)] at hid; simp at hid
      simp [this] at hid
      exact .inr (by rw [hid])
theorem z4pf {a:Addr} {v:Value} (hc:w.cell? a=some v):a.block<w.heap.size:=World.block_lt_of_cell? w a hc
theorem zflh (hh:HeapRel X0 base w h E) (o:Obj):Trans X0 base E w E (w.alloc o):=by
  refine ⟨⟨y05 _,fun id hid b' L' h'=>⟨b',L',h',y05 _,fun _=>⟨rfl,fun c t fr hc => ?_⟩⟩⟩,⟨fun a v hc hx=>⟨?_,hx⟩⟩,(BelowD.refl base w).alloc hh.size o,.alloc w o,fun b hb hl=>⟨Below.heap_alloc w o b hb,hl⟩⟩
  · by_cases hb:b'<w.heap.size
    · exact ⟨c,t,fr,by rwa [Below.heap_alloc w o b' hb] at hc,rfl⟩
    · exfalso
      have hE:id<h.length:=by rw [← hh.len]; exact hid
      cases ho:h[id] with
      | cells cs =>
        obtain ⟨b,arr,t0,g1,_,g3,_⟩:=hh.cells id cs (by rw [y06 hE,ho])
        rw [h'] at g1; simp at g1; rw [← g1.1] at g3
        exact hb (Array.getElem?_eq_some_iff.1 g3).1
      | dead=>have:=hh.dead id (by rw [y06 hE,ho]); rw [h'] at this; simp at this
  · rw [World.cell?_alloc_lt w o a (z4pf hc)]; exact hc
theorem HeapRel.alloc (hh:HeapRel X0 base w h E) (o:Obj):HeapRel X0 base (w.alloc o) h E:=by
  have ht:=zflh hh o
  refine ⟨hh.len,hh.x0' ht,by have:=hh.size; simp; omega,fun id cs hid => ?_,hh.dead,hh.apart⟩
  obtain ⟨b,arr,t,g1,g2,g3,g4,g5⟩:=hh.cells id cs hid
  exact ⟨b,arr,t,g1,g2,by rw [Below.heap_alloc w o b (Array.getElem?_eq_some_iff.1 g3).1]; exact g3,g4,fun i h1 h2=>ht.rep (g5 i h1 h2)⟩
theorem zjji (X0:Forb) (base:Nat) (E:Env) (w:World):Trans X0 base E w E w.drew :=
  ⟨⟨y05 _,fun _ _ b' L' h'=>⟨b',L',h',y05 _,fun _=>⟨rfl,fun c t fr hc=>⟨c,t,fr,hc,rfl⟩⟩⟩⟩,⟨fun _ _ hc hx=>⟨hc,hx⟩⟩,(BelowD.refl base w).drew,.drew w,fun _ _ hl=>⟨rfl,hl⟩⟩
theorem HeapRel.drew (hh:HeapRel X0 base w h E):HeapRel X0 base w.drew h E :=
  ⟨hh.len,hh.x0,hh.size,fun id cs hid=>let ⟨b,arr,t,g1,g2,g3,g4,g5⟩:=hh.cells id cs hid
    ⟨b,arr,t,g1,g2,g3,g4,fun i h1 h2=>(zjji X0 base E w).rep (g5 i h1 h2)⟩,hh.dead,hh.apart⟩
theorem HeapRel.live (hh:HeapRel X0 base w h E) {id b L:Nat} (hid:E[id]? = some (some (b,L))) : ∃ cs arr t,h[id]? = some (.cells cs)∧L=cs.length∧base≤b∧w.heap[b]? = some (.cells arr t (0,0))∧cs.length≤arr.size:=by
  have hE:id<h.length:=by rw [← hh.len]; exact (y02.1 hid).1
  cases ho:h[id] with
  | cells cs =>
    have hc:h[id]? = some (.cells cs):=by rw [y06 hE,ho]
    obtain ⟨b',arr,t0,g1,g2,g3,g4,_⟩:=hh.cells id cs hc
    rw [hid] at g1; simp at g1
    exact ⟨cs,arr,t0,hc,g1.2,g1.1▸g2,g1.1▸g3,g4⟩
  | dead=>have:=hh.dead id (by rw [y06 hE,ho]); rw [hid] at this; simp at this
theorem zkum (hh:HeapRel X0 base w h E) {vs:List Value} {cs:List DV} (hr:RepA E (FX X0 E) w vs cs) (more:List Value) (t:TypeId) :
    HeapRel X0 base (w.alloc (.cells (vs++more).toArray t)) (h++[.cells cs]) (E++[some (w.heap.size,cs.length)]) ∧
    Trans X0 base E w (E++[some (w.heap.size,cs.length)]) (w.alloc (.cells (vs++more).toArray t)):=by
  have hold : ∀ (id b L:Nat),E[id]? = some (some (b,L))→b<w.heap.size:=fun id b L hid=>by
    obtain ⟨_,_,_,_,_,_,g,_⟩:=hh.live hid
    exact (Array.getElem?_eq_some_iff.1 g).1
  have hx : ∀ a v,w.cell? a=some v→¬ FX X0 E a.block a.off→¬ FX X0 (E++[some (w.heap.size,cs.length)]) a.block a.off:=fun a v hc hn hf=>by
    rcases zkno hf with g|g
    · exact hn g
    · have:=z4pf hc; simp at g; omega
  have ht:Trans X0 base E w (E++[some (w.heap.size,cs.length)]) (w.alloc (.cells (vs++more).toArray t)):=by
    refine ⟨⟨by simp,fun id hid b' L' h' => ?_⟩,⟨fun a v hc hn=>⟨?_,hx a v hc hn⟩⟩,(BelowD.refl base w).alloc hh.size _,.alloc w _,fun b hb hl=>⟨Below.heap_alloc w _ b hb,fun id L hL => ?_⟩⟩
    rotate_left 2
    · by_cases hid:id<E.length
      · rw [y08 hid] at hL; exact hl id L hL
      · rw [y0s (by omega)] at hL
        cases hz:id-E.length with
        | zero=>rw [hz] at hL; simp at hL; omega
        | succ n=>rw [hz] at hL; simp at hL
    · rw [y08 hid] at h'
      refine ⟨b',L',h',y05 _,fun _=>⟨rfl,fun c t' fr hc=>⟨c,t',fr,?_,rfl⟩⟩⟩
      rwa [Below.heap_alloc w _ b' (hold id b' L' h')] at hc
    · rw [World.cell?_alloc_lt w _ a (z4pf hc)]; exact hc
  refine ⟨⟨by simp [hh.len],hh.x0' ht,by have:=hh.size; simp; omega,fun id ds hid => ?_,fun id hid => ?_,fun id id' b L b' L' hne h1 h2 => ?_⟩,ht⟩
  · rw [y0k] at hid
    split at hid
    · rename_i hlt
      obtain ⟨b,arr,t',g1,g2,g3,g4,g5⟩:=hh.cells id ds hid
      refine ⟨b,arr,t',?_,g2,?_,g4,fun i h1 h2=>ht.rep (g5 i h1 h2)⟩
      · rw [y08 (by rw [hh.len]; exact hlt)]; exact g1
      · rw [Below.heap_alloc w _ b (Array.getElem?_eq_some_iff.1 g3).1]; exact g3
    · rename_i hge
      have h0:id-h.length=0:=by
        rcases y0c (id-h.length) with h0|h0
        · exact h0
        · rw [y0e (by simp; omega)] at hid; simp at hid
      have he:id=E.length:=by rw [hh.len]; omega
      simp [h0] at hid; subst hid
      refine ⟨w.heap.size,(vs++more).toArray,t,?_,hh.size,?_,?_,fun i h1 h2 => ?_⟩
      · subst he; simp
      · exact heap_alloc_new w _
      · have:=hr.1; simp; omega
      · have h3:i<vs.length:=by rw [hr.1]; exact h1
        have e:(vs++more).toArray[i]'h2=vs[i]:=by simp [y0i h3]
        rw [e]; exact ht.rep (hr.2 i h3 h1)
  · rw [y0k] at hid
    split at hid
    · rename_i hlt
      rw [y08 (by rw [hh.len]; exact hlt)]; exact hh.dead id hid
    · rename_i hge
      have h0:id-h.length=0:=by
        rcases y0c (id-h.length) with h0|h0
        · exact h0
        · rw [y0e (by simp; omega)] at hid; simp at hid
      simp [h0] at hid
  · have key : ∀ (j c M:Nat),(E++[some (w.heap.size,cs.length)])[j]? = some (some (c,M))→(j<E.length∧E[j]? = some (some (c,M))∧c<w.heap.size)∨(j=E.length∧c=w.heap.size):=by
      intro j c M hj
      rw [y0k] at hj
      split at hj
      · rename_i hlt; exact .inl ⟨hlt,hj,hold j c M hj⟩
      · rename_i hge
        have h0:j-E.length=0:=by
          rcases y0c (j-E.length) with h0|h0
          · exact h0
          · rw [y0e (by simp; omega)] at hj; simp at hj
        simp [h0] at hj
        exact .inr ⟨by omega,hj.1.symm⟩
    rcases key _ _ _ h1 with ⟨_,k1,l1⟩|⟨k1,l1⟩<;>rcases key _ _ _ h2 with ⟨_,k2,l2⟩|⟨k2,l2⟩
    · exact hh.apart id id' b L b' L' hne k1 k2
    · omega
    · omega
    · omega
theorem zftz {id b L L':Nat} (hid:E[id]? = some (some (b,L))) {b' o:Nat}:FX X0 (E.set id (some (b,L'))) b' o↔FX X0 E b' o:=by
  have hlt:id<E.length:=(y02.1 hid).1
  constructor
  · rintro (h1|⟨j,M,hj⟩)
    · exact .inl h1
    · by_cases e:id=j
      · subst e; rw [y03 hlt] at hj; simp at hj; exact .inr ⟨id,L,by rw [hid,hj.1]⟩
      · rw [y04 e] at hj; exact .inr ⟨j,M,hj⟩
  · rintro (h1|⟨j,M,hj⟩)
    · exact .inl h1
    · by_cases e:id=j
      · subst e; rw [hid] at hj; simp at hj; exact .inr ⟨id,L',by rw [y03 hlt,hj.1]⟩
      · exact .inr ⟨j,M,by rw [y04 e]; exact hj⟩
theorem zzgc {w:World} {b:Nat} {arr:Array Value} {t:TypeId} (hb:w.heap[b]? = some (.cells arr t (0,0))) (arr':Array Value):KeepsOthers w (w.setRow b arr') :=
  ⟨by simp,fun k o hk ho=>by
    by_cases e:k=b
    · subst e; rw [hb] at hk; cases hk; cases ho
    · rw [setRow_other w b k arr' e]; exact hk⟩
theorem zgd1 (hh:HeapRel X0 base w h E) {id b:Nat} {l:List DV} {arr arr':Array Value} {t:TypeId} (ho:ziu0 h id=some l) (hE:E[id]? = some (some (b,l.length)))
    (hb:w.heap[b]? = some (.cells arr t (0,0))) (hs:arr'.size=arr.size) {l':List DV} (h1:l.length≤l'.length) (h2:l'.length≤arr.size)
    (hr:RepA E (FX X0 E) w (arr'.toList.take l'.length) l') :
    HeapRel X0 base (w.setRow b arr') (h.set id (.cells l')) (E.set id (some (b,l'.length)))∧Trans X0 base E w (E.set id (some (b,l'.length))) (w.setRow b arr'):=by
  have hlt:id<E.length:=(y02.1 hE).1
  have hlt':id<h.length:=by rw [← hh.len]; exact hlt
  obtain ⟨cs0,arr0,t0,q1,q2,hbase,q4,q5⟩:=hh.live hE
  have ht:Trans X0 base E w (E.set id (some (b,l'.length))) (w.setRow b arr'):=by
    refine ⟨⟨by simp,fun j hj b' L' hj' => ?_⟩,⟨fun a v hc hn => ?_⟩,⟨⟨rfl,rfl,rfl,by simp,fun k hk=>setRow_other w b k arr' (by omega)⟩,y05 _⟩,zzgc hb arr',fun k hk hl=>⟨setRow_other w b k arr' (fun e=>hl id l.length (by rw [e]; exact hE)),fun j L hL => ?_⟩⟩
    rotate_left 2
    · by_cases e:id=j
      · subst e; rw [y03 hlt] at hL; simp at hL
        exact hl id l.length (by rw [← hL.1]; exact hE)
      · rw [y04 e] at hL; exact hl j L hL
    · by_cases e:id=j
      · subst e; rw [y03 hlt] at hj'; simp at hj'
        refine ⟨b,l.length,hE,by omega,fun e=>⟨hj'.1,fun c t' fr hc=>⟨arr,t,(0,0),hb,?_⟩⟩⟩
        rw [← hj'.1,setRow_heap w b arr arr' t (0,0) hb] at hc
        simp at hc; rw [← hc.1,hs]
      · rw [y04 e] at hj'
        refine ⟨b',L',hj',y05 _,fun _=>⟨rfl,fun c t' fr hc=>⟨c,t',fr,?_,rfl⟩⟩⟩
        rwa [setRow_other w b b' arr' (hh.apart _ _ _ _ _ _ (Ne.symm e) hj' hE)] at hc
    · have hne:a.block≠b:=fun e=>hn (.inr ⟨id,l.length,by rw [hE,e]⟩)
      exact ⟨by rw [cell_setRow_other w b arr' a hne]; exact hc,fun hf=>hn ((zftz hE).1 hf)⟩
  refine ⟨⟨by simp [hh.len],hh.x0' ht,by have:=hh.size; simpa using this,fun j cs hj => ?_,fun j hj => ?_,fun j j' c M c' M' hne g1 g2 => ?_⟩,ht⟩
  · by_cases e:id=j
    · subst e; rw [y03 hlt'] at hj; simp at hj; subst hj
      refine ⟨b,arr',t,y03 hlt,hbase,setRow_heap w b arr arr' t (0,0) hb,by omega,fun i g1 g2=>ht.rep ?_⟩
      have:=hr.2 i (by simp; omega) g1
      simpa using this
    · rw [y04 e] at hj
      obtain ⟨c,ar,t',g1,g2,g3,g4,g5⟩:=hh.cells j cs hj
      refine ⟨c,ar,t',by rw [y04 e]; exact g1,g2,?_,g4,fun i k1 k2=>ht.rep (g5 i k1 k2)⟩
      rw [setRow_other w b c arr' (hh.apart _ _ _ _ _ _ (Ne.symm e) g1 hE)]; exact g3
  · by_cases e:id=j
    · subst e; rw [y03 hlt'] at hj; simp at hj
    · rw [y04 e] at hj ⊢; exact hh.dead j hj
  · have key : ∀ (j c M:Nat),(E.set id (some (b,l'.length)))[j]? = some (some (c,M)) → ∃ M',E[j]? = some (some (c,M')):=by
      intro j c M hj
      by_cases e:id=j
      · subst e; rw [y03 hlt] at hj; simp at hj; exact ⟨l.length,by rw [hE,hj.1]⟩
      · rw [y04 e] at hj; exact ⟨M,hj⟩
    obtain ⟨_,k1⟩:=key _ _ _ g1
    obtain ⟨_,k2⟩:=key _ _ _ g2
    exact hh.apart _ _ _ _ _ _ hne k1 k2
theorem zkt4 (hh:HeapRel X0 base w h E) {id b:Nat} {l:List DV} (ho:ziu0 h id=some l) (hE:E[id]? = some (some (b,l.length)))
    {l':List DV} (h1:l.length<l'.length) {vs:List Value} (hr:RepA E (FX X0 E) w vs l') (more:List Value) (t:TypeId) :
    HeapRel X0 base (w.alloc (.cells (vs++more).toArray t)) (h.set id (.cells l')) (E.set id (some (w.heap.size,l'.length))) ∧
    Trans X0 base E w (E.set id (some (w.heap.size,l'.length))) (w.alloc (.cells (vs++more).toArray t)):=by
  have hlt:id<E.length:=(y02.1 hE).1
  have hlt':id<h.length:=by rw [← hh.len]; exact hlt
  have hold : ∀ (id b L:Nat),E[id]? = some (some (b,L))→b<w.heap.size:=fun id b L hid=>by
    obtain ⟨_,_,_,_,_,_,g,_⟩:=hh.live hid
    exact (Array.getElem?_eq_some_iff.1 g).1
  have key : ∀ (j c M:Nat),(E.set id (some (w.heap.size,l'.length)))[j]? = some (some (c,M))→(j=id∧c=w.heap.size)∨(j≠id∧E[j]? = some (some (c,M))∧c<w.heap.size):=by
    intro j c M hj
    by_cases e:id=j
    · subst e; rw [y03 hlt] at hj; simp at hj; exact .inl ⟨rfl,hj.1.symm⟩
    · rw [y04 e] at hj; exact .inr ⟨Ne.symm e,hj,hold _ _ _ hj⟩
  have ht:Trans X0 base E w (E.set id (some (w.heap.size,l'.length))) (w.alloc (.cells (vs++more).toArray t)):=by
    refine ⟨⟨by simp,fun j hj b' L' hj' => ?_⟩,⟨fun a v hc hn=>⟨?_,fun hf=>hn ?_⟩⟩,(BelowD.refl base w).alloc hh.size _,.alloc w _,fun k hk hl=>⟨Below.heap_alloc w _ k hk,fun j L hL => ?_⟩⟩
    rotate_left 3
    · rcases key _ _ _ hL with ⟨_,g⟩|⟨_,g,_⟩
      · omega
      · exact hl j L g
    · by_cases e:id=j
      · subst e; rw [y03 hlt] at hj'; simp at hj'
        exact ⟨b,l.length,hE,by omega,fun e=>by omega⟩
      · rw [y04 e] at hj'
        refine ⟨b',L',hj',y05 _,fun _=>⟨rfl,fun c t' fr hc=>⟨c,t',fr,?_,rfl⟩⟩⟩
        rwa [Below.heap_alloc w _ b' (hold _ _ _ hj')] at hc
    · rw [World.cell?_alloc_lt w _ a (z4pf hc)]; exact hc
    · rcases hf with g|⟨j,M,hj⟩
      · exact .inl g
      · rcases key _ _ _ hj with ⟨_,g⟩|⟨_,g,_⟩
        · have:=z4pf hc; omega
        · exact .inr ⟨j,M,g⟩
  refine ⟨⟨by simp [hh.len],hh.x0' ht,by have:=hh.size; simp; omega,fun j cs hj => ?_,fun j hj => ?_,fun j j' c M c' M' hne g1 g2 => ?_⟩,ht⟩
  · by_cases e:id=j
    · subst e; rw [y03 hlt'] at hj; simp at hj; subst hj
      refine ⟨w.heap.size,(vs++more).toArray,t,y03 hlt,hh.size,heap_alloc_new w _,by have:=hr.1; simp; omega,fun i g1 g2 => ?_⟩
      have h3:i<vs.length:=by rw [hr.1]; exact g1
      have e:(vs++more).toArray[i]'g2=vs[i]:=by simp [y0i h3]
      rw [e]; exact ht.rep (hr.2 i h3 g1)
    · rw [y04 e] at hj
      obtain ⟨c,ar,t',g1,g2,g3,g4,g5⟩:=hh.cells j cs hj
      refine ⟨c,ar,t',by rw [y04 e]; exact g1,g2,?_,g4,fun i k1 k2=>ht.rep (g5 i k1 k2)⟩
      rw [Below.heap_alloc w _ c (hold _ _ _ g1)]; exact g3
  · by_cases e:id=j
    · subst e; rw [y03 hlt'] at hj; simp at hj
    · rw [y04 e] at hj ⊢; exact hh.dead j hj
  · rcases key _ _ _ g1 with ⟨k1,l1⟩|⟨k1,m1,l1⟩<;>rcases key _ _ _ g2 with ⟨k2,l2⟩|⟨k2,m2,l2⟩
    · omega
    · omega
    · omega
    · exact hh.apart _ _ _ _ _ _ hne m1 m2
end Go.Am
set_option linter.unusedSimpArgs false
set_option linter.unusedVariables false
namespace Go.Am
open Go.RowKit
def zdck (P:Program) (X0:Forb) (base:Nat) (E:Env) (w:World) (s:Sem Value) (d:DV) (h':List AObj):Prop :=
  ∃ v w' E',s.run P w = .ok v w'∧HeapRel X0 base w' h' E'∧Rep E' (FX X0 E') w' v d∧Trans X0 base E w E' w'
section
variable {P:Program} {X0:Forb} {base:Nat} {w:World} {h:List AObj} {E:Env}
theorem zwll (hh:HeapRel X0 base w h E) {s:Sem Value} {v:Value} {d:DV} (hs:s.run P w = .ok v w) (hr:Rep E (FX X0 E) w v d):zdck P X0 base E w s d h :=
  ⟨v,w,E,hs,hh,hr,.refl _ _ _ _⟩
theorem zywv {t:TypeId} {n:Nat} (hi:szT P t=some n) (w:World):(sizeOf t).run P w = .ok n w:=by
  unfold szT at hi
  obtain ⟨i,hj,rfl⟩:=y01.1 hi
  simp [sizeOf,typeInfo,hj]
theorem zx67 {t:TypeId} {n:Nat} (hi:z8gh P t=some n) (w:World) : ∃ i,(typeInfo t).run P w = .ok i w∧i.bytes=n:=by
  unfold z8gh at hi
  obtain ⟨i,hj,rfl⟩:=y01.1 hi
  exact ⟨i,by simp [typeInfo,hj],rfl⟩
theorem zyr8 {t:TypeId} {b:Bool} (hi:aggT P t=some b) (w:World):(isAgg t).run P w = .ok b w:=by
  unfold aggT at hi
  obtain ⟨d,hd,rfl⟩:=y01.1 hi
  simp only [isAgg,Sem.run_bind,run_underlying hd,Result.andThen_ok]
  cases d<;>rfl
theorem z67w {t:TypeId} {zs:List DV} (hz:zw9d P t=some zs) (w:World) : ∃ z:Value,(zeroValue t).run P w = .ok z w ∧ ∀ E X (w':World),RepA E X w' z.cells.toList zs:=by
  unfold zw9d at hz
  simp only [y00] at hz
  obtain ⟨z,⟨i,hi,hiz⟩,hm⟩:=hz
  exact ⟨z,by simp [zeroValue,typeInfo,hi,hiz],fun E X w'=>zfm2 hm⟩
theorem zeit {t:List DV} {x:Opd} {v:Value} {n:Int} (hr:Rep E (FX X0 E) w v (ev t x)) (he:evI t x=some n) : ∃ k,v = .int k n:=by
  unfold evI at he
  split at he
  · rename_i k m hk
    simp at he; subst he
    rw [hk] at hr; cases hr
    exact ⟨k,rfl⟩
  · simp at he
theorem zomq {n:Nat} {agg:Bool} {cs:List DV} {d:DV} (ho:oneC n agg cs=some d) {vs:List Value} (hr:RepA E (FX X0 E) w vs cs) {t:TypeId} (hn:szT P t=some n) (ha:aggT P t=some agg)
    {a:Addr} (hc : ∀ j u,vs[j]? = some u→w.cell? (a.add j)=some u) : ∃ v,(loadVar t a).run P w = .ok v w∧Rep E (FX X0 E) w v d:=by
  unfold oneC at ho
  cases agg with
  | true =>
    simp only [if_true] at ho
    split at ho
    · rename_i hle
      simp at ho; subst ho
      have hlen:(vs.take n).length=n:=by simp [hr.1]; omega
      refine ⟨.agg (vs.take n).toArray,?_,(hr.take n).agg⟩
      have:=run_loadCells_list (P:=P) w a (vs.take n) (fun j u hj=>hc j u (by rw [y0b] at hj; split at hj; exact hj; simp at hj))
      rw [hlen] at this
      simp [loadVar,zyr8 ha,zywv hn,this]
    · simp at ho
  | false =>
    simp only [y0r,if_false] at ho
    cases cs with
    | nil=>simp at ho
    | cons c r =>
      cases vs with
      | nil=>simp [RepA] at hr
      | cons u vs =>
        simp only at ho
        split at ho
        · simp at ho; subst ho
          refine ⟨u,?_,hr.head⟩
          have h0:=hc 0 u rfl
          simp [Addr.add] at h0
          simp [loadVar,zyr8 ha,h0]
        · simp at ho
theorem zcpz {n:Nat} {agg:Bool} {cs:List DV} {d:DV} {off:Nat} (ho:oneC n agg (cs.drop off)=some d) {vs:Array Value} (hr:RepA E (FX X0 E) w vs.toList cs) {t:TypeId} (hn:szT P t=some n) (ha:aggT P t=some agg) :
    ∃ v,(part t vs off).run P w = .ok v w∧Rep E (FX X0 E) w v d:=by
  unfold oneC at ho
  cases agg with
  | true =>
    simp only [if_true] at ho
    split at ho
    · rename_i hle
      simp at ho; subst ho
      refine ⟨.agg (vs.extract off (off+n)),by simp [part,zyr8 ha,zywv hn],?_⟩
      have e:vs.extract off (off+n)=((vs.toList.drop off).take n).toArray:=by
        apply Array.ext'
        rw [Array.toList_extract,y0u]
        simp
      rw [e]
      exact ((hr.drop off).take n).agg
    · simp at ho
  | false =>
    simp only [y0r,if_false] at ho
    cases hd:cs.drop off with
    | nil=>rw [hd] at ho; simp at ho
    | cons c r =>
      rw [hd] at ho
      simp only at ho
      split at ho
      · simp at ho; subst ho
        have hlt:off<cs.length:=by
          rcases Nat.lt_or_ge off cs.length with g|g
          · exact g
          · rw [List.drop_eq_nil_of_le g] at hd; simp at hd
        have hlt':off<vs.size:=by have:=hr.1; simp at this; omega
        have hc:cs[off]=c:=by
          have:=List.getElem_drop (xs:=cs) (i:=off) (j:=0) (h:=by rw [hd]; simp)
          simp only [hd] at this
          simpa using this.symm
        refine ⟨vs[off],by simp [part,zyr8 ha,hlt'],?_⟩
        have:=hr.2 off (by simpa using hlt') hlt
        rw [hc] at this
        simpa using this
      · simp at ho
theorem zqp5 (hh:HeapRel X0 base w h E) {v:Value} {d d':DV} (hr:Rep E (FX X0 E) w v d) {n:Nat} {agg:Bool} {t:TypeId} (hn:szT P t=some n) (ha:aggT P t=some agg) {cs:List DV}
    (hv:vis h d=some cs) (ho:oneC n agg cs=some d'):zdck P X0 base E w (Instr.loadAt t v) d' h:=by
  obtain ⟨a,vs,rfl,hra,hc⟩:=zn2t hh hr hv
  obtain ⟨u,h1,h2⟩:=zomq (P:=P) ho hra hn ha hc
  exact zwll hh (by simp [Instr.loadAt,Instr.sureAddr,h1]) h2
theorem z5sv (op:BinOp) (k yk:IntKind) (x y:Int) {d:DV} (hd:zj0g op k x y=some d) (w:World) : ∃ v,(Op.shift op k x yk y).run P w = .ok v w ∧ ∀ E X (w':World),Rep E X w' v d:=by
  unfold zj0g at hd
  split at hd
  · simp at hd
  · rename_i hy
    cases op<;>simp at hd<;>subst hd<;>exact ⟨_,by simp [Op.shift,hy],fun _ _ _ => .int _ _⟩
theorem z3mk (t:TypeId) (op:BinOp) (k:IntKind) (x y:Int) {d:DV} (hd:zfzn op k x y=some d) (hs:op ≠ .shl) (hs':op ≠ .shr) (w:World) : ∃ v,(binOp op t (.int k x) (.int k y)).run P w = .ok v w ∧ ∀ E X (w':World),Rep E X w' v d:=by
  cases op
  case shl=>exact absurd rfl hs
  case shr=>exact absurd rfl hs'
  case quo =>
    simp only [zfzn] at hd
    split at hd
    · simp at hd
    · rename_i hy
      simp at hd; subst hd
      exact ⟨.int k (k.wrap (x.tdiv y)),by simp only [binOp]; simp [Op.intDiv,hy],fun _ _ _ => .int _ _⟩
  case rem =>
    simp only [zfzn] at hd
    split at hd
    · simp at hd
    · rename_i hy
      simp at hd; subst hd
      exact ⟨.int k (x.tmod y),by simp only [binOp]; simp [Op.intDiv,hy],fun _ _ _ => .int _ _⟩
  all_goals
    simp only [zfzn,Option.some.injEq] at hd
    subst hd
    first
      | exact ⟨.int k _,by simp only [binOp,ne_eq,not_true_eq_false,if_false]; rfl,fun _ _ _ => .int _ _⟩
      | exact ⟨.bool _,by simp only [binOp,ne_eq,not_true_eq_false,if_false]; rfl,fun _ _ _ => .bool _⟩
theorem zcw1 (s:ByteArray):s.toList=s.data.toList:=by rw [ByteArray.toList_eq]
theorem zlnj (op:BinOp) (x y:ByteArray) {d:DV} (hd:zdnj op x.data.toList y.data.toList=some d) (w:World) : ∃ v,(Op.stringOp op x y).run P w = .ok v w ∧ ∀ E X (w':World),Rep E X w' v d:=by
  have e1:=zcw1 x
  have e2:=zcw1 y
  have s1:x.size=x.data.toList.length:=by rw [Array.length_toList]; rfl
  have s2:y.size=y.data.toList.length:=by rw [Array.length_toList]; rfl
  cases op<;>simp only [zdnj] at hd<;>try (simp at hd; done)
  case add =>
    split at hd
    · rename_i hle
      simp at hd; subst hd
      refine ⟨.string (x++y),?_,fun _ _ _ => .str _ _ (by simp)⟩
      have:¬ (IntKind.i64.max<((x.size+y.size:Nat):Int)):=by
        simp [IntKind.max,IntKind.signed,IntKind.bits]; omega
      simp only [Op.stringOp]
      rw [if_neg (by simpa using this)]; rfl
    · simp at hd
  all_goals (simp only [Option.some.injEq] at hd; subst hd; exact ⟨_,by simp only [Op.stringOp,e1,e2]; rfl,fun _ _ _ => .bool _⟩)
theorem zzcl (op:BinOp) (t:TypeId) (x y:Operand) {a b:Value} (h1 : ∀ c,a ≠ .agg c) (h2:a ≠ .nilIface) (w:World):(eqGuard op t x y a b).run P w = .ok () w:=by
  unfold eqGuard
  cases op<;>simp<;>(split<;>first|rfl|(simp_all; done))
theorem zm30 (hh:HeapRel X0 base w h E) (o1 o2:Operand) (t:TypeId) {op:BinOp} {x y:Value} {dx dy d:DV} (hx:Rep E (FX X0 E) w x dx) (hy:Rep E (FX X0 E) w y dy) (hd:zhl4 op dx dy=some d) :
    zdck P X0 base E w (do eqGuard op t o1 o2 x y; binOp op t x y) d h:=by
  have fin : ∀ {v:Value},(∀ c,x ≠ .agg c)→x ≠ .nilIface→(binOp op t x y).run P w = .ok v w→Rep E (FX X0 E) w v d→zdck P X0 base E w (do eqGuard op t o1 o2 x y; binOp op t x y) d h :=
    fun h1 h2 h3 h4=>zwll hh (by simp [zzcl op t o1 o2 h1 h2,h3]) h4
  unfold zhl4 at hd
  split at hd
  · cases hx; cases hy
    split at hd
    · obtain ⟨v,h1,h2⟩:=z5sv (P:=P) _ _ _ _ _ hd w
      exact fin (by simp) (by simp) (by simpa [binOp] using h1) (h2 _ _ _)
    · obtain ⟨v,h1,h2⟩:=z5sv (P:=P) _ _ _ _ _ hd w
      exact fin (by simp) (by simp) (by simpa [binOp] using h1) (h2 _ _ _)
    · rename_i hs1 hs2
      split at hd
      · rename_i hk; subst hk
        obtain ⟨v,h1,h2⟩:=z3mk (P:=P) t op _ _ _ hd (fun e=>hs1 e) (fun e=>hs2 e) w
        exact fin (by simp) (by simp) h1 (h2 _ _ _)
      · simp at hd
  · cases hx with
    | str s _ hs=>cases hy with
      | str s' _ hs' =>
        subst hs hs'
        obtain ⟨v,h1,h2⟩:=zlnj (P:=P) op s s' hd w
        refine fin (by simp) (by simp) ?_ (h2 _ _ _)
        cases op<;>simpa [binOp] using h1
  · simp at hd
theorem zrfl (hh:HeapRel X0 base w h E) (o1 o2:Operand) (t:TypeId) (ht:P.underlying t=some .bool) {op:BinOp} (ho:op = .eql∨op = .neq) {x y:Value} {a b:Bool} (hx:Rep E (FX X0 E) w x (.bool a)) (hy:Rep E (FX X0 E) w y (.bool b)) :
    zdck P X0 base E w (do eqGuard op t o1 o2 x y; binOp op t x y) (.bool (if decide (op = .neq) then !(a == b) else (a == b))) h:=by
  cases hx; cases hy
  rcases ho with rfl|rfl
  · refine zwll (v := .bool (a == b)) hh ?_ (by simpa using .bool _)
    have h1:=run_equalIn_bool' (P:=P) w 9999 t a b ht
    simp only [Sem.run_bind,zzcl (P:=P) .eql t o1 o2 (a := .bool a) (b := .bool b) (by simp) (by simp) w,Result.andThen_ok,binOp,Op.equal,Op.maxDepth,h1,Sem.run_pure]
  · refine zwll (v := .bool (!(a == b))) hh ?_ (by simpa using .bool _)
    have h1:=run_equalIn_bool' (P:=P) w 9999 t a b ht
    simp only [Sem.run_bind,zzcl (P:=P) .neq t o1 o2 (a := .bool a) (b := .bool b) (by simp) (by simp) w,Result.andThen_ok,binOp,Op.equal,Op.maxDepth,h1,Sem.run_pure]
end
end Go.Am
set_option linter.unusedSimpArgs false
set_option linter.unusedVariables false
namespace Go.Am
open Go.RowKit
section
variable {P:Program} {X0:Forb} {base:Nat} {w:World} {h:List AObj} {E:Env}
theorem zsi4 (hh:HeapRel X0 base w h E) {v:Value} {id ver off:Nat} (hr:Rep E (FX X0 E) w v (.mp id ver off)) {l:List DV} (ho:ziu0 h id=some l) (hv:l.length=ver) :
    ∃ b arr t,E[id]? = some (some (b,l.length))∧w.heap[b]? = some (.cells arr t (0,0))∧l.length≤arr.size∧RepA E (FX X0 E) w (arr.toList.take l.length) l∧v = .pointer (some ⟨b,off,none⟩):=by
  obtain ⟨b,arr,t,e1,e2,e3,e4,e5⟩:=hh.obj ho
  cases hr with
  | mp _ _ _ a hid hm =>
    obtain ⟨_,g⟩:=hm b l.length e1
    exact ⟨b,arr,t,e1,e3,e4,e5,by rw [g hv.symm]⟩
theorem zuh1 (hh:HeapRel X0 base w h E) {v:Value} {id ver off s n lim:Nat} (hr:Rep E (FX X0 E) w v (.ms id ver off s n lim)) {l:List DV} (ho:ziu0 h id=some l) (hv:l.length=ver) :
    ∃ b arr t cap a,E[id]? = some (some (b,l.length))∧w.heap[b]? = some (.cells arr t (0,0))∧l.length≤arr.size∧RepA E (FX X0 E) w (arr.toList.take l.length) l∧v = .slice (some a) n cap ∧
      n≤cap∧off+n*s≤l.length∧(0<cap→a=⟨b,off,none⟩)∧lim≤off+cap*s∧off+cap*s≤arr.size:=by
  obtain ⟨b,arr,t,e1,e2,e3,e4,e5⟩:=hh.obj ho
  cases hr with
  | ms _ _ _ _ _ _ a k cap hid hm =>
    obtain ⟨_,g⟩:=hm b l.length e1
    obtain ⟨g1,g2,g3,⟨a',g4,g5⟩,g6,g7⟩:=g hv.symm
    subst g3 g4
    exact ⟨b,arr,t,cap,a',e1,e3,e4,e5,rfl,g2,g1,g5,g6,g7 _ _ _ e3⟩
theorem ztt2 {id b L off ver:Nat} (hE:E[id]? = some (some (b,L))) (hv:ver=L) {X:Forb} {w:World}:Rep E X w (.pointer (some ⟨b,off,none⟩)) (.mp id ver off) :=
  .mp id ver off _ (y02.1 hE).1 (fun b' L' h'=>by rw [hE] at h'; simp at h'; exact ⟨by omega,fun _=>by rw [h'.1]⟩)
theorem z6v0 {id b L off ver s n lim cap:Nat} {arr:Array Value} {t:TypeId} {X:Forb} {w:World} {a:Addr} (hE:E[id]? = some (some (b,L))) (hv:ver=L) (hb:w.heap[b]? = some (.cells arr t (0,0)))
    (h1:off+n*s≤L) (h2:n≤cap) (h3:0<cap→a=⟨b,off,none⟩) (h4:lim≤off+cap*s) (h5:off+cap*s≤arr.size):Rep E X w (.slice (some a) n cap) (.ms id ver off s n lim) :=
  .ms id ver off s n lim _ _ _ (y02.1 hE).1 (fun b' L' h'=>by
    rw [hE] at h'; simp at h'
    obtain ⟨rfl,rfl⟩:=h'
    exact ⟨by omega,fun _=>⟨h1,h2,rfl,⟨a,rfl,h3⟩,h4,fun c t' fr hc=>by rw [hb] at hc; simp at hc; rw [← hc.1]; exact h5⟩⟩)
theorem zws5 {X:Forb} {w:World} {a:Addr} {vs:List Value} {cs:List DV} (hr:RepA E X w vs cs) (hc : ∀ j u,vs[j]? = some u→w.cell? (a.add j)=some u) (hx : ∀ i,i<cs.length→¬ X a.block (a.off+i)):Rep E X w (.pointer (some a)) (.ref cs) :=
  .ref a cs (fun i=>vs.getD i undef) (fun i hi=>hc i _ (by rw [y0g,y06 (by rw [hr.1]; exact hi)]; rfl)) hx
    (fun i hi=>by rw [y0g,y06 (by rw [hr.1]; exact hi)]; exact hr.2 i (by rw [hr.1]; exact hi) hi)
theorem za80 {X:Forb} {w:World} {v:Value} {cs:List DV} (hr:Rep E X w v (.ref cs)) : ∃ a vs,v = .pointer (some a)∧RepA E X w vs cs∧(∀ j u,vs[j]? = some u→w.cell? (a.add j)=some u) ∧ ∀ i,i<cs.length→¬ X a.block (a.off+i):=by
  cases hr with
  | ref a ds cv hc hx hr =>
    refine ⟨a,(List.range cs.length).map cv,rfl,⟨by simp,fun i h1 h2=>by simpa using hr i h2⟩,fun j u hj => ?_,hx⟩
    obtain ⟨hj1,hj2⟩:=y02.1 hj
    simp at hj1 hj2
    rw [← hj2]; exact hc j hj1
theorem znwx {X:Forb} {w:World} {a:Addr} {vs:List Value} {cs:List DV} {full:Bool} {s n cap:Nat} (hr:RepA E X w vs cs) (hn:n≤cap) (hf:full=true→cap=n) (hl:cs.length=n*s)
    (hc : ∀ j u,vs[j]? = some u→w.cell? (a.add j)=some u) (hx : ∀ i,i<cs.length→¬ X a.block (a.off+i)):Rep E X w (.slice (some a) n cap) (.sl full s n cs) :=
  .sl full s n cap a cs (fun i=>vs.getD i undef) hn hf hl (fun i hi=>hc i _ (by rw [y0g,y06 (by rw [hr.1]; exact hi)]; rfl)) hx
    (fun i hi=>by rw [y0g,y06 (by rw [hr.1]; exact hi)]; exact hr.2 i (by rw [hr.1]; exact hi) hi)
theorem ztqf {X:Forb} {w:World} {v:Value} {full:Bool} {s n:Nat} {cs:List DV} (hr:Rep E X w v (.sl full s n cs)) : ∃ a cap vs,v = .slice (some a) n cap∧n≤cap∧(full=true→cap=n)∧cs.length=n*s ∧
    RepA E X w vs cs∧(∀ j u,vs[j]? = some u→w.cell? (a.add j)=some u) ∧ ∀ i,i<cs.length→¬ X a.block (a.off+i):=by
  cases hr with
  | sl _ _ _ cap a _ cv hn hf hl hc hx hr =>
    refine ⟨a,cap,(List.range cs.length).map cv,rfl,hn,hf,hl,⟨by simp,fun i h1 h2=>by simpa using hr i h2⟩,fun j u hj => ?_,hx⟩
    obtain ⟨hj1,hj2⟩:=y02.1 hj
    simp at hj1 hj2
    rw [← hj2]; exact hc j hj1
theorem zr25 {w:World} {a:Addr} {vs:List Value} (k:Nat) (hc : ∀ j u,vs[j]? = some u→w.cell? (a.add j)=some u) : ∀ j u,(vs.drop k)[j]? = some u→w.cell? ((a.add k).add j)=some u:=by
  intro j u hj
  rw [add_add]
  exact hc _ _ (by simpa using hj)
theorem zr2w {w:World} {a:Addr} {vs:List Value} (k:Nat) (hc : ∀ j u,vs[j]? = some u→w.cell? (a.add j)=some u) : ∀ j u,(vs.take k)[j]? = some u→w.cell? (a.add j)=some u:=by
  intro j u hj
  rw [y0b] at hj
  split at hj
  · exact hc _ _ hj
  · simp at hj
theorem znjd (hh:HeapRel X0 base w h E) {t e:TypeId} (ht:P.underlying t=some (.slice e)) {s:Nat} (hs:szT P e=some s) {vx:Value} {full:Bool} {n:Nat} {cs:List DV} (hx:Rep E (FX X0 E) w vx (.sl full s n cs))
    {k:IntKind} {i:Int} (h0:0≤i) (h1:i<n):zdck P X0 base E w (Instr.indexAt t vx (.int k i)) (.ref ((cs.drop (i.toNat*s)).take s)) h:=by
  obtain ⟨a,cap,vs,rfl,hn,hf,hl,hr,hc,hX⟩:=ztqf hx
  refine zwll hh (v := .pointer (some (a.add (i.toNat*s)))) ?_ (zws5 ((hr.drop _).take s) (zr2w s (zr25 _ hc)) (fun j hj => ?_))
  · simp [Instr.indexAt,run_underlying ht,asIntOf,zywv hs,h0,h1]
  · rw [z1lx,zv5o,y0f]
    simp at hj
    exact hX _ (by omega)
theorem zu1k (hh:HeapRel X0 base w h E) {t e:TypeId} (ht:P.underlying t=some (.slice e)) {s:Nat} (hs:szT P e=some s) {vx:Value} {id ver off n lim:Nat} (hx:Rep E (FX X0 E) w vx (.ms id ver off s n lim))
    {l:List DV} (ho:ziu0 h id=some l) (hv:l.length=ver) {k:IntKind} {i:Int} (h0:0≤i) (h1:i<n):zdck P X0 base E w (Instr.indexAt t vx (.int k i)) (.mp id ver (off+i.toNat*s)) h:=by
  obtain ⟨b,arr,ty,cap,a,e1,e2,e3,e4,rfl,g1,g2,g3,g4,g5⟩:=zuh1 hh hx ho hv
  have ha:=g3 (by omega)
  subst ha
  refine zwll hh (v := .pointer (some ((⟨b,off,none⟩:Addr).add (i.toNat*s)))) ?_ ?_
  · simp [Instr.indexAt,run_underlying ht,asIntOf,zywv hs,h0,h1]
  · rw [z689]; exact ztt2 e1 hv.symm
theorem z2ev (hh:HeapRel X0 base w h E) {t e:TypeId} {len:Nat} (ht:P.underlying t=some (.array len e)) {s:Nat} (hs:szT P e=some s) {vx:Value} {cs:List DV} (hx:Rep E (FX X0 E) w vx (.ref cs))
    {k:IntKind} {i:Int} (h0:0≤i) (h1:i<len):zdck P X0 base E w (Instr.indexAt t vx (.int k i)) (.ref ((cs.drop (i.toNat*s)).take s)) h:=by
  obtain ⟨a,vs,rfl,hr,hc,hX⟩:=za80 hx
  refine zwll hh (v := .pointer (some (a.add (i.toNat*s)))) ?_ (zws5 ((hr.drop _).take s) (zr2w s (zr25 _ hc)) (fun j hj => ?_))
  · simp [Instr.indexAt,run_underlying ht,asIntOf,zywv hs,h0,h1,Instr.sureAddr]
  · rw [z1lx,zv5o,y0f]
    simp at hj
    exact hX _ (by omega)
theorem zcst (hh:HeapRel X0 base w h E) {t e:TypeId} {len:Nat} (ht:P.underlying t=some (.array len e)) {s:Nat} (hs:szT P e=some s) {vx:Value} {id ver off:Nat} (hx:Rep E (FX X0 E) w vx (.mp id ver off))
    {l:List DV} (ho:ziu0 h id=some l) (hv:l.length=ver) {k:IntKind} {i:Int} (h0:0≤i) (h1:i<len):zdck P X0 base E w (Instr.indexAt t vx (.int k i)) (.mp id ver (off+i.toNat*s)) h:=by
  obtain ⟨b,arr,ty,e1,e2,e3,e4,rfl⟩:=zsi4 hh hx ho hv
  refine zwll hh (v := .pointer (some ((⟨b,off,none⟩:Addr).add (i.toNat*s)))) ?_ ?_
  · simp [Instr.indexAt,run_underlying ht,asIntOf,zywv hs,h0,h1,Instr.sureAddr]
  · rw [z689]; exact ztt2 e1 hv.symm
theorem zfct (hh:HeapRel X0 base w h E) {t:TypeId} {fs:Array Field} (ht:P.underlying t=some (.struct fs)) {i:Nat} {f:Field} (hf:fs[i]? = some f) {n:Nat} (hs:szT P f.type=some n) (hn:n≠0) {vx:Value} {cs:List DV} (hx:Rep E (FX X0 E) w vx (.ref cs)) :
    zdck P X0 base E w (Instr.fieldAt t vx i) (.ref (cs.drop f.offset)) h:=by
  obtain ⟨a,vs,rfl,hr,hc,hX⟩:=za80 hx
  refine zwll hh (v := .pointer (some (a.add f.offset))) ?_ (zws5 (hr.drop _) (zr25 _ hc) (fun j hj => ?_))
  · simp [Instr.fieldAt,run_underlying ht,hf,Instr.sureAddr,fieldPlace,zywv hs,hn]
  · rw [z1lx,zv5o,y0f]
    simp at hj
    exact hX _ (by omega)
theorem zqhy (hh:HeapRel X0 base w h E) {t:TypeId} {fs:Array Field} (ht:P.underlying t=some (.struct fs)) {i:Nat} {f:Field} (hf:fs[i]? = some f) {n:Nat} (hs:szT P f.type=some n) (hn:n≠0) {vx:Value} {id ver off:Nat} (hx:Rep E (FX X0 E) w vx (.mp id ver off))
    {l:List DV} (ho:ziu0 h id=some l) (hv:l.length=ver):zdck P X0 base E w (Instr.fieldAt t vx i) (.mp id ver (off+f.offset)) h:=by
  obtain ⟨b,arr,ty,e1,e2,e3,e4,rfl⟩:=zsi4 hh hx ho hv
  refine zwll hh (v := .pointer (some ((⟨b,off,none⟩:Addr).add f.offset))) ?_ ?_
  · simp [Instr.fieldAt,run_underlying ht,hf,Instr.sureAddr,fieldPlace,zywv hs,hn]
  · rw [z689]; exact ztt2 e1 hv.symm
theorem zb3x (l:List DV) (off:Nat) (cs:List DV) (h1:off+cs.length≤l.length):(zk7y l off cs).length=l.length:=by
  simp [zk7y]; omega
theorem z60p {X:Forb} {w:World} {A vs:List Value} {l cs:List DV} {L off:Nat} (hA:RepA E X w (A.take L) l) (hL:L≤A.length) (hr:RepA E X w vs cs) (hfit:off+cs.length≤L) :
    RepA E X w ((A.take off++vs++A.drop (off+vs.length)).take L) (zk7y l off cs):=by
  have e1:(A.take off++vs++A.drop (off+vs.length)).take L=(A.take L).take off++vs++(A.take L).drop (off+vs.length):=by
    have hl:=hr.1
    rw [List.take_take,show min off L=off by omega,List.take_append,List.take_append]
    rw [y0m (l:=A.take off) (by simp; omega),y0m (l:=vs) (by simp; omega)]
    rw [List.take_drop]
    congr 2
    simp
    omega
  rw [e1]
  unfold zk7y
  have hl:=hr.1
  rw [hl]
  exact ((hA.take off).append hr).append (hA.drop _)
theorem zdn4 (hh:HeapRel X0 base w h E) {id b off:Nat} {l:List DV} {arr:Array Value} {ty:TypeId} (ho:ziu0 h id=some l) (e1:E[id]? = some (some (b,l.length))) (e2:w.heap[b]? = some (.cells arr ty (0,0)))
    (e3:l.length≤arr.size) (e4:RepA E (FX X0 E) w (arr.toList.take l.length) l) {vs:List Value} {cs:List DV} (hr:RepA E (FX X0 E) w vs cs) (h1:cs.all DV.one=true) (hfit:off+cs.length≤l.length) :
    ∃ w' E',(storeCells ⟨b,off,none⟩ vs 0).run P w = .ok () w'∧HeapRel X0 base w' (h.set id (.cells (zk7y l off cs))) E'∧Trans X0 base E w E' w'∧E'[id]? = some (some (b,l.length)) ∧
      ∃ arr',w'.heap[b]? = some (.cells arr' ty (0,0))∧arr'.size=arr.size:=by
  have hl:=hr.1
  have hrun:=run_storeCells_at P b off ty vs 0 arr w e2 (by omega) (hr.oneCells h1)
  have hsz:((arr.toList.take (off+0)++vs++arr.toList.drop (off+0+vs.length)).toArray).size=arr.size:=by simp; omega
  have hsl:=zb3x l off cs hfit
  have hw:=zgd1 hh ho e1 e2 hsz (l':=zk7y l off cs) (by omega) (by omega) (by
    rw [hsl]
    have:=z60p e4 (by simpa using e3) hr hfit
    simpa using this)
  refine ⟨_,_,hrun,hw.1,hw.2,?_,_,setRow_heap w b arr _ ty (0,0) e2,hsz⟩
  rw [y03 (y02.1 e1).1,hsl]
theorem zx9n (hh:HeapRel X0 base w h E) {t:TypeId} {n:Nat} (hn:szT P t=some n) {va v:Value} {id ver off:Nat} {d:DV} (ha:Rep E (FX X0 E) w va (.mp id ver off)) (hv:Rep E (FX X0 E) w v d)
    {l:List DV} (ho:ziu0 h id=some l) (hver:l.length=ver) (hd:d.cells.length=n) (hfit:off+n≤ver) (h1:d.cells.all DV.one=true) :
    ∃ w' E',(Instr.storeAt t va v).run P w = .ok () w'∧HeapRel X0 base w' (h.set id (.cells (zk7y l off d.cells))) E'∧Trans X0 base E w E' w':=by
  obtain ⟨b,arr,ty,e1,e2,e3,e4,rfl⟩:=zsi4 hh ha ho hver
  have hk:d.known=true:=by cases d<;>simp_all [DV.known,DV.cells,DV.one]
  have hc:=hv.cells hk
  obtain ⟨w',E',g1,g2,g3,_⟩:=zdn4 (P:=P) hh ho e1 e2 e3 e4 hc h1 (off:=off) (by omega)
  have hsz:v.cells.size=n:=by have:=hc.1; simp at this; omega
  exact ⟨w',E',by simp [Instr.storeAt,Instr.sureAddr,storeVar,zywv hn,hsz,g1],g2,g3⟩
end
end Go.Am
set_option linter.unusedSimpArgs false
set_option linter.unusedVariables false
namespace Go.Am
open Go.RowKit
section
variable {P:Program} {X0:Forb} {base:Nat} {w:World} {h:List AObj} {E:Env}
def RepO (E:Env) (X:Forb) (w:World) (t:List DV):Option Value→Option Opd→Prop
  | none,none=>True
  | some v,some x=>Rep E X w v (ev t x)
  | _,_=>False
theorem zhwh {t:List DV} {x:Opd} {v:Value} {i:Int} (hr:Rep E (FX X0 E) w v (ev t x)) (he:evI t x=some i) (y:Nat) (c:BoundsCode) (h0:0≤i) (h1:i≤y):(Instr.sliceBound v y c).run P w = .ok i.toNat w:=by
  obtain ⟨k,rfl⟩:=zeit hr he
  simp [Instr.sliceBound,asIntOf,h0,h1]
theorem z935 {t:List DV} {lo hi:Option Opd} {vl vh:Option Value} (hl:RepO E (FX X0 E) w t vl lo) (hh:RepO E (FX X0 E) w t vh hi) {n l h':Nat} (hb:zmxv t n lo hi=some (l,h')) (isS:Bool) (cap:Nat) (hc:n≤cap) :
    (Instr.sliceBounds isS n cap vl vh none).run P w = .ok (l,h',cap) w∧l≤h'∧h'≤n:=by
  unfold zmxv at hb
  simp only [y00] at hb
  obtain ⟨hv,e1,lv,e2,e3⟩:=hb
  split at e3
  · rename_i hcond
    simp at e3
    obtain ⟨rfl,rfl⟩:=e3
    obtain ⟨c1,c2,c3⟩:=hcond
    refine ⟨?_,by omega,by omega⟩
    have hi':(match (generalizing:=false) vh,(none:Option Value) with
        | some v,some _=>Instr.sliceBound v cap .slice3B
        | some v,none=>Instr.sliceBound v cap (if isS then .sliceAcap else .sliceAlen)
        | none,none=>pure n
        | none, some _ => stuck "Slice: max without high" : Sem Nat).run P w = .ok hv.toNat w := by
      cases hi with
      | none=>cases vh with
        | none=>simp at e1; subst e1; simp
        | some _=>simp [RepO] at hh
      | some x=>cases vh with
        | none=>simp [RepO] at hh
        | some v=>exact zhwh hh e1 _ _ (by omega) (by omega)
    have lo' : ∀ c,(match (generalizing:=false) vl with
        | some v=>Instr.sliceBound v hv.toNat c
        | none=>pure 0:Sem Nat).run P w = .ok lv.toNat w:=by
      intro c
      cases lo with
      | none=>cases vl with
        | none=>simp at e2; subst e2; simp
        | some _=>simp [RepO] at hl
      | some x=>cases vl with
        | none=>simp [RepO] at hl
        | some v=>exact zhwh hl e2 _ _ c1 (by omega)
    unfold Instr.sliceBounds
    simp only [Sem.run_bind,Sem.run_pure,Result.andThen_ok]
    have h1:=hi'
    cases vh<;>cases vl<;>simp_all
  · simp at e3
theorem za31 {l h' n s:Nat} (h1:l≤h') (h2:h'≤n):l*s+(h'-l)*s=h'*s∧h'*s≤n*s:=by
  refine ⟨?_,y0n s h2⟩
  rw [← y0a]; congr 1; omega
theorem zojl (hh:HeapRel X0 base w h E) {t:TypeId} {e:TypeId} (ht:P.underlying t=some (.slice e)) {s:Nat} (hs:szT P e=some s) {vx:Value} (hx:Rep E (FX X0 E) w vx .nils) {ts:List DV} {lo hi:Option Opd} {vl vh:Option Value}
    (hl:RepO E (FX X0 E) w ts vl lo) (hr:RepO E (FX X0 E) w ts vh hi) {l h':Nat} (hb:zmxv ts 0 lo hi=some (l,h')):zdck P X0 base E w (Instr.sliceAt t vx vl vh none) .nils h:=by
  cases hx
  obtain ⟨g1,g2,g3⟩:=z935 (P:=P) hl hr hb true 0 (y05 _)
  refine zwll hh (v := .slice none 0 0) ?_ .nils
  have e1:h'=0:=by omega
  have e2:l=0:=by omega
  subst e1; subst e2
  simp [Instr.sliceAt,run_underlying ht,Instr.slice,g1,zywv hs]
theorem zsdy (hh:HeapRel X0 base w h E) {t:TypeId} {e:TypeId} (ht:P.underlying t=some (.slice e)) {s:Nat} (hs:szT P e=some s) {vx:Value} (hx:Rep E (FX X0 E) w vx .nils) {ts:List DV} {lo hi:Option Opd} {mx:Opd} {vl vh:Option Value} {vm:Value}
    (hl:RepO E (FX X0 E) w ts vl lo) (hr:RepO E (FX X0 E) w ts vh hi) (hm:Rep E (FX X0 E) w vm (ev ts mx)) (hsome:hi.isSome=true) {l h':Nat} (hb:zmxv ts 0 lo hi=some (l,h')) (he:evI ts mx=some 0):zdck P X0 base E w (Instr.sliceAt t vx vl vh (some vm)) .nils h:=by
  cases hx
  unfold zmxv at hb
  simp only [y00] at hb
  obtain ⟨hv,e1,lv,e2,e3⟩:=hb
  split at e3
  · rename_i hcond
    simp at e3
    obtain ⟨rfl,rfl⟩:=e3
    obtain ⟨c1,c2,c3⟩:=hcond
    cases hi with
    | none=>simp at hsome
    | some xh =>
    cases vh with
    | none=>simp [RepO] at hr
    | some vh =>
    have r1:(Instr.sliceBound vm 0 .slice3Acap).run P w = .ok 0 w:=by
      have:=zhwh (P:=P) hm he 0 .slice3Acap (by omega) (by omega)
      simpa using this
    have r2 : ∀ c,(Instr.sliceBound vh 0 c).run P w = .ok hv.toNat w:=fun c=>zhwh hr e1 _ _ (by omega) (by omega)
    have r3:(Instr.sliceBounds true 0 0 vl (some vh) (some vm)).run P w = .ok (lv.toNat,hv.toNat,0) w:=by
      cases lo with
      | none=>cases vl with
        | none=>simp at e2; subst e2; simp [Instr.sliceBounds,r1,r2]
        | some _=>simp [RepO] at hl
      | some x=>cases vl with
        | none=>simp [RepO] at hl
        | some v =>
          have r4 : ∀ c,(Instr.sliceBound v hv.toNat c).run P w = .ok lv.toNat w:=fun c=>zhwh hl e2 _ _ (by omega) (by omega)
          simp [Instr.sliceBounds,r1,r2,r4]
    have q1:hv.toNat=0:=by omega
    have q2:lv.toNat=0:=by omega
    refine zwll hh (v := .slice none 0 0) ?_ .nils
    rw [q1,q2] at r3
    simp [Instr.sliceAt,run_underlying ht,Instr.slice,r3,zywv hs]
  · simp at e3
theorem zsx6 (hh:HeapRel X0 base w h E) {t:TypeId} {e:TypeId} (ht:P.underlying t=some (.slice e)) {s:Nat} (hs:szT P e=some s) {vx:Value} {full:Bool} {n:Nat} {cs:List DV} (hx:Rep E (FX X0 E) w vx (.sl full s n cs)) {ts:List DV} {lo hi:Option Opd} {vl vh:Option Value}
    (hl:RepO E (FX X0 E) w ts vl lo) (hr:RepO E (FX X0 E) w ts vh hi) {l h':Nat} (hb:zmxv ts n lo hi=some (l,h')) :
    zdck P X0 base E w (Instr.sliceAt t vx vl vh none) (.sl (full&&h' == n) s (h'-l) ((cs.drop (l*s)).take ((h'-l)*s))) h:=by
  obtain ⟨a,cap,vs,rfl,hn,hf,hlen,hR,hc,hX⟩:=ztqf hx
  obtain ⟨g1,g2,g3⟩:=z935 (P:=P) hl hr hb true cap hn
  obtain ⟨m1,m2⟩:=za31 (s:=s) g2 g3
  refine zwll hh (v := .slice (some (if cap=l then a else a.add (l*s))) (h'-l) (cap-l)) ?_ ?_
  · simp only [Instr.sliceAt,run_underlying ht,Sem.run_bind,Result.andThen_ok,Instr.slice,g1,zywv hs,Sem.run_pure]
    split<;>rfl
  · by_cases hcl:cap=l
    · rw [if_pos hcl]
      have e0:h'-l=0:=by omega
      rw [e0]
      simp only [y10,y0w]
      exact znwx (vs:=[]) RepA.nil (by omega) (fun _=>by omega) (by simp) (by simp) (fun i hi=>by simp at hi)
    · rw [if_neg hcl]
      refine znwx ((hR.drop _).take _) (by omega) (fun hF => ?_) ?_ (zr2w _ (zr25 _ hc)) (fun i hi => ?_)
      · simp at hF
        have:=hf hF.1
        omega
      · simp; omega
      · rw [z1lx,zv5o,y0f]
        simp at hi
        exact hX _ (by omega)
theorem ze5w (hh:HeapRel X0 base w h E) {t:TypeId} {e:TypeId} (ht:P.underlying t=some (.slice e)) {s:Nat} (hs:szT P e=some s) {vx:Value} {full:Bool} {n:Nat} {cs:List DV} (hx:Rep E (FX X0 E) w vx (.sl full s n cs)) {ts:List DV} {lo hi:Option Opd} {mx:Opd} {vl vh:Option Value} {vm:Value}
    (hl:RepO E (FX X0 E) w ts vl lo) (hr:RepO E (FX X0 E) w ts vh hi) (hm:Rep E (FX X0 E) w vm (ev ts mx)) (hsome:hi.isSome=true) {l h':Nat} {m:Int} (hb:zmxv ts n lo hi=some (l,h')) (he:evI ts mx=some m) (h1:(h':Int)≤m) (h2:m≤n) :
    zdck P X0 base E w (Instr.sliceAt t vx vl vh (some vm)) (.sl (decide (m=h')) s (h'-l) ((cs.drop (l*s)).take ((h'-l)*s))) h:=by
  obtain ⟨a,cap,vs,rfl,hn,hf,hlen,hR,hc,hX⟩:=ztqf hx
  obtain ⟨M,rfl⟩:=y0j (show 0≤m by omega)
  unfold zmxv at hb
  simp only [y00] at hb
  obtain ⟨hv,e1,lv,e2,e3⟩:=hb
  split at e3
  · rename_i hcond
    simp at e3
    obtain ⟨rfl,rfl⟩:=e3
    obtain ⟨c1,c2,c3⟩:=hcond
    cases hi with
    | none=>simp at hsome
    | some xh =>
    cases vh with
    | none=>simp [RepO] at hr
    | some vh =>
    have r1:(Instr.sliceBound vm cap .slice3Acap).run P w = .ok M w:=by
      have:=zhwh (P:=P) hm he cap .slice3Acap (by omega) (by omega)
      simpa using this
    have r2 : ∀ c,(Instr.sliceBound vh M c).run P w = .ok hv.toNat w:=fun c=>zhwh hr e1 _ _ (by omega) (by omega)
    obtain ⟨m1,m2⟩:=za31 (s:=s) (l:=lv.toNat) (h':=hv.toNat) (n:=n) (by omega) (by omega)
    have r3:(Instr.sliceBounds true n cap vl (some vh) (some vm)).run P w = .ok (lv.toNat,hv.toNat,M) w:=by
      cases lo with
      | none=>cases vl with
        | none=>simp at e2; subst e2; simp [Instr.sliceBounds,r1,r2]
        | some _=>simp [RepO] at hl
      | some x=>cases vl with
        | none=>simp [RepO] at hl
        | some v =>
          have r4 : ∀ c,(Instr.sliceBound v hv.toNat c).run P w = .ok lv.toNat w:=fun c=>zhwh hl e2 _ _ (by omega) (by omega)
          simp [Instr.sliceBounds,r1,r2,r4]
    refine zwll hh (v := .slice (some (if M=lv.toNat then a else a.add (lv.toNat*s))) (hv.toNat-lv.toNat) (M-lv.toNat)) ?_ ?_
    · simp only [Instr.sliceAt,run_underlying ht,Sem.run_bind,Result.andThen_ok,Instr.slice,r3,zywv hs,Sem.run_pure]
      split<;>rfl
    · by_cases hcl:M=lv.toNat
      · rw [if_pos hcl]
        have e0:hv.toNat-lv.toNat=0:=by omega
        rw [e0]
        simp only [y10,y0w]
        exact znwx (vs:=[]) RepA.nil (by omega) (fun _=>by omega) (by simp) (by simp) (fun i hi=>by simp at hi)
      · rw [if_neg hcl]
        refine znwx ((hR.drop _).take _) (by omega) (fun hF => ?_) ?_ (zr2w _ (zr25 _ hc)) (fun i hi => ?_)
        · simp at hF; omega
        · simp; omega
        · rw [z1lx,zv5o,y0f]
          simp at hi
          exact hX _ (by omega)
  · simp at e3
theorem zfka (hh:HeapRel X0 base w h E) {t:TypeId} {e:TypeId} (ht:P.underlying t=some (.slice e)) {s:Nat} (hs:szT P e=some s) {vx:Value} {id ver off n lim:Nat} (hx:Rep E (FX X0 E) w vx (.ms id ver off s n lim)) {ts:List DV} {lo hi:Option Opd} {vl vh:Option Value}
    (hl:RepO E (FX X0 E) w ts vl lo) (hr:RepO E (FX X0 E) w ts vh hi) {l h':Nat} (hb:zmxv ts n lo hi=some (l,h')) {k:List DV} (ho:ziu0 h id=some k) (hv:k.length=ver) :
    zdck P X0 base E w (Instr.sliceAt t vx vl vh none) (.ms id ver (off+l*s) s (h'-l) lim) h:=by
  obtain ⟨b,arr,ty,cap,a,e1,e2,e3,e4,rfl,k1,k2,k3,k4,k5⟩:=zuh1 hh hx ho hv
  obtain ⟨g1,g2,g3⟩:=z935 (P:=P) hl hr hb true cap k1
  obtain ⟨m1,m2⟩:=za31 (s:=s) g2 g3
  obtain ⟨m3,m4⟩:=za31 (s:=s) (l:=l) (h':=cap) (n:=cap) (by omega) (y05 _)
  refine zwll hh (v := .slice (some (if cap=l then a else a.add (l*s))) (h'-l) (cap-l)) ?_ ?_
  · simp only [Instr.sliceAt,run_underlying ht,Sem.run_bind,Result.andThen_ok,Instr.slice,g1,zywv hs,Sem.run_pure]
    split<;>rfl
  · refine z6v0 e1 hv.symm e2 (by omega) (by omega) (fun h0 => ?_) (by omega) (by omega)
    rw [if_neg (by omega),k3 (by omega),z689]
theorem zi3a (hh:HeapRel X0 base w h E) {t:TypeId} {e:TypeId} (ht:P.underlying t=some (.slice e)) {s:Nat} (hs:szT P e=some s) {vx:Value} {id ver off n lim s':Nat} (hx:Rep E (FX X0 E) w vx (.ms id ver off s' n lim)) {ts:List DV} {lo hi:Option Opd} {vl vh:Option Value} {mx:Bool}
    (hl:RepO E (FX X0 E) w ts vl lo) (hr:RepO E (FX X0 E) w ts vh hi) {d:DV} (hb:zhun h s id ver off s' lim mx (lo.bind (evI ts)) (hi.bind (evI ts))=some d) :
    mx=false∧zdck P X0 base E w (Instr.sliceAt t vx vl vh none) d h:=by
  unfold zhun at hb
  split at hb
  · simp at hb
  rename_i hmx
  refine ⟨by simpa using hmx,?_⟩
  simp only [y00] at hb
  obtain ⟨lv,⟨xl,rfl,e1⟩,hv,⟨xh,rfl,e2⟩,hb⟩:=hb
  split at hb
  case isFalse=>simp at hb
  rename_i hcond
  obtain ⟨rfl,c1,c2,c3,c4,c5⟩:=hcond
  obtain ⟨k,ho,hb⟩:=y00.1 hb
  split at hb
  case isFalse=>simp at hb
  rename_i hver
  simp at hb
  subst hb
  obtain ⟨b,arr,ty,cap,a,q1,q2,q3,q4,rfl,k1,k2,k3,k4,k5⟩:=zuh1 hh hx ho hver
  cases vl with
  | none=>simp [RepO] at hl
  | some v1 =>
  cases vh with
  | none=>simp [RepO] at hr
  | some v2 =>
  have hcap:hv.toNat≤cap:=Nat.le_of_mul_le_mul_right (show hv.toNat*s'≤cap*s' by omega) c3
  have r1 : ∀ c,(Instr.sliceBound v2 cap c).run P w = .ok hv.toNat w:=fun c=>zhwh hr e2 _ _ (by omega) (by omega)
  have r2 : ∀ c,(Instr.sliceBound v1 hv.toNat c).run P w = .ok lv.toNat w:=fun c=>zhwh hl e1 _ _ (by omega) (by omega)
  have g1:(Instr.sliceBounds true n cap (some v1) (some v2) none).run P w = .ok (lv.toNat,hv.toNat,cap) w:=by simp [Instr.sliceBounds,r1,r2]
  obtain ⟨m1,m2⟩:=za31 (s:=s') (l:=lv.toNat) (h':=hv.toNat) (n:=hv.toNat) (by omega) (y05 _)
  obtain ⟨m3,m4⟩:=za31 (s:=s') (l:=lv.toNat) (h':=cap) (n:=cap) (by omega) (y05 _)
  refine zwll hh (v := .slice (some (if cap=lv.toNat then a else a.add (lv.toNat*s'))) (hv.toNat-lv.toNat) (cap-lv.toNat)) ?_ ?_
  · simp only [Instr.sliceAt,run_underlying ht,Sem.run_bind,Result.andThen_ok,Instr.slice,g1,zywv hs,Sem.run_pure]
    split<;>rfl
  · refine z6v0 q1 hver.symm q2 (by omega) (by omega) (fun h0 => ?_) (by omega) (by omega)
    rw [if_neg (by omega),k3 (by omega),z689]
theorem z0xt (hh:HeapRel X0 base w h E) {t:TypeId} {e:TypeId} (ht:P.underlying t=some (.slice e)) {s:Nat} (hs:szT P e=some s) {vx:Value} {id ver off n lim:Nat} (hx:Rep E (FX X0 E) w vx (.ms id ver off s n lim)) {ts:List DV} {lo hi:Option Opd} {mx:Opd} {vl vh:Option Value} {vm:Value}
    (hl:RepO E (FX X0 E) w ts vl lo) (hr:RepO E (FX X0 E) w ts vh hi) (hm:Rep E (FX X0 E) w vm (ev ts mx)) (hsome:hi.isSome=true) {l h':Nat} {m:Int} (hb:zmxv ts n lo hi=some (l,h')) (he:evI ts mx=some m) (h1:(h':Int)≤m) (h2:m≤n) {k:List DV} (ho:ziu0 h id=some k) (hv:k.length=ver) :
    zdck P X0 base E w (Instr.sliceAt t vx vl vh (some vm)) .junk h:=by
  obtain ⟨b,arr,ty,cap,a,e1,e2,e3,e4,rfl,k1,k2,k3,k4,k5⟩:=zuh1 hh hx ho hv
  obtain ⟨M,rfl⟩:=y0j (show 0≤m by omega)
  unfold zmxv at hb
  simp only [y00] at hb
  obtain ⟨hv,e1,lv,e2,e3⟩:=hb
  split at e3
  · rename_i hcond
    simp at e3
    obtain ⟨rfl,rfl⟩:=e3
    obtain ⟨c1,c2,c3⟩:=hcond
    cases hi with
    | none=>simp at hsome
    | some xh =>
    cases vh with
    | none=>simp [RepO] at hr
    | some vh =>
    have r1:(Instr.sliceBound vm cap .slice3Acap).run P w = .ok M w:=by
      have:=zhwh (P:=P) hm he cap .slice3Acap (by omega) (by omega)
      simpa using this
    have r2 : ∀ c,(Instr.sliceBound vh M c).run P w = .ok hv.toNat w:=fun c=>zhwh hr e1 _ _ (by omega) (by omega)
    have r3:(Instr.sliceBounds true n cap vl (some vh) (some vm)).run P w = .ok (lv.toNat,hv.toNat,M) w:=by
      cases lo with
      | none=>cases vl with
        | none=>simp at e2; subst e2; simp [Instr.sliceBounds,r1,r2]
        | some _=>simp [RepO] at hl
      | some x=>cases vl with
        | none=>simp [RepO] at hl
        | some v =>
          have r4 : ∀ c,(Instr.sliceBound v hv.toNat c).run P w = .ok lv.toNat w:=fun c=>zhwh hl e2 _ _ (by omega) (by omega)
          simp [Instr.sliceBounds,r1,r2,r4]
    refine zwll hh (v := .slice (some (if M=lv.toNat then a else a.add (lv.toNat*s))) (hv.toNat-lv.toNat) (M-lv.toNat)) ?_ (.junk _)
    simp only [Instr.sliceAt,run_underlying ht,Sem.run_bind,Result.andThen_ok,Instr.slice,r3,zywv hs,Sem.run_pure]
    split<;>rfl
  · simp at e3
theorem zwmi (hh:HeapRel X0 base w h E) {t:TypeId} {e:TypeId} {len:Nat} (ht:P.underlying t=some (.array len e)) {s:Nat} (hs:szT P e=some s) {vx:Value} {cs:List DV} (hx:Rep E (FX X0 E) w vx (.ref cs)) {ts:List DV} {lo hi:Option Opd} {vl vh:Option Value}
    (hl:RepO E (FX X0 E) w ts vl lo) (hr:RepO E (FX X0 E) w ts vh hi) {l h':Nat} (hb:zmxv ts len lo hi=some (l,h')) (hfit:len*s≤cs.length) :
    zdck P X0 base E w (Instr.sliceAt t vx vl vh none) (.sl (h' == len) s (h'-l) ((cs.drop (l*s)).take ((h'-l)*s))) h:=by
  obtain ⟨a,vs,rfl,hR,hc,hX⟩:=za80 hx
  obtain ⟨g1,g2,g3⟩:=z935 (P:=P) hl hr hb false len (y05 _)
  obtain ⟨m1,m2⟩:=za31 (s:=s) g2 g3
  refine zwll hh (v := .slice (some (if len=l then a else a.add (l*s))) (h'-l) (len-l)) ?_ ?_
  · simp [Instr.sliceAt,run_underlying ht,Instr.sureAddr,g1,zywv hs]
  · by_cases hcl:len=l
    · rw [if_pos hcl]
      have e0:h'-l=0:=by omega
      rw [e0]
      simp only [y10,y0w]
      exact znwx (vs:=[]) RepA.nil (by omega) (fun _=>by omega) (by simp) (by simp) (fun i hi=>by simp at hi)
    · rw [if_neg hcl]
      refine znwx ((hR.drop _).take _) (by omega) (fun hF => ?_) ?_ (zr2w _ (zr25 _ hc)) (fun i hi => ?_)
      · simp at hF; omega
      · simp; omega
      · rw [z1lx,zv5o,y0f]
        simp at hi
        exact hX _ (by omega)
theorem zba7 (hh:HeapRel X0 base w h E) {t:TypeId} {e:TypeId} {len:Nat} (ht:P.underlying t=some (.array len e)) {s:Nat} (hs:szT P e=some s) {vx:Value} {id ver off:Nat} (hx:Rep E (FX X0 E) w vx (.mp id ver off)) {ts:List DV} {lo hi:Option Opd} {vl vh:Option Value}
    (hl:RepO E (FX X0 E) w ts vl lo) (hr:RepO E (FX X0 E) w ts vh hi) {l h':Nat} (hb:zmxv ts len lo hi=some (l,h')) {k:List DV} (ho:ziu0 h id=some k) (hv:k.length=ver) (hfit:off+len*s≤ver) :
    zdck P X0 base E w (Instr.sliceAt t vx vl vh none) (.ms id ver (off+l*s) s (h'-l) (off+len*s)) h:=by
  obtain ⟨b,arr,ty,e1,e2,e3,e4,rfl⟩:=zsi4 hh hx ho hv
  obtain ⟨g1,g2,g3⟩:=z935 (P:=P) hl hr hb false len (y05 _)
  obtain ⟨m1,m2⟩:=za31 (s:=s) g2 g3
  obtain ⟨m3,m4⟩:=za31 (s:=s) (l:=l) (h':=len) (n:=len) (by omega) (y05 _)
  refine zwll hh (v := .slice (some (if len=l then ⟨b,off,none⟩ else (⟨b,off,none⟩:Addr).add (l*s))) (h'-l) (len-l)) ?_ ?_
  · simp [Instr.sliceAt,run_underlying ht,Instr.sureAddr,g1,zywv hs]
  · refine z6v0 e1 hv.symm e2 (by omega) (by omega) (fun h0 => ?_) (by omega) (by omega)
    rw [if_neg (by omega),z689]
theorem zts9 (s:ByteArray) (l h':Nat):(s.extract l h').data.toList=(s.data.toList.drop l).take (h'-l):=by
  rw [ByteArray.data_extract,Array.toList_extract,y0u]
theorem zgdx (hh:HeapRel X0 base w h E) {t:TypeId} (ht:P.underlying t=some .string) {vx:Value} {s:List UInt8} (hx:Rep E (FX X0 E) w vx (.str s)) {ts:List DV} {lo hi:Option Opd} {vl vh:Option Value}
    (hl:RepO E (FX X0 E) w ts vl lo) (hr:RepO E (FX X0 E) w ts vh hi) {l h':Nat} (hb:zmxv ts s.length lo hi=some (l,h')) :
    zdck P X0 base E w (Instr.sliceAt t vx vl vh none) (.str ((s.drop l).take (h'-l))) h:=by
  cases hx with
  | str b _ hs =>
    subst hs
    have hsz:b.size=b.data.toList.length:=by rw [Array.length_toList]; rfl
    rw [← hsz] at hb
    obtain ⟨g1,g2,g3⟩:=z935 (P:=P) hl hr hb false b.size (y05 _)
    exact zwll hh (v := .string (b.extract l h')) (by simp [Instr.sliceAt,run_underlying ht,Instr.slice,g1]) (.str _ _ (zts9 b l h'))
theorem zyce (hh:HeapRel X0 base w h E) {t:TypeId} {zs:List DV} (hz:zw9d P t=some zs):zdck P X0 base E w (Instr.alloc t true (.tuple #[])) (.mp h.length zs.length 0) (h++[.cells zs]):=by
  obtain ⟨z,h1,h2⟩:=z67w hz w
  have hn:=zkum hh (h2 E (FX X0 E) w) [] t
  rw [y0o,Array.toArray_toList] at hn
  refine ⟨.pointer (some ⟨w.heap.size,0,none⟩),w.alloc (.cells z.cells t),_,?_,hn.1,?_,hn.2⟩
  · simp [Instr.alloc,h1,newVar,newRow]
  · rw [← hh.len]
    exact ztt2 (b:=w.heap.size) (L:=zs.length) (by simp) rfl
theorem zfqc (hh:HeapRel X0 base w h E) {t:TypeId} {v:Value} {d:DV} (hr:Rep E (FX X0 E) w v d) (hk:d.known=true):zdck P X0 base E w (Instr.box t v) (.mp h.length d.cells.length 0) (h++[.cells d.cells]):=by
  have hn:=zkum hh (hr.cells hk) [] t
  rw [y0o,Array.toArray_toList] at hn
  refine ⟨.pointer (some ⟨w.heap.size,0,none⟩),w.alloc (.cells v.cells t),_,?_,hn.1,?_,hn.2⟩
  · simp [Instr.box,newVar,newRow]
  · rw [← hh.len]
    exact ztt2 (b:=w.heap.size) (L:=d.cells.length) (by simp) rfl
theorem zynk (off:Nat) : ∀ (l:List Value) (k:Nat) (cells:Array Value),off+k+l.length≤cells.size →
    ((l.zipIdx k).foldl (fun cs (p:Value × Nat)=>cs.setIfInBounds (off+p.2) p.1) cells).toList=cells.toList.take (off+k)++l++cells.toList.drop (off+k+l.length)
  | [],k,cells,_=>by simp
  | v::l,k,cells,hfit=>by
    simp only [List.zipIdx_cons,List.foldl_cons,List.length_cons] at hfit ⊢
    rw [zynk off l (k+1) _ (by simp; omega)]
    have e:=list_seg_step cells.toList (off+k) v l (by simp; omega)
    simpa [Array.toList_setIfInBounds,y0f] using e
theorem zllo {X:Forb} {place:Nat→Option (Nat × Nat)} : ∀ (parts:List (Nat × Value)) (dp:List (Nat × Nat × DV)) (cells:Array Value) (ds:List DV),RepA E X w cells.toList ds→parts.length=dp.length →
    (∀ i (h1:i<parts.length) (h2:i<dp.length),place parts[i].1=some (dp[i].1,dp[i].2.1)∧Rep E X w parts[i].2 dp[i].2.2∧dp[i].2.2.known=true) → ∀ r,zi03 ds dp=some r →
    ∃ cells',Instr.fill place cells parts=some cells'∧RepA E X w cells'.toList r
  | [],dp,cells,ds,hr,hl,_,r,hf=>by
    cases dp with
    | nil=>simp [zi03] at hf; subst hf; exact ⟨cells,rfl,hr⟩
    | cons _ _=>simp at hl
  | (i,v)::parts,dp,cells,ds,hr,hl,hp,r,hf=>by
    cases dp with
    | nil=>simp at hl
    | cons q dp =>
      obtain ⟨off,n,d⟩:=q
      simp only [zi03] at hf
      split at hf
      · rename_i hc
        obtain ⟨c1,c2⟩:=hc
        obtain ⟨p1,p2,p3⟩:=hp 0 (by simp) (by simp)
        simp only [List.getElem_cons_zero] at p1 p2 p3
        have hcells:=p2.cells p3
        have hsz:v.cells.size=n:=by have:=hcells.1; simp at this; omega
        have hcl:=hr.1
        simp only [Array.length_toList] at hcl
        have hfold:=zynk off v.cells.toList 0 cells (by simp; omega)
        have hR:RepA E X w (v.cells.zipIdx.foldl (fun cs (p:Value × Nat)=>cs.setIfInBounds (off+p.2) p.1) cells).toList (zk7y ds off d.cells):=by
          have e:(v.cells.zipIdx.foldl (fun cs (p:Value × Nat)=>cs.setIfInBounds (off+p.2) p.1) cells)=(v.cells.toList.zipIdx.foldl (fun cs (p:Value × Nat)=>cs.setIfInBounds (off+p.2) p.1) cells):=by
            rw [← Array.foldl_toList]; simp
          rw [e,hfold]
          unfold zk7y
          have hl2:=hcells.1
          rw [hl2]
          exact ((hr.take _).append hcells).append (hr.drop _)
        obtain ⟨cells',g1,g2⟩:=zllo parts dp _ _ hR (by simpa using hl) (fun j h1 h2=>by have:=hp (j+1) (by simp; omega) (by simp; omega); simpa using this) r hf
        refine ⟨cells',?_,g2⟩
        simp only [Instr.fill,p1]
        rw [if_neg (by simp [hsz]; omega)]
        exact g1
      · simp at hf
end
end Go.Am
set_option linter.unusedSimpArgs false
set_option linter.unusedVariables false
namespace Go.Am
open Go.RowKit
section
variable {P:Program} {X0:Forb} {base:Nat} {w:World} {h:List AObj} {E:Env}
theorem zz0h {zs:List DV} {s:Nat} (hs:zs.length=s) (h0:0<s) : ∀ (n i:Nat),i<n*s→(reps n zs)[i]? = zs[i % s]?
  | 0,i,hi=>by simp at hi
  | n+1,i,hi=>by
    have e:reps (n+1) zs=zs++reps n zs:=by simp [reps,y0l]
    rw [e]
    by_cases h1:i<s
    · rw [y08 (by omega),Nat.mod_eq_of_lt h1]
    · rw [y0s (by omega),hs,zz0h hs h0 n (i-s) (by rw [y0a] at hi; omega)]
      congr 1
      rw [← Nat.mod_eq_sub_mod (by omega)]
theorem zic7 {zs:List DV} {s:Nat} (hs:zs.length=s) (n:Nat):(reps n zs).length=n*s:=by
  simp [reps,hs]
theorem z9lh {X:Forb} {w:World} {z:Array Value} {zs:List DV} (hz:RepA E X w z.toList zs) {s:Nat} (hs:zs.length=s) (h0:0<s) (n:Nat) :
    RepA E X w (((Array.range (n*s)).map (z[· % z.size]!)).toList) (reps n zs):=by
  have hsz:z.size=s:=by have:=hz.1; simp at this; omega
  refine ⟨by simp [zic7 hs],fun i h1 h2 => ?_⟩
  have hi:i<n*s:=by simpa using h1
  have hm:i % s<s:=Nat.mod_lt _ h0
  have e:=zz0h hs h0 n i hi
  rw [y06 h2,y06 (by omega)] at e
  simp at e
  rw [e]
  have hq:=hz.2 (i % s) (by simp; omega) (by omega)
  simp [hsz,Array.getElem!_eq_getD,hm]
  simpa using hq
theorem zsx5 {f:Nat→Value}:Array.map f (Array.range 0) = #[]:=by
  apply Array.eq_empty_of_size_eq_zero; simp
theorem zi77 (hh:HeapRel X0 base w h E) {t:TypeId} {fs:Array Field} (ht:P.underlying t=some (.struct fs)) {zs:List DV} (hz:zw9d P t=some zs) {pl:List (Nat × Nat)} (hp:(fs.toList.mapM fun f=>(P.info? f.type).map fun i=>(f.offset,i.size))=some pl)
    {parts:Array (Nat × Value)} {dp:List (Nat × Nat × DV)} (hl:parts.size=dp.length)
    (hpt : ∀ i (h1:i<parts.size) (h2:i<dp.length),pl[parts[i].1]? = some (dp[i].1,dp[i].2.1)∧Rep E (FX X0 E) w parts[i].2 dp[i].2.2∧dp[i].2.2.known=true) {r:List DV} (hf:zi03 zs dp=some r) :
    zdck P X0 base E w (Instr.build t parts) (.agg r) h:=by
  obtain ⟨z,h1,h2⟩:=z67w hz w
  obtain ⟨cells',g1,g2⟩:=zllo (place:=(pl[·]?)) parts.toList dp z.cells zs (h2 E (FX X0 E) w) (by simpa using hl) (fun i a b=>by simpa using hpt i (by simpa using a) b) r hf
  refine zwll hh (v := .agg cells') ?_ (by simpa using g2.agg)
  simp [Instr.build,run_underlying ht,h1,Array.mapM_eq_mapM_toList,run_places w _ _ hp,g1]
theorem zfq4 (hh:HeapRel X0 base w h E) {t e:TypeId} {n:Nat} (ht:P.underlying t=some (.array n e)) {s:Nat} (hs:szT P e=some s) {zs:List DV} (hz:zw9d P t=some zs)
    {parts:Array (Nat × Value)} {dp:List (Nat × Nat × DV)} (hl:parts.size=dp.length)
    (hpt : ∀ i (h1:i<parts.size) (h2:i<dp.length),(parts[i].1*s,s)=(dp[i].1,dp[i].2.1)∧Rep E (FX X0 E) w parts[i].2 dp[i].2.2∧dp[i].2.2.known=true) {r:List DV} (hf:zi03 zs dp=some r) :
    zdck P X0 base E w (Instr.build t parts) (.agg r) h:=by
  obtain ⟨z,h1,h2⟩:=z67w hz w
  obtain ⟨cells',g1,g2⟩:=zllo (place:=fun i=>some (i*s,s)) parts.toList dp z.cells zs (h2 E (FX X0 E) w) (by simpa using hl) (fun i a b=>by
    have:=hpt i (by simpa using a) b
    refine ⟨?_,by simpa using this.2.1,this.2.2⟩
    simpa using this.1) r hf
  refine zwll hh (v := .agg cells') ?_ (by simpa using g2.agg)
  simp [Instr.build,run_underlying ht,h1,zywv hs,g1]
theorem zc6s (hh:HeapRel X0 base w h E) {vs:List Value} {cs:List DV} (hr:RepA E (FX X0 E) w vs cs) (more:List Value) (t:TypeId) {full:Bool} {s n cap:Nat} (hn:n≤cap) (hf:full=true→cap=n) (hl:cs.length=n*s) (fr:Nat × Nat) :
    HeapRel X0 base (w.alloc (.cells (vs++more).toArray t fr)) h E∧Rep E (FX X0 E) (w.alloc (.cells (vs++more).toArray t fr)) (.slice (some ⟨w.heap.size,0,none⟩) n cap) (.sl full s n cs) ∧
    Trans X0 base E w E (w.alloc (.cells (vs++more).toArray t fr)):=by
  have ht:=zflh hh (.cells (vs++more).toArray t fr)
  refine ⟨hh.alloc _,znwx (hr.mono ht.env ht.keep) hn hf hl (fun j u hj => ?_) (fun i hi hX => ?_),ht⟩
  · have hlt:j<vs.length:=(y02.1 hj).1
    rw [z689,z4jt (heap_alloc_new w _)]
    simp [y08 hlt,hj]
  · rcases hX with g|⟨id,L,g⟩
    · have:=(hh.x0 _ _ g).1; have:=hh.size; simp at *
    · obtain ⟨_,_,_,_,_,_,g3,_⟩:=hh.live g
      have:=(Array.getElem?_eq_some_iff.1 g3).1
      simp at this
theorem za0d (hh:HeapRel X0 base w h E) {t e:TypeId} (ht:P.underlying t=some (.slice e)) {s len:Nat} (hs:szT P e=some s) {zs:List DV} (hz:zw9d P e=some zs) (h16:len*s≤16777216) (hzs:zs.length=s) (h0:0<s)
    {parts:Array (Nat × Value)} {dp:List (Nat × Nat × DV)} (hl:parts.size=dp.length)
    (hpt : ∀ i (h1:i<parts.size) (h2:i<dp.length),(parts[i].1*s,s)=(dp[i].1,dp[i].2.1)∧Rep E (FX X0 E) w parts[i].2 dp[i].2.2∧dp[i].2.2.known=true) {r:List DV} (hf:zi03 (reps len zs) dp=some r) (hrl:r.length=len*s) :
    zdck P X0 base E w (Instr.buildSlice t len parts) (.sl true s len r) h:=by
  obtain ⟨z,h1,h2⟩:=z67w hz w
  have hzz:=h2 E (FX X0 E) w
  have hpt' : ∀ i (a:i<parts.toList.length) (b:i<dp.length),(fun i=>some (i*s,s)) parts.toList[i].1=some (dp[i].1,dp[i].2.1)∧Rep E (FX X0 E) w parts.toList[i].2 dp[i].2.2∧dp[i].2.2.known=true:=fun i a b=>by
    have:=hpt i (by simpa using a) b
    refine ⟨?_,by simpa using this.2.1,this.2.2⟩
    simpa using this.1
  by_cases hlen:len*s=0
  · have hl0:len=0:=by rcases Nat.mul_eq_zero.1 hlen with g|g<;>omega
    subst hl0
    obtain ⟨cells',g1,g2⟩:=zllo (place:=fun i=>some (i*s,s)) parts.toList dp #[] (reps 0 zs) (by simpa [reps] using RepA.nil) (by simpa using hl) hpt' r hf
    have hfr:=zc6s hh g2 [] e (full:=true) (s:=s) (n:=0) (cap:=0) (y05 _) (fun _=>rfl) (by simpa using hrl) (0,0)
    rw [y0o,Array.toArray_toList] at hfr
    refine ⟨_,_,E,?_,hfr⟩
    simp [Instr.buildSlice,run_underlying ht,zywv hs,zsx5,g1,newRow]
  · obtain ⟨cells',g1,g2⟩:=zllo (place:=fun i=>some (i*s,s)) parts.toList dp _ (reps len zs) (z9lh hzz hzs h0 len) (by simpa using hl) hpt' r hf
    have hfr:=zc6s hh g2 [] e (full:=true) (s:=s) (n:=len) (cap:=len) (y05 _) (fun _=>rfl) hrl (0,0)
    rw [y0o,Array.toArray_toList] at hfr
    refine ⟨_,_,E,?_,hfr⟩
    have hng:¬ (2 ^ 24<len*s):=by omega
    simp [Instr.buildSlice,run_underlying ht,zywv hs,h1,hlen,g1,newRow,hng]
theorem zw3j (hh:HeapRel X0 base w h E) {t e:TypeId} (ht:P.underlying t=some (.slice e)) {s bytes:Nat} (hs:szT P e=some s) (hb:z8gh P e=some bytes) {zs:List DV} (hz:zw9d P e=some zs) (hzs:zs.length=s) (h0:0<s)
    {k k':IntKind} {l c:Int} (h1:0≤l) (h2:l≤c) (h3:c≤big) (h4:bytes≤16384) :
    zdck P X0 base E w (Instr.makeSlice t (.int k l) (.int k' c)) (.ms h.length (l.toNat*s) 0 s l.toNat (l.toNat*s)) (h++[.cells (reps l.toNat zs)]):=by
  obtain ⟨L,rfl⟩:=y0j h1
  obtain ⟨C,rfl⟩:=y0j (show 0≤c by omega)
  obtain ⟨z,z1,z2⟩:=z67w hz w
  obtain ⟨i,i1,i2⟩:=zx67 hb w
  have hzz:=z2 E (FX X0 E) w
  simp only [big] at h3
  have wl:IntKind.i64.wrap (L:Int)=L:=IntWalk.i64_in _ (by omega)
  have wc:IntKind.i64.wrap (C:Int)=C:=IntWalk.i64_in _ (by omega)
  have hbig:(bytes:Int)*C≤281474976710656:=by
    have h5:bytes*C≤16384*4294967296:=Nat.mul_le_mul h4 (by omega)
    have h6:bytes*C≤281474976710656:=y0h h5 (by omega)
    have h7:((bytes*C:Nat):Int)≤281474976710656:=by omega
    rwa [Int.natCast_mul] at h7
  have hCL:C*s=L*s+(C-L)*s:=by rw [← y0a]; congr 1; omega
  obtain ⟨cells,hce,hcr⟩ : ∃ cells:Array Value,cells=(if C*s=0 then #[] else (Array.range (C*s)).map (z.cells[· % z.cells.size]!))∧RepA E (FX X0 E) w cells.toList (reps C zs):=by
    refine ⟨_,rfl,?_⟩
    split
    · rename_i e0
      have:C=0:=by rcases Nat.mul_eq_zero.1 e0 with g|g<;>omega
      subst this; simpa [reps] using RepA.nil
    · exact z9lh hzz hzs h0 C
  have hcsz:cells.size=C*s:=by have:=hcr.1; simp [zic7 hzs] at this; exact this
  have hsplit:reps L zs=(reps C zs).take (L*s):=by
    apply List.ext_getElem?
    intro j
    rw [y0b]
    split
    · rename_i hj; rw [zz0h hzs h0 L j hj,zz0h hzs h0 C j (by omega)]
    · rename_i hj; rw [y0e (by rw [zic7 hzs]; omega)]
  have hn:=zkum hh (vs:=cells.toList.take (L*s)) (cs:=reps L zs) (by rw [hsplit]; exact hcr.take _) (cells.toList.drop (L*s)) e
  rw [List.take_append_drop,Array.toArray_toList] at hn
  refine ⟨.slice (some ⟨w.heap.size,0,none⟩) L C,w.alloc (.cells cells e),_,?_,by simpa using hn.1,?_,hn.2⟩
  · have key:(Instr.makeSlice t (.int k L) (.int k' C)).run P w = .ok (.slice (some ⟨w.heap.size,0,none⟩) L C) (w.alloc (.cells (if C*s=0 then #[] else (Array.range (C*s)).map (z.cells[· % z.cells.size]!)) e)):=by
      have c1:¬ ((C:Int)<0):=by omega
      have c2:¬ ((L:Int)<0):=by omega
      have c3:¬ ((C:Int)<L):=by omega
      have c4:¬ ((281474976710656:Int)<bytes*C):=by omega
      simp only [Instr.makeSlice,Sem.run_bind,run_underlying ht,Result.andThen_ok,asInt,asIntOf,Sem.run_pure,i1,i2,wl,wc]
      by_cases e0:C*s=0
      · simp [c1,c2,c3,c4,zywv hs,e0,newRow,zsx5]
      · simp [c1,c2,c3,c4,zywv hs,e0,newRow,z1]
    rw [key,hce]
  · rw [← hh.len]
    have e1:(reps L zs).length=L*s:=zic7 hzs L
    simp only [Int.toNat_natCast]
    exact z6v0 (b:=w.heap.size) (L:=L*s) (arr:=cells) (t:=e) (by simp [e1]) rfl (heap_alloc_new w _) (by omega) (by omega) (fun _=>rfl) (by omega) (by omega)
end
end Go.Am
set_option linter.unusedSimpArgs false
set_option linter.unusedVariables false
namespace Go.Am
open Go.RowKit
section
variable {P:Program} {X0:Forb} {base:Nat} {w:World} {h:List AObj} {E:Env}
theorem z61f {X:Forb} {w:World} (l:List UInt8):RepA E X w (l.map fun b => .int .u8 b.toNat) (u8s l) :=
  ⟨by simp [u8s],fun i h1 h2=>by simp [u8s]; exact .int _ _⟩
theorem z5m8 (hh:HeapRel X0 base w h E) {v:Value} {d:DV} (hr:Rep E (FX X0 E) w v d) {m s:Nat} {cs:List DV} (hv:visY h d=some (m,cs)) (hm:m*s=cs.length) :
    ∃ vs,RepA E (FX X0 E) w vs cs ∧ ∀ w',(∀ a u,w.cell? a=some u→w'.cell? a=some u)→(Builtin.lenOf v).run P w' = .ok m w'∧(Builtin.firstCells s m v).run P w' = .ok vs.toArray w':=by
  cases d
  case str l =>
    simp [visY] at hv
    obtain ⟨rfl,rfl⟩:=hv
    cases hr with
    | str b _ hb =>
      subst hb
      have hsz:b.size=b.data.toList.length:=by rw [Array.length_toList]; rfl
      refine ⟨_,z61f _,fun w' _=>⟨by simp only [Builtin.lenOf,Sem.run_pure,hsz],?_⟩⟩
      simp only [Builtin.firstCells,Sem.run_pure]
      congr 1
      apply Array.ext'
      have e:(b.extract 0 b.data.toList.length).data.toList=b.data.toList:=by
        rw [zts9,Nat.sub_zero,List.drop_zero,List.take_length]
      rw [Array.toList_map,e]
  all_goals
    simp only [visY] at hv
    obtain ⟨a,cap,vs,rfl,hn,hR,h0,hc⟩:=ztc5 hh hr hv
    refine ⟨vs,hR,fun w' hw=>⟨by simp [Builtin.lenOf],?_⟩⟩
    cases a with
    | none=>obtain ⟨rfl,rfl⟩:=h0 rfl; simp [Builtin.firstCells]
    | some ad =>
      have hl:vs.length=m*s:=by rw [hm]; exact hR.1
      exact run_firstCells_some _ s m ad m cap vs hl (fun j u hj=>hw _ _ (hc ad rfl j u hj))
def zrig (P:Program) (u:TypeId):Prop:=(∃ e,P.underlying u=some (.slice e))∨P.underlying u=some .string
theorem zyrj {t u e:TypeId} (ht:P.underlying t=some (.slice e)) (hu:zrig P u) {s:Nat} (hs:szT P e=some s) {v:Value} {m:Nat} {vs:List Value}
    (h1:(Builtin.lenOf v).run P w = .ok m w) (h2:(Builtin.firstCells s m v).run P w = .ok vs.toArray w) (a:Addr) (n cap:Nat) (hfit:n+m≤cap) (ty:TypeId) {w':World} (h3:(storeCells (a.add (n*s)) vs 0).run P w = .ok () w') :
    (Builtin.append_ #[t,u] ty #[.slice (some a) n cap,v]).run P w = .ok (.slice (some a) (n+m) cap) w':=by
  rcases hu with ⟨e',hu⟩|hu<;>simp [Builtin.append_,run_underlying ht,run_underlying hu,zywv hs,h1,h2,hfit,h3]
theorem zlyc {t u e:TypeId} (ht:P.underlying t=some (.slice e)) (hu:zrig P u) {s:Nat} (hs:szT P e=some s) {v:Value}
    (h1:(Builtin.lenOf v).run P w = .ok 0 w) (h2:(Builtin.firstCells s 0 v).run P w = .ok #[] w) (a:Option Addr) (n cap:Nat) (hfit:n≤cap) (ty:TypeId) :
    (Builtin.append_ #[t,u] ty #[.slice a n cap,v]).run P w = .ok (.slice a n cap) w:=by
  rcases hu with ⟨e',hu⟩|hu<;>cases a<;>simp [Builtin.append_,run_underlying ht,run_underlying hu,zywv hs,h1,h2,hfit,storeCells]
theorem zle2 (z:Array Value) (n:Nat):(Builtin.zeroCells z n).size=n*z.size:=by simp [Builtin.zeroCells]
theorem zkgd {e:TypeId} {s bytes:Nat} {zs:List DV} (hs:szT P e=some s) (hb:z8gh P e=some bytes) (hz:zw9d P e=some zs) : ∃ i z,P.info? e=some i∧i.zero=some z∧i.size=s∧i.bytes=bytes ∧ ∀ E X (w':World),RepA E X w' z.cells.toList zs:=by
  unfold zw9d at hz
  simp only [y00] at hz
  obtain ⟨z,⟨i,hi,hiz⟩,hm⟩:=hz
  unfold szT at hs; unfold z8gh at hb
  rw [hi] at hs hb
  simp at hs hb
  exact ⟨i,z,hi,hiz,hs,hb,fun E X w'=>zfm2 hm⟩
theorem zwua {t u e:TypeId} (ht:P.underlying t=some (.slice e)) (hu:zrig P u) {s bytes:Nat} (hs:szT P e=some s) (hb:z8gh P e=some bytes) {zs:List DV} (hz:zw9d P e=some zs) (hzs:zs.length=s) {v:Value} {m:Nat} {vs old:List Value} {a:Option Addr} {n cap:Nat}
    (h1:(Builtin.lenOf v).run P w = .ok m w) (h2:(Builtin.firstCells s m v).run P w.drew = .ok vs.toArray w.drew) (h3:(Builtin.firstCells s n (.slice a n cap)).run P w.drew = .ok old.toArray w.drew)
    (hgrow:¬ n+m≤cap) (h4:n+m≤big) (h5:bytes≤16384) (ty:TypeId) :
    ∃ (c:Nat) (more:List Value),n+m≤c∧more.length=(c-(n+m))*s ∧
      (Builtin.append_ #[t,u] ty #[.slice a n cap,v]).run P w = .ok (.slice (some ⟨w.heap.size,0,none⟩) (n+m) c) (w.drew.alloc (.cells ((old++vs)++more).toArray e)):=by
  obtain ⟨i,z,hi,hiz,i1,i2,hrep⟩:=zkgd hs hb hz
  subst i1 i2
  have zsz:z.cells.size=i.size:=by have:=(hrep [] (fun _ _=>True) w).1; simp at this; omega
  simp only [big] at h4
  have f1:(n+m)*i.bytes≤140737488355328:=by
    have:(n+m)*i.bytes≤4294967296*16384:=Nat.mul_le_mul (by omega) h5
    exact y0h this (by omega)
  have f2:¬ (281474976710656<Builtin.nextslicecap (n+m) cap*i.bytes):=by have:=growslice_fits (need:=n+m) (old:=cap) (bytes:=i.bytes) (by omega) f1; omega
  have f3:¬ (9223372036854775807<((n:Int)+(m:Int))):=by omega
  refine ⟨grownCap w (n+m) cap e,(Builtin.zeroCells z.cells (grownCap w (n+m) cap e-(n+m))).toList,grownCap_ge _ _ _ _,by simp [zle2,zsz],?_⟩
  have hend:(old++vs++(Builtin.zeroCells z.cells (grownCap w (n+m) cap e-(n+m))).toList).toArray=old.toArray++vs.toArray++Builtin.zeroCells z.cells (grownCap w (n+m) cap e-(n+m)):=by
    apply Array.ext'; simp
  rw [hend]
  rcases hu with ⟨e',hu⟩|hu
  · simp [Builtin.append_,run_underlying ht,run_underlying hu,sizeOf,typeInfo,zeroValue,hi,hiz,h1,hgrow,f3,f2,Question.forced,h2,h3,newRow,grownCap]
    congr 2
    apply Array.ext'
    simp
  · simp [Builtin.append_,run_underlying ht,run_underlying hu,sizeOf,typeInfo,zeroValue,hi,hiz,h1,hgrow,f3,f2,Question.forced,h2,h3,newRow,grownCap]
    congr 2
    apply Array.ext'
    simp
theorem zbka {a b s:Nat} (h:a≤b):a*s≤b*s:=y0n s h
theorem z6hb (hh:HeapRel X0 base w h E) {t u e:TypeId} (ht:P.underlying t=some (.slice e)) (hu:zrig P u) {s bytes:Nat} (hs:szT P e=some s) (hb:z8gh P e=some bytes) {zs:List DV} (hz:zw9d P e=some zs) (hzs:zs.length=s)
    {vx vy:Value} {x y:DV} (hx:Rep E (FX X0 E) w vx x) (hy:Rep E (FX X0 E) w vy y) {d:DV} {h':List AObj} (he:zqbw h s bytes x y=some (d,h')) (ty:TypeId) :
    zdck P X0 base E w (Builtin.append_ #[t,u] ty #[vx,vy]) d h':=by
  unfold zqbw at he
  simp only [y00] at he
  obtain ⟨⟨m,cs⟩,hv,he⟩:=he
  simp only at he
  split at he
  · simp at he
  rename_i hcond
  simp only [ne_eq,not_or,Decidable.not_not,gt_iff_lt,Nat.not_lt] at hcond
  obtain ⟨hms,hbytes,hspos⟩:=hcond
  obtain ⟨vs,hR,hrun⟩:=z5m8 (P:=P) hh hy hv hms
  obtain ⟨l1,c1⟩:=hrun w (fun _ _ h=>h)
  obtain ⟨l2,c2⟩:=hrun w.drew (fun _ _ h=>h)
  have hvl:vs.length=m*s:=by rw [hR.1,hms]
  have ht0:=zjji X0 base E w
  -- nothing to append
  have none_case : ∀ (a:Option Addr) (n cap:Nat),m=0→n≤cap→vx = .slice a n cap→d=x→h'=h→zdck P X0 base E w (Builtin.append_ #[t,u] ty #[vx,vy]) d h':=by
    intro a n cap hm hn ev ed eh
    subst hm ed eh ev
    have hvs:vs=[]:=y09 (by simpa using hvl)
    subst hvs
    exact zwll hh (zlyc ht hu hs l1 c1 a n cap hn ty) hx
  -- a new array
  have new_case : ∀ (a:Option Addr) (n cap:Nat) (old:List Value) (ds:List DV),vx = .slice a n cap→¬ n+m≤cap→n+m≤big→RepA E (FX X0 E) w old ds→ds.length=n*s →
      (Builtin.firstCells s n (.slice a n cap)).run P w.drew = .ok old.toArray w.drew→d = .ms h.length (ds++cs).length 0 s (n+m) (ds++cs).length→h'=h++[.cells (ds++cs)]→zdck P X0 base E w (Builtin.append_ #[t,u] ty #[vx,vy]) d h':=by
    intro a n cap old ds ev hg hbig hRo hdl hfc ed eh
    subst ed eh ev
    obtain ⟨c,more,g1,g2,g3⟩:=zwua ht hu hs hb hz hzs l1 c2 hfc hg hbig hbytes ty
    have hRR:=(hRo.append hR).mono ht0.env ht0.keep
    have hn:=zkum hh.drew hRR more e
    have hsum:(ds++cs).length=(n+m)*s:=by rw [y0d,hdl,← hms,y0a]
    refine ⟨_,_,_,g3,hn.1,?_,ht0.trans hn.2⟩
    rw [← hh.len]
    have hcl:c*s=(n+m)*s+(c-(n+m))*s:=by rw [← y0a]; congr 1; omega
    refine z6v0 (b:=w.heap.size) (L:=(ds++cs).length) (arr:=((old++vs)++more).toArray) (t:=e) (by simp) rfl (heap_alloc_new w.drew _) (by omega) g1 (fun _=>rfl) (by omega) ?_
    simp only [List.size_toArray,y0d,g2,hRo.1,hdl,hvl]
    rw [y0a] at hcl
    omega
  cases x<;>try (simp at he; done)
  case nils =>
    simp only at he
    cases hx
    split at he
    · rename_i hm; simp at he; exact none_case none 0 0 hm (y05 _) rfl he.1.symm he.2.symm
    · rename_i hm
      split at he
      · rename_i hbig
        simp at he
        exact new_case none 0 0 [] [] rfl (by omega) (by simpa using hbig) RepA.nil (by simp) (by simp [Builtin.firstCells]) (by simpa using he.1.symm) (by simpa using he.2.symm)
      · simp at he
  case sl full s' n ds =>
    simp only at he
    obtain ⟨a,cap,old,rfl,hn,hf,hdl,hRo,hc,hX⟩:=ztqf hx
    split at he
    · rename_i hm; simp at he; exact none_case _ n cap hm hn rfl he.1.symm he.2.symm
    · rename_i hm
      split at he
      · rename_i hc2
        obtain ⟨hful,hss,hbig⟩:=hc2
        subst hss
        simp at he
        have hcap:=hf hful
        refine new_case (some a) n cap old ds rfl (by omega) hbig hRo hdl ?_ (by rw [← he.1]; simp) (by rw [← he.2])
        exact run_firstCells_some w.drew s' n a n cap old (by rw [hRo.1,hdl]) (fun j u hj=>by simpa using hc j u hj)
      · simp at he
  case ms id ver off s' n lim =>
    simp only [y00] at he
    obtain ⟨l,ho,he⟩:=he
    split at he
    · rename_i hc2
      obtain ⟨hver,hss,hone⟩:=hc2
      subst hss
      obtain ⟨b,arr,ty',cap,a,e1,e2,e3,e4,rfl,k1,k2,k3,k4,k5⟩:=zuh1 hh hx ho hver
      split at he
      · rename_i hm; simp at he; exact none_case _ n cap hm k1 rfl he.1.symm he.2.symm
      · rename_i hm
        split at he
        · -- within the object
          rename_i hfit
          simp only [Option.some.injEq,Prod.mk.injEq] at he
          obtain ⟨rfl,rfl⟩:=he
          have hcap:n+m≤cap:=by
            rcases Nat.lt_or_ge cap (n+m) with g|g
            · exfalso
              have g1:cap+1≤n+m:=g
              have g2:=y0n s' g1
              rw [y0a cap] at g2
              omega
            · exact g
          have ha:=k3 (by omega)
          subst ha
          obtain ⟨w',E',g1,g2,g3,g4,arr',g5,g6⟩:=zdn4 (P:=P) hh ho e1 e2 e3 e4 hR hone (off:=off+n*s') (by rw [y0a] at hfit; omega)
          refine ⟨_,w',E',zyrj ht hu hs l1 c1 _ n cap hcap ty (by rw [z689]; exact g1),g2,?_,g3⟩
          refine z6v0 g4 hver.symm g5 (by omega) hcap (fun _=>rfl) k4 (by omega)
        · split at he
          · -- at the end
            rename_i hend
            obtain ⟨h0,hns,hbig⟩:=hend
            subst h0
            simp only [Option.some.injEq,Prod.mk.injEq] at he
            obtain ⟨rfl,rfl⟩:=he
            have hlen:(l++cs).length=(n+m)*s':=by rw [y0d,hver,← hns,← hms,y0a]
            by_cases hcap:n+m≤cap
            · have hfit:=zbka (s:=s') hcap
              rw [y0a] at hfit hlen
              by_cases hcap0:0<cap
              · have ha:=k3 hcap0
                subst ha
                have hst:=run_storeCells_at P b (n*s') ty' vs 0 arr w e2 (by omega) (hR.oneCells hone)
                have hsz:((arr.toList.take (n*s'+0)++vs++arr.toList.drop (n*s'+0+vs.length)).toArray).size=arr.size:=by simp; omega
                have hw:=zgd1 hh ho e1 e2 hsz (l':=l++cs) (by simp) (by rw [hlen]; omega) (by
                  have q1:arr.toList.take (n*s'+0)=arr.toList.take l.length:=by rw [hver,hns]; simp
                  have q2:=e4.append hR
                  have q3:((arr.toList.take (n*s'+0)++vs++arr.toList.drop (n*s'+0+vs.length)).toArray).toList.take (l++cs).length=arr.toList.take l.length++vs:=by
                    rw [q1,List.toList_toArray,List.take_append_of_le_length (by simp [hR.1]; omega),y0m (by simp [hR.1]; omega)]
                  rw [q3]; exact q2)
                refine ⟨_,_,_,zyrj ht hu hs l1 c1 _ n cap hcap ty (by rw [z689,Nat.zero_add]; exact hst),hw.1,?_,hw.2⟩
                refine z6v0 (y03 (y02.1 e1).1) (by simp) (setRow_heap w b arr _ ty' (0,0) e2) (by rw [hlen,y0a]; omega) hcap (fun _=>rfl) (by simp at hlen ⊢; omega) (by rw [hsz]; exact k5)
              · omega
            · have hnew:=zwua ht hu hs hb hz hzs (n:=n) (cap:=cap) (a:=some a) (old:=arr.toList.take l.length) l1 c2 (by
                refine run_firstCells_some w.drew s' n a n cap _ (by simp; omega) (fun j u hj => ?_)
                have hj':=(y02.1 hj).1
                simp at hj'
                have:0<cap:=by
                  rcases y0c cap with z|z
                  · subst z; have:n=0:=by omega
                    subst this; simp at hns; omega
                  · exact z
                rw [k3 this,z689,World.cell?_drew,z4jt e2,Nat.zero_add]
                rw [y0b] at hj
                split at hj
                · simpa using hj
                · simp at hj) hcap hbig hbytes ty
              obtain ⟨c,more,g1,g2,g3⟩:=hnew
              have hRR:=(e4.append hR).mono ht0.env ht0.keep
              have hcs:0<cs.length:=by rw [← hms]; exact Nat.mul_pos (by omega) (by omega)
              have hn:=zkt4 hh.drew ho e1 (l':=l++cs) (by simp; omega) hRR more e
              refine ⟨_,_,_,g3,hn.1,?_,ht0.trans hn.2⟩
              have hcl:c*s'=(n+m)*s'+(c-(n+m))*s':=by rw [← y0a]; congr 1; omega
              refine z6v0 (b:=w.heap.size) (arr:=((arr.toList.take l.length++vs)++more).toArray) (t:=e) (y03 (y02.1 e1).1) rfl (heap_alloc_new w.drew _) (by omega) g1 (fun _=>rfl) (by omega) ?_
              have:=e4.1
              simp only [List.size_toArray,y0d,g2,this,hvl]
              rw [y0d] at hlen
              omega
          · simp at he
    · simp at he
end
end Go.Am
set_option linter.unusedSimpArgs false
set_option linter.unusedVariables false
namespace Go.Am
open Go.RowKit
section
variable {P:Program} {X0:Forb} {base:Nat} {w:World} {h:List AObj} {E:Env}
theorem z4a8 : ∀ {ks:List Nat} {ds es:List DV} {b:Bool},z32s ks ds es=some b→ds.length=ks.length∧es.length=ks.length
  | [],[],[],_,_=>⟨rfl,rfl⟩
  | [],[],_::_,_,h=>by simp [z32s] at h
  | [],_::_,_,_,h=>by simp [z32s] at h
  | _::_,[],_,_,h=>by simp [z32s] at h
  | _::_,_::_,[],_,h=>by simp [z32s] at h
  | k::ks,x::xs,y::ys,b,h=>by
    simp only [z32s,y00,y01] at h
    obtain ⟨_,_,_,h2,_⟩:=h
    have:=z4a8 h2
    simp; exact this
theorem zid2 : ∀ {k1 k2:List Nat} {ds es:List DV} {b:Bool},z32s (k1++k2) ds es=some b →
    ∃ b1 b2,z32s k1 (ds.take k1.length) (es.take k1.length)=some b1∧z32s k2 (ds.drop k1.length) (es.drop k1.length)=some b2∧b=(b1&&b2)
  | [],k2,ds,es,b,h=>⟨true,b,by simp [z32s],by simpa using h,by simp⟩
  | k::k1,k2,[],es,b,h=>by cases es<;>simp [z32s] at h
  | k::k1,k2,d::ds,[],b,h=>by simp [z32s] at h
  | k::k1,k2,d::ds,e::es,b,h=>by
    simp only [List.cons_append,z32s,y00,y01] at h
    obtain ⟨c,h1,c',h2,rfl⟩:=h
    obtain ⟨b1,b2,g1,g2,rfl⟩:=zid2 h2
    exact ⟨c&&b1,b2,by simp [z32s,h1,g1],by simpa using g2,by simp [Bool.and_assoc]⟩
def atT (agg:Bool) (ds:List DV) (d:DV):Prop:=if agg then d = .agg ds else ds=[d]
theorem znf6 {t:TypeId} {n:Nat} {agg:Bool} (hn:szT P t=some n) (ha:aggT P t=some agg) (hsc:agg=false→n=1) {xs:Array Value} {cs:List DV} (hr:RepA E (FX X0 E) w xs.toList cs) {off:Nat} (hfit:off+n≤cs.length) :
    ∃ v d,(part t xs off).run P w = .ok v w∧Rep E (FX X0 E) w v d∧atT agg ((cs.drop off).take n) d:=by
  cases agg with
  | true =>
    obtain ⟨v,h1,h2⟩:=zcpz (P:=P) (n:=n) (agg:=true) (d := .agg ((cs.drop off).take n)) (off:=off) (by simp [oneC]; omega) hr hn ha
    exact ⟨v,_,h1,h2,by rw [atT,if_pos rfl]⟩
  | false =>
    obtain rfl:=hsc rfl
    have hlt:off<cs.length:=by omega
    have e:cs.drop off=cs[off]::cs.drop (off+1):=List.drop_eq_getElem_cons hlt
    obtain ⟨v,h1,h2⟩:=zcpz (P:=P) (n:=1) (agg:=false) (d:=cs[off]) (off:=off) (by unfold oneC; rw [e]; simp) hr hn ha
    exact ⟨v,_,h1,h2,by rw [atT,if_neg (by simp),e]; rfl⟩
def EqOK (P:Program) (X0:Forb) (E:Env) (w:World) (fuel:Nat) (t:TypeId) (ks:List Nat):Prop :=
  ∃ agg,aggT P t=some agg∧(agg=false→ks.length=1) ∧ ∀ (x y:Value) (dx dy:DV) (ds es:List DV) (b:Bool),Rep E (FX X0 E) w x dx→Rep E (FX X0 E) w y dy→atT agg ds dx→atT agg es dy→z32s ks ds es=some b →
    (Op.equalIn fuel t x y).run P w = .ok b w
theorem zqnq {e:TypeId} {ks:List Nat} {fuel:Nat} (hi:szT P e=some ks.length) (hpos:0<ks.length) (hok:EqOK P X0 E w fuel e ks) {xs ys:Array Value} {ds es:List DV} (hx:RepA E (FX X0 E) w xs.toList ds) (hy:RepA E (FX X0 E) w ys.toList es) :
    ∀ (m k:Nat) (b:Bool),z32s (List.replicate m ks).flatten (ds.drop (k*ks.length)) (es.drop (k*ks.length))=some b→(Op.eqItems fuel e ks.length xs ys (List.range' k m)).run P w = .ok b w
  | 0,k,b,hc=>by
    have hl:=z4a8 hc
    simp only [List.replicate_zero,List.flatten_nil,List.length_nil] at hl
    have h1:=y09 hl.1
    have h2:=y09 hl.2
    rw [h1,h2] at hc
    simp [z32s] at hc
    subst hc
    simp [Op.eqItems]
  | m+1,k,b,hc=>by
    have hl:=z4a8 hc
    have hsum:(List.replicate (m+1) ks).flatten.length=ks.length+m*ks.length:=by simp [y0l]
    rw [y0l,List.flatten_cons] at hc
    obtain ⟨b1,b2,g1,g2,rfl⟩:=zid2 hc
    obtain ⟨agg,ha,hsc,hok'⟩:=hok
    rw [hsum] at hl
    simp only [List.length_drop] at hl
    have f1:k*ks.length+ks.length≤ds.length:=by omega
    have f2:k*ks.length+ks.length≤es.length:=by omega
    obtain ⟨vx,dx,p1,p2,p3⟩:=znf6 (P:=P) hi ha hsc hx f1
    obtain ⟨vy,dy,q1,q2,q3⟩:=znf6 (P:=P) hi ha hsc hy f2
    have heq:=hok' vx vy dx dy _ _ b1 p2 q2 p3 q3 g1
    have ih:=zqnq hi hpos ⟨agg,ha,hsc,hok'⟩ hx hy m (k+1) b2 (by
      rw [y0p,y0p] at g2
      rwa [show (k+1)*ks.length=k*ks.length+ks.length by rw [y0a]; omega])
    simp only [List.range'_succ,Op.eqItems,Sem.run_bind,p1,q1,heq,Result.andThen_ok]
    cases b1
    · simp
    · simpa using ih
theorem zxs6 {fuel:Nat} {g:TypeId→Option (List Nat)} (hg : ∀ t k,g t=some k→EqOK P X0 E w fuel t k) {xs ys:Array Value} {ds es:List DV} (hx:RepA E (FX X0 E) w xs.toList ds) (hy:RepA E (FX X0 E) w ys.toList es) :
    ∀ (fs:List Field) (off:Nat) (ks:List Nat) (b:Bool),z79o P g fs off=some ks→z32s ks (ds.drop off) (es.drop off)=some b→(Op.eqFields fuel xs ys fs).run P w = .ok b w
  | [],off,ks,b,hk,hc=>by
    simp [z79o] at hk; subst hk
    have hl:=z4a8 hc
    have h1:=y09 hl.1
    have h2:=y09 hl.2
    rw [h1,h2] at hc
    simp [z32s] at hc
    subst hc
    simp [Op.eqFields]
  | f::fs,off,ks,b,hk,hc=>by
    simp only [z79o] at hk
    split at hk
    · simp at hk
    · rename_i hf
      simp only [not_or,ne_eq,Decidable.not_not] at hf
      obtain ⟨hf1,hf2⟩:=hf
      simp only [y00] at hk
      obtain ⟨k,hk1,hk2⟩:=hk
      split at hk2
      · rename_i hs
        obtain ⟨hs,hpos⟩:=hs
        obtain ⟨l,hl,rfl⟩:=y01.1 hk2
        have hlen:=z4a8 hc
        simp only [List.length_drop,y0d] at hlen
        obtain ⟨b1,b2,g1,g2,rfl⟩:=zid2 hc
        obtain ⟨agg,ha,hsc,hok'⟩:=hg _ _ hk1
        have f1:off+k.length≤ds.length:=by omega
        have f2:off+k.length≤es.length:=by omega
        obtain ⟨vx,dx,p1,p2,p3⟩:=znf6 (P:=P) hs ha hsc hx f1
        obtain ⟨vy,dy,q1,q2,q3⟩:=znf6 (P:=P) hs ha hsc hy f2
        have heq:=hok' vx vy dx dy _ _ b1 p2 q2 p3 q3 g1
        have ih:=zxs6 hg hx hy fs (off+k.length) l b2 hl (by rwa [y0p,y0p] at g2)
        rw [← hf2] at p1 q1
        simp only [Op.eqFields,ne_eq,hf1,not_false_eq_true,if_true,Sem.run_bind,p1,q1,heq,Result.andThen_ok]
        cases b1
        · simp
        · simpa using ih
      · simp at hk2
theorem z2jy : ∀ (d:Nat) (t:TypeId) (ks:List Nat),z8ef P d t=some ks → ∀ fuel,d≤fuel→EqOK P X0 E w fuel t ks
  | 0,_,_,h,_,_=>by simp [z8ef] at h
  | d+1,t,ks,hk,0,hf=>by omega
  | d+1,t,ks,hk,fuel+1,hf=>by
    simp only [z8ef] at hk
    cases hu:P.underlying t with
    | none=>simp [hu] at hk
    | some td =>
    have agg1 : ∀ b,zdui td=b→aggT P t=some b:=fun b e=>by simp [aggT,hu,e]
    have sing : ∀ (x y:Value) (dx dy:DV) (ds es:List DV) (b:Bool) (k:Nat),atT false ds dx→atT false es dy→z32s [k] ds es=some b→znnj k dx dy=some b:=by
      intro x y dx dy ds es b k h1 h2 h3
      simp [atT] at h1 h2
      subst h1 h2
      simp only [z32s,y00,y01] at h3
      obtain ⟨c,h4,c',h5,h6⟩:=h3
      simp at h5 h6
      subst h5
      simp at h6
      rw [h4,h6]
    rw [hu] at hk
    cases td<;>simp only at hk<;>try (simp at hk; done)
    case int k =>
      simp at hk; subst hk
      refine ⟨false,agg1 _ rfl,fun _=>rfl,fun x y dx dy ds es b hx hy h1 h2 h3 => ?_⟩
      have:=sing x y _ _ _ _ _ _ h1 h2 h3
      cases dx<;>simp [znnj] at this
      cases dy<;>simp at this
      cases hx; cases hy
      obtain ⟨rfl,rfl⟩:=this
      simpa using run_equalIn_int w fuel t _ _ _ _ hu
    case string =>
      simp at hk; subst hk
      refine ⟨false,agg1 _ rfl,fun _=>rfl,fun x y dx dy ds es b hx hy h1 h2 h3 => ?_⟩
      have:=sing x y _ _ _ _ _ _ h1 h2 h3
      cases dx<;>simp [znnj] at this
      cases dy<;>simp at this
      cases hx with
      | str s _ hs=>cases hy with
        | str s' _ hs' =>
          rw [run_equalIn_string w fuel t _ _ hu,zcw1,zcw1,hs,hs',this]
    case bool =>
      simp at hk; subst hk
      refine ⟨false,agg1 _ rfl,fun _=>rfl,fun x y dx dy ds es b hx hy h1 h2 h3 => ?_⟩
      have:=sing x y _ _ _ _ _ _ h1 h2 h3
      cases dx<;>simp [znnj] at this
      cases dy<;>simp at this
      cases hx; cases hy
      rw [← this]
      exact run_equalIn_bool' w fuel t _ _ hu
    case array n e =>
      simp only [y00] at hk
      obtain ⟨k,hk1,hk2⟩:=hk
      split at hk2
      · rename_i hs
        obtain ⟨hs,hpos⟩:=hs
        simp at hk2; subst hk2
        refine ⟨true,agg1 _ rfl,fun h=>by simp at h,fun x y dx dy ds es b hx hy h1 h2 h3 => ?_⟩
        simp [atT] at h1 h2
        subst h1 h2
        obtain ⟨i,hi,hi2⟩:=y01.1 (show (P.info? e).map (·.size)=some k.length from hs)
        cases hx with
        | agg xs _ hl1 hr1=>cases hy with
          | agg ys _ hl2 hr2 =>
            rw [run_equalIn_array w fuel xs ys hu hi]
            have hc:P.cellsOf e=k.length:=by simp [Program.cellsOf,hi,hi2]
            rw [hc,List.range_eq_range']
            exact zqnq hs hpos (z2jy d e k hk1 fuel (by omega)) (RepA.of_agg (.agg xs ds hl1 hr1)) (RepA.of_agg (.agg ys es hl2 hr2)) n 0 b (by simpa using h3)
      · simp at hk2
    case struct fs =>
      split at hk
      · simp at hk
      · rename_i hst
        refine ⟨true,agg1 _ rfl,fun h=>by simp at h,fun x y dx dy ds es b hx hy h1 h2 h3 => ?_⟩
        simp [atT] at h1 h2
        subst h1 h2
        cases hx with
        | agg xs _ hl1 hr1=>cases hy with
          | agg ys _ hl2 hr2 =>
            have hfo:P.fieldsOf t=fs:=by simp [Program.fieldsOf,hu]
            rw [run_equalIn_struct w fuel t xs ys (by rw [hfo]; exact hu) (by simpa using hst),hfo]
            exact zxs6 (fun t' k' h'=>z2jy d t' k' h' fuel (by omega)) (RepA.of_agg (.agg xs ds hl1 hr1)) (RepA.of_agg (.agg ys es hl2 hr2)) fs.toList 0 ks b hk (by simpa using h3)
theorem zhz9 (hh:HeapRel X0 base w h E) (o1 o2:Operand) {t:TypeId} {ks:List Nat} (hk:z8ef P 20 t=some ks) (hm:P.eqGuardType P.depth t=false) {op:BinOp} (ho:op = .eql∨op = .neq) {x y:Value} {ds es:List DV}
    (hx:Rep E (FX X0 E) w x (.agg ds)) (hy:Rep E (FX X0 E) w y (.agg es)) {b:Bool} (hb:z32s ks ds es=some b) (hagg:aggT P t=some true) :
    zdck P X0 base E w (do eqGuard op t o1 o2 x y; binOp op t x y) (.bool (if decide (op = .neq) then !b else b)) h:=by
  obtain ⟨agg,ha,_,hok⟩:=z2jy (X0:=X0) (E:=E) (w:=w) 20 t ks hk 10000 (by omega)
  rw [hagg] at ha
  simp at ha; subst ha
  have heq:=hok x y _ _ _ _ b hx hy (by simp [atT]) (by simp [atT]) hb
  cases hx with
  | agg xs _ _ _=>cases hy with
    | agg ys _ _ _ =>
      rcases ho with rfl|rfl
      · refine zwll (v := .bool b) hh ?_ (by simpa using .bool _)
        simp only [Sem.run_bind,run_eqGuard_agg w .eql t o1 o2 xs ys hm,Result.andThen_ok,run_eql_struct,heq]
      · refine zwll (v := .bool (!b)) hh ?_ (by simpa using .bool _)
        simp only [Sem.run_bind,run_eqGuard_agg w .neq t o1 o2 xs ys hm,Result.andThen_ok,run_neq_struct,heq]
end
end Go.Am
set_option linter.unusedSimpArgs false
set_option linter.unusedVariables false
namespace Go.Am
open Go.RowKit
section
variable {P:Program} {X0:Forb} {base:Nat} {w:World} {h:List AObj} {E:Env}
theorem zo8p (hh:HeapRel X0 base w h E) {v:Value} {d:DV} (hr:Rep E (FX X0 E) w v d) {m s:Nat} {cs:List DV} (hv:visY h d=some (m,cs)) {n:Nat} (hn:n≤m) (hfit:n*s≤cs.length) (hs:d.one=true→(∃ l,d = .str l)→s=1) :
    ∃ vs,RepA E (FX X0 E) w vs (cs.take (n*s))∧(Builtin.lenOf v).run P w = .ok m w∧(Builtin.firstCells s n v).run P w = .ok vs.toArray w:=by
  cases d
  case str l =>
    have h1:=hs rfl ⟨l,rfl⟩
    subst h1
    simp [visY] at hv
    obtain ⟨rfl,rfl⟩:=hv
    cases hr with
    | str b _ hb =>
      subst hb
      have hsz:b.size=b.data.toList.length:=by rw [Array.length_toList]; rfl
      refine ⟨_,(z61f b.data.toList).take (n*1),by simp only [Builtin.lenOf,Sem.run_pure,hsz],?_⟩
      simp only [Builtin.firstCells,Sem.run_pure]
      congr 1
      apply Array.ext'
      rw [Array.toList_map,zts9,Nat.sub_zero,List.drop_zero,Nat.mul_one,List.map_take]
  all_goals
    simp only [visY] at hv
    obtain ⟨a,cap,vs,rfl,hn',hR,h0,hc⟩:=ztc5 hh hr hv
    refine ⟨vs.take (n*s),hR.take _,by simp [Builtin.lenOf],?_⟩
    cases a with
    | none=>obtain ⟨rfl,rfl⟩:=h0 rfl; simp [Builtin.firstCells]
    | some ad =>
      have hl:(vs.take (n*s)).length=n*s:=by simp [hR.1]; omega
      exact run_firstCells_some _ s n ad _ cap _ hl (zr2w _ (hc ad rfl))
theorem zjpz (hh:HeapRel X0 base w h E) {t u e:TypeId} (ht:P.underlying t=some (.slice e)) {s:Nat} (hs:szT P e=some s) {vx vy:Value} {y:DV} {id ver off n lim:Nat} (hx:Rep E (FX X0 E) w vx (.ms id ver off s n lim)) (hy:Rep E (FX X0 E) w vy y)
    {m:Nat} {cs l:List DV} (hv:visY h y=some (m,cs)) (ho:ziu0 h id=some l) (hver:l.length=ver) (hone:(cs.take (min m n*s)).all DV.one=true) (hfit:min m n*s≤cs.length) (hoff:off+n*s≤ver) (hstr:(∃ l,y = .str l)→s=1) (ty:TypeId) :
    zdck P X0 base E w (Builtin.copy_ #[t,u] ty #[vx,vy]) (.int .i64 (min m n:Nat)) (h.set id (.cells (zk7y l off (cs.take (min m n*s))))):=by
  obtain ⟨b,arr,ty',cap,a,e1,e2,e3,e4,rfl,k1,k2,k3,k4,k5⟩:=zuh1 hh hx ho hver
  obtain ⟨vs,hR,l1,c1⟩:=zo8p (P:=P) hh hy hv (n:=min m n) (Nat.min_le_left _ _) hfit (fun _=>hstr)
  have hmul:=zbka (s:=s) (Nat.min_le_right m n)
  have hlen:(cs.take (min m n*s)).length=min m n*s:=by simp; omega
  by_cases hcap:0<cap
  · have ha:=k3 hcap
    subst ha
    obtain ⟨w',E',g1,g2,g3,g4,_⟩:=zdn4 (P:=P) hh ho e1 e2 e3 e4 hR hone (off:=off) (by omega)
    refine ⟨.int .i64 (min m n:Nat),w',E',?_,g2,.int _ _,g3⟩
    simp [Builtin.copy_,run_underlying ht,l1,zywv hs,show Nat.min m n=min m n from rfl,c1,g1,goInt]
  · have hn0:n=0:=by omega
    subst hn0
    have e0:min m 0=0:=by omega
    rw [e0] at hR c1 hlen ⊢
    have hvs:vs=[]:=by have:=hR.1; simp at this; exact this
    subst hvs
    have hsp:zk7y l off (cs.take (0*s))=l:=by simp [zk7y]
    rw [hsp]
    have hset:h.set id (.cells l)=h:=by
      have:=zr1z ho
      obtain ⟨hlt,he⟩:=y02.1 this
      rw [← he]; exact y0x hlt
    rw [hset]
    exact zwll hh (v := .int .i64 0) (by simp [Builtin.copy_,run_underlying ht,l1,zywv hs,show Nat.min m 0=0 from by simp [Nat.min_def],c1,storeCells,goInt]) (by simpa using .int .i64 0)
theorem z0dy (hh:HeapRel X0 base w h E) {t u e:TypeId} (ht:P.underlying t=some (.slice e)) {s:Nat} (hs:szT P e=some s) {vx vy:Value} {y:DV} (hx:Rep E (FX X0 E) w vx .nils) (hy:Rep E (FX X0 E) w vy y)
    {m:Nat} {cs:List DV} (hv:visY h y=some (m,cs)) (hstr:(∃ l,y = .str l)→s=1) (ty:TypeId):zdck P X0 base E w (Builtin.copy_ #[t,u] ty #[vx,vy]) (.int .i64 0) h:=by
  cases hx
  obtain ⟨vs,hR,l1,c1⟩:=zo8p (P:=P) hh hy hv (n:=0) (s:=s) (Nat.zero_le _) (by simp) (fun _=>hstr)
  exact zwll hh (v := .int .i64 0) (by simp [Builtin.copy_,run_underlying ht,l1,zywv hs,show Nat.min m 0=0 from by simp [Nat.min_def],c1,goInt]) (by simpa using .int .i64 0)
theorem zr6e {z:Value} {zs:List DV} {X:Forb} (hz:RepA E X w z.cells.toList zs) {s:Nat} (hs:zs.length=s) (h0:0<s) (n:Nat):RepA E X w (Builtin.zeroCells z.cells n).toList (reps n zs):=by
  have h1:z.cells.size=s:=by have:=hz.1; rw [Array.length_toList] at this; omega
  have:=z9lh hz hs h0 n
  unfold Builtin.zeroCells
  rw [h1] at this ⊢
  exact this
theorem zwy2 {zs:List DV} (h:zs.all DV.one=true) : ∀ n,(reps n zs).all DV.one=true
  | 0=>rfl
  | n+1=>by rw [show reps (n+1) zs=zs++reps n zs by simp [reps,y0l],List.all_append,h,zwy2 h n]; rfl
theorem zaap (hh:HeapRel X0 base w h E) {t e:TypeId} (ht:P.underlying t=some (.slice e)) {s:Nat} (hs:szT P e=some s) {zs:List DV} (hz:zw9d P e=some zs) {vx:Value} {id ver off n lim:Nat} (hx:Rep E (FX X0 E) w vx (.ms id ver off s n lim))
    {l:List DV} (ho:ziu0 h id=some l) (hver:l.length=ver) (hzs:zs.length=s) (h0:0<s) (hone:zs.all DV.one=true) (hoff:off+n*s≤ver) (ty:TypeId) :
    zdck P X0 base E w (Builtin.clear_ #[t] ty #[vx]) (.tup []) (h.set id (.cells (zk7y l off (reps n zs)))):=by
  obtain ⟨b,arr,ty',cap,a,e1,e2,e3,e4,rfl,k1,k2,k3,k4,k5⟩:=zuh1 hh hx ho hver
  obtain ⟨z,z1,z2⟩:=z67w hz w
  have hlen:(reps n zs).length=n*s:=by simp [reps,hzs]
  cases n with
  | zero =>
    have hsp:zk7y l off (reps 0 zs)=l:=by simp [zk7y,reps]
    rw [hsp]
    have hset:h.set id (.cells l)=h:=by
      have:=zr1z ho
      obtain ⟨hlt,he⟩:=y02.1 this
      rw [← he]; exact y0x hlt
    rw [hset]
    exact zwll hh (v := .tuple #[]) (by simp [Builtin.clear_,run_underlying ht]) (RepA.nil.tup)
  | succ n =>
    have hcap:0<cap:=by omega
    have ha:=k3 hcap
    subst ha
    have hR:=zr6e (z2 E (FX X0 E) w) hzs h0 (n+1)
    obtain ⟨w',E',g1,g2,g3,g4,_⟩:=zdn4 (P:=P) hh ho e1 e2 e3 e4 hR (zwy2 hone _) (off:=off) (by omega)
    refine ⟨.tuple #[],w',E',?_,g2,RepA.nil.tup,g3⟩
    simp [Builtin.clear_,run_underlying ht,z1,g1]
theorem zh6r (hh:HeapRel X0 base w h E) {src dst e:TypeId} (hs:P.underlying src=some .string) (hd:P.underlying dst=some (.slice e)) (he:P.underlying e=some (.int .u8)) {v:Value} {l:List UInt8} (hx:Rep E (FX X0 E) w v (.str l)) :
    zdck P X0 base E w (convert src dst v) (.sl false 1 l.length (u8s l)) h:=by
  cases hx with
  | str s _ hs' =>
    subst hs'
    have hsz:s.size=s.data.toList.length:=by rw [Array.length_toList]; rfl
    have hrun:=run_bytes_of_string (P:=P) w src dst e s hs hd he
    have ht:=zjji X0 base E w
    have hfr:=zc6s hh.drew ((z61f s.data.toList).mono ht.env ht.keep) (List.replicate (grownCap w s.size 0 e-s.size) (Value.int .u8 0)) e (full:=false) (s:=1) (n:=s.data.toList.length) (cap:=grownCap w s.size 0 e)
      (by rw [← hsz]; exact grownCap_ge w s.size 0 e) (fun hf=>by simp at hf) (by simp [u8s]) ((bytesRow s (grownCap w s.size 0 e)).size,(bytesRow s (grownCap w s.size 0 e)).size+1)
    have heq:((s.data.toList.map fun b=>Value.int .u8 b.toNat)++List.replicate (grownCap w s.size 0 e-s.size) (Value.int .u8 0)).toArray=bytesRow s (grownCap w s.size 0 e):=by
      apply Array.ext'; simp [bytesRow]
    rw [heq] at hfr
    rw [← hsz] at hfr ⊢
    exact ⟨_,_,E,hrun,hfr.1,hfr.2.1,ht.trans hfr.2.2⟩
theorem zr16 {X:Forb} {w:World} : ∀ {vs:List Value} {ds:List DV} {l:List UInt8},RepA E X w vs ds→z9pr ds=some l → ∃ ns:List Int,vs=ns.map (Value.int .u8)∧l=ns.map fun n=>UInt8.ofNat n.toNat
  | [],[],l,_,h=>by simp [z9pr] at h; subst h; exact ⟨[],rfl,rfl⟩
  | [],_::_,_,h,_=>by simp [RepA] at h
  | _::_,[],_,h,_=>by simp [RepA] at h
  | v::vs,d::ds,l,hr,h=>by
    have key : ∃ n,d = .int .u8 n ∧ ∃ l',z9pr ds=some l'∧l=UInt8.ofNat n.toNat::l':=by
      unfold z9pr at h
      split at h
      · simp at *
      · rename_i n r he
        simp at he
        obtain ⟨rfl,rfl⟩:=he
        obtain ⟨l',h1,rfl⟩:=y01.1 h
        exact ⟨n,rfl,l',h1,rfl⟩
      · simp at h
    obtain ⟨n,rfl,l',h1,rfl⟩:=key
    obtain ⟨ns,rfl,rfl⟩:=zr16 hr.tail h1
    have:=hr.head
    cases this
    exact ⟨n::ns,rfl,rfl⟩
theorem zbpd (hh:HeapRel X0 base w h E) {src dst e:TypeId} (hs:P.underlying src=some (.slice e)) (hd:P.underlying dst=some .string) (he:P.underlying e=some (.int .u8)) {v:Value} {d:DV} (hx:Rep E (FX X0 E) w v d) {n:Nat} {cs:List DV} (hv:visS h d=some (n,cs)) (hn:n=cs.length)
    {l:List UInt8} (hb:z9pr cs=some l):zdck P X0 base E w (convert src dst v) (.str l) h:=by
  obtain ⟨a,cap,vs,rfl,hn',hR,h0,hc⟩:=ztc5 hh hx hv
  obtain ⟨ns,rfl,rfl⟩:=zr16 hR hb
  have hl:ns.length=n:=by have:=hR.1; simp at this; omega
  cases a with
  | none =>
    obtain ⟨rfl,hz⟩:=h0 rfl
    simp at hz; subst hz
    exact zwll hh (run_convert_bytes_nil w src e hs he 0 cap dst hd) (.str _ _ (by simp))
  | some ad =>
    have hld:(loadCells ad n).run P w = .ok (ns.map (Value.int .u8)).toArray w:=by
      have:=run_loadCells_list (P:=P) w ad (ns.map (Value.int .u8)) (hc ad rfl)
      simpa [hl] using this
    refine zwll hh (v := .string (strOfNums ns)) ?_ (.str _ _ (strOfNums_data ns))
    rw [run_convert_bytes_string w src dst e _ n cap hs he hd,run_bytesToString w _ n cap ns hld,foldl_push_bytes]
    simp [strOfNums,ByteArray.empty,ByteArray.emptyWithCapacity]
    rfl
theorem z9y9 (hh:HeapRel X0 base w h E) {t:TypeId} (ht:P.underlying t=some .string) {v:Value} {s:List UInt8} (hx:Rep E (FX X0 E) w v (.str s)) (ty:TypeId):zdck P X0 base E w (Builtin.len_ #[t] ty #[v]) (.int .i64 s.length) h:=by
  cases hx with
  | str b _ hb =>
    have hsz:b.size=b.data.toList.length:=by rw [Array.length_toList]; rfl
    refine zwll hh (v := .int .i64 s.length) ?_ (.int _ _)
    simp only [Builtin.len_,y0y,y0v,Sem.run_bind,run_underlying ht,Result.andThen_ok,goInt,Sem.run_pure,hsz,hb]
theorem z0rm (hh:HeapRel X0 base w h E) {t e:TypeId} (ht:P.underlying t=some (.slice e)) {v:Value} {d:DV} {ts:List DV} {o:Opd} (hx:Rep E (FX X0 E) w v (ev ts o)) {h':List AObj} (he:evOp (.len o) ts h=some (d,h')) (ty:TypeId) :
    zdck P X0 base E w (Builtin.len_ #[t] ty #[v]) d h':=by
  have fin : ∀ (a:Option Addr) (n c:Nat),v = .slice a n c→d = .int .i64 n→h'=h→zdck P X0 base E w (Builtin.len_ #[t] ty #[v]) d h':=by
    intro a n c ev ed eh
    subst ev ed eh
    refine zwll hh (v := .int .i64 n) ?_ (.int _ _)
    simp only [Builtin.len_,y0y,y0v,Sem.run_bind,run_underlying ht,Result.andThen_ok,goInt,Sem.run_pure]
  simp only [evOp] at he
  generalize ev ts o=x at hx he
  cases x<;>simp only at he<;>try (simp at he; done)
  case nils=>simp at he; cases hx; exact fin none 0 0 rfl he.1.symm he.2.symm
  case sl full s n cs=>simp at he; cases hx; exact fin _ n _ rfl he.1.symm he.2.symm
  case ms id ver off s n lim =>
    simp only [y00] at he
    obtain ⟨l,hl,he⟩:=he
    split at he
    · rename_i hver
      simp at he
      obtain ⟨b,arr,ty',cap,a,e1,e2,e3,e4,rfl,_⟩:=zuh1 hh hx hl hver
      exact fin _ n _ rfl he.1.symm he.2.symm
    · simp at he
theorem ziki (hh:HeapRel X0 base w h E) {v:Value} {d:DV} (hr:Rep E (FX X0 E) w v d) {k:Nat} {a:Bool} (hk:zrfk h d=some (k,a)) :
    (k=0∧((a=true∧v = .slice none 0 0)∨(a=false ∧ ∃ ad n c,v = .slice (some ad) n c)))∨(k=1∧((a=true∧v = .pointer none)∨(a=false ∧ ∃ ad,v = .pointer (some ad)))) ∨
    (k=2∧a=true∧v = .map none)∨(k=3∧((a=true∧v = .nilFunc)∨(a=false ∧ ∃ f x y,v = .func f x y)))∨(k=4∧((a=true∧v = .nilIface)∨(a=false ∧ ∃ t x,v = .iface t x))):=by
  cases d<;>simp only [zrfk] at hk<;>try (simp at hk; done)
  case nilp=>simp at hk; cases hr; simp [← hk.1,← hk.2]
  case nilm=>simp at hk; cases hr; simp [← hk.1,← hk.2]
  case nilf=>simp at hk; cases hr; simp [← hk.1,← hk.2]
  case nili=>simp at hk; cases hr; simp [← hk.1,← hk.2]
  case nils=>simp at hk; cases hr; simp [← hk.1,← hk.2]
  case sl=>simp at hk; cases hr; simp [← hk.1,← hk.2]
  case ref=>simp at hk; cases hr; simp [← hk.1,← hk.2]
  case fn=>simp at hk; cases hr; simp [← hk.1,← hk.2]
  case iface=>simp at hk; cases hr; simp [← hk.1,← hk.2]
  case ms id ver off s n lim =>
    simp only [y00] at hk
    obtain ⟨l,hl,hk⟩:=hk
    split at hk
    · rename_i hver
      simp at hk
      obtain ⟨b,arr,ty',cap,a,e1,e2,e3,e4,rfl,_⟩:=zuh1 hh hr hl hver
      simp [← hk.1,← hk.2]
    · simp at hk
  case mp id ver off =>
    simp only [y00] at hk
    obtain ⟨l,hl,hk⟩:=hk
    split at hk
    · rename_i hver
      simp at hk
      obtain ⟨b,arr,ty',e1,e2,e3,e4,rfl⟩:=zsi4 hh hr hl hver
      simp [← hk.1,← hk.2]
    · simp at hk
theorem zp2r {t:TypeId} {k:Nat} (hk:zufb P t=some (k+3)) {x y:Value} {a b:Bool} (hab:(a||b)=true)
    (hx:(k=0∧((a=true∧x = .slice none 0 0)∨(a=false ∧ ∃ ad n c,x = .slice (some ad) n c)))∨(k=1∧((a=true∧x = .pointer none)∨(a=false ∧ ∃ ad,x = .pointer (some ad)))) ∨
      (k=2∧a=true∧x = .map none)∨(k=3∧((a=true∧x = .nilFunc)∨(a=false ∧ ∃ f u v,x = .func f u v)))∨(k=4∧((a=true∧x = .nilIface)∨(a=false ∧ ∃ t u,x = .iface t u))))
    (hy:(k=0∧((b=true∧y = .slice none 0 0)∨(b=false ∧ ∃ ad n c,y = .slice (some ad) n c)))∨(k=1∧((b=true∧y = .pointer none)∨(b=false ∧ ∃ ad,y = .pointer (some ad)))) ∨
      (k=2∧b=true∧y = .map none)∨(k=3∧((b=true∧y = .nilFunc)∨(b=false ∧ ∃ f u v,y = .func f u v)))∨(k=4∧((b=true∧y = .nilIface)∨(b=false ∧ ∃ t u,y = .iface t u)))) :
    (Op.equalIn 10000 t x y).run P w = .ok (a&&b) w:=by
  show (Op.equalIn (9999+1) t x y).run P w=_
  generalize 9999=d
  unfold zufb at hk
  split at hk<;>simp at hk
  all_goals
    subst hk
    simp at hx hy
  case h_8 =>
    obtain ⟨rfl,rfl⟩:=hx
    obtain ⟨rfl,rfl⟩:=hy
    rename_i hu
    simp [Op.equalIn,run_underlying hu]
  all_goals
    rename_i hu
    rcases hx with ⟨rfl,hx⟩|⟨rfl,hx⟩<;>rcases hy with ⟨rfl,hy⟩|⟨rfl,hy⟩<;>first
      | (simp at hab; done)
      | (first
          | (obtain ⟨_,_,_,rfl⟩:=hx)
          | (obtain ⟨_,_,rfl⟩:=hx)
          | (obtain ⟨_,rfl⟩:=hx)
          | (obtain rfl:=hx)) <;>
        (first
          | (obtain ⟨_,_,_,rfl⟩:=hy)
          | (obtain ⟨_,_,rfl⟩:=hy)
          | (obtain ⟨_,rfl⟩:=hy)
          | (obtain rfl:=hy))<;>simp [Op.equalIn,run_underlying hu]
theorem zbfa (hh:HeapRel X0 base w h E) {o1 o2:Operand} {t:TypeId} {k:Nat} (hk:zufb P t=some (k+3)) (h4:k=4→(zuku o1||zuku o2)=true) {op:BinOp} (hop:op = .eql∨op = .neq) {x y:Value} {dx dy:DV} (hx:Rep E (FX X0 E) w x dx) (hy:Rep E (FX X0 E) w y dy)
    {a b:Bool} (ha:zrfk h dx=some (k,a)) (hb:zrfk h dy=some (k,b)) (hab:(a||b)=true) :
    zdck P X0 base E w (do eqGuard op t o1 o2 x y; binOp op t x y) (.bool (if decide (op = .neq) then !(a&&b) else (a&&b))) h:=by
  have ix:=ziki hh hx ha
  have iy:=ziki hh hy hb
  have heq:=zp2r (w:=w) hk hab ix iy
  have hg:(eqGuard op t o1 o2 x y).run P w = .ok () w:=by
    by_cases e4:k=4
    · have hc:=h4 e4
      have hcc:(match o1 with | .const _=>true|_=>false)=true∨(match o2 with | .const _=>true|_=>false)=true:=by
        simp only [Bool.or_eq_true] at hc
        rcases hc with hc|hc
        · left; unfold zuku at hc; split at hc<;>simp_all
        · right; unfold zuku at hc; split at hc<;>simp_all
      unfold eqGuard
      rcases hop with rfl|rfl
      all_goals
        simp only [Bool.not_true,y0r,if_false]
        subst e4
        simp at ix iy
        rcases ix with ⟨_,rfl⟩|⟨_,_,_,rfl⟩<;>rcases iy with ⟨_,rfl⟩|⟨_,_,_,rfl⟩<;>simp
        intro q1 q2
        rcases hcc with q|q
        · cases o1<;>simp_all
        · cases o2<;>simp_all
    · have h1:(∀ c,x ≠ .agg c):=by rcases ix with ⟨_,⟨_,rfl⟩|⟨_,_,_,_,rfl⟩⟩|⟨_,⟨_,rfl⟩|⟨_,_,rfl⟩⟩|⟨_,_,rfl⟩|⟨_,⟨_,rfl⟩|⟨_,_,_,_,rfl⟩⟩|⟨_,⟨_,rfl⟩|⟨_,_,_,rfl⟩⟩<;>simp
      have h2:x ≠ .nilIface:=by rcases ix with ⟨_,⟨_,rfl⟩|⟨_,_,_,_,rfl⟩⟩|⟨_,⟨_,rfl⟩|⟨_,_,rfl⟩⟩|⟨_,_,rfl⟩|⟨_,⟨_,rfl⟩|⟨_,_,_,_,rfl⟩⟩|⟨q,⟨_,rfl⟩|⟨_,_,_,rfl⟩⟩<;>first|exact absurd q e4|simp
      exact zzcl op t o1 o2 h1 h2 w
  have hbin : ∀ (r:Nat),(binOp .eql t x y).run P w = .ok (.bool (a&&b)) w∧(binOp .neq t x y).run P w = .ok (.bool (!(a&&b))) w:=by
    intro r
    rcases ix with ⟨_,⟨_,rfl⟩|⟨_,_,_,_,rfl⟩⟩|⟨_,⟨_,rfl⟩|⟨_,_,rfl⟩⟩|⟨_,_,rfl⟩|⟨_,⟨_,rfl⟩|⟨_,_,_,_,rfl⟩⟩|⟨_,⟨_,rfl⟩|⟨_,_,_,rfl⟩⟩
    all_goals
      rcases iy with ⟨_,⟨_,rfl⟩|⟨_,_,_,_,rfl⟩⟩|⟨_,⟨_,rfl⟩|⟨_,_,rfl⟩⟩|⟨_,_,rfl⟩|⟨_,⟨_,rfl⟩|⟨_,_,_,_,rfl⟩⟩|⟨_,⟨_,rfl⟩|⟨_,_,_,rfl⟩⟩<;>first
        | omega
        | exact ⟨by simp only [binOp,Op.equal,Op.maxDepth,Sem.run_bind,heq,Result.andThen_ok,Sem.run_pure],by simp only [binOp,Op.equal,Op.maxDepth,Sem.run_bind,heq,Result.andThen_ok,Sem.run_pure]⟩
  rcases hop with rfl|rfl
  · exact zwll (v := .bool (a&&b)) hh (by simp only [Sem.run_bind,hg,Result.andThen_ok,(hbin 0).1]) (by simpa using .bool _)
  · exact zwll (v := .bool (!(a&&b))) hh (by simp only [Sem.run_bind,hg,Result.andThen_ok,(hbin 0).2]) (by simpa using .bool _)
end
end Go.Am
set_option linter.unusedSimpArgs false
set_option linter.unusedVariables false
namespace Go.Am
open Go.RowKit
section
variable {P:Program} {X0:Forb} {base:Nat} {w:World} {h:List AObj} {E:Env}
def zd76 (P:Program) (X0:Forb) (base:Nat) (E:Env) (w:World) (s:Sem Next) (d:DV) (h':List AObj):Prop :=
  ∃ v w' E',(s.run P w = .ok (.value v) w'∨(s.run P w = .ok .skip w'∧v=undef))∧HeapRel X0 base w' h' E'∧Rep E' (FX X0 E') w' v d∧Trans X0 base E w E' w'
theorem zdck.leaves {s:Sem Value} {d:DV} {h':List AObj} (hg:zdck P X0 base E w s d h'):zd76 P X0 base E w (do pure (.value (← s))) d h':=by
  obtain ⟨v,w',E',h1,h2,h3,h4⟩:=hg
  exact ⟨v,w',E',.inl (by simp [h1]),h2,h3,h4⟩
theorem zmv7 (hh:HeapRel X0 base w h E) {v:Value} {d:DV} (hr:Rep E (FX X0 E) w v d):zd76 P X0 base E w (pure (.value v)) d h :=
  ⟨v,w,E,.inl rfl,hh,hr,.refl _ _ _ _⟩
theorem zsvp {x:Operand} {y:Opd} (ho:opd x=some y) {ts:List DV} {tm:Array Value} (ht : ∀ i,x = .tmp i→Rep E (FX X0 E) w (tm.getD i undef) (ts.getD i .junk)) {a:Act} (ha:a.tmps=tm):Rep E (FX X0 E) w (a.eval x) (ev ts y):=by
  subst ha
  cases x<;>simp [opd] at ho
  case tmp i=>subst ho; exact ht i rfl
  case const v=>obtain ⟨d,hd,rfl⟩:=ho; exact const hd
  case func f=>subst ho; exact .fn _ _ _ _ _ rfl rfl (fun i h1=>by simp at h1) (fun i h1=>by simp at h1)
theorem zued {l:Array Operand} {r:List Opd} (hl:opds l=some r):l.size=r.length ∧ ∀ i (h1:i<l.size) (h2:i<r.length),opd l[i]=some r[i]:=by
  obtain ⟨h1,h2⟩:=zh8x hl
  exact ⟨by simpa using h1,fun i a b=>by have:=h2 i (by rw [Array.length_toList]; exact a) b; rwa [Array.getElem_toList] at this⟩
theorem zg2u {f:Fn} {a b:Array Value} {da db:List DV} (ha:RepA E (FX X0 E) w a.toList da) (hb:RepA E (FX X0 E) w b.toList db):Rep E (FX X0 E) w (.func f a b) (.fn f da db) :=
  .fn f a b da db (by simpa using ha.1) (by simpa using hb.1) (fun i h1 h2=>by have:=ha.2 i (by rw [Array.length_toList]; exact h1) h2; rwa [Array.getElem_toList] at this) (fun i h1 h2=>by have:=hb.2 i (by rw [Array.length_toList]; exact h1) h2; rwa [Array.getElem_toList] at this)
theorem zojc {l:Array Operand} {r:List Opd} (hl:opds l=some r) {ts:List DV} {ρ:Operand→Value} (hρ : ∀ x y,x ∈ l→opd x=some y→Rep E (FX X0 E) w (ρ x) (ev ts y)):RepA E (FX X0 E) w (l.map ρ).toList (r.map (ev ts)):=by
  obtain ⟨h1,h2⟩:=zued hl
  refine ⟨by simp [h1],fun i a b => ?_⟩
  simp at a b
  simpa using hρ l[i] r[i] (by simp) (h2 i a b)
theorem zpei {x:Option Operand} {y:Option Opd} (ho:opdO x=some y) {ts:List DV} {ρ:Operand→Value} (hρ : ∀ a b,x=some a→opd a=some b→Rep E (FX X0 E) w (ρ a) (ev ts b)):RepO E (FX X0 E) w ts (x.map ρ) y:=by
  cases x with
  | none=>simp [opdO] at ho; subst ho; trivial
  | some a =>
    simp [opdO] at ho
    obtain ⟨b,hb,rfl⟩:=ho
    exact hρ a b rfl hb
theorem zhty (hh:HeapRel X0 base w h E) {src dst:TypeId} {k0 k:IntKind} (hs:P.underlying src=some (.int k0)) (hd:P.underlying dst=some (.int k)) {v:Value} {kk:IntKind} {n:Int} (hr:Rep E (FX X0 E) w v (.int kk n)):zdck P X0 base E w (convert src dst v) (.int k (k.wrap n)) h:=by
  cases hr
  exact zwll hh (v := .int k (k.wrap n)) (by simp [convert,run_underlying hs,run_underlying hd,Conv.intToInt]) (.int _ _)
theorem znhs (hh:HeapRel X0 base w h E) {op:UnOp} {v:Value} {x:DV} (hr:Rep E (FX X0 E) w v x) {ts:List DV} {o:Opd} (ho:ev ts o=x) {d:DV} {h':List AObj} (he:evOp (.un op o) ts h=some (d,h')):zdck P X0 base E w (Op.unary op v) d h':=by
  simp only [evOp,ho] at he
  cases op<;>cases x<;>simp at he
  case neg.int k n=>obtain ⟨rfl,rfl⟩:=he; cases hr; exact zwll hh (v := .int k (k.wrap (0-n))) (by simp [Op.unary,Op.intArith]) (by simpa using .int _ _)
  case xor.int k n=>obtain ⟨rfl,rfl⟩:=he; cases hr; exact zwll hh (v := .int k (bits .xor k (if k.signed then -1 else k.max) n)) (by simp [Op.unary,intBits_xor]) (.int _ _)
  case not.bool b=>obtain ⟨rfl,rfl⟩:=he; cases hr; exact zwll hh (v := .bool (!b)) (by simp [Op.unary]) (.bool _)
theorem zifs (hh:HeapRel X0 base w h E) {t:TypeId} {fs:Array Field} (ht:P.underlying t=some (.struct fs)) {i:Nat} {f:Field} (hf:fs[i]? = some f) {n:Nat} {agg:Bool} (hn:szT P f.type=some n) (ha:aggT P f.type=some agg) {v:Value} {cs:List DV} (hr:Rep E (FX X0 E) w v (.agg cs)) {d:DV} (hd:oneC n agg (cs.drop f.offset)=some d) :
    zdck P X0 base E w (Instr.field t v i) d h:=by
  cases hr with
  | agg xs _ hl hr =>
    obtain ⟨u,h1,h2⟩:=zcpz (P:=P) hd (RepA.of_agg (.agg xs cs hl hr)) hn ha
    exact zwll hh (v:=u) (by simp [Instr.field,run_underlying ht,hf,asAgg,h1]) h2
theorem zh2i (hh:HeapRel X0 base w h E) {t e:TypeId} {len:Nat} (ht:P.underlying t=some (.array len e)) {n:Nat} {agg:Bool} (hn:szT P e=some n) (ha:aggT P e=some agg) {v:Value} {cs:List DV} (hr:Rep E (FX X0 E) w v (.agg cs)) {k:IntKind} {i:Int} (h0:0≤i) (h1:i<len) {d:DV} (hd:oneC n agg (cs.drop (i.toNat*n))=some d) :
    zdck P X0 base E w (Instr.index t v (.int k i)) d h:=by
  cases hr with
  | agg xs _ hl hr =>
    obtain ⟨u,g1,g2⟩:=zcpz (P:=P) hd (RepA.of_agg (.agg xs cs hl hr)) hn ha
    exact zwll hh (v:=u) (by simp [Instr.index,asIntOf,run_underlying ht,h0,h1,zywv hn,g1]) g2
theorem zqzs (hh:HeapRel X0 base w h E) {t:TypeId} (ht:P.underlying t=some .string) {v:Value} {s:List UInt8} (hr:Rep E (FX X0 E) w v (.str s)) {k:IntKind} {i:Int} (h0:0≤i) {b:UInt8} (hb:s[i.toNat]? = some b) :
    zdck P X0 base E w (Instr.index t v (.int k i)) (.int .u8 b.toNat) h:=by
  cases hr with
  | str z _ hz =>
    subst hz
    have hg:z[i.toNat]? = some b:=by
      have hlt:i.toNat<z.size:=by have:=(y02.1 hb).1; rw [Array.length_toList] at this; exact this
      rw [getElem?_pos z i.toNat hlt]
      have:=(y02.1 hb).2
      rw [← this]; rfl
    exact zwll hh (v := .int .u8 b.toNat) (by simp [Instr.index,asIntOf,run_underlying ht,h0,hg]) (.int _ _)
theorem z34d (mx:Bool) (w:World) : ∀ (l:List Int) (a:Int),((l.map (Value.int .i64)).foldlM (if mx then Builtin.max2 else Builtin.min2) (Value.int .i64 a)).run P w = .ok (.int .i64 (l.foldl (fun x y=>if mx then max x y else min x y) a)) w
  | [],a=>by simp
  | b::l,a=>by
    have ih:=z34d mx w l (if mx then max a b else min a b)
    simp only [y0z,List.foldlM_cons,Sem.run_bind,List.foldl_cons]
    have e:(((if mx then Builtin.max2 else Builtin.min2) (Value.int .i64 a) (Value.int .i64 b)):Sem Value).run P w = .ok (.int .i64 (if mx then max a b else min a b)) w:=by
      cases mx
      · simp [Builtin.min2]; omega
      · simp [Builtin.max2]; omega
    rw [e]
    exact ih
theorem zp44 {X:Forb} {w:World} {ts:List DV} : ∀ {vs:List Value} {xs:List Opd} {l:List Int},RepA E X w vs (xs.map (ev ts))→zp5p (fun x=>match ev ts x with | .int .i64 n=>some n|_=>none) xs=some l→vs=l.map (Value.int .i64)
  | [],[],l,_,h=>by simp [zp5p] at h; subst h; rfl
  | [],_::_,_,h,_=>by simp [RepA] at h
  | _::_,[],_,h,_=>by simp [RepA] at h
  | v::vs,x::xs,l,hr,h=>by
    simp only [zp5p,y00,y01] at h
    obtain ⟨n,h1,l',h2,rfl⟩:=h
    have:=zp44 hr.tail h2
    subst this
    have hd:=hr.head
    split at h1
    · rename_i m hm
      simp at h1; subst h1
      rw [hm] at hd
      cases hd
      rfl
    · simp at h1
theorem zfwb {ts:List DV} {x:Opd} {v:Value} {n:Int} (hr:Rep E (FX X0 E) w v (ev ts x)) (he:evI ts x=some n) : ∃ k,v = .int k n∧ev ts x = .int k n:=by
  unfold evI at he
  split at he
  · rename_i k m hk
    simp at he; subst he
    rw [hk] at hr; cases hr
    exact ⟨k,rfl,hk⟩
  · simp at he
theorem zy1i {ts:List DV} {ρ:Operand→Value} {parts:Array (Nat × Operand)} {place:Nat→Option (Nat × Nat)} {ps:List (Nat × Nat × Opd)}
    (hl:zp5p (fun p:Nat × Operand=>(opd p.2).bind fun x=>(place p.1).map fun q=>(q.1,q.2,x)) parts.toList=some ps) (hρ : ∀ x y,x ∈ parts.map (·.2)→opd x=some y→Rep E (FX X0 E) w (ρ x) (ev ts y))
    (hk:(ps.all fun p=>(ev ts p.2.2).known)=true) :
    (parts.map fun (p:Nat × Operand)=>(p.1,ρ p.2)).size=(ps.map fun p=>(p.1,p.2.1,ev ts p.2.2)).length ∧
    ∀ i (h1:i<(parts.map fun (p:Nat × Operand)=>(p.1,ρ p.2)).size) (h2:i<(ps.map fun p=>(p.1,p.2.1,ev ts p.2.2)).length),
      place (parts.map fun (p:Nat × Operand)=>(p.1,ρ p.2))[i].1=some ((ps.map fun p=>(p.1,p.2.1,ev ts p.2.2))[i].1,(ps.map fun p=>(p.1,p.2.1,ev ts p.2.2))[i].2.1) ∧
      Rep E (FX X0 E) w (parts.map fun (p:Nat × Operand)=>(p.1,ρ p.2))[i].2 (ps.map fun p=>(p.1,p.2.1,ev ts p.2.2))[i].2.2∧(ps.map fun p=>(p.1,p.2.1,ev ts p.2.2))[i].2.2.known=true:=by
  obtain ⟨h1,h2⟩:=zh8x hl
  refine ⟨by simpa using h1,fun i a b => ?_⟩
  simp only [Array.size_map,List.length_map] at a b
  have h3:=h2 i (by rw [Array.length_toList]; exact a) b
  simp only [y00,y01,Array.getElem_toList] at h3
  obtain ⟨x,hx,q,hq,e⟩:=h3
  simp only [Array.getElem_map,List.getElem_map]
  rw [← e]
  refine ⟨hq,hρ _ _ (Array.mem_map.2 ⟨parts[i],Array.getElem_mem a,rfl⟩) hx,?_⟩
  have:=List.all_eq_true.1 hk _ (List.getElem_mem b)
  rw [← e] at this
  exact this
end
end Go.Am
set_option linter.unusedSimpArgs false
set_option linter.unusedVariables false
namespace Go.Am
open Go.RowKit
section
variable {P:Program} {X0:Forb} {base:Nat} {w:World} {h:List AObj} {E:Env}
theorem z2b4 : ∀ {ps:List (Nat × Nat × DV)} {cells r:List DV},zi03 cells ps=some r→r.length=cells.length
  | [],cells,r,h=>by simp [zi03] at h; rw [h]
  | (off,n,v)::ps,cells,r,h=>by
    simp only [zi03] at h
    split at h
    · rename_i hc
      rw [z2b4 h,zb3x _ _ _ (by omega)]
    · simp at h
theorem zdws {o:Oper} {c:Call} (ho:o.op = .call c) {op:AOp} (hc:zdkj P c=some op) {ts:List DV} {d:DV} {h':List AObj} (he:evOp op ts h=some (d,h')) (hh:HeapRel X0 base w h E) {ρ:Operand→Value}
    (hρ : ∀ x y,x ∈ c.operands→opd x=some y→Rep E (FX X0 E) w (ρ x) (ev ts y)):zd76 P X0 base E w (execOp ρ o) d h':=by
  obtain ⟨callee,args,argTypes⟩:=c
  have hargs : ∀ x y,x ∈ args→opd x=some y→Rep E (FX X0 E) w (ρ x) (ev ts y):=fun x y hx=>hρ x y (by simp [Call.operands,hx])
  cases callee with
  | value f =>
    simp only [zdkj,y00,y01] at hc
    obtain ⟨f',_,a',_,rfl⟩:=hc
    simp [evOp] at he
  | invoke r m=>simp [zdkj] at hc
  | builtin b =>
    have hres : ∀ (s:Sem Value),(∀ consts,builtin b argTypes o.type consts (args.map ρ)=(do pure (.value (← s))))→zdck P X0 base E w s d h'→zd76 P X0 base E w (execOp ρ o) d h':=by
      intro s hs hg
      obtain ⟨v,w',E',h1,h2,h3,h4⟩:=hg
      refine ⟨v,w',E',.inl ?_,h2,h3,h4⟩
      simp only [execOp,ho,resolve,Sem.run_bind,Sem.run_pure,Result.andThen_ok,invoke]
      rw [hs]
      simp [h1]
    have two : ∀ {α:Type} {l:Array α} {x y:α},l.toList=[x,y]→l = #[x,y]:=fun e=>by apply Array.ext'; simpa using e
    have onel : ∀ {α:Type} {l:Array α} {x:α},l.toList=[x]→l = #[x]:=fun e=>by apply Array.ext'; simpa using e
    cases b<;>try (simp [zdkj] at hc; done)
    case len =>
      simp only [zdkj] at hc
      split at hc<;>try (simp at hc; done)
      rename_i x t hx ht
      have ex:=onel hx
      have et:=onel ht
      subst ex et
      split at hc<;>try (simp at hc; done)
      · rename_i hu
        obtain ⟨x',hx',rfl⟩:=y01.1 hc
        have hr:=hargs x x' (by simp) hx'
        simp only [evOp] at he
        split at he<;>try (simp at he; done)
        rename_i s hs
        rw [hs] at hr
        simp at he
        obtain ⟨rfl,rfl⟩:=he
        exact hres (Builtin.len_ #[t] o.type #[ρ x]) (fun _=>by simp [builtin]) (z9y9 hh hu hr _)
      · rename_i hu
        obtain ⟨x',hx',rfl⟩:=y01.1 hc
        exact hres (Builtin.len_ #[t] o.type #[ρ x]) (fun _=>by simp [builtin]) (z0rm hh hu (hargs x x' (by simp) hx') he _)
      · rename_i n e hu
        simp at hc
        subst hc
        simp [evOp,ev] at he
        obtain ⟨rfl,rfl⟩:=he
        exact hres (Builtin.len_ #[t] o.type #[ρ x]) (fun _=>by simp [builtin]) (zwll hh (v := .int .i64 n) (by simp [Builtin.len_,run_underlying hu,goInt]) (.int _ _))
    case append =>
      simp only [zdkj] at hc
      split at hc<;>try (simp at hc; done)
      rename_i x y t u hx ht
      have ex:=two hx
      have et:=two ht
      subst ex et
      split at hc<;>try (simp at hc; done)
      rename_i e hu
      split at hc<;>try (simp at hc; done)
      rename_i hsrc
      simp only [y00] at hc
      obtain ⟨s,hs,b,hb,x',hx',y',hy',z,hz,hc⟩:=hc
      split at hc<;>try (simp at hc; done)
      rename_i hzs
      simp at hc
      subst hc
      have hok:zrig P u:=by
        unfold zkxg at hsrc
        split at hsrc
        · rename_i e' he'; exact .inl ⟨e',he'⟩
        · rename_i he'; exact .inr he'
        · simp at hsrc
      simp only [evOp] at he
      exact hres (Builtin.append_ #[t,u] o.type #[ρ x,ρ y]) (fun _=>by simp [builtin]) (z6hb hh hu hok hs hb hz hzs (hargs x x' (by simp) hx') (hargs y y' (by simp) hy') he _)
    case copy =>
      simp only [zdkj] at hc
      split at hc<;>try (simp at hc; done)
      rename_i x y t u hx ht
      have ex:=two hx
      have et:=two ht
      subst ex et
      split at hc<;>try (simp at hc; done)
      rename_i e hu
      simp only [y00,y01] at hc
      obtain ⟨s,hs,x',hx',y',hy',rfl⟩:=hc
      have rx:=hargs x x' (by simp) hx'
      have ry:=hargs y y' (by simp) hy'
      simp only [evOp,y00] at he
      obtain ⟨⟨m,cs⟩,hv,he⟩:=he
      have hS:((ev ts y').isStr=true→s=1)→(∃ l,ev ts y' = .str l)→s=1:=by
        rintro h1 ⟨l,hl⟩
        exact h1 (by rw [hl]; rfl)
      simp only at he
      generalize ev ts x'=dx at rx he
      cases dx<;>simp only at he<;>try (simp at he; done)
      case nils =>
        split at he<;>try (simp at he; done)
        rename_i hcond
        simp at he
        obtain ⟨rfl,rfl⟩:=he
        exact hres (Builtin.copy_ #[t,u] o.type #[ρ x,ρ y]) (fun _=>by simp [builtin]) (z0dy hh hu hs rx ry hv (hS hcond) _)
      case ms id ver off s' n lim =>
        simp only [y00] at he
        obtain ⟨l,hl,he⟩:=he
        split at he<;>try (simp at he; done)
        rename_i hcond
        obtain ⟨c1,c2,c3,c4,c5,c6⟩:=hcond
        subst c2
        simp only [Option.some.injEq,Prod.mk.injEq] at he
        obtain ⟨rfl,rfl⟩:=he
        exact hres (Builtin.copy_ #[t,u] o.type #[ρ x,ρ y]) (fun _=>by simp [builtin]) (zjpz hh hu hs rx ry hv hl c1 c3 c4 c5 (hS c6) _)
    case clear =>
      simp only [zdkj] at hc
      split at hc<;>try (simp at hc; done)
      rename_i x t hx ht
      have ex:=onel hx
      have et:=onel ht
      subst ex et
      split at hc<;>try (simp at hc; done)
      rename_i e hu
      simp only [y00,y01] at hc
      obtain ⟨s,hs,z,hz,x',hx',rfl⟩:=hc
      have rx:=hargs x x' (by simp) hx'
      simp only [evOp] at he
      generalize ev ts x'=dx at rx he
      cases dx<;>simp only at he<;>try (simp at he; done)
      simp only [y00] at he
      obtain ⟨l,hl,he⟩:=he
      split at he<;>try (simp at he; done)
      rename_i hcond
      obtain ⟨c1,c2,c3,c4,c5,c6⟩:=hcond
      subst c2
      simp only [Option.some.injEq,Prod.mk.injEq] at he
      obtain ⟨rfl,rfl⟩:=he
      exact hres (Builtin.clear_ #[t] o.type #[ρ x]) (fun _=>by simp [builtin]) (zaap hh hu hs hz rx hl c1 c3 c4 c5 c6 _)
    case max =>
      simp only [zdkj,y01] at hc
      obtain ⟨l,hl,rfl⟩:=hc
      simp only [evOp,y00] at he
      obtain ⟨ns,hns,he⟩:=he
      have hvs:=zp44 (zojc hl hargs) hns
      cases ns with
      | nil=>simp at he
      | cons a r =>
        simp at he
        obtain ⟨rfl,rfl⟩:=he
        refine hres (Builtin.max_ argTypes o.type (args.map ρ)) (fun _=>by simp [builtin]) (zwll hh (v := .int .i64 (r.foldl (fun x y=>max x y) a)) ?_ (.int _ _))
        simp only [Builtin.max_,hvs,y0z]
        simpa using z34d (P:=P) true w r a
    case min =>
      simp only [zdkj,y01] at hc
      obtain ⟨l,hl,rfl⟩:=hc
      simp only [evOp,y00] at he
      obtain ⟨ns,hns,he⟩:=he
      have hvs:=zp44 (zojc hl hargs) hns
      cases ns with
      | nil=>simp at he
      | cons a r =>
        simp at he
        obtain ⟨rfl,rfl⟩:=he
        refine hres (Builtin.min_ argTypes o.type (args.map ρ)) (fun _=>by simp [builtin]) (zwll hh (v := .int .i64 (r.foldl (fun x y=>min x y) a)) ?_ (.int _ _))
        simp only [Builtin.min_,hvs,y0z]
        simpa using z34d (P:=P) false w r a
end
end Go.Am
set_option linter.unusedSimpArgs false
set_option linter.unusedVariables false
namespace Go.Am
open Go.RowKit
section
variable {P:Program} {X0:Forb} {base:Nat} {w:World} {h:List AObj} {E:Env}
theorem zwfb {o:Oper} {op:AOp} (hc:zoe1 P o=some op) {ts:List DV} {d:DV} {h':List AObj} (he:evOp op ts h=some (d,h')) (hh:HeapRel X0 base w h E) {ρ:Operand→Value}
    (hρ : ∀ x y,x ∈ o.op.operands→opd x=some y→Rep E (FX X0 E) w (ρ x) (ev ts y)):zd76 P X0 base E w (execOp ρ o) d h':=by
  obtain ⟨dst,oop,ty,pos,after,guard⟩:=o
  have val : ∀ {s:Sem Value},execOp ρ ⟨dst,oop,ty,pos,after,guard⟩=(do pure (.value (← s)))→zdck P X0 base E w s d h'→zd76 P X0 base E w (execOp ρ ⟨dst,oop,ty,pos,after,guard⟩) d h':=fun e g=>by rw [e]; exact g.leaves
  simp only at hρ
  cases oop<;>simp only [zoe1] at hc<;>try (simp at hc; done)
  case call c=>exact zdws rfl hc he hh hρ
  case move x =>
    obtain ⟨x',hx,rfl⟩:=y01.1 hc
    simp [evOp] at he; obtain ⟨rfl,rfl⟩:=he
    exact zmv7 hh (hρ x x' (by simp [Op.operands]) hx)
  case assign x =>
    obtain ⟨x',hx,rfl⟩:=y01.1 hc
    simp [evOp] at he; obtain ⟨rfl,rfl⟩:=he
    exact zmv7 hh (hρ x x' (by simp [Op.operands]) hx)
  case pick c a b =>
    simp only [y00,y01] at hc
    obtain ⟨c',hc',a',ha',b',hb',rfl⟩:=hc
    have rc:=hρ c c' (by simp [Op.operands]) hc'
    have ra:=hρ a a' (by simp [Op.operands]) ha'
    have rb:=hρ b b' (by simp [Op.operands]) hb'
    simp only [evOp] at he
    split at he<;>try (simp at he; done)
    · rename_i e; rw [e] at rc
      simp at he; obtain ⟨rfl,rfl⟩:=he
      generalize hcv:ρ c=v at rc
      cases rc
      exact ⟨_,w,E,.inl (by simp [execOp,hcv,asBool]),hh,ra,.refl _ _ _ _⟩
    · rename_i e; rw [e] at rc
      simp at he; obtain ⟨rfl,rfl⟩:=he
      generalize hcv:ρ c=v at rc
      cases rc
      exact ⟨_,w,E,.inl (by simp [execOp,hcv,asBool]),hh,rb,.refl _ _ _ _⟩
  case alloc e =>
    obtain ⟨zs,hz,rfl⟩:=y01.1 hc
    simp [evOp] at he; obtain ⟨rfl,rfl⟩:=he
    exact val rfl (zyce hh hz)
  case box e x =>
    obtain ⟨x',hx,rfl⟩:=y01.1 hc
    simp only [evOp] at he
    split at he<;>try (simp at he; done)
    rename_i hk
    simp only [Option.some.injEq,Prod.mk.injEq] at he; obtain ⟨rfl,rfl⟩:=he
    exact val rfl (zfqc hh (hρ x x' (by simp [Op.operands]) hx) hk)
  case build t parts =>
    obtain ⟨zs,hz,hc⟩:=y00.1 hc
    have hρ' : ∀ x y,x ∈ parts.map (·.2)→opd x=some y→Rep E (FX X0 E) w (ρ x) (ev ts y):=fun x y hx=>hρ x y (by simpa [Op.operands] using hx)
    split at hc<;>try (simp at hc; done)
    · rename_i fs hu
      simp only [y00,y01] at hc
      obtain ⟨pl,hpl,ps,hps,rfl⟩:=hc
      simp only [evOp] at he
      split at he<;>try (simp at he; done)
      rename_i hk
      simp only [y01] at he
      obtain ⟨_,⟨r,hr,rfl⟩,he⟩:=he
      simp at he; obtain ⟨rfl,rfl⟩:=he
      obtain ⟨g1,g2⟩:=zy1i (place:=(pl[·]?)) hps hρ' hk
      exact val rfl (zi77 hh hu hz hpl g1 g2 hr)
    · rename_i n e hu
      simp only [y00,y01] at hc
      obtain ⟨s,hs,ps,hps,rfl⟩:=hc
      simp only [evOp] at he
      split at he<;>try (simp at he; done)
      rename_i hk
      simp only [y01] at he
      obtain ⟨_,⟨r,hr,rfl⟩,he⟩:=he
      simp at he; obtain ⟨rfl,rfl⟩:=he
      obtain ⟨g1,g2⟩:=zy1i (place:=fun i=>some (i*s,s)) (by rw [← hps]; congr 1; funext p; cases opd p.2<;>rfl) hρ' hk
      exact val rfl (zfq4 hh hu hs hz g1 (fun i a b=>⟨by have:=(g2 i a b).1; simpa using this,(g2 i a b).2⟩) hr)
  case buildSlice t len parts =>
    have hρ' : ∀ x y,x ∈ parts.map (·.2)→opd x=some y→Rep E (FX X0 E) w (ρ x) (ev ts y):=fun x y hx=>hρ x y (by simpa [Op.operands] using hx)
    split at hc<;>try (simp at hc; done)
    rename_i e hu
    simp only [y00] at hc
    obtain ⟨s,hs,zs,hz,ps,hps,hc⟩:=hc
    split at hc<;>try (simp at hc; done)
    rename_i hcond
    obtain ⟨c1,c2,c3⟩:=hcond
    simp at hc; subst hc
    simp only [evOp] at he
    split at he<;>try (simp at he; done)
    rename_i hk
    simp only [y01] at he
    obtain ⟨_,⟨r,hr,rfl⟩,he⟩:=he
    simp at he; obtain ⟨rfl,rfl⟩:=he
    obtain ⟨g1,g2⟩:=zy1i (place:=fun i=>some (i*s,s)) (by rw [← hps]; congr 1; funext p; cases opd p.2<;>rfl) hρ' hk
    exact val rfl (za0d hh hu hs hz c1 c2 c3 g1 (fun i a b=>⟨by have:=(g2 i a b).1; simpa using this,(g2 i a b).2⟩) hr (by rw [z2b4 hr,zic7 c2]))
  case load t x =>
    simp only [y00,y01] at hc
    obtain ⟨n,hn,a,ha,x',hx,rfl⟩:=hc
    simp only [evOp,y00,y01] at he
    obtain ⟨cs,hv,d',hd,he⟩:=he
    simp at he; obtain ⟨rfl,rfl⟩:=he
    exact val rfl (zqp5 hh (hρ x x' (by simp [Op.operands]) hx) hn ha hv hd)
  case store t x y =>
    simp only [y00,y01] at hc
    obtain ⟨n,hn,x',hx,y',hy,rfl⟩:=hc
    have rx:=hρ x x' (by simp [Op.operands]) hx
    have ry:=hρ y y' (by simp [Op.operands]) hy
    simp only [evOp] at he
    generalize ev ts x'=dx at rx he
    cases dx<;>(try simp only at he)<;>try (simp at he; done)
    rename_i id ver off
    simp only [y00] at he
    obtain ⟨l,hl,he⟩:=he
    split at he<;>try (simp at he; done)
    rename_i hcond
    obtain ⟨c1,c2,c3,c4⟩:=hcond
    simp only [Option.some.injEq,Prod.mk.injEq] at he; obtain ⟨rfl,rfl⟩:=he
    obtain ⟨w',E',g1,g2,g3⟩:=zx9n (P:=P) hh hn rx ry hl c1 c2 c3 c4
    exact ⟨undef,w',E',.inr ⟨by simp [execOp,g1],rfl⟩,g2,.junk _,g3⟩
  case nilCheck x =>
    obtain ⟨x',hx,rfl⟩:=y01.1 hc
    have rx:=hρ x x' (by simp [Op.operands]) hx
    simp only [evOp] at he
    generalize ev ts x'=dx at rx he
    cases dx<;>(try simp only at he)<;>try (simp at he; done)
    case ref cs =>
      simp at he; obtain ⟨rfl,rfl⟩:=he
      obtain ⟨a,vs,e,_⟩:=za80 rx
      exact ⟨ρ x,w,E,.inl (by simp [execOp,e]),hh,rx,.refl _ _ _ _⟩
    case mp id ver off =>
      simp only [y00] at he
      obtain ⟨l,hl,he⟩:=he
      split at he<;>try (simp at he; done)
      rename_i hver
      simp at he; obtain ⟨rfl,rfl⟩:=he
      obtain ⟨b,arr,t,e1,e2,e3,e4,e⟩:=zsi4 hh rx hl hver
      exact ⟨ρ x,w,E,.inl (by simp [execOp,e]),hh,rx,.refl _ _ _ _⟩
    case fn f a b =>
      cases f<;>simp at he
      obtain ⟨rfl,rfl⟩:=he
      generalize hq:ρ x=q at rx
      have rx':=rx
      cases rx
      exact ⟨_,w,E,.inl (by simp [execOp,hq]),hh,rx',.refl _ _ _ _⟩
  case binOp op t x y yt =>
    simp only [y00] at hc
    obtain ⟨x',hx,y',hy,hc⟩:=hc
    have rx:=hρ x x' (by simp [Op.operands]) hx
    have ry:=hρ y y' (by simp [Op.operands]) hy
    split at hc
    · rename_i hop
      cases hk:zufb P t with
      | none=>rw [hk] at hc; simp at hc
      | some kd =>
      rw [hk] at hc
      split at hc
      · simp at hc; subst hc
        simp only [evOp,y01] at he
        obtain ⟨d',hd,he⟩:=he
        simp at he; obtain ⟨rfl,rfl⟩:=he
        exact val rfl (zm30 hh x y t rx ry hd)
      · simp at hc; subst hc
        simp only [evOp] at he
        split at he<;>try (simp at he; done)
        rename_i a b ea eb
        rw [ea] at rx; rw [eb] at ry
        simp only [y07,Option.some.injEq,Prod.mk.injEq] at he; obtain ⟨rfl,rfl⟩:=he
        have ht:P.underlying t=some .bool:=by
          unfold zufb at hk
          split at hk<;>simp_all
        exact val rfl (zrfl hh x y t ht hop rx ry)
      · simp only [y00] at hc
        obtain ⟨ks,hks,hc⟩:=hc
        split at hc<;>try (simp at hc; done)
        rename_i hcond
        obtain ⟨c1,c2⟩:=hcond
        simp at hc; subst hc
        simp only [evOp] at he
        split at he<;>try (simp at he; done)
        rename_i xs ys ea eb
        rw [ea] at rx; rw [eb] at ry
        simp only [y01] at he
        obtain ⟨_,⟨b,hb,rfl⟩,he⟩:=he
        simp only [Prod.mk.injEq] at he; obtain ⟨rfl,rfl⟩:=he
        rw [c1] at hb
        have hagg:aggT P t=some true:=by
          unfold zufb at hk
          unfold aggT
          split at hk<;>simp_all [zdui]
        exact val rfl (zhz9 hh x y hks c2 hop rx ry hb hagg)
      · rename_i e7
        simp only [Option.some.injEq] at e7
        subst e7
        split at hc<;>try (simp at hc; done)
        rename_i hnc
        simp at hc; subst hc
        simp only [evOp] at he
        split at he<;>try (simp at he; done)
        rename_i k a k' b ea eb
        split at he<;>try (simp at he; done)
        rename_i hcond
        obtain ⟨c1,c2,c3⟩:=hcond
        subst c1 c2
        simp only [y07,Option.some.injEq,Prod.mk.injEq] at he; obtain ⟨rfl,rfl⟩:=he
        exact val rfl (zbfa hh (k:=4) hk (fun _=>hnc) hop rx ry ea eb c3)
      · rename_i k h0 h1 h2 h7 e
        simp only [Option.some.injEq] at e
        subst e
        split at hc<;>try (simp at hc; done)
        rename_i h3
        simp at hc; subst hc
        simp only [evOp] at he
        split at he<;>try (simp at he; done)
        rename_i k1 a k2 b ea eb
        split at he<;>try (simp at he; done)
        rename_i hcond
        obtain ⟨c1,c2,c3⟩:=hcond
        subst c1 c2
        simp only [y07,Option.some.injEq,Prod.mk.injEq] at he; obtain ⟨rfl,rfl⟩:=he
        refine val rfl (zbfa hh (k:=kd-3) (by rw [hk]; congr 1; omega) (fun e4 => ?_) hop rx ry ea eb c3)
        exact absurd (show kd=7 by omega) (by intro e7; exact h7 (by rw [e7]))
      · simp at hc
    · rename_i hop
      simp at hc; subst hc
      simp only [evOp,y01] at he
      obtain ⟨d',hd,he⟩:=he
      simp at he; obtain ⟨rfl,rfl⟩:=he
      exact val rfl (zm30 hh x y t rx ry hd)
  case unOp op t x =>
    obtain ⟨x',hx,rfl⟩:=y01.1 hc
    exact val rfl (znhs hh (hρ x x' (by simp [Op.operands]) hx) rfl he)
  case convert src dst' x =>
    simp only [y00] at hc
    obtain ⟨x',hx,hc⟩:=hc
    have rx:=hρ x x' (by simp [Op.operands]) hx
    split at hc<;>try (simp at hc; done)
    · rename_i k0 k hs hd
      simp at hc; subst hc
      simp only [evOp] at he
      split at he<;>try (simp at he; done)
      rename_i kk n e
      rw [e] at rx
      simp at he; obtain ⟨rfl,rfl⟩:=he
      exact val rfl (zhty hh hs hd rx)
    · rename_i hs hd
      simp at hc; subst hc
      simp only [evOp] at he
      split at he<;>try (simp at he; done)
      rename_i l e
      rw [e] at rx
      simp at he; obtain ⟨rfl,rfl⟩:=he
      refine val (s:=convert src dst' (ρ x)) rfl (zwll hh (v:=ρ x) ?_ rx)
      generalize ρ x=v at rx
      cases rx
      simp [convert,run_underlying hs,run_underlying hd]
    · rename_i e hs hd
      split at hc<;>try (simp at hc; done)
      rename_i hu
      simp at hc; subst hc
      simp only [evOp] at he
      split at he<;>try (simp at he; done)
      rename_i l ex
      rw [ex] at rx
      simp only [Option.some.injEq,Prod.mk.injEq] at he; obtain ⟨rfl,rfl⟩:=he
      exact val rfl (zh6r hh hs hd hu rx)
    · rename_i e hs hd
      split at hc<;>try (simp at hc; done)
      rename_i hu
      split at hc<;>try (simp at hc; done)
      simp at hc; subst hc
      simp only [evOp,y00] at he
      obtain ⟨⟨n,cs⟩,hv,he⟩:=he
      simp only at he
      split at he<;>try (simp at he; done)
      rename_i hn
      simp only [y01] at he
      obtain ⟨_,⟨l,hb,rfl⟩,he⟩:=he
      simp at he; obtain ⟨rfl,rfl⟩:=he
      exact val rfl (zbpd hh hs hd hu rx hv hn hb)
  case makeFunc f first captured =>
    simp only [y00,y01] at hc
    obtain ⟨a,ha,b,hb,rfl⟩:=hc
    simp [evOp] at he; obtain ⟨rfl,rfl⟩:=he
    refine val (s:=Instr.makeFunc f (first.map ρ) (captured.map ρ)) rfl (zwll hh (v := .func f (first.map ρ) (captured.map ρ)) (by simp [Instr.makeFunc]) ?_)
    exact zg2u (zojc ha fun x y hx=>hρ x y (by simp [Op.operands,hx])) (zojc hb fun x y hx=>hρ x y (by simp [Op.operands,hx]))
  case makeSlice t l c =>
    split at hc<;>try (simp at hc; done)
    rename_i e hu
    simp only [y00] at hc
    obtain ⟨s,hs,b,hb,z,hz,l',hl,c',hc',hc⟩:=hc
    split at hc<;>try (simp at hc; done)
    rename_i hcond
    simp at hc; subst hc
    simp only [evOp,y00] at he
    obtain ⟨L,eL,C,eC,he⟩:=he
    split at he<;>try (simp at he; done)
    rename_i hb2
    obtain ⟨b1,b2,b3,b4⟩:=hb2
    simp only [Option.some.injEq,Prod.mk.injEq] at he; obtain ⟨rfl,rfl⟩:=he
    obtain ⟨k1,e1,_⟩:=zfwb (hρ l l' (by simp [Op.operands]) hl) eL
    obtain ⟨k2,e2,_⟩:=zfwb (hρ c c' (by simp [Op.operands]) hc') eC
    have:=zw3j hh hu hs hb hz hcond.1 hcond.2 (k:=k1) (k':=k2) b1 b2 b3 b4
    exact val (s:=Instr.makeSlice t (ρ l) (ρ c)) rfl (by rw [e1,e2]; exact this)
  case slice t x lo hi mx =>
    simp only [y00] at hc
    obtain ⟨x',hx,lo',hlo,hi',hhi,mx',hmx,hc⟩:=hc
    have rx:=hρ x x' (by simp [Op.operands]) hx
    have rlo:=zpei (X0:=X0) (E:=E) (w:=w) (ts:=ts) (ρ:=ρ) hlo (fun a b ha hb=>hρ a b (by simp [Op.operands,ha]) hb)
    have rhi:=zpei (X0:=X0) (E:=E) (w:=w) (ts:=ts) (ρ:=ρ) hhi (fun a b ha hb=>hρ a b (by simp [Op.operands,ha]) hb)
    have hmn:mx'=none→mx=none:=by
      intro e; subst e
      cases mx with
      | none=>rfl
      | some q=>simp [opdO] at hmx
    split at hc<;>try (simp at hc; done)
    · rename_i n e hu
      simp only [y00] at hc
      obtain ⟨s,hs,hc⟩:=hc
      split at hc<;>try (simp at hc; done)
      rename_i hm
      have hm':=hmn (by simpa using hm)
      subst hm'
      simp at hc; subst hc
      simp only [evOp,y00] at he
      obtain ⟨⟨l,h2⟩,hb,he⟩:=he
      simp only at he
      generalize ev ts x'=dx at rx he
      cases dx<;>(try simp only at he)<;>try (simp at he; done)
      case ref cs =>
        split at he<;>try (simp at he; done)
        rename_i hfit
        simp only [y07,Option.some.injEq,Prod.mk.injEq] at he; obtain ⟨rfl,rfl⟩:=he
        exact val rfl (zwmi hh hu hs rx rlo rhi hb hfit)
      case mp id ver off =>
        simp only [y00] at he
        obtain ⟨k,hk,he⟩:=he
        split at he<;>try (simp at he; done)
        rename_i hfit
        simp only [y07,Option.some.injEq,Prod.mk.injEq] at he; obtain ⟨rfl,rfl⟩:=he
        exact val rfl (zba7 hh hu hs rx rlo rhi hb hk hfit.1 hfit.2)
    · rename_i e hu
      obtain ⟨s,hs,rfl⟩:=y01.1 hc
      simp only [evOp] at he
      generalize ev ts x'=dx at rx he
      cases dx<;>(try simp only at he)<;>try (simp at he; done)
      case nils =>
        simp only [y00] at he
        obtain ⟨⟨l,h2⟩,hb,he⟩:=he
        cases mx' with
        | none =>
          have hm':=hmn rfl
          subst hm'
          simp at he; obtain ⟨rfl,rfl⟩:=he
          exact val rfl (zojl hh hu hs rx rlo rhi hb)
        | some m =>
          simp only [y00] at he
          obtain ⟨M,hM,he⟩:=he
          split at he<;>try (simp at he; done)
          rename_i hcond
          simp only [y07,Option.some.injEq,Prod.mk.injEq] at he; obtain ⟨rfl,rfl⟩:=he
          cases mx with
          | none=>simp [opdO] at hmx
          | some q =>
            simp [opdO] at hmx
            have rm:=hρ q m (by simp [Op.operands]) hmx
            exact val rfl (zsdy hh hu hs rx rlo rhi rm hcond.2 hb (by rw [hM,hcond.1]))
      case sl full s' n cs =>
        simp only [y00] at he
        obtain ⟨⟨l,h2⟩,hb,he⟩:=he
        simp only at he
        split at he<;>try (simp at he; done)
        rename_i hss
        simp only [ne_eq,Decidable.not_not] at hss
        subst hss
        cases mx' with
        | none =>
          have hm':=hmn rfl
          subst hm'
          simp only [y07,Option.some.injEq,Prod.mk.injEq] at he; obtain ⟨rfl,rfl⟩:=he
          exact val rfl (zsx6 hh hu hs rx rlo rhi hb)
        | some m =>
          simp only [y00] at he
          obtain ⟨M,hM,he⟩:=he
          split at he<;>try (simp at he; done)
          rename_i hcond
          simp only [y07,Option.some.injEq,Prod.mk.injEq] at he; obtain ⟨rfl,rfl⟩:=he
          cases mx with
          | none=>simp [opdO] at hmx
          | some q =>
            simp [opdO] at hmx
            have rm:=hρ q m (by simp [Op.operands]) hmx
            exact val rfl (ze5w hh hu hs rx rlo rhi rm hcond.2.2 hb hM hcond.1 hcond.2.1)
      case ms id ver off s' n lim =>
        cases hb:zmxv ts n lo' hi' with
        | none =>
          rw [hb] at he
          simp only [y01,Prod.mk.injEq] at he
          obtain ⟨d0,hd0,rfl,rfl⟩:=he
          obtain ⟨hmx0,hgv⟩:=zi3a hh hu hs rx rlo rhi hd0
          have hm':=hmn (by simpa using hmx0)
          subst hm'
          exact val rfl hgv
        | some lh =>
        obtain ⟨l,h2⟩:=lh
        rw [hb] at he
        simp only at he
        split at he<;>try (simp at he; done)
        rename_i hss
        simp only [ne_eq,Decidable.not_not] at hss
        subst hss
        cases mx' with
        | none =>
          have hm':=hmn rfl
          subst hm'
          simp only [y00] at he
          obtain ⟨k,hk,he⟩:=he
          split at he<;>try (simp at he; done)
          rename_i hver
          simp only [y07,Option.some.injEq,Prod.mk.injEq] at he; obtain ⟨rfl,rfl⟩:=he
          exact val rfl (zfka hh hu hs rx rlo rhi hb hk hver)
        | some m =>
          simp only [y00] at he
          obtain ⟨M,hM,he⟩:=he
          split at he<;>try (simp at he; done)
          rename_i hcond
          simp only [y00] at he
          obtain ⟨k,hk,he⟩:=he
          split at he<;>try (simp at he; done)
          rename_i hver
          simp only [y07,Option.some.injEq,Prod.mk.injEq] at he; obtain ⟨rfl,rfl⟩:=he
          cases mx with
          | none=>simp [opdO] at hmx
          | some q =>
            simp [opdO] at hmx
            have rm:=hρ q m (by simp [Op.operands]) hmx
            exact val rfl (z0xt hh hu hs rx rlo rhi rm hcond.2.2 hb hM hcond.1 hcond.2.1 hk hver)
    · rename_i hu
      split at hc<;>try (simp at hc; done)
      rename_i hm
      have hm':=hmn (by simpa using hm)
      subst hm'
      simp at hc; subst hc
      simp only [evOp] at he
      generalize ev ts x'=dx at rx he
      cases dx<;>(try simp only at he)<;>try (simp at he; done)
      simp only [y00] at he
      obtain ⟨⟨l,h2⟩,hb,he⟩:=he
      simp only [y07,Option.some.injEq,Prod.mk.injEq] at he; obtain ⟨rfl,rfl⟩:=he
      exact val rfl (zgdx hh hu rx rlo rhi hb)
  case fieldAddr s x f =>
    simp only [y00] at hc
    obtain ⟨x',hx,hc⟩:=hc
    have rx:=hρ x x' (by simp [Op.operands]) hx
    split at hc<;>try (simp at hc; done)
    rename_i fs hu
    simp only [y00] at hc
    obtain ⟨fl,hf,n,hn,hc⟩:=hc
    split at hc<;>try (simp at hc; done)
    rename_i h0
    simp at hc; subst hc
    simp only [evOp] at he
    generalize ev ts x'=dx at rx he
    cases dx<;>(try simp only at he)<;>try (simp at he; done)
    case ref cs =>
      simp at he; obtain ⟨rfl,rfl⟩:=he
      exact val rfl (zfct hh hu hf hn h0 rx)
    case mp id ver off =>
      simp only [y00] at he
      obtain ⟨l,hl,he⟩:=he
      split at he<;>try (simp at he; done)
      rename_i hver
      simp at he; obtain ⟨rfl,rfl⟩:=he
      exact val rfl (zqhy hh hu hf hn h0 rx hl hver)
  case field t x f =>
    simp only [y00] at hc
    obtain ⟨x',hx,hc⟩:=hc
    have rx:=hρ x x' (by simp [Op.operands]) hx
    split at hc<;>try (simp at hc; done)
    rename_i fs hu
    simp only [y00,y01] at hc
    obtain ⟨fl,hf,n,hn,a,ha,rfl⟩:=hc
    simp only [evOp] at he
    split at he<;>try (simp at he; done)
    rename_i cs e
    rw [e] at rx
    split at he<;>try (simp at he; done)
    obtain ⟨d',hd,he⟩:=y01.1 he
    simp at he; obtain ⟨rfl,rfl⟩:=he
    exact val rfl (zifs hh hu hf hn ha rx hd)
  case indexAddr t x i =>
    simp only [y00] at hc
    obtain ⟨x',hx,i',hi,hc⟩:=hc
    have rx:=hρ x x' (by simp [Op.operands]) hx
    have ri:=hρ i i' (by simp [Op.operands]) hi
    split at hc<;>try (simp at hc; done)
    · rename_i n e hu
      obtain ⟨s,hs,rfl⟩:=y01.1 hc
      simp only [evOp,y00] at he
      obtain ⟨j,hj,he⟩:=he
      obtain ⟨k,ek,_⟩:=zfwb ri hj
      split at he<;>try (simp at he; done)
      rename_i hb
      generalize ev ts x'=dx at rx he
      cases dx<;>(try simp only at he)<;>try (simp at he; done)
      case ref cs =>
        simp only [y07,Option.some.injEq,Prod.mk.injEq] at he; obtain ⟨rfl,rfl⟩:=he
        exact val (s:=Instr.indexAt t (ρ x) (ρ i)) rfl (by rw [ek]; exact z2ev hh hu hs rx hb.1 hb.2)
      case mp id ver off =>
        simp only [y00] at he
        obtain ⟨l,hl,he⟩:=he
        split at he<;>try (simp at he; done)
        rename_i hver
        simp only [y07,Option.some.injEq,Prod.mk.injEq] at he; obtain ⟨rfl,rfl⟩:=he
        exact val (s:=Instr.indexAt t (ρ x) (ρ i)) rfl (by rw [ek]; exact zcst hh hu hs rx hl hver hb.1 hb.2)
    · rename_i e hu
      obtain ⟨s,hs,rfl⟩:=y01.1 hc
      simp only [evOp,y00] at he
      obtain ⟨j,hj,he⟩:=he
      obtain ⟨k,ek,_⟩:=zfwb ri hj
      generalize ev ts x'=dx at rx he
      cases dx<;>(try simp only at he)<;>try (simp at he; done)
      case sl full s' n cs =>
        split at he<;>try (simp at he; done)
        rename_i hb
        obtain ⟨rfl,b1,b2⟩:=hb
        simp only [y07,Option.some.injEq,Prod.mk.injEq] at he; obtain ⟨rfl,rfl⟩:=he
        exact val (s:=Instr.indexAt t (ρ x) (ρ i)) rfl (by rw [ek]; exact znjd hh hu hs rx b1 b2)
      case ms id ver off s' n lim =>
        split at he<;>try (simp at he; done)
        rename_i hb
        obtain ⟨rfl,b1,b2⟩:=hb
        simp only [y00] at he
        obtain ⟨l,hl,he⟩:=he
        split at he<;>try (simp at he; done)
        rename_i hver
        simp only [y07,Option.some.injEq,Prod.mk.injEq] at he; obtain ⟨rfl,rfl⟩:=he
        exact val (s:=Instr.indexAt t (ρ x) (ρ i)) rfl (by rw [ek]; exact zu1k hh hu hs rx hl hver b1 b2)
  case index t x i =>
    simp only [y00] at hc
    obtain ⟨x',hx,i',hi,hc⟩:=hc
    have rx:=hρ x x' (by simp [Op.operands]) hx
    have ri:=hρ i i' (by simp [Op.operands]) hi
    split at hc<;>try (simp at hc; done)
    · rename_i n e hu
      simp only [y00,y01] at hc
      obtain ⟨s,hs,a,ha,rfl⟩:=hc
      simp only [evOp,y00] at he
      obtain ⟨j,hj,he⟩:=he
      obtain ⟨k,ek,_⟩:=zfwb ri hj
      split at he<;>try (simp at he; done)
      rename_i cs ec
      rw [ec] at rx
      split at he<;>try (simp at he; done)
      rename_i hb
      obtain ⟨d',hd,he⟩:=y01.1 he
      simp at he; obtain ⟨rfl,rfl⟩:=he
      exact val (s:=Instr.index t (ρ x) (ρ i)) rfl (by rw [ek]; exact zh2i hh hu hs ha rx hb.1 hb.2.1 hd)
    · rename_i hu
      simp at hc; subst hc
      simp only [evOp,y00] at he
      obtain ⟨j,hj,he⟩:=he
      obtain ⟨k,ek,_⟩:=zfwb ri hj
      split at he<;>try (simp at he; done)
      rename_i l ec
      rw [ec] at rx
      split at he<;>try (simp at he; done)
      rename_i hb
      simp only [y01] at he
      obtain ⟨_,⟨b,hbb,rfl⟩,he⟩:=he
      simp at he; obtain ⟨rfl,rfl⟩:=he
      exact val (s:=Instr.index t (ρ x) (ρ i)) rfl (by rw [ek]; exact zqzs hh hu rx hb hbb)
  case extract x i =>
    obtain ⟨x',hx,rfl⟩:=y01.1 hc
    have rx:=hρ x x' (by simp [Op.operands]) hx
    simp only [evOp] at he
    split at he<;>try (simp at he; done)
    rename_i vs e
    rw [e] at rx
    obtain ⟨d',hd,he⟩:=y01.1 he
    simp at he; obtain ⟨rfl,rfl⟩:=he
    refine val (s:=Instr.extract (ρ x) i) rfl ?_
    generalize ρ x=v at rx
    cases rx with
    | tup cs _ hl hr =>
      obtain ⟨hlt,rfl⟩:=y02.1 hd
      exact zwll hh (v:=cs[i]'(by omega)) (by simp [Instr.extract,Array.getElem?_eq_getElem (show i<cs.size by omega)]) (hr i (by omega) hlt)
end
end Go.Am
