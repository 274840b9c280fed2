/-
  The abstract machine, part 2: operations and code on data; how a function's code is compiled to them.
-/
import Derived.Test.YtjhakjeioppijaaDoorAmA
set_option linter.unusedSimpArgs false
set_option linter.unusedVariables false
namespace Go.Am
open Go.RowKit

inductive Opd where
  | t (i : Nat)
  | k (d : DV)
  deriving Inhabited

inductive AOp where
  | mov (x : Opd)
  | pick (c a b : Opd)
  | bin (op : BinOp) (x y : Opd)
  | eqa (neg : Bool) (ks : List (Nat × Nat)) (x y : Opd)
  | eqb (neg : Bool) (x y : Opd)
  | eqn (kd : Nat) (neg : Bool) (x y : Opd)
  | un (op : UnOp) (x : Opd)
  | conv (k : IntKind) (x : Opd)
  | strid (x : Opd)
  | csb (x : Opd)
  | cbs (x : Opd)
  | load (n : Nat) (agg : Bool) (x : Opd)
  | store (n : Nat) (x v : Opd)
  | idxS (s : Nat) (x i : Opd)
  | idxA (len s : Nat) (x i : Opd)
  | fld (off : Nat) (x : Opd)
  | getf (off n : Nat) (agg : Bool) (x : Opd)
  | idxV (len n : Nat) (agg : Bool) (x i : Opd)
  | idxStr (x i : Opd)
  | slcS (s : Nat) (x : Opd) (lo hi mx : Option Opd)
  | slcA (len s : Nat) (x : Opd) (lo hi : Option Opd)
  | slcStr (x : Opd) (lo hi : Option Opd)
  | alloc (zs : List DV)
  | box (x : Opd)
  | build (zs : List DV) (parts : List (Nat × Nat × Opd))
  | bsl (s len : Nat) (zs : List DV) (parts : List (Nat × Nat × Opd))
  | mks (s bytes : Nat) (zs : List DV) (len cap : Opd)
  | len (x : Opd)
  | lenStr (x : Opd)
  | app (s bytes : Nat) (x y : Opd)
  | cpy (s : Nat) (x y : Opd)
  | clr (s : Nat) (zs : List DV) (x : Opd)
  | apart (x y : Opd)
  | mkf (f : Fn) (first captured : List Opd)
  | nilc (x : Opd)
  | ext (x : Opd) (i : Nat)
  | call (f : Opd) (args : List Opd)
  | callN (f : Opd) (args : List Opd)
  | mm (mx : Bool) (xs : List Opd)
  deriving Inhabited

structure AOper where
  g : Option (Nat × Bool)
  d : Option Nat
  op : AOp
  deriving Inhabited

inductive ACode where
  | skip
  | region (draw : Bool) (ops : List AOper)
  | seq (a b : ACode)
  | cond (c : Opd) (x y : ACode)
  | block (id : Nat) (c : ACode)
  | loop (c : ACode)
  | exit (id : Nat)
  | ret
  | rangeF (f : Opd) (p d : Nat) (c : ACode)
  deriving Inhabited

structure St where
  t : List DV
  h : List AObj
  deriving Inhabited

def ev (t : List DV) : Opd → DV
  | .t i => t.getD i .junk
  | .k d => d

def objAt (h : List AObj) (id : Nat) : Option (List DV) :=
  match h[id]? with
  | some (.cells l) => some l
  | _ => none

/-- the cells that are seen from an address on -/
def vis (h : List AObj) : DV → Option (List DV)
  | .ref cs => some cs
  | .mp id ver off => (objAt h id).bind fun l => if l.length = ver then some (l.drop off) else none
  | _ => none

/-- a slice's length and cells -/
def visS (h : List AObj) : DV → Option (Nat × List DV)
  | .nils => some (0, [])
  | .sl _ _ n cs => some (n, cs)
  | .ms id ver off s n _ => (objAt h id).bind fun l => if l.length = ver then some (n, (l.drop off).take (n * s)) else none
  | _ => none

def one (n : Nat) (agg : Bool) (cs : List DV) : Option DV :=
  if agg then (if n ≤ cs.length then some (.agg (cs.take n)) else none)
  else match cs with
    | [] => none
    | c :: _ => if n = 1 then some c else none

def intOp (op : BinOp) (k : IntKind) (x y : Int) : Option DV :=
  match op with
  | .add => some (.int k (k.wrap (x + y)))
  | .sub => some (.int k (k.wrap (x - y)))
  | .mul => some (.int k (k.wrap (x * y)))
  | .quo => if y = 0 then none else some (.int k (k.wrap (x.tdiv y)))
  | .rem => if y = 0 then none else some (.int k (x.tmod y))
  | .and | .or | .xor | .andNot => some (.int k (bits op k x y))
  | .eql => some (.bool (x == y))
  | .neq => some (.bool (x != y))
  | .lss => some (.bool (decide (x < y)))
  | .leq => some (.bool (decide (x ≤ y)))
  | .gtr => some (.bool (decide (x > y)))
  | .geq => some (.bool (decide (x ≥ y)))
  | _ => none

def shiftOp (op : BinOp) (k : IntKind) (x y : Int) : Option DV :=
  if y < 0 then none else
  match op with
  | .shl => some (.int k (k.wrap (x * 2 ^ min y.toNat k.bits)))
  | .shr => some (.int k (x.fdiv (2 ^ min y.toNat k.bits)))
  | _ => none

def strOp (op : BinOp) (x y : List UInt8) : Option DV :=
  match op with
  | .add => if x.length + y.length ≤ 4611686018427387904 then some (.str (x ++ y)) else none
  | .eql => some (.bool (x == y))
  | .neq => some (.bool (!(x == y)))
  | .lss => some (.bool (Op.bytesLess x y))
  | .leq => some (.bool (Op.bytesLess x y || x == y))
  | .gtr => some (.bool (!(Op.bytesLess x y || x == y)))
  | .geq => some (.bool (!(Op.bytesLess x y)))
  | _ => none

def binOpD (op : BinOp) : DV → DV → Option DV
  | .int k a, .int k' b =>
    match op with
    | .shl => shiftOp .shl k a b
    | .shr => shiftOp .shr k a b
    | _ => if k = k' then intOp op k a b else none
  | .str a, .str b => strOp op a b
  | _, _ => none

/-- two cells of a kind: 0: a number, 1: a string, 2: a bool -/
def cellEq : Nat → DV → DV → Option Bool
  | 0, .int k a, .int k' b => if k = k' then some (a == b) else none
  | 1, .str a, .str b => some (a == b)
  | 2, .bool a, .bool b => some (a == b)
  | _, _, _ => none

/-- plain cells, one by one -/
def cellsEq : List Nat → List DV → List DV → Option Bool
  | [], [], [] => some true
  | k :: ks, x :: xs, y :: ys => (cellEq k x y).bind fun b => (cellsEq ks xs ys).map fun c => b && c
  | _, _, _ => none

/-- kinds, written short: how many of which -/
def kindsOf (l : List (Nat × Nat)) : List Nat := l.flatMap fun p => List.replicate p.1 p.2

/-- for a comparison with nil: the kind of the type, and whether it is nil -/
def nilKind (h : List AObj) : DV → Option (Nat × Bool)
  | .nils => some (0, true)
  | .sl .. => some (0, false)
  | .ms id ver _ _ _ _ => (objAt h id).bind fun l => if l.length = ver then some (0, false) else none
  | .nilp => some (1, true)
  | .ref _ => some (1, false)
  | .mp id ver _ => (objAt h id).bind fun l => if l.length = ver then some (1, false) else none
  | .nilm => some (2, true)
  | .nilf => some (3, true)
  | .fn .. => some (3, false)
  | .nili => some (4, true)
  | .iface .. => some (4, false)
  | _ => none

def splice (l : List DV) (off : Nat) (cs : List DV) : List DV := l.take off ++ cs ++ l.drop (off + cs.length)

def fillD (cells : List DV) : List (Nat × Nat × DV) → Option (List DV)
  | [] => some cells
  | (off, n, v) :: r => if v.cells.length = n ∧ off + n ≤ cells.length then fillD (splice cells off v.cells) r else none

/-- may lie in one cell -/
def DV.one : DV → Bool
  | .agg _ | .tup _ | .junk => false
  | _ => true
def DV.known : DV → Bool
  | .junk => false
  | _ => true

def DV.isStr : DV → Bool
  | .str _ => true
  | _ => false

def evI (t : List DV) (x : Opd) : Option Int := match ev t x with | .int _ n => some n | _ => none

/-- bounds of a slice expression: within the length -/
def bounds (t : List DV) (n : Nat) (lo hi : Option Opd) : Option (Nat × Nat) :=
  let h := match hi with | none => some (n : Int) | some x => evI t x
  let l := match lo with | none => some 0 | some x => evI t x
  h.bind fun h => l.bind fun l => if 0 ≤ l ∧ l ≤ h ∧ h ≤ n then some (l.toNat, h.toNat) else none

def reps (n : Nat) (zs : List DV) : List DV := (List.replicate n zs).flatten

abbrev big : Nat := 4294967296

def u8s (l : List UInt8) : List DV := l.map fun b => .int .u8 b.toNat

/-- strings and slices as append's second argument -/
def visY (h : List AObj) : DV → Option (Nat × List DV)
  | .str s => some (s.length, u8s s)
  | d => visS h d

def bytesOf : List DV → Option (List UInt8)
  | [] => some []
  | .int .u8 n :: r => (bytesOf r).map fun l => UInt8.ofNat n.toNat :: l
  | _ => none

def evApp (h : List AObj) (s bytes : Nat) (x y : DV) : Option (DV × List AObj) :=
  (visY h y).bind fun (m, cs) =>
  if m * s ≠ cs.length ∨ bytes > 16384 ∨ s = 0 then none else
  match x with
  | .nils => if m = 0 then some (x, h) else if m ≤ big then some (.ms h.length cs.length 0 s m cs.length, h ++ [.cells cs]) else none
  | .sl full s' n ds => if m = 0 then some (x, h) else if full = true ∧ s' = s ∧ n + m ≤ big then
      some (.ms h.length (ds ++ cs).length 0 s (n + m) (ds ++ cs).length, h ++ [.cells (ds ++ cs)]) else none
  | .ms id ver off s' n lim => (objAt h id).bind fun l =>
      if l.length = ver ∧ s' = s ∧ cs.all DV.one = true then
        (if m = 0 then some (x, h)
         else if off + (n + m) * s ≤ lim ∧ lim ≤ ver then some (.ms id ver off s (n + m) lim, h.set id (.cells (splice l (off + n * s) cs)))
         else if off = 0 ∧ n * s = ver ∧ n + m ≤ big then some (.ms id (l ++ cs).length 0 s (n + m) (l ++ cs).length, h.set id (.cells (l ++ cs)))
         else none)
      else none
  | _ => none

def mapAll {α β : Type} (f : α → Option β) : List α → Option (List β)
  | [] => some []
  | a :: r => (f a).bind fun b => (mapAll f r).map fun l => b :: l

/-- the object that a datum names -/
def objId : DV → Option Nat
  | .mp id _ _ => some id
  | .ms id _ _ _ _ _ => some id
  | _ => none
/-- what is read lies in no object that is touched -/
def apartD (a b : DV) : Bool :=
  match b with
  | .junk => false
  | b => match objId a, objId b with
    | some i, some j => i != j
    | _, _ => true
/-- all operations but calls -/
def evOp (op : AOp) (t : List DV) (h : List AObj) : Option (DV × List AObj) :=
  let v (d : Option DV) : Option (DV × List AObj) := d.map fun d => (d, h)
  match op with
  | .mov x => v (some (ev t x))
  | .pick c a b => match ev t c with
    | .bool true => v (some (ev t a))
    | .bool false => v (some (ev t b))
    | _ => none
  | .bin op x y => v (binOpD op (ev t x) (ev t y))
  | .eqa neg ks x y => match ev t x, ev t y with
    | .agg xs, .agg ys => v ((cellsEq (kindsOf ks) xs ys).map fun b => .bool (if neg then !b else b))
    | _, _ => none
  | .eqb neg x y => match ev t x, ev t y with
    | .bool a, .bool b => v (some (.bool (if neg then !(a == b) else (a == b))))
    | _, _ => none
  | .eqn kd neg x y => match nilKind h (ev t x), nilKind h (ev t y) with
    | some (k, a), some (k', b) => if k = kd ∧ k' = kd ∧ (a || b) = true then v (some (.bool (if neg then !(a && b) else (a && b)))) else none
    | _, _ => none
  | .un op x => match op, ev t x with
    | .not, .bool b => v (some (.bool (!b)))
    | .neg, .int k n => v (some (.int k (k.wrap (0 - n))))
    | .xor, .int k n => v (some (.int k (bits .xor k (if k.signed then -1 else k.max) n)))
    | _, _ => none
  | .conv k x => match ev t x with
    | .int _ n => v (some (.int k (k.wrap n)))
    | _ => none
  | .strid x => match ev t x with
    | .str s => v (some (.str s))
    | _ => none
  | .csb x => match ev t x with
    | .str s => some (.sl false 1 s.length (u8s s), h)
    | _ => none
  | .cbs x => (visS h (ev t x)).bind fun (n, cs) => if n = cs.length then v ((bytesOf cs).map .str) else none
  | .load n agg x => (vis h (ev t x)).bind fun cs => v (one n agg cs)
  | .store n x y => match ev t x with
    | .mp id ver off => (objAt h id).bind fun l =>
      if l.length = ver ∧ (ev t y).cells.length = n ∧ off + n ≤ ver ∧ (ev t y).cells.all DV.one = true then some (.junk, h.set id (.cells (splice l off (ev t y).cells))) else none
    | _ => none
  | .idxS s x i => (evI t i).bind fun i => match ev t x with
    | .sl _ s' n cs => if s' = s ∧ 0 ≤ i ∧ i < n then v (some (.ref ((cs.drop (i.toNat * s)).take s))) else none
    | .ms id ver off s' n _ => if s' = s ∧ 0 ≤ i ∧ i < n then (objAt h id).bind fun l => if l.length = ver then v (some (.mp id ver (off + i.toNat * s))) else none else none
    | _ => none
  | .idxA len s x i => (evI t i).bind fun i => if 0 ≤ i ∧ i < len then (match ev t x with
    | .ref cs => v (some (.ref ((cs.drop (i.toNat * s)).take s)))
    | .mp id ver off => (objAt h id).bind fun l => if l.length = ver then v (some (.mp id ver (off + i.toNat * s))) else none
    | _ => none) else none
  | .fld off x => match ev t x with
    | .ref cs => v (some (.ref (cs.drop off)))
    | .mp id ver o => (objAt h id).bind fun l => if l.length = ver then v (some (.mp id ver (o + off))) else none
    | _ => none
  | .getf off n agg x => match ev t x with
    | .agg cs => if off + n ≤ cs.length then v (one n agg (cs.drop off)) else none
    | _ => none
  | .idxV len n agg x i => (evI t i).bind fun i => match ev t x with
    | .agg cs => if 0 ≤ i ∧ i < len ∧ i.toNat * n + n ≤ cs.length then v (one n agg (cs.drop (i.toNat * n))) else none
    | _ => none
  | .idxStr x i => (evI t i).bind fun i => match ev t x with
    | .str s => if 0 ≤ i then v ((s[i.toNat]?).map fun b => .int .u8 b.toNat) else none
    | _ => none
  | .slcS s x lo hi mx => match ev t x with
    | .nils => (bounds t 0 lo hi).bind fun _ => match mx with
      | none => v (some .nils)
      | some m => (evI t m).bind fun m => if m = 0 ∧ hi.isSome then v (some .nils) else none
    | .sl full s' n cs => (bounds t n lo hi).bind fun (l, h') => if s' ≠ s then none else match mx with
      | none => v (some (.sl (full && h' == n) s (h' - l) ((cs.drop (l * s)).take ((h' - l) * s))))
      | some m => (evI t m).bind fun m => if h' ≤ m ∧ m ≤ n ∧ hi.isSome then v (some (.sl (decide (m = h')) s (h' - l) ((cs.drop (l * s)).take ((h' - l) * s)))) else none
    | .ms id ver off s' n lim => (bounds t n lo hi).bind fun (l, h') => if s' ≠ s then none else match mx with
      | none => (objAt h id).bind fun k => if k.length = ver then v (some (.ms id ver (off + l * s) s (h' - l) lim)) else none
      | some m => (evI t m).bind fun m => if h' ≤ m ∧ m ≤ n ∧ hi.isSome then (objAt h id).bind fun k => if k.length = ver then v (some .junk) else none else none
    | _ => none
  | .slcA len s x lo hi => (bounds t len lo hi).bind fun (l, h') => match ev t x with
    | .ref cs => if len * s ≤ cs.length then v (some (.sl (h' == len) s (h' - l) ((cs.drop (l * s)).take ((h' - l) * s)))) else none
    | .mp id ver off => (objAt h id).bind fun k => if k.length = ver ∧ off + len * s ≤ ver then v (some (.ms id ver (off + l * s) s (h' - l) (off + len * s))) else none
    | _ => none
  | .slcStr x lo hi => match ev t x with
    | .str s => (bounds t s.length lo hi).bind fun (l, h') => v (some (.str ((s.drop l).take (h' - l))))
    | _ => none
  | .alloc zs => some (.mp h.length zs.length 0, h ++ [.cells zs])
  | .box x => if (ev t x).known then some (.mp h.length (ev t x).cells.length 0, h ++ [.cells (ev t x).cells]) else none
  | .build zs parts => if parts.all (fun p => (ev t p.2.2).known) then v ((fillD zs (parts.map fun p => (p.1, p.2.1, ev t p.2.2))).map .agg) else none
  | .bsl s len zs parts => if parts.all (fun p => (ev t p.2.2).known) then v ((fillD (reps len zs) (parts.map fun p => (p.1, p.2.1, ev t p.2.2))).map fun cs => .sl true s len cs) else none
  | .mks s bytes zs ln cp => (evI t ln).bind fun l => (evI t cp).bind fun c => if 0 ≤ l ∧ l ≤ c ∧ c ≤ big ∧ bytes ≤ 16384 then
      some (.ms h.length (l.toNat * s) 0 s l.toNat (l.toNat * s), h ++ [.cells (reps l.toNat zs)]) else none
  | .lenStr x => match ev t x with
    | .str s => v (some (.int .i64 s.length))
    | _ => none
  | .len x => match ev t x with
    | .nils => v (some (.int .i64 0))
    | .sl _ _ n _ => v (some (.int .i64 n))
    | .ms id ver _ _ n _ => (objAt h id).bind fun l => if l.length = ver then v (some (.int .i64 n)) else none
    | _ => none
  | .app s bytes x y => evApp h s bytes (ev t x) (ev t y)
  | .cpy s x y => (visY h (ev t y)).bind fun (m, cs) => match ev t x with
    | .ms id ver off s' n _ => (objAt h id).bind fun l => if l.length = ver ∧ s' = s ∧ (cs.take (min m n * s)).all DV.one = true ∧ min m n * s ≤ cs.length ∧ off + n * s ≤ ver ∧ ((ev t y).isStr = true → s = 1) then
        some (.int .i64 (min m n : Nat), h.set id (.cells (splice l off (cs.take (min m n * s))))) else none
    | .nils => if (ev t y).isStr = true → s = 1 then v (some (.int .i64 0)) else none
    | _ => none
  | .apart x y => if apartD (ev t x) (ev t y) = true then some (.junk, h) else none
  | .clr s zs x => match ev t x with
    | .ms id ver off s' n _ => (objAt h id).bind fun l => if l.length = ver ∧ s' = s ∧ zs.length = s ∧ 0 < s ∧ zs.all DV.one = true ∧ off + n * s ≤ ver then some (.tup [], h.set id (.cells (splice l off (reps n zs)))) else none
    | _ => none
  | .mkf f first captured => v (some (.fn f (first.map (ev t)) (captured.map (ev t))))
  | .nilc x => match ev t x with
    | .mp id ver o => (objAt h id).bind fun l => if l.length = ver then v (some (.mp id ver o)) else none
    | .ref cs => v (some (.ref cs))
    | .fn (.func f) a b => v (some (.fn (.func f) a b))
    | _ => none
  | .ext x i => match ev t x with
    | .tup vs => v (vs[i]?)
    | _ => none
  | .call _ _ => none
  | .callN _ _ => none
  | .mm mx xs => (mapAll (fun x => match ev t x with | .int .i64 n => some n | _ => none) xs).bind fun l => match l with
    | [] => none
    | a :: r => v (some (.int .i64 (r.foldl (fun x y => if mx then max x y else min x y) a)))
end Go.Am
