/-
  The abstract machine, part 3: compiling a function's code to operations on data.
-/
import Derived.Test.YtjhakjeioppijaaDoorAmB
set_option linter.unusedSimpArgs false
set_option linter.unusedVariables false
namespace Go.Am
open Go.RowKit

def szT (P : Program) (t : TypeId) : Option Nat := (P.info? t).map (·.size)
def bytesT (P : Program) (t : TypeId) : Option Nat := (P.info? t).map (·.bytes)
def isAggD : TypeDesc → Bool
  | .struct _ | .array _ _ => true
  | _ => false
def aggT (P : Program) (t : TypeId) : Option Bool := (P.underlying t).map isAggD

def constDV1 : Value → Option DV
  | .int k n => some (.int k n)
  | .bool b => some (.bool b)
  | .string s => some (.str s.data.toList)
  | .pointer none => some .nilp
  | .map none => some .nilm
  | .nilFunc => some .nilf
  | .nilIface => some .nili
  | .slice none 0 0 => some .nils
  | _ => none
def constDV : Value → Option DV
  | .agg cs => (mapAll constDV1 cs.toList).map .agg
  | v => constDV1 v
def opd : Operand → Option Opd
  | .tmp t => some (.t t)
  | .const v => (constDV v).map .k
  | .func f => some (.k (.fn (.func f) [] []))
  | .global _ => none
def opds (l : Array Operand) : Option (List Opd) := mapAll opd l.toList
def opdO : Option Operand → Option (Option Opd)
  | none => some none
  | some x => (opd x).map some

/-- the cells of a type's zero value -/
def zerosT (P : Program) (t : TypeId) : Option (List DV) :=
  ((P.info? t).bind (·.zero)).bind fun v => mapAll constDV1 v.cells.toList

def kindsF (P : Program) (g : TypeId → Option (List Nat)) : List Field → Nat → Option (List Nat)
  | [], _ => some []
  | f :: r, off => if f.name = "_" ∨ f.offset ≠ off then none else
    (g f.type).bind fun k => if szT P f.type = some k.length ∧ 0 < k.length then (kindsF P g r (off + k.length)).map fun l => k ++ l else none

/-- the kinds of a type's cells, where its values are equal just where the cells are: no interface, pointer, blank field -/
def kinds (P : Program) : Nat → TypeId → Option (List Nat)
  | 0, _ => none
  | d + 1, t =>
    match P.underlying t with
    | some (.int _) => some [0]
    | some .string => some [1]
    | some .bool => some [2]
    | some (.array n e) => (kinds P d e).bind fun k => if szT P e = some k.length ∧ 0 < k.length then some (List.replicate n k).flatten else none
    | some (.struct fs) => if P.stoodInHeld t then none else kindsF P (kinds P d) fs.toList 0
    | _ => none

def rle : List Nat → List (Nat × Nat)
  | [] => []
  | k :: r => match rle r with
    | (n, k') :: q => if k = k' then (n + 1, k) :: q else (1, k) :: (n, k') :: q
    | [] => [(1, k)]

/-- how '==' goes at a type: 0: numbers and strings; 1: bools; 2: plain structs and arrays; from 3 on: against nil: slices, pointers, maps, functions, interfaces -/
def eqKind (P : Program) (t : TypeId) : Option Nat :=
  match P.underlying t with
  | some (.int _) | some .string => some 0
  | some .bool => some 1
  | some (.array _ _) | some (.struct _) => some 2
  | some (.slice _) => some 3
  | some (.pointer _) => some 4
  | some (.map _ _) => some 5
  | some (.func _ _ _) => some 6
  | some (.interface _) => some 7
  | _ => none

def isNilConst : Operand → Bool
  | .const .nilIface => true
  | _ => false

def isSrcT (P : Program) (u : TypeId) : Bool :=
  match P.underlying u with
  | some (.slice _) | some .string => true
  | _ => false

def compCall (P : Program) (c : Call) : Option AOp :=
  match c.callee with
  | .value f => (opd f).bind fun f => (opds c.args).map fun a => .call f a
  | .builtin .len => match c.args.toList, c.argTypes.toList with
    | [x], [t] => match P.underlying t with
      | some .string => (opd x).map .lenStr
      | some (.slice _) => (opd x).map .len
      | some (.array n _) => some (.mov (.k (.int .i64 n)))
      | _ => none
    | _, _ => none
  | .builtin .append => match c.args.toList, c.argTypes.toList with
    | [x, y], [t, u] => match P.underlying t with
      | some (.slice e) =>
        if isSrcT P u then
          (szT P e).bind fun s => (bytesT P e).bind fun b => (opd x).bind fun x => (opd y).bind fun y => (zerosT P e).bind fun z => if z.length = s then some (.app s b x y) else none
        else none
      | _ => none
    | _, _ => none
  | .builtin .copy => match c.args.toList, c.argTypes.toList with
    | [x, y], [t, _] => match P.underlying t with
      | some (.slice e) => (szT P e).bind fun s => (opd x).bind fun x => (opd y).map fun y => .cpy s x y
      | _ => none
    | _, _ => none
  | .builtin .clear => match c.args.toList, c.argTypes.toList with
    | [x], [t] => match P.underlying t with
      | some (.slice e) => (szT P e).bind fun s => (zerosT P e).bind fun z => (opd x).map fun x => .clr s z x
      | _ => none
    | _, _ => none
  | .builtin .max => (opds c.args).map fun l => .mm true l
  | .builtin .min => (opds c.args).map fun l => .mm false l
  | _ => none

def compOp (P : Program) (o : Oper) : Option AOp :=
  match o.op with
  | .move x | .assign x => (opd x).map .mov
  | .pick c a b => (opd c).bind fun c => (opd a).bind fun a => (opd b).map fun b => .pick c a b
  | .alloc e => (zerosT P e).map .alloc
  | .box _ x => (opd x).map .box
  | .build t parts => (zerosT P t).bind fun zs => match P.underlying t with
    | some (.struct fs) => (fs.toList.mapM fun f => (P.info? f.type).map fun i => (f.offset, i.size)).bind fun pl =>
      (mapAll (fun p : Nat × Operand => (opd p.2).bind fun x => (pl[p.1]?).map fun q => (q.1, q.2, x)) parts.toList).map fun ps => .build zs ps
    | some (.array _ e) => (szT P e).bind fun s => (mapAll (fun p : Nat × Operand => (opd p.2).map fun x => (p.1 * s, s, x)) parts.toList).map fun ps => .build zs ps
    | _ => none
  | .buildSlice t len parts => match P.underlying t with
    | some (.slice e) => (szT P e).bind fun s => (zerosT P e).bind fun zs => (mapAll (fun p : Nat × Operand => (opd p.2).map fun x => (p.1 * s, s, x)) parts.toList).bind fun ps =>
        if len * s ≤ 16777216 ∧ zs.length = s ∧ 0 < s then some (.bsl s len zs ps) else none
    | _ => none
  | .load t x => (szT P t).bind fun n => (aggT P t).bind fun a => (opd x).map fun x => .load n a x
  | .store t x v => (szT P t).bind fun n => (opd x).bind fun x => (opd v).map fun v => .store n x v
  | .nilCheck x => (opd x).map .nilc
  | .binOp op t x y _ =>
    (opd x).bind fun x' => (opd y).bind fun y' =>
    if op = .eql ∨ op = .neq then
      match eqKind P t with
      | some 0 => some (.bin op x' y')
      | some 1 => some (.eqb (decide (op = .neq)) x' y')
      | some 2 => (kinds P 20 t).bind fun ks => if kindsOf (rle ks) = ks ∧ P.eqGuardType P.depth t = false then some (.eqa (decide (op = .neq)) (rle ks) x' y') else none
      | some 7 => if isNilConst x || isNilConst y then some (.eqn 4 (decide (op = .neq)) x' y') else none
      | some k => if 3 ≤ k then some (.eqn (k - 3) (decide (op = .neq)) x' y') else none
      | _ => none
    else some (.bin op x' y')
  | .unOp op _ x => (opd x).map fun x => .un op x
  | .convert src dst x => (opd x).bind fun x => match P.underlying src, P.underlying dst with
    | some (.int _), some (.int k) => some (.conv k x)
    | some .string, some .string => some (.strid x)
    | some .string, some (.slice e) => match P.underlying e with
      | some (.int .u8) => some (.csb x)
      | _ => none
    | some (.slice e), some .string => match P.underlying e with
      | some (.int .u8) => if szT P e = some 1 then some (.cbs x) else none
      | _ => none
    | _, _ => none
  | .makeFunc f first captured => (opds first).bind fun a => (opds captured).map fun b => .mkf f a b
  | .makeSlice t l c => match P.underlying t with
    | some (.slice e) => (szT P e).bind fun s => (bytesT P e).bind fun b => (zerosT P e).bind fun z => (opd l).bind fun l => (opd c).bind fun c => if z.length = s ∧ 0 < s then some (.mks s b z l c) else none
    | _ => none
  | .slice t x lo hi mx => (opd x).bind fun x => (opdO lo).bind fun lo => (opdO hi).bind fun hi => (opdO mx).bind fun mx => match P.underlying t with
    | some (.array n e) => (szT P e).bind fun s => if mx.isNone then some (.slcA n s x lo hi) else none
    | some (.slice e) => (szT P e).map fun s => .slcS s x lo hi mx
    | some .string => if mx.isNone then some (.slcStr x lo hi) else none
    | _ => none
  | .fieldAddr s x f => (opd x).bind fun x => match P.underlying s with
    | some (.struct fs) => (fs[f]?).bind fun f => (szT P f.type).bind fun n => if n = 0 then none else some (.fld f.offset x)
    | _ => none
  | .field t x f => (opd x).bind fun x => match P.underlying t with
    | some (.struct fs) => (fs[f]?).bind fun f => (szT P f.type).bind fun n => (aggT P f.type).map fun a => .getf f.offset n a x
    | _ => none
  | .indexAddr t x i => (opd x).bind fun x => (opd i).bind fun i => match P.underlying t with
    | some (.array n e) => (szT P e).map fun s => .idxA n s x i
    | some (.slice e) => (szT P e).map fun s => .idxS s x i
    | _ => none
  | .index t x i => (opd x).bind fun x => (opd i).bind fun i => match P.underlying t with
    | some (.array n e) => (szT P e).bind fun s => (aggT P e).map fun a => .idxV n s a x i
    | some .string => some (.idxStr x i)
    | _ => none
  | .extract x i => (opd x).map fun x => .ext x i
  | .call c => compCall P c
  | _ => none

def AOp.isCall : AOp → Bool
  | .call .. | .callN .. => true
  | _ => false

/-- a call through a value: its target and arguments -/
def callOf (o : Oper) : Option (Operand × Array Operand) :=
  match o.op with
  | .call ⟨.value f, args, _⟩ => some (f, args)
  | _ => none

def compG (ops : Array Oper) (o : Oper) : Option (Option (Nat × Bool)) :=
  match o.guard with
  | none => some none
  | some (j, b) => ((ops[j]?).bind (·.dst)).map fun t => some (t, b)

/-- an operation that the machine does not take: it has no result, so nothing is claimed of what runs into it -/
def badOp : AOp := .ext (.k .junk) 0
def orBad : Option AOp → AOp
  | some op => if op.isCall then badOp else op
  | none => badOp
def compOper (P : Program) (ops : Array Oper) (o : Oper) : Option AOper :=
  (compG ops o).map fun g =>
  match callOf o with
  | some (f, args) => match opd f, opds args with
    | some f, some a => { g, d := o.dst, op := .call f a }
    | _, _ => { g, d := o.dst, op := badOp }
  | none => { g, d := o.dst, op := orBad (compOp P o) }

theorem callOf_some {o : Oper} {f : Operand} {args : Array Operand} (h : callOf o = some (f, args)) : ∃ c, o.op = .call c ∧ c.callee = .value f ∧ c.args = args := by
  unfold callOf at h
  split at h
  · rename_i f' a' t' e
    simp at h
    obtain ⟨rfl, rfl⟩ := h
    exact ⟨_, e, rfl, rfl⟩
  · simp at h

theorem compOper_inv {P : Program} {ops : Array Oper} {o : Oper} {ao : AOper} (h : compOper P ops o = some ao) : compG ops o = some ao.g ∧ ao.d = o.dst ∧
    ((∃ c f0 f as, o.op = .call c ∧ c.callee = .value f0 ∧ opd f0 = some f ∧ opds c.args = some as ∧ ao.op = .call f as) ∨ (compOp P o = some ao.op ∧ ao.op.isCall = false) ∨ ao.op = badOp) := by
  unfold compOper at h
  obtain ⟨g, hg, h⟩ := Option.map_eq_some_iff.1 h
  split at h
  · rename_i f args hc
    obtain ⟨c, c1, c2, c3⟩ := callOf_some hc
    split at h
    · rename_i f' a hf ha
      subst h
      exact ⟨hg, rfl, .inl ⟨c, f, f', a, c1, c2, hf, by rw [c3]; exact ha, rfl⟩⟩
    · subst h; exact ⟨hg, rfl, .inr (.inr rfl)⟩
  · subst h
    refine ⟨hg, rfl, .inr ?_⟩
    unfold orBad
    split
    · rename_i op hop
      split
      · exact .inr rfl
      · rename_i hn; exact .inl ⟨hop, by simpa using hn⟩
    · exact .inr rfl

/-- in a region that draws its order: what is ordered before what; which operations touch memory -/
def effOf : AOp → Nat
  | .store .. | .alloc .. | .box .. | .mks .. | .app .. | .cpy .. | .clr .. | .callN .. => 2
  | .eqn .. | .load .. | .idxS .. | .idxA .. | .fld .. | .slcS .. | .slcA .. | .cbs .. | .len .. | .nilc .. | .call .. => 1
  | _ => 0

/-- the operations that come before each one, as bits -/
def ancs (ops : List Oper) : List Nat :=
  ops.foldl (fun acc o => acc ++ [o.after.toList.foldl (fun m e => if Region.binds .any e then (m ||| acc.getD e.on 0) ||| (1 <<< e.on) else m) 0]) []
def isAnc (as : List Nat) (j k : Nat) : Bool := (as.getD j 0).testBit k

def Opd.tmps : Opd → List Nat
  | .t i => [i]
  | .k _ => []
def tmpsO : Option Opd → List Nat
  | some x => x.tmps
  | none => []
/-- the temporaries that an operation reads -/
def AOp.reads : AOp → List Nat
  | .mov x => x.tmps
  | .pick c a b => c.tmps ++ a.tmps ++ b.tmps
  | .bin _ x y => x.tmps ++ y.tmps
  | .eqa _ _ x y => x.tmps ++ y.tmps
  | .eqb _ x y => x.tmps ++ y.tmps
  | .eqn _ _ x y => x.tmps ++ y.tmps
  | .un _ x => x.tmps
  | .conv _ x => x.tmps
  | .strid x => x.tmps
  | .csb x => x.tmps
  | .cbs x => x.tmps
  | .load _ _ x => x.tmps
  | .store _ x v => x.tmps ++ v.tmps
  | .idxS _ x i => x.tmps ++ i.tmps
  | .idxA _ _ x i => x.tmps ++ i.tmps
  | .fld _ x => x.tmps
  | .getf _ _ _ x => x.tmps
  | .idxV _ _ _ x i => x.tmps ++ i.tmps
  | .idxStr x i => x.tmps ++ i.tmps
  | .slcS _ x lo hi mx => x.tmps ++ tmpsO lo ++ tmpsO hi ++ tmpsO mx
  | .slcA _ _ x lo hi => x.tmps ++ tmpsO lo ++ tmpsO hi
  | .slcStr x lo hi => x.tmps ++ tmpsO lo ++ tmpsO hi
  | .alloc _ => []
  | .box x => x.tmps
  | .build _ ps => ps.flatMap fun p => p.2.2.tmps
  | .bsl _ _ _ ps => ps.flatMap fun p => p.2.2.tmps
  | .mks _ _ _ l c => l.tmps ++ c.tmps
  | .len x => x.tmps
  | .lenStr x => x.tmps
  | .app _ _ x y => x.tmps ++ y.tmps
  | .cpy _ x y => x.tmps ++ y.tmps
  | .clr _ _ x => x.tmps
  | .apart x y => x.tmps ++ y.tmps
  | .mkf _ a b => a.flatMap Opd.tmps ++ b.flatMap Opd.tmps
  | .nilc x => x.tmps
  | .ext x _ => x.tmps
  | .call f as => f.tmps ++ as.flatMap Opd.tmps
  | .callN f as => f.tmps ++ as.flatMap Opd.tmps
  | .mm _ xs => xs.flatMap Opd.tmps
def AOper.looks (o : AOper) : List Nat := o.op.reads ++ (match o.g with | some (t, _) => [t] | none => [])

/-- operations that only lay a new object -/
def isNewOp : AOp → Bool
  | .alloc .. | .box .. | .mks .. | .callN .. => true
  | _ => false
/-- two operations that may change places: if the first one and then the second one go through, so do they the other way -/
def swapOK (x y : AOper) : Bool :=
  (match x.d with | some d => !y.looks.contains d && y.d != some d | none => true) &&
  (match y.d with | some d => !x.looks.contains d | none => true) &&
  !(effOf x.op == 2 && effOf y.op ≥ 1) && (!(effOf y.op == 2 && effOf x.op ≥ 1) || (isNewOp y.op && effOf x.op == 1))

/-- the temporary with what an operation reads, if it reads no more than one object -/
def readsOf : AOp → Option Nat
  | .load _ _ (.t a) | .fld _ (.t a) | .idxS _ (.t a) _ | .slcS _ (.t a) _ _ _ | .len (.t a) => some a
  | _ => none
/-- the temporary with what an operation writes to; true: it is its result -/
def touchOf (o : AOper) : Option (Nat × Bool) :=
  match o.op with
  | .store _ (.t a) _ => some (a, false)
  | .app .. => o.d.map fun d => (d, true)
  | _ => none
def tmpsApart (x y : AOper) : Bool :=
  (match x.d with | some d => !y.looks.contains d && y.d != some d | none => true) &&
  (match y.d with | some d => !x.looks.contains d | none => true)
/-- a reader and a writer: their temporaries, if these are assigned before both only -/
def dynPair (as : List Nat) (al : List AOper) (rd wr : Nat) : Option (Nat × Nat) :=
  match al[rd]?, al[wr]? with
  | some x, some y => match readsOf x.op, touchOf y with
    | some a, some (b, res) =>
      if tmpsApart x y && x.d != some a && (res || y.d != some b) && (List.range al.length).all (fun k => match al[k]? with | some o => (o.d != some a || isAnc as rd k) && (o.d != some b || (if res then k == wr else isAnc as wr k)) | none => true) then some (a, b) else none
    | _, _ => none
  | _, _ => none
def dynOf (as : List Nat) (al : List AOper) (i j : Nat) : Option (Nat × Nat) :=
  match dynPair as al i j with
  | some p => some p
  | none => dynPair as al j i

/-- the order in which a drawn region's operations are taken here: that of the text, but new objects as late as they can be -/
def permGo (as : List Nat) (aops : List AOper) : Nat → List Nat → List Nat
  | 0, rem => rem
  | n + 1, rem =>
    let ready := fun k => rem.all fun p => p == k || !isAnc as k p
    match rem.find? (fun k => !((aops[k]?).any fun a => isNewOp a.op) && ready k) with
    | some k => k :: permGo as aops n (rem.filter (· != k))
    | none => match rem.find? ready with
      | some k => k :: permGo as aops n (rem.filter (· != k))
      | none => rem
def permOf (as : List Nat) (aops : List AOper) : List Nat := permGo as aops aops.length (List.range aops.length)
/-- in a drawn region: calls that may lay new objects -/
def tN (b : Bool) (o : AOper) : AOper :=
  match b, o.op with
  | true, .call f a => { o with op := .callN f a }
  | _, _ => o

def pairOK (as : List Nat) (aops : List AOper) (i j : Nat) : Bool :=
  i != j && !isAnc as i j && (isAnc as j i ||
      match aops[i]?, aops[j]? with
      | some a, some b => swapOK a b || (dynOf as aops i j).isSome
      | _, _ => false)
/-- what is looked at behind a drawn region: that readers and writers without an order are apart -/
def chks (as : List Nat) (aops : List AOper) : List Nat → List AOper
  | [] => []
  | i :: r => (r.filterMap fun j => if isAnc as j i || swapOK (aops.getD i default) (aops.getD j default) then none else (dynOf as aops i j).map fun p => ⟨none, none, .apart (.t p.1) (.t p.2)⟩) ++ chks as aops r
def pairsOK (as : List Nat) (aops : List AOper) : List Nat → Bool
  | [] => true
  | i :: r => r.all (pairOK as aops i) && pairsOK as aops r
def drawOK (ops : List Oper) (aops : List AOper) : Bool :=
  let as := ancs ops
  let perm := permOf as aops
  ((List.range ops.length).all fun j => perm.contains j && ((ops[j]?).map fun o => (o.after.toList.all fun e => !Region.binds .any e || (decide (e.on < j) && isAnc as j e.on)) && (List.range ops.length).all fun k => !isAnc as j k || o.after.toList.any fun e => Region.binds .any e && (e.on == k || isAnc as e.on k)).getD false) &&
  perm.all (fun k => decide (k < ops.length)) && decide (perm.length ≤ ops.length) && pairsOK as aops perm

/-- the assignment of a range over a function: its one value to a temporary -/
def rfAssign (p : Nat) : Code → Option Nat
  | .region _ ops false => match ops.toList with
    | [o] => match o.op, o.dst, o.guard with
      | .assign (.tmp q), some d, none => if q = p then some d else none
      | _, _, _ => none
    | _ => none
  | _ => none
def regOps (as : List Nat) (l : List AOper) : List AOper := ((permOf as l).map fun k => l.getD k default) ++ chks as l (permOf as l)
def compile (P : Program) : Code → Option ACode
  | .skip => some .skip
  | .region _ ops draw => (mapAll (compOper P ops) ops.toList).bind fun l => if draw then (if drawOK ops.toList (l.map (tN true)) then some (.region true (regOps (ancs ops.toList) (l.map (tN true)))) else if drawOK ops.toList (l.map (tN false)) then some (.region true (regOps (ancs ops.toList) (l.map (tN false)))) else none) else some (.region false l)
  | .seq a b => (compile P a).bind fun a => (compile P b).map fun b => .seq a b
  | .cond c x y => (opd c).bind fun c => (compile P x).bind fun x => (compile P y).map fun y => .cond c x y
  | .block id c => (compile P c).map fun c => .block id c
  | .loop c => (compile P c).map fun c => .loop c
  | .exit id => some (.exit id)
  | .ret => some .ret
  | .rangeFunc g ps assign body => match ps.toList with
    | [p] => (rfAssign p assign).bind fun d => (opd g).bind fun f => (compile P body).map fun c => .rangeF f p d c
    | _ => none
  | _ => none
end Go.Am
