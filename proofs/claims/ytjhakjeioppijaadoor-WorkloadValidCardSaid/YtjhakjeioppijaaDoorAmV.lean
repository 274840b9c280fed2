/-
  The abstract machine, part 16 and a half: each operation on its operands' data.
-/
import Derived.Test.YtjhakjeioppijaaDoorAmP
set_option linter.unusedSimpArgs false
set_option linter.unusedVariables false
namespace Go.Am
open Go.RowKit

/-- a temporary -/
def getT (t : List DV) (i : Nat) : DV := t.getD i .junk
def pr (o : Option DV) (h : List AObj) : Option (DV × List AObj) := o.map fun d => (d, h)
def iD : DV → Option Int
  | .int _ n => some n
  | _ => none
def pickD : DV → DV → DV → Option DV
  | .bool true, a, _ => some a
  | .bool false, _, b => some b
  | _, _, _ => none
def eqaD (neg : Bool) (ks : List Nat) : DV → DV → Option DV
  | .agg xs, .agg ys => (cellsEq ks xs ys).map fun b => .bool (if neg then !b else b)
  | _, _ => none
def eqbD (neg : Bool) : DV → DV → Option DV
  | .bool a, .bool b => some (.bool (if neg then !(a == b) else (a == b)))
  | _, _ => none
def eqnD (kd : Nat) (neg : Bool) : Option (Nat × Bool) → Option (Nat × Bool) → Option DV
  | some (k, a), some (k', b) => if k = kd ∧ k' = kd ∧ (a || b) = true then some (.bool (if neg then !(a && b) else (a && b))) else none
  | _, _ => none
def unD : UnOp → DV → Option DV
  | .not, .bool b => some (.bool (!b))
  | .neg, .int k n => some (.int k (k.wrap (0 - n)))
  | .xor, .int k n => some (.int k (bits .xor k (if k.signed then -1 else k.max) n))
  | _, _ => none
def convD (k : IntKind) : DV → Option DV
  | .int _ n => some (.int k (k.wrap n))
  | _ => none
def stridD : DV → Option DV
  | .str s => some (.str s)
  | _ => none
def csbD : DV → Option DV
  | .str s => some (.sl false 1 s.length (u8s s))
  | _ => none
def cbsD : Option (Nat × List DV) → Option DV
  | some (n, cs) => if n = cs.length then (bytesOf cs).map .str else none
  | none => none
def loadD (n : Nat) (agg : Bool) : Option (List DV) → Option DV
  | some cs => one n agg cs
  | none => none
/-- an object of the right length -/
def objV (h : List AObj) (id ver : Nat) : Option (List DV) := (objAt h id).bind fun l => if l.length = ver then some l else none
def storeD (h : List AObj) (n : Nat) (p y : DV) : Option (DV × List AObj) :=
  match p with
  | .mp id ver off => (objAt h id).bind fun l =>
      if l.length = ver ∧ y.cells.length = n ∧ off + n ≤ ver ∧ y.cells.all DV.one = true then some (.junk, h.set id (.cells (splice l off y.cells))) else none
  | _ => none
/-- into an object's cells -/
def storeO (h : List AObj) (id n off : Nat) (y : DV) : Option (List DV) → Option (DV × List AObj)
  | some l => if y.cells.length = n ∧ off + n ≤ l.length ∧ y.cells.all DV.one = true then some (.junk, h.set id (.cells (splice l off y.cells))) else none
  | none => none
theorem storeD_mp {h : List AObj} {n id ver off : Nat} {y : DV} : storeD h n (.mp id ver off) y = storeO h id n off y (objV h id ver) := by
  simp only [storeD, objV]
  cases objAt h id with
  | none => rfl
  | some l =>
    simp only [Option.bind_some]
    by_cases e : l.length = ver
    · subst e; simp [storeO]
    · simp [e, storeO]
def idxSD (h : List AObj) (s : Nat) (x : DV) (i : Int) : Option DV :=
  match x with
    | .sl _ s' n cs => if s' = s ∧ 0 ≤ i ∧ i < n then some (.ref ((cs.drop (i.toNat * s)).take s)) else none
    | .ms id ver off s' n _ => if s' = s ∧ 0 ≤ i ∧ i < n then (objV h id ver).map fun _ => .mp id ver (off + i.toNat * s) else none
    | _ => none
def idxAD (h : List AObj) (len s : Nat) (x : DV) (i : Int) : Option DV :=
  if 0 ≤ i ∧ i < len then (match x with
    | .ref cs => some (.ref ((cs.drop (i.toNat * s)).take s))
    | .mp id ver off => (objV h id ver).map fun _ => .mp id ver (off + i.toNat * s)
    | _ => none) else none
def fldD (h : List AObj) (off : Nat) : DV → Option DV
  | .ref cs => some (.ref (cs.drop off))
  | .mp id ver o => (objV h id ver).map fun _ => .mp id ver (o + off)
  | _ => none
def getfD (off n : Nat) (agg : Bool) : DV → Option DV
  | .agg cs => if off + n ≤ cs.length then one n agg (cs.drop off) else none
  | _ => none
def idxVD (len n : Nat) (agg : Bool) (x : DV) (i : Int) : Option DV :=
  match x with
    | .agg cs => if 0 ≤ i ∧ i < len ∧ i.toNat * n + n ≤ cs.length then one n agg (cs.drop (i.toNat * n)) else none
    | _ => none
def idxStrD (x : DV) (i : Int) : Option DV :=
  match x with
    | .str s => if 0 ≤ i then (s[i.toNat]?).map fun b => .int .u8 b.toNat else none
    | _ => none
def opO (t : List DV) : Option Opd → Option DV
  | some x => some (ev t x)
  | none => none
def boundsD (n : Nat) (lo hi : Option DV) : Option (Nat × Nat) :=
  let h := match hi with | none => some (n : Int) | some x => iD x
  let l := match lo with | none => some 0 | some x => iD x
  h.bind fun h => l.bind fun l => if 0 ≤ l ∧ l ≤ h ∧ h ≤ n then some (l.toNat, h.toNat) else none
def slcSD (h : List AObj) (s : Nat) (x : DV) (lo hi mx : Option DV) : Option DV :=
  match x with
    | .nils => (boundsD 0 lo hi).bind fun _ => match mx with
      | none => some .nils
      | some m => (iD m).bind fun m => if m = 0 ∧ hi.isSome then some .nils else none
    | .sl full s' n cs => (boundsD n lo hi).bind fun (l, h') => if s' ≠ s then none else match mx with
      | none => some (.sl (full && h' == n) s (h' - l) ((cs.drop (l * s)).take ((h' - l) * s)))
      | some m => (iD m).bind fun m => if h' ≤ m ∧ m ≤ n ∧ hi.isSome then some (.sl (decide (m = h')) s (h' - l) ((cs.drop (l * s)).take ((h' - l) * s))) else none
    | .ms id ver off s' n lim => (boundsD n lo hi).bind fun (l, h') => if s' ≠ s then none else match mx with
      | none => (objV h id ver).map fun _ => .ms id ver (off + l * s) s (h' - l) lim
      | some m => (iD m).bind fun m => if h' ≤ m ∧ m ≤ n ∧ hi.isSome then (objV h id ver).map fun _ => .junk else none
    | _ => none
def slcAD (h : List AObj) (len s : Nat) (x : DV) (lo hi : Option DV) : Option DV :=
  (boundsD len lo hi).bind fun (l, h') => match x with
    | .ref cs => if len * s ≤ cs.length then some (.sl (h' == len) s (h' - l) ((cs.drop (l * s)).take ((h' - l) * s))) else none
    | .mp id ver off => (objV h id ver).bind fun _ => if off + len * s ≤ ver then some (.ms id ver (off + l * s) s (h' - l) (off + len * s)) else none
    | _ => none
def slcStrD (x : DV) (lo hi : Option DV) : Option DV :=
  match x with
    | .str s => (boundsD s.length lo hi).bind fun (l, h') => some (.str ((s.drop l).take (h' - l)))
    | _ => none
def boxD (h : List AObj) (x : DV) : Option (DV × List AObj) := if x.known then some (.mp h.length x.cells.length 0, h ++ [.cells x.cells]) else none
def partsD (t : List DV) (parts : List (Nat × Nat × Opd)) : List (Nat × Nat × DV) := parts.map fun p => (p.1, p.2.1, ev t p.2.2)
def buildD (zs : List DV) (ps : List (Nat × Nat × DV)) : Option DV := if ps.all (fun p => p.2.2.known) then (fillD zs ps).map .agg else none
def bslD (s len : Nat) (zs : List DV) (ps : List (Nat × Nat × DV)) : Option DV := if ps.all (fun p => p.2.2.known) then (fillD (reps len zs) ps).map fun cs => .sl true s len cs else none
def mksD (h : List AObj) (s bytes : Nat) (zs : List DV) (l c : Int) : Option (DV × List AObj) := if 0 ≤ l ∧ l ≤ c ∧ c ≤ big ∧ bytes ≤ 16384 then
      some (.ms h.length (l.toNat * s) 0 s l.toNat (l.toNat * s), h ++ [.cells (reps l.toNat zs)]) else none
def lenStrD : DV → Option DV
  | .str s => some (.int .i64 s.length)
  | _ => none
def lenD (h : List AObj) : DV → Option DV
    | .nils => some (.int .i64 0)
    | .sl _ _ n _ => some (.int .i64 n)
    | .ms id ver _ _ n _ => (objV h id ver).map fun _ => .int .i64 n
    | _ => none
def cpyD (h : List AObj) (s : Nat) (str : Bool) (x : DV) : Option (Nat × List DV) → Option (DV × List AObj)
  | some (m, cs) => match x with
    | .ms id ver off s' n _ => (objAt h id).bind fun l => if l.length = ver ∧ s' = s ∧ (cs.take (min m n * s)).all DV.one = true ∧ min m n * s ≤ cs.length ∧ off + n * s ≤ ver ∧ (str = true → s = 1) then
        some (.int .i64 (min m n : Nat), h.set id (.cells (splice l off (cs.take (min m n * s))))) else none
    | .nils => if str = true → s = 1 then some (.int .i64 0, h) else none
    | _ => none
  | none => none
def clrD (h : List AObj) (s : Nat) (zs : List DV) : DV → Option (DV × List AObj)
  | .ms id ver off s' n _ => (objAt h id).bind fun l => if l.length = ver ∧ s' = s ∧ zs.length = s ∧ 0 < s ∧ zs.all DV.one = true ∧ off + n * s ≤ ver then some (.tup [], h.set id (.cells (splice l off (reps n zs)))) else none
  | _ => none
def nilcD (h : List AObj) : DV → Option DV
    | .mp id ver o => (objV h id ver).map fun _ => .mp id ver o
    | .ref cs => some (.ref cs)
    | .fn (.func f) a b => some (.fn (.func f) a b)
    | _ => none
def extD : DV → Nat → Option DV
  | .tup vs, i => vs[i]?
  | _, _ => none
/-- an integer operand -/
def withI {β : Type} (o : Option Int) (f : Int → Option β) : Option β := o.bind f

section
variable {t : List DV} {h : List AObj}
theorem pr_some {d : DV} : pr (some d) h = some (d, h) := rfl
theorem pr_none : pr none h = none := rfl
theorem evI_eq (x : Opd) : evI t x = iD (ev t x) := by unfold evI iD; cases ev t x <;> rfl
theorem bounds_eq (n : Nat) (lo hi : Option Opd) : bounds t n lo hi = boundsD n (opO t lo) (opO t hi) := by
  unfold bounds boundsD
  cases lo <;> cases hi <;> simp [opO, evI_eq]
theorem objV_eq {β : Type} (id ver : Nat) (f : Option β) : ((objAt h id).bind fun l => if l.length = ver then f else none) = (objV h id ver).bind fun _ => f := by
  unfold objV
  cases objAt h id with
  | none => rfl
  | some l =>
    simp only [Option.bind_some]
    split <;> rfl
theorem objV_eq' (id ver : Nat) (d : DV) : ((objAt h id).bind fun l => if l.length = ver then Option.map (fun d => (d, h)) (some d) else none) = pr ((objV h id ver).map fun _ => d) h := by
  unfold objV pr
  cases objAt h id with
  | none => rfl
  | some l =>
    simp only [Option.bind_some]
    split <;> rfl
theorem V_mov {x : Opd} : evOp (.mov x) t h = some (ev t x, h) := rfl
theorem V_pick {c a b : Opd} : evOp (.pick c a b) t h = pr (pickD (ev t c) (ev t a) (ev t b)) h := by
  simp only [evOp, pickD, pr]
  cases ev t c <;> try rfl
  rename_i b'; cases b' <;> rfl
theorem V_bin {op : BinOp} {x y : Opd} : evOp (.bin op x y) t h = pr (binOpD op (ev t x) (ev t y)) h := rfl
theorem V_eqa {neg : Bool} {ks : List (Nat × Nat)} {x y : Opd} : evOp (.eqa neg ks x y) t h = pr (eqaD neg (kindsOf ks) (ev t x) (ev t y)) h := by
  simp only [evOp]
  cases ev t x <;> try rfl
  cases ev t y <;> rfl
theorem V_eqb {neg : Bool} {x y : Opd} : evOp (.eqb neg x y) t h = pr (eqbD neg (ev t x) (ev t y)) h := by
  simp only [evOp]
  cases ev t x <;> try rfl
  cases ev t y <;> rfl
theorem V_eqn {kd : Nat} {neg : Bool} {x y : Opd} : evOp (.eqn kd neg x y) t h = pr (eqnD kd neg (nilKind h (ev t x)) (nilKind h (ev t y))) h := by
  simp only [evOp]
  cases nilKind h (ev t x) <;> try rfl
  cases nilKind h (ev t y) <;> try rfl
  simp only [eqnD, pr]
  split <;> rfl
theorem V_un {op : UnOp} {x : Opd} : evOp (.un op x) t h = pr (unD op (ev t x)) h := by
  simp only [evOp]
  cases op <;> cases ev t x <;> rfl
theorem V_conv {k : IntKind} {x : Opd} : evOp (.conv k x) t h = pr (convD k (ev t x)) h := by
  simp only [evOp]
  cases ev t x <;> rfl
theorem V_strid {x : Opd} : evOp (.strid x) t h = pr (stridD (ev t x)) h := by
  simp only [evOp]
  cases ev t x <;> rfl
theorem V_csb {x : Opd} : evOp (.csb x) t h = pr (csbD (ev t x)) h := by
  simp only [evOp]
  cases ev t x <;> rfl
theorem V_cbs {x : Opd} : evOp (.cbs x) t h = pr (cbsD (visS h (ev t x))) h := by
  simp only [evOp]
  cases visS h (ev t x) with
  | none => rfl
  | some p =>
    simp only [Option.bind_some, cbsD]
    split <;> rfl
theorem V_load {n : Nat} {agg : Bool} {x : Opd} : evOp (.load n agg x) t h = pr (loadD n agg (vis h (ev t x))) h := by
  simp only [evOp]
  cases vis h (ev t x) <;> rfl
theorem V_store {n : Nat} {x y : Opd} : evOp (.store n x y) t h = storeD h n (ev t x) (ev t y) := by
  simp only [evOp, storeD]
  cases ev t x <;> rfl
theorem V_idxS {s : Nat} {x i : Opd} : evOp (.idxS s x i) t h = pr (withI (iD (ev t i)) (idxSD h s (ev t x))) h := by
  simp only [evOp, evI_eq, withI]
  cases iD (ev t i) with
  | none => rfl
  | some n =>
    simp only [Option.bind_some]
    cases ev t x <;> try rfl
    · simp only [idxSD]; split <;> rfl
    · simp only [idxSD]
      split
      · exact objV_eq' _ _ _
      · rfl
theorem V_idxA {len s : Nat} {x i : Opd} : evOp (.idxA len s x i) t h = pr (withI (iD (ev t i)) (idxAD h len s (ev t x))) h := by
  simp only [evOp, evI_eq, withI]
  cases iD (ev t i) with
  | none => rfl
  | some n =>
    simp only [Option.bind_some, idxAD]
    split
    · cases ev t x <;> try rfl
      exact objV_eq' _ _ _
    · rfl
theorem V_fld {off : Nat} {x : Opd} : evOp (.fld off x) t h = pr (fldD h off (ev t x)) h := by
  simp only [evOp]
  cases ev t x <;> try rfl
  exact objV_eq' _ _ _
theorem V_getf {off n : Nat} {agg : Bool} {x : Opd} : evOp (.getf off n agg x) t h = pr (getfD off n agg (ev t x)) h := by
  simp only [evOp]
  cases ev t x <;> try rfl
  simp only [getfD]
  split <;> rfl
theorem V_idxV {len n : Nat} {agg : Bool} {x i : Opd} : evOp (.idxV len n agg x i) t h = pr (withI (iD (ev t i)) (idxVD len n agg (ev t x))) h := by
  simp only [evOp, evI_eq, withI]
  cases iD (ev t i) with
  | none => rfl
  | some n =>
    simp only [Option.bind_some]
    cases ev t x <;> try rfl
    simp only [idxVD]; split <;> rfl
theorem V_idxStr {x i : Opd} : evOp (.idxStr x i) t h = pr (withI (iD (ev t i)) (idxStrD (ev t x))) h := by
  simp only [evOp, evI_eq, withI]
  cases iD (ev t i) with
  | none => rfl
  | some n =>
    simp only [Option.bind_some]
    cases ev t x <;> try rfl
    simp only [idxStrD]; split <;> rfl
theorem V_slcS {s : Nat} {x : Opd} {lo hi mx : Option Opd} : evOp (.slcS s x lo hi mx) t h = pr (slcSD h s (ev t x) (opO t lo) (opO t hi) (opO t mx)) h := by
  simp only [evOp, bounds_eq]
  have e1 : (opO t mx).isNone = mx.isNone := by cases mx <;> rfl
  have e2 : (opO t mx).isSome = mx.isSome := by cases mx <;> rfl
  have e3 : (opO t hi).isSome = hi.isSome := by cases hi <;> rfl
  cases ev t x <;> try rfl
  · simp only [slcSD]
    cases boundsD 0 (opO t lo) (opO t hi) with
    | none => rfl
    | some p =>
      simp only [Option.bind_some]
      cases mx with
      | none => rfl
      | some m =>
        simp only [evI_eq, e3]
        rw [show opO t (some m) = some (ev t m) from rfl]
        simp only
        cases iD (ev t m) with
        | none => rfl
        | some m' =>
          simp only [Option.bind_some]
          split <;> rfl
  · rename_i full s' n cs
    simp only [slcSD]
    cases boundsD n (opO t lo) (opO t hi) with
    | none => rfl
    | some p =>
      simp only [Option.bind_some]
      split
      · rfl
      · cases mx with
        | none => rfl
        | some m =>
          simp only [evI_eq, e3]
          rw [show opO t (some m) = some (ev t m) from rfl]
          simp only
          cases iD (ev t m) with
          | none => rfl
          | some m' =>
            simp only [Option.bind_some]
            split <;> rfl
  · rename_i id ver off s' n lim
    simp only [slcSD]
    cases boundsD n (opO t lo) (opO t hi) with
    | none => rfl
    | some p =>
      simp only [Option.bind_some]
      split
      · rfl
      · cases mx with
        | none => exact objV_eq' _ _ _
        | some m =>
          simp only [evI_eq, e3]
          rw [show opO t (some m) = some (ev t m) from rfl]
          simp only
          cases iD (ev t m) with
          | none => rfl
          | some m' =>
            simp only [Option.bind_some]
            split
            · exact objV_eq' _ _ _
            · rfl
theorem V_slcA {len s : Nat} {x : Opd} {lo hi : Option Opd} : evOp (.slcA len s x lo hi) t h = pr (slcAD h len s (ev t x) (opO t lo) (opO t hi)) h := by
  simp only [evOp, bounds_eq, slcAD]
  cases boundsD len (opO t lo) (opO t hi) with
  | none => rfl
  | some p =>
    simp only [Option.bind_some]
    cases ev t x <;> try rfl
    · simp only; split <;> rfl
    · rename_i id ver off
      simp only [objV, pr]
      cases objAt h id with
      | none => rfl
      | some l =>
        simp only [Option.bind_some]
        by_cases e : l.length = ver
        · by_cases e' : off + len * s ≤ ver <;> simp [e, e']
        · simp [e]
theorem V_slcStr {x : Opd} {lo hi : Option Opd} : evOp (.slcStr x lo hi) t h = pr (slcStrD (ev t x) (opO t lo) (opO t hi)) h := by
  simp only [evOp, bounds_eq]
  cases ev t x <;> try rfl
  rename_i s
  simp only [slcStrD]
  cases boundsD s.length (opO t lo) (opO t hi) <;> rfl
theorem V_alloc {zs : List DV} : evOp (.alloc zs) t h = some (.mp h.length zs.length 0, h ++ [.cells zs]) := rfl
theorem V_box {x : Opd} : evOp (.box x) t h = boxD h (ev t x) := rfl
theorem V_build {zs : List DV} {ps : List (Nat × Nat × Opd)} : evOp (.build zs ps) t h = pr (buildD zs (partsD t ps)) h := by
  simp only [evOp, buildD, partsD, List.all_map]
  simp only [Function.comp_def, pr]
  split <;> rfl
theorem V_bsl {s len : Nat} {zs : List DV} {ps : List (Nat × Nat × Opd)} : evOp (.bsl s len zs ps) t h = pr (bslD s len zs (partsD t ps)) h := by
  simp only [evOp, bslD, partsD, List.all_map]
  simp only [Function.comp_def, pr]
  split <;> rfl
theorem V_mks {s b : Nat} {zs : List DV} {l c : Opd} : evOp (.mks s b zs l c) t h = withI (iD (ev t l)) fun l => withI (iD (ev t c)) fun c => mksD h s b zs l c := by
  simp only [evOp, evI_eq, withI, mksD]
theorem V_lenStr {x : Opd} : evOp (.lenStr x) t h = pr (lenStrD (ev t x)) h := by
  simp only [evOp]
  cases ev t x <;> rfl
theorem V_len {x : Opd} : evOp (.len x) t h = pr (lenD h (ev t x)) h := by
  simp only [evOp]
  cases ev t x <;> try rfl
  exact objV_eq' _ _ _
theorem V_app {s b : Nat} {x y : Opd} : evOp (.app s b x y) t h = evApp h s b (ev t x) (ev t y) := rfl
theorem V_cpy {s : Nat} {x y : Opd} : evOp (.cpy s x y) t h = cpyD h s (ev t y).isStr (ev t x) (visY h (ev t y)) := by
  simp only [evOp]
  cases visY h (ev t y) with
  | none => rfl
  | some p =>
    simp only [Option.bind_some, cpyD]
    cases ev t x <;> rfl
theorem V_clr {s : Nat} {zs : List DV} {x : Opd} : evOp (.clr s zs x) t h = clrD h s zs (ev t x) := by
  simp only [evOp]
  cases ev t x <;> rfl
theorem V_apart {x y : Opd} : evOp (.apart x y) t h = if apartD (ev t x) (ev t y) = true then some (.junk, h) else none := rfl
theorem V_mkf {f : Fn} {a b : List Opd} : evOp (.mkf f a b) t h = some (.fn f (a.map (ev t)) (b.map (ev t)), h) := rfl
theorem V_nilc {x : Opd} : evOp (.nilc x) t h = pr (nilcD h (ev t x)) h := by
  simp only [evOp]
  cases ev t x with
  | mp id ver o => exact objV_eq' _ _ _
  | fn f a b => cases f <;> rfl
  | _ => rfl
theorem V_ext {x : Opd} {i : Nat} : evOp (.ext x i) t h = pr (extD (ev t x) i) h := by
  simp only [evOp]
  cases ev t x <;> rfl
theorem ev_t {i : Nat} : ev t (.t i) = getT t i := rfl
theorem getT_zero {a : DV} : getT (a :: t) 0 = a := rfl
theorem getT_succ {a : DV} {n : Nat} : getT (a :: t) (n + 1) = getT t n := rfl
theorem pickD_true {a b : DV} : pickD (.bool true) a b = some a := rfl
theorem pickD_false {a b : DV} : pickD (.bool false) a b = some b := rfl
theorem eqaD_agg {neg : Bool} {ks : List Nat} {xs ys : List DV} : eqaD neg ks (.agg xs) (.agg ys) = (cellsEq ks xs ys).map fun b => .bool (if neg then !b else b) := rfl
theorem eqbD_bool {neg a b : Bool} : eqbD neg (.bool a) (.bool b) = some (.bool (if neg then !(a == b) else (a == b))) := rfl
theorem eqnD_some {kd k k' : Nat} {neg a b : Bool} : eqnD kd neg (some (k, a)) (some (k', b)) = if k = kd ∧ k' = kd ∧ (a || b) = true then some (.bool (if neg then !(a && b) else (a && b))) else none := rfl
theorem stridD_str {s : List UInt8} : stridD (.str s) = some (.str s) := rfl
theorem csbD_str {s : List UInt8} : csbD (.str s) = some (.sl false 1 s.length (u8s s)) := rfl
theorem cbsD_some {n : Nat} {cs : List DV} : cbsD (some (n, cs)) = if n = cs.length then (bytesOf cs).map .str else none := rfl
theorem loadD_some {n : Nat} {agg : Bool} {cs : List DV} : loadD n agg (some cs) = one n agg cs := rfl
theorem fldD_ref {off : Nat} {cs : List DV} : fldD h off (.ref cs) = some (.ref (cs.drop off)) := rfl
theorem fldD_mp {off id ver o : Nat} : fldD h off (.mp id ver o) = (objV h id ver).map fun _ => .mp id ver (o + off) := rfl
theorem lenStrD_str {s : List UInt8} : lenStrD (.str s) = some (.int .i64 s.length) := rfl
theorem lenD_nils : lenD h .nils = some (.int .i64 0) := rfl
theorem lenD_sl {f : Bool} {s n : Nat} {cs : List DV} : lenD h (.sl f s n cs) = some (.int .i64 n) := rfl
theorem lenD_ms {id ver off s n lim : Nat} : lenD h (.ms id ver off s n lim) = (objV h id ver).map fun _ => .int .i64 n := rfl
theorem nilcD_mp {id ver o : Nat} : nilcD h (.mp id ver o) = (objV h id ver).map fun _ => .mp id ver o := rfl
theorem nilcD_ref {cs : List DV} : nilcD h (.ref cs) = some (.ref cs) := rfl
theorem nilcD_fn {f : Nat} {a b : List DV} : nilcD h (.fn (.func f) a b) = some (.fn (.func f) a b) := rfl
theorem extD_tup {vs : List DV} {i : Nat} : extD (.tup vs) i = vs[i]? := rfl
theorem nilKind_nils : nilKind h .nils = some (0, true) := rfl
theorem nilKind_sl {f : Bool} {s n : Nat} {cs : List DV} : nilKind h (.sl f s n cs) = some (0, false) := rfl
theorem nilKind_nilp : nilKind h .nilp = some (1, true) := rfl
theorem nilKind_ref {cs : List DV} : nilKind h (.ref cs) = some (1, false) := rfl
theorem nilKind_nili : nilKind h .nili = some (4, true) := rfl
theorem nilKind_iface {t : Nat} {v : DV} : nilKind h (.iface t v) = some (4, false) := rfl
theorem nilKind_nilf : nilKind h .nilf = some (3, true) := rfl
theorem nilKind_fn {f : Fn} {a b : List DV} : nilKind h (.fn f a b) = some (3, false) := rfl
theorem unD_not {b : Bool} : unD .not (.bool b) = some (.bool (!b)) := rfl
theorem unD_neg {n : Int} : unD .neg (.int .i64 n) = some (.int .i64 (IntKind.i64.wrap (0 - n))) := rfl
theorem iD_int {k : IntKind} {n : Int} : iD (.int k n) = some n := rfl
theorem ev_k {d : DV} : ev t (.k d) = d := rfl
theorem putT_some {i : Nat} {v : DV} : putT t (some i) v = t.set i v := rfl
theorem putT_none {v : DV} : putT t none v = t := rfl
theorem opO_some {x : Opd} : opO t (some x) = some (ev t x) := rfl
theorem opO_none : opO t none = none := rfl
theorem withI_some {β : Type} {n : Int} {f : Int → Option β} : withI (some n) f = f n := rfl
theorem objAt_zero {l : List DV} : objAt (.cells l :: h) 0 = some l := rfl
theorem objAt_succ {o : AObj} {n : Nat} : objAt (o :: h) (n + 1) = objAt h n := rfl
theorem objV_of {id ver : Nat} {l : List DV} (h1 : objAt h id = some l) (h2 : l.length = ver) : objV h id ver = some l := by simp [objV, h1, h2]
theorem objV_zero {ver : Nat} {l : List DV} : objV (.cells l :: h) 0 ver = if l.length = ver then some l else none := rfl
theorem objV_succ {ver : Nat} {o : AObj} {n : Nat} : objV (o :: h) (n + 1) ver = objV h n ver := rfl
theorem vis_ref {cs : List DV} : vis h (.ref cs) = some cs := rfl
theorem vis_mp {id ver off : Nat} : vis h (.mp id ver off) = (objV h id ver).map fun l => l.drop off := by
  simp only [vis, objV]
  cases objAt h id with
  | none => rfl
  | some l =>
    simp only [Option.bind_some]
    split <;> rfl
theorem visS_sl {f : Bool} {s n : Nat} {cs : List DV} : visS h (.sl f s n cs) = some (n, cs) := rfl
theorem visS_nils : visS h .nils = some (0, []) := rfl
theorem visS_ms {id ver off s n lim : Nat} : visS h (.ms id ver off s n lim) = (objV h id ver).map fun l => (n, (l.drop off).take (n * s)) := by
  simp only [visS, objV]
  cases objAt h id with
  | none => rfl
  | some l =>
    simp only [Option.bind_some]
    split <;> rfl
end
end Go.Am
