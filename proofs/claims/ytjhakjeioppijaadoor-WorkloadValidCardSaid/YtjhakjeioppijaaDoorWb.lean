/-
  What workload's functions compute, on data.
-/
import Derived.Test.YtjhakjeioppijaaDoorWa
set_option linter.unusedSimpArgs false
set_option linter.unusedVariables false
namespace Go.Proofs.YtjhakjeioppijaaDoor
open Go Go.Am

open Classical in
/-- whether a proposition holds -/
noncomputable def tv (p : Prop) : Bool := decide p
theorem tv_true {p : Prop} (h : p) : tv p = true := by simp [tv, h]
theorem tv_false {p : Prop} (h : ¬ p) : tv p = false := by simp [tv, h]
theorem tv_eq {p : Prop} {b : Bool} (h : p ↔ b = true) : tv p = b := by
  by_cases hp : p
  · rw [tv_true hp, h.1 hp]
  · rw [tv_false hp]; cases b with
    | true => exact absurd (h.2 rfl) hp
    | false => rfl
theorem tv_iff {p q : Prop} (h : p ↔ q) : tv p = tv q := by rw [propext h]

def okCh (l : List Dg) : Prop := ∀ i (h : i < l.length), l[i] ≠ dg0 ∧ l[i] ∉ l.take i
structure ValidG (g : Grp) : Prop where
  ns : pathD g.ns = true
  im : pathD g.im = true
  w0 : 0 ≤ g.want
  w1 : g.want ≤ 8
  l0 : 0 ≤ g.least
  l1 : g.least ≤ g.want
  d0 : 0 ≤ g.down
  d1 : g.down ≤ g.want
  n : g.ch.l.length ≤ 6
  ch : okCh g.ch.l
def fitG (ns im : List UInt8) (g : Grp) : Bool := decide (g.ns = ns) && decide (g.im = im)
def grpIx (l : List Grp) (ns im : List UInt8) : Int := ixI (fitG ns im) l
def findIx (l : List Ins) (id : Int) : Int := ixI (fun x => decide (x.id = id)) l
abbrev timeOK (t : Int) : Prop := 0 ≤ t ∧ t ≤ 1099511627776
structure SoundI (n : Nat) (next : Int) (x : Ins) : Prop where
  id0 : 1 ≤ x.id
  id1 : x.id < next
  g0 : 0 ≤ x.grp
  g1 : x.grp < n
  art : x.art ≠ dg0
  s0 : 1 ≤ x.state
  s1 : x.state ≤ 3
  si : timeOK x.since
  de : x.den = -1 ∨ timeOK x.den
structure ValidC (c : Clu) : Prop where
  ng : c.g.l.length ≤ 16
  ni : c.i.l.length ≤ 200
  n0 : 1 ≤ c.next
  n1 : c.next ≤ 1099511627776
  g : ∀ i (h : i < c.g.l.length), ValidG c.g.l[i] ∧ grpIx c.g.l c.g.l[i].ns c.g.l[i].im = i
  i : ∀ i (h : i < c.i.l.length), SoundI c.g.l.length c.next c.i.l[i] ∧ (∀ h0 : 0 < i, c.i.l[i - 1].id < c.i.l[i].id)

/-- a copy: what it shares no memory with -/
def Sl.clone {α : Type} (x : Sl α) : Sl α := ⟨if x.l = [] then x.k.map fun _ => true else some false, x.l, fun e => by
  by_cases h : x.l = []
  · exact h
  · simp [h] at e, x.b⟩
/-- append(nil, x...) -/
def Sl.copy {α : Type} (x : Sl α) : Sl α := ⟨if x.l = [] then none else some false, x.l, fun e => by
  by_cases h : x.l = []
  · exact h
  · simp [h] at e, x.b⟩
/-- a list of its own -/
def own {α : Type} (l : List α) : Sl α := if h : l.length ≤ 4294967296 then ⟨some false, l, by simp, h⟩ else ⟨none, [], fun _ => rfl, by simp⟩
theorem own_l {α : Type} {l : List α} (h : l.length ≤ 4294967296) : (own l).l = l := by rw [own, dif_pos h]
theorem own_dv {α : Type} {l : List α} {s : Nat} {f : α → List DV} (h : l.length ≤ 4294967296) : (own l).dv s f = .sl false s l.length (l.flatMap f) := by rw [own, dif_pos h]; rfl
def Grp.clone (g : Grp) : Grp := { g with ch := g.ch.clone }
def clu0 : Clu := ⟨⟨none, [], fun _ => rfl, by simp⟩, ⟨none, [], fun _ => rfl, by simp⟩, 0⟩
def Clu.clone (c : Clu) : Clu := ⟨⟨c.g.clone.k, c.g.l.map Grp.clone, fun e => by simp [show c.g.l = [] from c.g.clone.h e], by have := c.g.b; simpa using this⟩, c.i.clone, c.next⟩

/-! equal clusters -/
def gl (g : Grp) : List UInt8 × List UInt8 × Int × Int × Int × List Dg := (g.ns, g.im, g.want, g.least, g.down, g.ch.l)
structure SameC (a b : Clu) : Prop where
  g : a.g.l.map gl = b.g.l.map gl
  i : a.i.l = b.i.l
  n : a.next = b.next
theorem SameC.refl (a : Clu) : SameC a a := ⟨rfl, rfl, rfl⟩
theorem gl_clone (g : Grp) : gl g.clone = gl g := rfl
theorem gl_clones (l : List Grp) : (l.map Grp.clone).map gl = l.map gl := by simp [Function.comp_def, gl_clone]

/-! the calls -/
open Classical in
noncomputable def deployP (c : Clu) (g : Grp) : Clu × Int :=
  if ¬ ValidC c ∨ ¬ ValidG g then (clu0, 1)
  else if grpIx c.g.l g.ns g.im < 0 then
    (if 16 ≤ c.g.l.length then (clu0, 3) else (⟨own (c.g.l.map Grp.clone ++ [g.clone]), c.i.clone, c.next⟩, 0))
  else (⟨own ((c.g.l.map Grp.clone).set (grpIx c.g.l g.ns g.im).toNat g.clone), c.i.clone, c.next⟩, 0)
open Classical in
noncomputable def deployR (c : Clu) (g : Grp) : Clu × Int :=
  if ¬ ValidC c ∨ ¬ ValidG g then (clu0, 1)
  else if grpIx c.g.l g.ns g.im < 0 then
    (if 16 ≤ c.g.l.length then (clu0, 3) else (⟨own (c.g.l ++ [g]), c.i.copy, c.next⟩, 0))
  else (⟨own (c.g.l.set (grpIx c.g.l g.ns g.im).toNat g), c.i.copy, c.next⟩, 0)
def newI (c : Clu) (group : Int) (d : Dg) (t : Int) : Ins := ⟨c.next, group, d, 1, t, -1⟩
open Classical in
noncomputable def startP (c : Clu) (group : Int) (d : Dg) (t : Int) : Clu × Int × Int :=
  if ¬ ValidC c ∨ d = dg0 ∨ ¬ timeOK t then (clu0, 0, 1)
  else if group < 0 ∨ c.g.l.length ≤ group then (clu0, 0, 4)
  else if 200 ≤ c.i.l.length ∨ 1099511627776 ≤ c.next then (clu0, 0, 3)
  else (⟨c.clone.g, own (c.i.l ++ [newI c group d t]), c.next + 1⟩, c.next, 0)
open Classical in
noncomputable def startR (c : Clu) (group : Int) (d : Dg) (t : Int) : Clu × Int × Int :=
  if ¬ ValidC c ∨ d = dg0 ∨ ¬ timeOK t then (clu0, 0, 1)
  else if group < 0 ∨ c.g.l.length ≤ group then (clu0, 0, 4)
  else if 200 ≤ c.i.l.length ∨ 1099511627776 ≤ c.next then (clu0, 0, 3)
  else (⟨c.g.copy, own (c.i.l ++ [newI c group d t]), c.next + 1⟩, c.next, 0)
/-- the states from which a change to 'to' may be made -/
def may (to s : Int) : Bool := if to = 2 then decide (s = 1) else decide (s ≠ 3)
def Ins.st (x : Ins) (v : Int) : Ins := ⟨x.id, x.grp, x.art, v, x.since, x.den⟩
def Ins.si (x : Ins) (v : Int) : Ins := ⟨x.id, x.grp, x.art, x.state, v, x.den⟩
def Ins.de (x : Ins) (v : Int) : Ins := ⟨x.id, x.grp, x.art, x.state, x.since, v⟩
def setI (l : List Ins) (i : Nat) (to t : Int) : List Ins := match l[i]? with
  | some x => l.set i ((x.st to).si t)
  | none => l
theorem setI_at {l : List Ins} {i : Nat} {to t : Int} (h : i < l.length) : setI l i to t = l.set i ((l[i].st to).si t) := by
  simp only [setI, List.getElem?_eq_getElem h]
open Classical in
noncomputable def changeP (c : Clu) (id t to : Int) : Clu × Int :=
  if ¬ ValidC c ∨ ¬ timeOK t then (clu0, 1)
  else if findIx c.i.l id < 0 then (clu0, 4)
  else if ((c.i.l[(findIx c.i.l id).toNat]?).map fun x => may to x.state) = some true then (⟨c.clone.g, own (setI c.i.l (findIx c.i.l id).toNat to t), c.next⟩, 0)
  else (clu0, 30)
open Classical in
noncomputable def changeR (c : Clu) (id t to : Int) : Clu × Int :=
  if ¬ ValidC c ∨ ¬ timeOK t then (clu0, 1)
  else if findIx c.i.l id < 0 then (clu0, 4)
  else if ((c.i.l[(findIx c.i.l id).toNat]?).map fun x => may to x.state) = some true then (⟨c.g.copy, own (setI c.i.l (findIx c.i.l id).toNat to t), c.next⟩, 0)
  else (clu0, 30)
end Go.Proofs.YtjhakjeioppijaaDoor
