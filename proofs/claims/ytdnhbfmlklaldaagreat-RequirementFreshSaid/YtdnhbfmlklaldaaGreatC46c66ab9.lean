/-
  19 texts of mine in one.
-/
import Derived.Lib.IndexLaws
import Derived.Test.YtdnhbfmlklaldaaGreatProg
import Derived.Lib.BytesEntry
import Derived.Lib.AppendZeros
import Derived.WalkKit
import Derived.Test.YtdnhbfmlklaldaaGreatC5f0ea989
import Derived.Test.YtdnhbfmlklaldaaGreatC7ec6da1e
import Derived.Test.YtdnhbfmlklaldaaGreatCd2e92958
import Derived.Test.YtdnhbfmlklaldaaGreatC320c5261
set_option linter.unusedSimpArgs false
set_option linter.unusedVariables false
namespace Go.Proofs.YtdnhbfmlklaldaaGreat
open Go Go.Am
abbrev B8 := BitVec 8
inductive Pt where
  | one (c : B8) | dot | some | whole
deriving DecidableEq
def Pt.kind : Pt → Int
  | .one _ => 0 | .dot => 1 | .some => 2 | .whole => 3
def Pt.long : Pt → Bool
  | .some => true | .whole => true | _ => false
def Pt.takes : Pt → B8 → Bool
  | .one c, b => b == c | .whole, _ => true | _, b => b != 47#8
def bAt (s : List UInt8) (i : Nat) : B8 := (s.getD i 0).toBitVec
def row (x : Pt) (s : List UInt8) (prev : Nat → Bool) : Nat → Bool
  | 0 => x.long && prev 0
  | i + 1 => if x.long then prev (i + 1) || (row x s prev i && x.takes (bAt s i)) else prev i && x.takes (bAt s i)
def M (l : List Pt) (s : List UInt8) : Nat → Nat → Bool
  | 0 => fun i => i == 0
  | k + 1 => row (l.getD k .dot) s (M l s k)
def noZ (s : List UInt8) : Bool := s.all fun c => c != 0
def comps : List UInt8 → List (List UInt8)
  | [] => [[]]
  | c :: r => if c = 47 then [] :: comps r else
    match comps r with
    | [] => [[c]]
    | h :: t => (c :: h) :: t
def okC (x : List UInt8) : Bool := x != [] && x != [46] && x != [46, 46]
def pathD (s : List UInt8) : Bool := decide (1 ≤ s.length) && decide (s.length ≤ 200) && noZ s && (comps s).all okC
end Go.Proofs.YtdnhbfmlklaldaaGreat
set_option linter.unusedSimpArgs false
set_option linter.unusedVariables false
namespace Go.Proofs.YtdnhbfmlklaldaaGreat
open Go Go.Am
abbrev Dg := { a : List B8 // a.length = 32 }
def dgC (d : Dg) : List DV := d.1.map w8
def dg0 : Dg := ⟨rep 32 0#8, by simp [rep]⟩
theorem len_dgC (d : Dg) : (dgC d).length = 32 := by simp [dgC, d.2]
theorem pure_dgC (d : Dg) : pureL (dgC d) = true := pureL_w8
theorem dgC_inj {a b : Dg} (h : dgC a = dgC b) : a = b := Subtype.ext (by rw [dgC, dgC, map_inj_w8] at h; exact h)
structure Sl (α : Type) where
  k : Option Bool
  l : List α
  h : k = none → l = []
  b : l.length ≤ 4294967296
def Sl.dv {α : Type} (x : Sl α) (s : Nat) (f : α → List DV) : DV := slD x.k s x.l.length (x.l.flatMap f)
section
variable {α : Type} {f : α → List DV} {s : Nat} {h : List AObj} {x : Sl α} {n k : Nat}
theorem dv_some {b : Bool} {l : List α} {h : some b = none → l = []} {hb : l.length ≤ 4294967296} : (⟨some b, l, h, hb⟩ : Sl α).dv s f = .sl b s l.length (l.flatMap f) := rfl
theorem dv_none {h : none = none → ([] : List α) = []} {hb : ([] : List α).length ≤ 4294967296} : (⟨none, [], h, hb⟩ : Sl α).dv s f = .nils := rfl
theorem fm_len (hu : ∀ a, (f a).length = s) : ∀ (l : List α), (l.flatMap f).length = l.length * s
  | [] => by simp
  | a :: l => by rw [List.flatMap_cons, List.length_append, hu, fm_len hu l, List.length_cons, Nat.add_mul]; omega
theorem fm_take (hu : ∀ a, (f a).length = s) : ∀ (l : List α) (i : Nat), (l.flatMap f).take (i * s) = (l.take i).flatMap f
  | [], i => by simp
  | a :: l, 0 => by simp
  | a :: l, i + 1 => by
    have ha := hu a
    rw [List.flatMap_cons, List.take_append, List.take_of_length_le (by rw [ha, Nat.add_mul]; omega), ha, show (i + 1) * s - s = i * s from by rw [Nat.add_mul]; omega, fm_take hu l, List.take_succ_cons, List.flatMap_cons]
theorem fm_drop (hu : ∀ a, (f a).length = s) : ∀ (l : List α) (i : Nat), (l.flatMap f).drop (i * s) = (l.drop i).flatMap f
  | [], i => by simp
  | a :: l, 0 => by simp
  | a :: l, i + 1 => by
    have ha := hu a
    rw [List.flatMap_cons, List.drop_append, List.drop_of_length_le (by rw [ha, Nat.add_mul]; omega), ha, show (i + 1) * s - s = i * s from by rw [Nat.add_mul]; omega, fm_drop hu l, List.nil_append, List.drop_succ_cons]
theorem fm_get (hu : ∀ a, (f a).length = s) {l : List α} {i : Nat} (hi : i < l.length) : ((l.flatMap f).drop (i * s)).take s = f l[i] := by
  rw [fm_drop hu, List.drop_eq_getElem_cons hi, List.flatMap_cons, List.take_left' (hu _)]
theorem pureL_append : ∀ {a b : List DV}, pureL a = true → pureL b = true → pureL (a ++ b) = true
  | [], _, _, h => h
  | d :: r, b, h1, h2 => by simp only [List.cons_append, pureL, Bool.and_eq_true] at *; exact ⟨h1.1, pureL_append h1.2 h2⟩
theorem fm_pure (hp : ∀ a, pureL (f a) = true) : ∀ (l : List α), pureL (l.flatMap f) = true
  | [] => rfl
  | a :: l => by rw [List.flatMap_cons]; exact pureL_append (hp a) (fm_pure hp l)
theorem fm_set (hu : ∀ a, (f a).length = s) {l : List α} {i : Nat} (hi : i < l.length) (b : α) : splice (l.flatMap f) (i * s) (f b) = (l.set i b).flatMap f := by
  unfold splice
  rw [fm_take hu, hu b, show i * s + s = (i + 1) * s by rw [Nat.add_mul, Nat.one_mul], fm_drop hu, List.set_eq_take_append_cons_drop, if_pos hi]
  simp
theorem dv_pure (hp : ∀ a, pureL (f a) = true) (x : Sl α) : pureD (x.dv s f) = true := by
  obtain ⟨k, l, h, hb1⟩ := x
  cases k with
  | none => rfl
  | some b => show pureL _ = true; exact fm_pure hp l
theorem dv_one (x : Sl α) : (x.dv s f).one = true := by obtain ⟨k, l, h, hb1⟩ := x; cases k <;> rfl
theorem dv_known (x : Sl α) : (x.dv s f).known = true := by obtain ⟨k, l, h, hb1⟩ := x; cases k <;> rfl
theorem dv_cells (x : Sl α) : (x.dv s f).cells = [x.dv s f] := by obtain ⟨k, l, h, hb1⟩ := x; cases k <;> rfl
theorem lenD_dv : lenD h (x.dv s f) = some (.int .i64 x.l.length) := by
  obtain ⟨k, l, h, hb1⟩ := x
  cases k with
  | none => cases h rfl; rfl
  | some b => rfl
theorem idxSD_dv (hu : ∀ a, (f a).length = s) {i : Nat} (hi : i < x.l.length) : idxSD h s (x.dv s f) i = some (.ref (f x.l[i])) := by
  obtain ⟨k, l, h, hb1⟩ := x
  cases k with
  | none => cases h rfl; simp at hi
  | some b =>
    simp only [Sl.dv, slD_some]
    rw [idxSD_sl (by omega) (by simp only at hi; omega), Int.toNat_natCast, fm_get hu hi]
theorem visS_dv (hu : ∀ a, (f a).length = s) : visS h (x.dv s f) = some (x.l.length, x.l.flatMap f) := visS_slD (fun e => by simp [x.h e]) (fm_len hu _)
theorem visY_dv (hu : ∀ a, (f a).length = s) : visY h (x.dv s f) = some (x.l.length, x.l.flatMap f) := by
  rw [← visS_dv (h := h) hu]
  obtain ⟨k, l, h, hb1⟩ := x; cases k <;> rfl
def Sl.part (x : Sl α) (i j : Nat) (b : Bool) : Sl α := ⟨x.k.map fun c => c && b, (x.l.drop i).take (j - i), fun e => by simp at e; simp [x.h e], by have := x.b; simp; omega⟩
theorem slcSD_dv (hu : ∀ a, (f a).length = s) {lo hi : Option DV} {i j : Nat} (hb : boundsD x.l.length lo hi = some (i, j)) (hij : j ≤ x.l.length) : slcSD h s (x.dv s f) lo hi none = some ((x.part i j (j == x.l.length)).dv s f) := by
  obtain ⟨k, l, h, hb1⟩ := x
  cases k with
  | none => cases h rfl; simp at hb hij; simp only [Sl.dv, slD_none, Sl.part, Option.map_none]; rw [slcSD_nils hb]
  | some b =>
    simp only at hb hij
    simp only [Sl.dv, slD_some, Sl.part, Option.map_some]
    rw [slcSD_sl hb, fm_drop hu, fm_take hu]
    simp only [List.length_take, List.length_drop]
    congr 2
    omega
theorem nilKind_dv : nilKind h (x.dv s f) = some (0, x.k.isNone) := by obtain ⟨k, l, h, hb1⟩ := x; cases k <;> rfl
end
structure Grp where
  ns : List UInt8
  im : List UInt8
  want : Int
  least : Int
  down : Int
  ch : Sl Dg
def grC (g : Grp) : List DV := [.str g.ns, .str g.im, .int .i64 g.want, .int .i64 g.least, .int .i64 g.down, g.ch.dv 32 dgC]
structure Ins where
  id : Int
  grp : Int
  art : Dg
  state : Int
  since : Int
  den : Int
  deriving DecidableEq
def inC (x : Ins) : List DV := .int .i64 x.id :: .int .i64 x.grp :: (dgC x.art ++ [.int .i64 x.state, .int .i64 x.since, .int .i64 x.den])
structure Clu where
  g : Sl Grp
  i : Sl Ins
  next : Int
def clC (c : Clu) : List DV := [c.g.dv 6 grC, c.i.dv 37 inC, .int .i64 c.next]
theorem len_grC (g : Grp) : (grC g).length = 6 := by simp [grC]
theorem len_inC (x : Ins) : (inC x).length = 37 := by simp [inC, len_dgC]
theorem len_clC (c : Clu) : (clC c).length = 3 := by simp [clC]
theorem pure_dv32 (x : Sl Dg) : pureD (x.dv 32 dgC) = true := dv_pure pure_dgC x
theorem pure_grC (g : Grp) : pureL (grC g) = true := by simp [grC, pureL, pureD, pure_dv32]
theorem pure_inC (x : Ins) : pureL (inC x) = true := by
  simp only [inC, pureL, pureD, Bool.true_and]
  exact pureL_append (pure_dgC _) (by simp [pureL, pureD])
theorem pure_dv6 (x : Sl Grp) : pureD (x.dv 6 grC) = true := dv_pure pure_grC x
theorem pure_dv37 (x : Sl Ins) : pureD (x.dv 37 inC) = true := dv_pure pure_inC x
theorem pure_clC (c : Clu) : pureL (clC c) = true := by simp [clC, pureL, pureD, pure_dv6, pure_dv37]
theorem inC_drop2 (x : Ins) : (inC x).drop 2 = dgC x.art ++ [.int .i64 x.state, .int .i64 x.since, .int .i64 x.den] := rfl
theorem inC_drop34 (x : Ins) : (inC x).drop 34 = [.int .i64 x.state, .int .i64 x.since, .int .i64 x.den] := by
  rw [show (34 : Nat) = 2 + 32 from rfl, ← List.drop_drop, inC_drop2, List.drop_left' (len_dgC _)]
theorem inC_drop35 (x : Ins) : (inC x).drop 35 = [.int .i64 x.since, .int .i64 x.den] := by
  rw [show (35 : Nat) = 34 + 1 from rfl, ← List.drop_drop, inC_drop34]; rfl
theorem inC_drop36 (x : Ins) : (inC x).drop 36 = [.int .i64 x.den] := by
  rw [show (36 : Nat) = 34 + 2 from rfl, ← List.drop_drop, inC_drop34]; rfl
section
variable {x : Ins} {g : Grp} {c : Clu} {d : Dg} {r : List DV}
theorem one_in0 : one 1 false (inC x) = some (.int .i64 x.id) := rfl
theorem one_in1 : one 1 false ((inC x).drop 1) = some (.int .i64 x.grp) := rfl
theorem one_in2 : one 32 true ((inC x).drop 2) = some (.agg (dgC x.art)) := by
  rw [inC_drop2]; simp only [one, if_true]; rw [if_pos (by simp [len_dgC]), List.take_left' (len_dgC _)]
theorem one_in34 : one 1 false ((inC x).drop 34) = some (.int .i64 x.state) := by rw [inC_drop34]; rfl
theorem one_in35 : one 1 false ((inC x).drop 35) = some (.int .i64 x.since) := by rw [inC_drop35]; rfl
theorem one_in36 : one 1 false ((inC x).drop 36) = some (.int .i64 x.den) := by rw [inC_drop36]; rfl
theorem one_in : one 37 true (inC x) = some (.agg (inC x)) := by simp [one, len_inC, List.take_of_length_le]
theorem one_gr : one 6 true (grC g) = some (.agg (grC g)) := rfl
theorem one_gr0 : one 1 false (grC g) = some (.str g.ns) := rfl
theorem one_gr1 : one 1 false ((grC g).drop 1) = some (.str g.im) := rfl
theorem one_gr2 : one 1 false ((grC g).drop 2) = some (.int .i64 g.want) := rfl
theorem one_gr3 : one 1 false ((grC g).drop 3) = some (.int .i64 g.least) := rfl
theorem one_gr4 : one 1 false ((grC g).drop 4) = some (.int .i64 g.down) := rfl
theorem one_gr5 : one 1 false ((grC g).drop 5) = some (g.ch.dv 32 dgC) := rfl
theorem one_cl : one 3 true (clC c) = some (.agg (clC c)) := rfl
theorem one_cl0 : one 1 false (clC c) = some (c.g.dv 6 grC) := rfl
theorem one_cl1 : one 1 false ((clC c).drop 1) = some (c.i.dv 37 inC) := rfl
theorem one_cl2 : one 1 false ((clC c).drop 2) = some (.int .i64 c.next) := rfl
theorem one_dg : one 32 true (dgC d) = some (.agg (dgC d)) := by simp [one, len_dgC, List.take_of_length_le]
theorem getf_in {off n : Nat} {a : Bool} (hl : off + n ≤ 37) : getfD off n a (.agg (inC x)) = one n a ((inC x).drop off) := by simp [getfD, len_inC, hl]
theorem getf_gr {off n : Nat} {a : Bool} (hl : off + n ≤ 6) : getfD off n a (.agg (grC g)) = one n a ((grC g).drop off) := by simp [getfD, len_grC, hl]
theorem getf_cl {off n : Nat} {a : Bool} (hl : off + n ≤ 3) : getfD off n a (.agg (clC c)) = one n a ((clC c).drop off) := by simp [getfD, len_clC, hl]
end
attribute [simp] len_dgC len_grC len_inC len_clC lenD_dv nilKind_dv dv_one dv_known dv_cells one_in0 one_in1 one_in2 one_in34 one_in35 one_in36 one_in one_gr one_gr0 one_gr1 one_gr2 one_gr3 one_gr4 one_gr5 one_cl one_cl0 one_cl1 one_cl2 one_dg getf_in getf_gr getf_cl pure_dgC pure_grC pure_inC pure_clC pure_dv32 pure_dv6 pure_dv37
theorem cellsEq_append : ∀ {ks1 ks2 : List Nat} {a1 a2 b1 b2 : List DV}, a1.length = ks1.length → b1.length = ks1.length → cellsEq (ks1 ++ ks2) (a1 ++ a2) (b1 ++ b2) = (cellsEq ks1 a1 b1).bind fun p => (cellsEq ks2 a2 b2).map fun q => p && q
  | [], ks2, [], a2, [], b2, _, _ => by simp [cellsEq]
  | k :: ks1, ks2, x :: a1, a2, y :: b1, b2, h1, h2 => by
    simp only [List.cons_append, cellsEq, cellsEq_append (ks1 := ks1) (a1 := a1) (b1 := b1) (by simpa using h1) (by simpa using h2)]
    cases cellEq k x y <;> simp only [Option.bind_none, Option.bind_some]
    cases cellsEq ks1 a1 b1 <;> simp only [Option.bind_none, Option.bind_some, Option.map_none, Option.map_some]
    cases cellsEq ks2 a2 b2 <;> simp only [Option.map_none, Option.map_some, Bool.and_assoc]
theorem cellsEq_dg {a b : Dg} : cellsEq (kindsOf [(32, 0)]) (dgC a) (dgC b) = some (decide (a = b)) := by
  rw [dgC, dgC, cellsEq_w8 a.2 b.2]
  simp only [Subtype.ext_iff]
theorem cellsEq_i3 {a b c a' b' c' : Int} : cellsEq [0, 0, 0] [.int .i64 a, .int .i64 b, .int .i64 c] [.int .i64 a', .int .i64 b', .int .i64 c'] = some (decide (a = a' ∧ b = b' ∧ c = c')) := by
  simp [cellsEq, cellEq]; rfl
theorem cellsEq_i2 {a b a' b' : Int} : cellsEq [0, 0] [.int .i64 a, .int .i64 b] [.int .i64 a', .int .i64 b'] = some (decide (a = a' ∧ b = b')) := by
  simp [cellsEq, cellEq]; rfl
theorem cellsEq_in {x y : Ins} : cellsEq (kindsOf [(37, 0)]) (inC x) (inC y) = some (decide (x = y)) := by
  have e : kindsOf [(37, 0)] = [0, 0] ++ (kindsOf [(32, 0)] ++ [0, 0, 0]) := by decide
  have e1 : ∀ x : Ins, inC x = [.int .i64 x.id, .int .i64 x.grp] ++ (dgC x.art ++ [.int .i64 x.state, .int .i64 x.since, .int .i64 x.den]) := fun _ => rfl
  rw [e, e1, e1, cellsEq_append rfl rfl, cellsEq_append (by simp [len_dgC, kindsOf]) (by simp [len_dgC, kindsOf]), cellsEq_dg, cellsEq_i2, cellsEq_i3]
  obtain ⟨a, b, c, d, e, f⟩ := x
  obtain ⟨a', b', c', d', e', f'⟩ := y
  simp only [Option.bind_some, Option.map_some, Ins.mk.injEq, Option.some.injEq, Bool.decide_and, Bool.and_assoc]
theorem map_dg0 : List.map w8 (rep 32 0#8) = dgC dg0 := rfl
attribute [simp] cellsEq_dg cellsEq_in map_dg0
def ixI {α : Type} (p : α → Bool) : List α → Int
  | [] => -1
  | a :: l => if p a = true then 0 else if ixI p l < 0 then -1 else ixI p l + 1
theorem ixI_ge {α : Type} (p : α → Bool) : ∀ l : List α, -1 ≤ ixI p l
  | [] => by simp [ixI]
  | a :: l => by have := ixI_ge p l; simp only [ixI]; split <;> (try split) <;> omega
theorem ixI_at {α : Type} {p : α → Bool} : ∀ {l : List α} {i : Nat} (hi : i < l.length), p l[i] = true → (∀ j (hj : j < l.length), j < i → p l[j] = false) → ixI p l = i
  | a :: l, 0, hi, h1, h2 => by simp at h1; simp [ixI, h1]
  | a :: l, i + 1, hi, h1, h2 => by
    have h0 : p a = false := h2 0 (by simp) (by omega)
    have ih := ixI_at (p := p) (l := l) (i := i) (by simpa using hi) (by simpa using h1) (fun j hj hji => h2 (j + 1) (by simpa using hj) (by omega))
    simp only [ixI, h0, Bool.false_eq_true, if_false, ih]
    rw [if_neg (by omega)]; omega
theorem ixI_none {α : Type} {p : α → Bool} : ∀ {l : List α}, (∀ j (hj : j < l.length), p l[j] = false) → ixI p l = -1
  | [], _ => rfl
  | a :: l, h => by
    have h0 : p a = false := h 0 (by simp)
    have ih := ixI_none (p := p) (l := l) (fun j hj => h (j + 1) (by simpa using hj))
    simp [ixI, h0, ih]
theorem ixI_neg {α : Type} {p : α → Bool} : ∀ {l : List α}, ixI p l < 0 → ∀ j (hj : j < l.length), p l[j] = false
  | [], _, j, hj => by simp at hj
  | a :: l, h, j, hj => by
    simp only [ixI] at h
    split at h
    · omega
    · rename_i h0
      split at h
      · rename_i h1
        cases j with
        | zero => simpa using h0
        | succ j => simpa using ixI_neg h1 j (by simpa using hj)
      · omega
theorem ixI_pos {α : Type} {p : α → Bool} : ∀ {l : List α}, 0 ≤ ixI p l → ∃ (i : Nat) (hi : i < l.length), ixI p l = i ∧ p l[i] = true ∧ ∀ j (hj : j < l.length), j < i → p l[j] = false
  | [], h => by simp [ixI] at h
  | a :: l, h => by
    by_cases h0 : p a = true
    · exact ⟨0, by simp, by simp [ixI, h0], by simpa using h0, fun j _ hj => by omega⟩
    · have hh := h
      simp only [ixI] at hh
      rw [if_neg h0] at hh
      split at hh
      · omega
      · rename_i h1
        obtain ⟨i, hi, e1, e2, e3⟩ := ixI_pos (p := p) (l := l) (by omega)
        refine ⟨i + 1, by simpa using hi, ?_, by simpa using e2, fun j hj hji => ?_⟩
        · simp only [ixI, h0, if_false, if_neg h1, e1, Bool.false_eq_true]; omega
        · cases j with
          | zero => simpa using h0
          | succ j => simpa using e3 j (by simpa using hj) (by omega)
end Go.Proofs.YtdnhbfmlklaldaaGreat
set_option linter.unusedSimpArgs false
set_option linter.unusedVariables false
namespace Go.Proofs.YtdnhbfmlklaldaaGreat
open Go Go.Am
def okCh (l : List Dg) : Prop := ∀ i (h : i < l.length), l[i] ≠ dg0 ∧ l[i] ∉ l.take i
structure ValidG (g : Grp) : Prop where
  ns : pathD g.ns = true
  im : pathD g.im = true
  w0 : 0 ≤ g.want
  w1 : g.want ≤ 8
  l0 : 0 ≤ g.least
  l1 : g.least ≤ g.want
  d0 : 0 ≤ g.down
  d1 : g.down ≤ g.want
  n : g.ch.l.length ≤ 6
  ch : okCh g.ch.l
def fitG (ns im : List UInt8) (g : Grp) : Bool := decide (g.ns = ns) && decide (g.im = im)
def grpIx (l : List Grp) (ns im : List UInt8) : Int := ixI (fitG ns im) l
abbrev timeOK (t : Int) : Prop := 0 ≤ t ∧ t ≤ 1099511627776
structure SoundI (n : Nat) (next : Int) (x : Ins) : Prop where
  id0 : 1 ≤ x.id
  id1 : x.id < next
  g0 : 0 ≤ x.grp
  g1 : x.grp < n
  art : x.art ≠ dg0
  s0 : 1 ≤ x.state
  s1 : x.state ≤ 3
  si : timeOK x.since
  de : x.den = -1 ∨ timeOK x.den
structure ValidC (c : Clu) : Prop where
  ng : c.g.l.length ≤ 16
  ni : c.i.l.length ≤ 200
  n0 : 1 ≤ c.next
  n1 : c.next ≤ 1099511627776
  g : ∀ i (h : i < c.g.l.length), ValidG c.g.l[i] ∧ grpIx c.g.l c.g.l[i].ns c.g.l[i].im = i
  i : ∀ i (h : i < c.i.l.length), SoundI c.g.l.length c.next c.i.l[i] ∧ (∀ h0 : 0 < i, c.i.l[i - 1].id < c.i.l[i].id)
def Sl.clone {α : Type} (x : Sl α) : Sl α := ⟨if x.l = [] then x.k.map fun _ => true else some false, x.l, fun e => by
  by_cases h : x.l = []
  · exact h
  · simp [h] at e, x.b⟩
def own {α : Type} (l : List α) : Sl α := if h : l.length ≤ 4294967296 then ⟨some false, l, by simp, h⟩ else ⟨none, [], fun _ => rfl, by simp⟩
theorem own_l {α : Type} {l : List α} (h : l.length ≤ 4294967296) : (own l).l = l := by rw [own, dif_pos h]
theorem own_dv {α : Type} {l : List α} {s : Nat} {f : α → List DV} (h : l.length ≤ 4294967296) : (own l).dv s f = .sl false s l.length (l.flatMap f) := by rw [own, dif_pos h]; rfl
def Grp.clone (g : Grp) : Grp := { g with ch := g.ch.clone }
def Clu.clone (c : Clu) : Clu := ⟨⟨c.g.clone.k, c.g.l.map Grp.clone, fun e => by simp [show c.g.l = [] from c.g.clone.h e], by have := c.g.b; simpa using this⟩, c.i.clone, c.next⟩
def gl (g : Grp) : List UInt8 × List UInt8 × Int × Int × Int × List Dg := (g.ns, g.im, g.want, g.least, g.down, g.ch.l)
structure SameC (a b : Clu) : Prop where
  g : a.g.l.map gl = b.g.l.map gl
  i : a.i.l = b.i.l
  n : a.next = b.next
theorem SameC.refl (a : Clu) : SameC a a := ⟨rfl, rfl, rfl⟩
def Ins.st (x : Ins) (v : Int) : Ins := ⟨x.id, x.grp, x.art, v, x.since, x.den⟩
def Ins.si (x : Ins) (v : Int) : Ins := ⟨x.id, x.grp, x.art, x.state, v, x.den⟩
def Ins.de (x : Ins) (v : Int) : Ins := ⟨x.id, x.grp, x.art, x.state, x.since, v⟩
end Go.Proofs.YtdnhbfmlklaldaaGreat
set_option linter.unusedSimpArgs false
set_option linter.unusedVariables false
namespace Go.Proofs.YtdnhbfmlklaldaaGreat
open Go Go.Am
noncomputable abbrev P : Program := Tryz.prog
theorem mix : P.follows .mixedOrders = true := by kernel_rfl
def a63 : AFn where
  code := (.seq (.region false [⟨none, (some 2), .mov (.k (.bool false))⟩])
  (.seq (.region false [⟨none, (some 3), .mov (.t 0)⟩,
    ⟨none, (some 4), .mov (.t 0)⟩,
    ⟨none, (some 5), .bin .neq (.t 3) (.t 4)⟩,
    ⟨none, (some 2), .mov (.t 5)⟩])
  .ret))
  ntmps := 6
  res := [.tmp 2]
theorem a63_ok : compileFn P Tryz.f63 = some a63 := by kernel_rfl
def a150 : AFn where
  code := (.seq (.region false [⟨none, (some 4), .mov (.k (.bool false))⟩])
  (.seq (.region false [⟨none, (some 5), .mov (.t 0)⟩,
    ⟨none, (some 6), .call (.k (.fn (.func 63) [] [])) [(.t 5)]⟩,
    ⟨none, (some 7), .mov (.t 6)⟩,
    ⟨(some (7, true)), (some 8), .mov (.t 1)⟩,
    ⟨(some (7, true)), (some 9), .call (.k (.fn (.func 63) [] [])) [(.t 8)]⟩,
    ⟨(some (7, true)), (some 10), .un .not (.t 9)⟩,
    ⟨none, (some 11), .pick (.t 7) (.t 10) (.k (.bool false))⟩,
    ⟨none, (some 12), .mov (.t 11)⟩,
    ⟨(some (12, false)), (some 13), .mov (.t 0)⟩,
    ⟨(some (12, false)), (some 14), .mov (.t 1)⟩,
    ⟨(some (12, false)), (some 15), .bin .lss (.t 13) (.t 14)⟩,
    ⟨none, (some 16), .pick (.t 12) (.k (.bool true)) (.t 15)⟩,
    ⟨none, (some 4), .mov (.t 16)⟩])
  .ret))
  ntmps := 17
  res := [.tmp 4]
theorem a150_ok : compileFn P Tryz.f150 = some a150 := by kernel_rfl
def a144L1 : ACode :=
  (.seq (.seq (.region true [⟨none, (some 16), .mov (.t 7)⟩,
    ⟨none, (some 17), .mov (.t 1)⟩,
    ⟨none, (some 18), .bin .gtr (.t 16) (.t 17)⟩,
    ⟨none, (some 19), .mov (.t 18)⟩,
    ⟨(some (19, true)), (some 20), .mov (.t 0)⟩,
    ⟨(some (19, true)), (some 21), .mov (.t 7)⟩,
    ⟨(some (19, true)), (some 22), .idxS 1 (.t 20) (.t 21)⟩,
    ⟨(some (19, true)), (some 23), .load 1 false (.t 22)⟩,
    ⟨(some (19, true)), (some 24), .mov (.t 0)⟩,
    ⟨(some (19, true)), (some 25), .mov (.t 7)⟩,
    ⟨(some (19, true)), (some 26), .bin .sub (.t 25) (.k (.int .i64 1))⟩,
    ⟨(some (19, true)), (some 27), .idxS 1 (.t 24) (.t 26)⟩,
    ⟨(some (19, true)), (some 28), .load 1 false (.t 27)⟩,
    ⟨(some (19, true)), (some 29), .callN (.k (.fn (.func 150) [] [])) [(.t 23), (.t 28)]⟩,
    ⟨none, (some 30), .pick (.t 19) (.t 29) (.k (.bool false))⟩])
  (.cond (.t 30) .skip
  (.exit 2)))
  (.seq (.block 3 (.region true [⟨none, (some 33), .mov (.t 0)⟩,
    ⟨none, (some 34), .mov (.t 7)⟩,
    ⟨none, (some 35), .mov (.t 0)⟩,
    ⟨none, (some 36), .mov (.t 7)⟩,
    ⟨none, (some 37), .bin .sub (.t 36) (.k (.int .i64 1))⟩,
    ⟨none, (some 38), .mov (.t 0)⟩,
    ⟨none, (some 39), .mov (.t 7)⟩,
    ⟨none, (some 40), .bin .sub (.t 39) (.k (.int .i64 1))⟩,
    ⟨none, (some 41), .idxS 1 (.t 38) (.t 40)⟩,
    ⟨none, (some 42), .load 1 false (.t 41)⟩,
    ⟨none, (some 43), .mov (.t 0)⟩,
    ⟨none, (some 44), .mov (.t 7)⟩,
    ⟨none, (some 45), .idxS 1 (.t 43) (.t 44)⟩,
    ⟨none, (some 46), .load 1 false (.t 45)⟩,
    ⟨none, (some 47), .idxS 1 (.t 33) (.t 34)⟩,
    ⟨none, none, .store 1 (.t 47) (.t 42)⟩,
    ⟨none, (some 48), .idxS 1 (.t 35) (.t 37)⟩,
    ⟨none, none, .store 1 (.t 48) (.t 46)⟩]))
  (.region false [⟨none, (some 31), .mov (.t 7)⟩,
    ⟨none, (some 32), .bin .sub (.t 31) (.k (.int .i64 1))⟩,
    ⟨none, (some 7), .mov (.t 32)⟩])))
def a144S1 (x0 x1 x2 x6 x7 : DV) (h : List AObj) : St := ⟨[x0, x1, x2, .junk, .junk, .junk, x6, x7] ++ js 41, h⟩
def a144L0 : ACode :=
  (.seq (.seq (.region false [⟨none, (some 10), .mov (.t 6)⟩,
    ⟨none, (some 11), .mov (.t 2)⟩,
    ⟨none, (some 12), .bin .lss (.t 10) (.t 11)⟩])
  (.cond (.t 12) .skip
  (.exit 0)))
  (.seq (.block 1 (.seq (.region false [⟨none, (some 15), .mov (.t 6)⟩,
    ⟨none, (some 7), .mov (.t 15)⟩])
  (.block 2 (.loop a144L1))))
  (.region false [⟨none, (some 13), .mov (.t 6)⟩,
    ⟨none, (some 14), .bin .add (.t 13) (.k (.int .i64 1))⟩,
    ⟨none, (some 6), .mov (.t 14)⟩])))
def a144S0 (x0 x1 x2 x6 : DV) (h : List AObj) : St := ⟨[x0, x1, x2, .junk, .junk, .junk, x6] ++ js 42, h⟩
def a144 : AFn where
  code := (.seq (.region false [⟨none, (some 8), .mov (.t 1)⟩,
    ⟨none, (some 9), .bin .add (.t 8) (.k (.int .i64 1))⟩,
    ⟨none, (some 6), .mov (.t 9)⟩])
  (.block 0 (.loop a144L0)))
  ntmps := 49
  res := []
theorem a144_ok : compileFn P Tryz.f144 = some a144 := by kernel_rfl
def a140L0 : ACode :=
  (.block 1 (.seq (.region false [⟨none, (some 19), .mov (.t 2)⟩,
    ⟨none, (some 20), .mov (.t 1)⟩,
    ⟨none, (some 21), .bin .sub (.t 19) (.t 20)⟩,
    ⟨none, (some 10), .mov (.t 21)⟩])
  (.seq (.seq (.region false [⟨none, (some 22), .mov (.t 10)⟩,
    ⟨none, (some 23), .bin .leq (.t 22) (.k (.int .i64 12))⟩])
  (.cond (.t 23) (.seq (.region false [⟨none, (some 24), .mov (.t 0)⟩,
    ⟨none, (some 25), .mov (.t 1)⟩,
    ⟨none, (some 26), .mov (.t 2)⟩,
    ⟨none, (some 27), .call (.k (.fn (.func 144) [] [])) [(.t 24), (.t 25), (.t 26)]⟩])
  .ret)
  .skip))
  (.seq (.seq (.region false [⟨none, (some 28), .mov (.t 3)⟩,
    ⟨none, (some 29), .bin .eql (.t 28) (.k (.int .i64 0))⟩])
  (.cond (.t 29) (.seq (.region false [⟨none, (some 30), .mov (.t 0)⟩,
    ⟨none, (some 31), .mov (.t 1)⟩,
    ⟨none, (some 32), .mov (.t 2)⟩,
    ⟨none, (some 33), .call (.k (.fn (.func 145) [] [])) [(.t 30), (.t 31), (.t 32)]⟩])
  .ret)
  .skip))
  (.seq (.seq (.region false [⟨none, (some 34), .mov (.t 8)⟩,
    ⟨none, (some 35), .un .not (.t 34)⟩])
  (.cond (.t 35) (.seq (.region false [⟨none, (some 36), .mov (.t 0)⟩,
    ⟨none, (some 37), .mov (.t 1)⟩,
    ⟨none, (some 38), .mov (.t 2)⟩,
    ⟨none, (some 39), .call (.k (.fn (.func 146) [] [])) [(.t 36), (.t 37), (.t 38)]⟩])
  (.region false [⟨none, (some 40), .mov (.t 3)⟩,
    ⟨none, (some 41), .bin .sub (.t 40) (.k (.int .i64 1))⟩,
    ⟨none, (some 3), .mov (.t 41)⟩]))
  .skip))
  (.seq (.region false [⟨none, (some 43), .mov (.t 0)⟩,
    ⟨none, (some 44), .mov (.t 1)⟩,
    ⟨none, (some 45), .mov (.t 2)⟩,
    ⟨none, (some 46), .call (.k (.fn (.func 147) [] [])) [(.t 43), (.t 44), (.t 45)]⟩,
    ⟨none, (some 42), .mov (.t 46)⟩,
    ⟨none, (some 47), .ext (.t 42) 0⟩,
    ⟨none, (some 48), .ext (.t 42) 1⟩,
    ⟨none, (some 11), .mov (.t 47)⟩,
    ⟨none, (some 12), .mov (.t 48)⟩])
  (.seq (.seq (.region false [⟨none, (some 49), .mov (.t 12)⟩,
    ⟨none, (some 50), .bin .eql (.t 49) (.k (.int .i64 2))⟩])
  (.cond (.t 50) (.seq (.region false [⟨none, (some 51), .mov (.t 0)⟩,
    ⟨none, (some 52), .mov (.t 1)⟩,
    ⟨none, (some 53), .mov (.t 2)⟩,
    ⟨none, (some 54), .call (.k (.fn (.func 148) [] [])) [(.t 51), (.t 52), (.t 53)]⟩])
  (.seq (.region false [⟨none, (some 55), .mov (.t 2)⟩,
    ⟨none, (some 56), .bin .sub (.t 55) (.k (.int .i64 1))⟩,
    ⟨none, (some 57), .mov (.t 11)⟩,
    ⟨none, (some 58), .mov (.t 1)⟩,
    ⟨none, (some 59), .bin .sub (.t 57) (.t 58)⟩,
    ⟨none, (some 60), .bin .sub (.t 56) (.t 59)⟩,
    ⟨none, (some 11), .mov (.t 60)⟩])
  (.region false [⟨none, (some 12), .mov (.k (.int .i64 1))⟩])))
  .skip))
  (.seq (.seq (.region false [⟨none, (some 61), .mov (.t 8)⟩,
    ⟨none, (some 62), .mov (.t 61)⟩,
    ⟨(some (62, true)), (some 63), .mov (.t 9)⟩,
    ⟨none, (some 64), .pick (.t 62) (.t 63) (.k (.bool false))⟩,
    ⟨none, (some 65), .mov (.t 64)⟩,
    ⟨(some (65, true)), (some 66), .mov (.t 12)⟩,
    ⟨(some (65, true)), (some 67), .bin .eql (.t 66) (.k (.int .i64 1))⟩,
    ⟨none, (some 68), .pick (.t 65) (.t 67) (.k (.bool false))⟩])
  (.cond (.t 68) (.seq (.region false [⟨none, (some 69), .mov (.t 0)⟩,
    ⟨none, (some 70), .mov (.t 1)⟩,
    ⟨none, (some 71), .mov (.t 2)⟩,
    ⟨none, (some 72), .call (.k (.fn (.func 149) [] [])) [(.t 69), (.t 70), (.t 71)]⟩])
  (.cond (.t 72) .ret
  .skip))
  .skip))
  (.seq (.seq (.region true [⟨none, (some 73), .mov (.t 1)⟩,
    ⟨none, (some 74), .bin .gtr (.t 73) (.k (.int .i64 0))⟩,
    ⟨none, (some 75), .mov (.t 74)⟩,
    ⟨(some (75, true)), (some 76), .mov (.t 0)⟩,
    ⟨(some (75, true)), (some 77), .mov (.t 1)⟩,
    ⟨(some (75, true)), (some 78), .bin .sub (.t 77) (.k (.int .i64 1))⟩,
    ⟨(some (75, true)), (some 79), .idxS 1 (.t 76) (.t 78)⟩,
    ⟨(some (75, true)), (some 80), .load 1 false (.t 79)⟩,
    ⟨(some (75, true)), (some 81), .mov (.t 0)⟩,
    ⟨(some (75, true)), (some 82), .mov (.t 11)⟩,
    ⟨(some (75, true)), (some 83), .idxS 1 (.t 81) (.t 82)⟩,
    ⟨(some (75, true)), (some 84), .load 1 false (.t 83)⟩,
    ⟨(some (75, true)), (some 85), .callN (.k (.fn (.func 150) [] [])) [(.t 80), (.t 84)]⟩,
    ⟨(some (75, true)), (some 86), .un .not (.t 85)⟩,
    ⟨none, (some 87), .pick (.t 75) (.t 86) (.k (.bool false))⟩])
  (.cond (.t 87) (.seq (.region false [⟨none, (some 88), .mov (.t 0)⟩,
    ⟨none, (some 89), .mov (.t 1)⟩,
    ⟨none, (some 90), .mov (.t 2)⟩,
    ⟨none, (some 91), .mov (.t 11)⟩,
    ⟨none, (some 92), .call (.k (.fn (.func 151) [] [])) [(.t 88), (.t 89), (.t 90), (.t 91)]⟩,
    ⟨none, (some 13), .mov (.t 92)⟩])
  (.seq (.region false [⟨none, (some 93), .mov (.t 13)⟩,
    ⟨none, (some 1), .mov (.t 93)⟩])
  (.exit 1)))
  .skip))
  (.seq (.region false [⟨none, (some 95), .mov (.t 0)⟩,
    ⟨none, (some 96), .mov (.t 1)⟩,
    ⟨none, (some 97), .mov (.t 2)⟩,
    ⟨none, (some 98), .mov (.t 11)⟩,
    ⟨none, (some 99), .call (.k (.fn (.func 152) [] [])) [(.t 95), (.t 96), (.t 97), (.t 98)]⟩,
    ⟨none, (some 94), .mov (.t 99)⟩,
    ⟨none, (some 100), .ext (.t 94) 0⟩,
    ⟨none, (some 101), .ext (.t 94) 1⟩,
    ⟨none, (some 14), .mov (.t 100)⟩,
    ⟨none, (some 15), .mov (.t 101)⟩])
  (.seq (.region false [⟨none, (some 102), .mov (.t 15)⟩,
    ⟨none, (some 9), .mov (.t 102)⟩])
  (.seq (.region false [⟨none, (some 103), .mov (.t 14)⟩,
    ⟨none, (some 104), .mov (.t 1)⟩,
    ⟨none, (some 105), .bin .sub (.t 103) (.t 104)⟩,
    ⟨none, (some 106), .mov (.t 2)⟩,
    ⟨none, (some 107), .mov (.t 14)⟩,
    ⟨none, (some 108), .bin .sub (.t 106) (.t 107)⟩,
    ⟨none, (some 16), .mov (.t 105)⟩,
    ⟨none, (some 17), .mov (.t 108)⟩])
  (.seq (.region false [⟨none, (some 109), .mov (.t 10)⟩,
    ⟨none, (some 110), .bin .quo (.t 109) (.k (.int .i64 8))⟩,
    ⟨none, (some 18), .mov (.t 110)⟩])
  (.seq (.region false [⟨none, (some 111), .mov (.t 16)⟩,
    ⟨none, (some 112), .mov (.t 17)⟩,
    ⟨none, (some 113), .bin .lss (.t 111) (.t 112)⟩])
  (.cond (.t 113) (.seq (.region false [⟨none, (some 114), .mov (.t 16)⟩,
    ⟨none, (some 115), .mov (.t 18)⟩,
    ⟨none, (some 116), .bin .geq (.t 114) (.t 115)⟩,
    ⟨none, (some 8), .mov (.t 116)⟩])
  (.seq (.region false [⟨none, (some 117), .mov (.t 0)⟩,
    ⟨none, (some 118), .mov (.t 1)⟩,
    ⟨none, (some 119), .mov (.t 14)⟩,
    ⟨none, (some 120), .mov (.t 3)⟩,
    ⟨none, (some 121), .call (.k (.fn (.func 140) [] [])) [(.t 117), (.t 118), (.t 119), (.t 120)]⟩])
  (.region false [⟨none, (some 122), .mov (.t 14)⟩,
    ⟨none, (some 123), .bin .add (.t 122) (.k (.int .i64 1))⟩,
    ⟨none, (some 1), .mov (.t 123)⟩])))
  (.seq (.region false [⟨none, (some 124), .mov (.t 17)⟩,
    ⟨none, (some 125), .mov (.t 18)⟩,
    ⟨none, (some 126), .bin .geq (.t 124) (.t 125)⟩,
    ⟨none, (some 8), .mov (.t 126)⟩])
  (.seq (.region false [⟨none, (some 127), .mov (.t 0)⟩,
    ⟨none, (some 128), .mov (.t 14)⟩,
    ⟨none, (some 129), .bin .add (.t 128) (.k (.int .i64 1))⟩,
    ⟨none, (some 130), .mov (.t 2)⟩,
    ⟨none, (some 131), .mov (.t 3)⟩,
    ⟨none, (some 132), .call (.k (.fn (.func 140) [] [])) [(.t 127), (.t 129), (.t 130), (.t 131)]⟩])
  (.region false [⟨none, (some 133), .mov (.t 14)⟩,
    ⟨none, (some 2), .mov (.t 133)⟩]))))))))))))))))))
def a140S0 (x0 x1 x2 x3 x8 x9 : DV) (h : List AObj) : St := ⟨[x0, x1, x2, x3] ++ js 4 ++ [x8, x9] ++ js 124, h⟩
def a140 : AFn where
  code := (.seq (.region false [⟨none, (some 8), .mov (.k (.bool true))⟩])
  (.seq (.region false [⟨none, (some 9), .mov (.k (.bool true))⟩])
  (.block 0 (.loop a140L0))))
  ntmps := 134
  res := []
theorem a140_ok : compileFn P Tryz.f140 = some a140 := by kernel_rfl
def a125 : AFn where
  code := (.seq (.region false [⟨none, (some 3), .mov (.t 0)⟩,
    ⟨none, (some 4), .len (.t 3)⟩,
    ⟨none, (some 2), .mov (.t 4)⟩])
  (.region false [⟨none, (some 5), .mov (.t 0)⟩,
    ⟨none, (some 6), .mov (.t 2)⟩,
    ⟨none, (some 7), .mov (.t 2)⟩,
    ⟨none, (some 8), .conv .u64 (.t 7)⟩,
    ⟨none, (some 9), .call (.k (.fn (.func 61) [] [])) [(.t 8)]⟩,
    ⟨none, (some 10), .call (.k (.fn (.func 140) [] [])) [(.t 5), (.k (.int .i64 0)), (.t 6), (.t 9)]⟩]))
  ntmps := 11
  res := []
theorem a125_ok : compileFn P Tryz.f125 = some a125 := by kernel_rfl
def a61 : AFn where
  code := (.seq (.region false [⟨none, (some 2), .mov (.k (.int .i64 0))⟩])
  (.seq (.cond (.k (.bool false)) (.seq (.region false [⟨none, (some 3), .mov (.t 0)⟩,
    ⟨none, (some 4), .conv .u32 (.t 3)⟩,
    ⟨none, (some 5), .call (.k (.fn (.func 102) [] [])) [(.t 4)]⟩,
    ⟨none, (some 2), .mov (.t 5)⟩])
  .ret)
  .skip)
  (.seq (.region false [⟨none, (some 6), .mov (.t 0)⟩,
    ⟨none, (some 7), .call (.k (.fn (.func 103) [] [])) [(.t 6)]⟩,
    ⟨none, (some 2), .mov (.t 7)⟩])
  .ret)))
  ntmps := 8
  res := [.tmp 2]
theorem a61_ok : compileFn P Tryz.f61 = some a61 := by kernel_rfl
def a103 : AFn where
  code := (.seq (.region false [⟨none, (some 2), .mov (.k (.int .i64 0))⟩])
  (.seq (.seq (.region false [⟨none, (some 3), .mov (.t 0)⟩,
    ⟨none, (some 4), .bin .geq (.t 3) (.k (w64 4294967296#64))⟩])
  (.cond (.t 4) (.seq (.region false [⟨none, (some 5), .mov (.t 0)⟩,
    ⟨none, (some 6), .bin .shr (.t 5) (.k (w64 32#64))⟩,
    ⟨none, (some 0), .mov (.t 6)⟩])
  (.region false [⟨none, (some 2), .mov (.k (.int .i64 32))⟩]))
  .skip))
  (.seq (.seq (.region false [⟨none, (some 7), .mov (.t 0)⟩,
    ⟨none, (some 8), .bin .geq (.t 7) (.k (w64 65536#64))⟩])
  (.cond (.t 8) (.seq (.region false [⟨none, (some 9), .mov (.t 0)⟩,
    ⟨none, (some 10), .bin .shr (.t 9) (.k (w64 16#64))⟩,
    ⟨none, (some 0), .mov (.t 10)⟩])
  (.region false [⟨none, (some 11), .mov (.t 2)⟩,
    ⟨none, (some 12), .bin .add (.t 11) (.k (.int .i64 16))⟩,
    ⟨none, (some 2), .mov (.t 12)⟩]))
  .skip))
  (.seq (.seq (.region false [⟨none, (some 13), .mov (.t 0)⟩,
    ⟨none, (some 14), .bin .geq (.t 13) (.k (w64 256#64))⟩])
  (.cond (.t 14) (.seq (.region false [⟨none, (some 15), .mov (.t 0)⟩,
    ⟨none, (some 16), .bin .shr (.t 15) (.k (w64 8#64))⟩,
    ⟨none, (some 0), .mov (.t 16)⟩])
  (.region false [⟨none, (some 17), .mov (.t 2)⟩,
    ⟨none, (some 18), .bin .add (.t 17) (.k (.int .i64 8))⟩,
    ⟨none, (some 2), .mov (.t 18)⟩]))
  .skip))
  (.seq (.region false [⟨none, (some 19), .mov (.t 2)⟩,
    ⟨none, (some 20), .mov (.t 0)⟩,
    ⟨none, (some 21), .conv .u8 (.t 20)⟩,
    ⟨none, (some 22), .idxStr (.k (.str [0, 1, 2, 2, 3, 3, 3, 3, 4, 4, 4, 4, 4, 4, 4, 4, 5, 5, 5, 5, 5, 5, 5, 5, 5, 5, 5, 5, 5, 5, 5, 5, 6, 6, 6, 6, 6, 6, 6, 6, 6, 6, 6, 6, 6, 6, 6, 6, 6, 6, 6, 6, 6, 6, 6, 6, 6, 6, 6, 6, 6, 6, 6, 6, 7, 7, 7, 7, 7, 7, 7, 7, 7, 7, 7, 7, 7, 7, 7, 7, 7, 7, 7, 7, 7, 7, 7, 7, 7, 7, 7, 7, 7, 7, 7, 7, 7, 7, 7, 7, 7, 7, 7, 7, 7, 7, 7, 7, 7, 7, 7, 7, 7, 7, 7, 7, 7, 7, 7, 7, 7, 7, 7, 7, 7, 7, 7, 7, 8, 8, 8, 8, 8, 8, 8, 8, 8, 8, 8, 8, 8, 8, 8, 8, 8, 8, 8, 8, 8, 8, 8, 8, 8, 8, 8, 8, 8, 8, 8, 8, 8, 8, 8, 8, 8, 8, 8, 8, 8, 8, 8, 8, 8, 8, 8, 8, 8, 8, 8, 8, 8, 8, 8, 8, 8, 8, 8, 8, 8, 8, 8, 8, 8, 8, 8, 8, 8, 8, 8, 8, 8, 8, 8, 8, 8, 8, 8, 8, 8, 8, 8, 8, 8, 8, 8, 8, 8, 8, 8, 8, 8, 8, 8, 8, 8, 8, 8, 8, 8, 8, 8, 8, 8, 8, 8, 8, 8, 8, 8, 8, 8, 8, 8, 8, 8, 8, 8, 8, 8, 8, 8, 8, 8, 8, 8, 8])) (.t 21)⟩,
    ⟨none, (some 23), .conv .i64 (.t 22)⟩,
    ⟨none, (some 24), .bin .add (.t 19) (.t 23)⟩,
    ⟨none, (some 2), .mov (.t 24)⟩])
  .ret)))))
  ntmps := 25
  res := [.tmp 2]
theorem a103_ok : compileFn P Tryz.f103 = some a103 := by kernel_rfl
def a126L1 : ACode :=
  (.seq (.seq (.region false [⟨none, (some 29), .mov (.t 5)⟩,
    ⟨none, (some 30), .mov (.t 4)⟩,
    ⟨none, (some 31), .len (.t 30)⟩,
    ⟨none, (some 32), .bin .lss (.t 29) (.t 31)⟩])
  (.cond (.t 32) .skip
  (.exit 2)))
  (.seq (.block 3 (.seq (.region true [⟨none, (some 35), .mov (.t 4)⟩,
    ⟨none, (some 36), .mov (.t 5)⟩,
    ⟨none, (some 37), .idxS 1 (.t 35) (.t 36)⟩,
    ⟨none, (some 38), .load 1 false (.t 37)⟩,
    ⟨none, (some 39), .mov (.t 4)⟩,
    ⟨none, (some 40), .mov (.t 5)⟩,
    ⟨none, (some 41), .bin .sub (.t 40) (.k (.int .i64 1))⟩,
    ⟨none, (some 42), .idxS 1 (.t 39) (.t 41)⟩,
    ⟨none, (some 43), .load 1 false (.t 42)⟩,
    ⟨none, (some 44), .bin .neq (.t 38) (.t 43)⟩])
  (.cond (.t 44) (.seq (.region false [⟨none, (some 45), .mov (.t 0)⟩,
    ⟨none, (some 46), .mov (.t 3)⟩,
    ⟨none, (some 47), .mov (.t 4)⟩,
    ⟨none, (some 48), .mov (.t 5)⟩,
    ⟨none, (some 49), .idxS 1 (.t 47) (.t 48)⟩,
    ⟨none, (some 50), .load 1 false (.t 49)⟩,
    ⟨none, (some 51), .idxS 1 (.t 45) (.t 46)⟩,
    ⟨none, none, .store 1 (.t 51) (.t 50)⟩])
  (.region false [⟨none, (some 52), .mov (.t 3)⟩,
    ⟨none, (some 53), .bin .add (.t 52) (.k (.int .i64 1))⟩,
    ⟨none, (some 3), .mov (.t 53)⟩]))
  .skip)))
  (.region false [⟨none, (some 33), .mov (.t 5)⟩,
    ⟨none, (some 34), .bin .add (.t 33) (.k (.int .i64 1))⟩,
    ⟨none, (some 5), .mov (.t 34)⟩])))
def a126S1 (x0 x3 x4 x5 : DV) (h : List AObj) : St := ⟨[x0, .junk, .junk, x3, x4, x5] ++ js 55, h⟩
def a126L0 : ACode :=
  (.seq (.seq (.region false [⟨none, (some 10), .mov (.t 3)⟩,
    ⟨none, (some 11), .mov (.t 0)⟩,
    ⟨none, (some 12), .len (.t 11)⟩,
    ⟨none, (some 13), .bin .lss (.t 10) (.t 12)⟩])
  (.cond (.t 13) .skip
  (.exit 0)))
  (.seq (.block 1 (.seq (.region true [⟨none, (some 16), .mov (.t 0)⟩,
    ⟨none, (some 17), .mov (.t 3)⟩,
    ⟨none, (some 18), .idxS 1 (.t 16) (.t 17)⟩,
    ⟨none, (some 19), .load 1 false (.t 18)⟩,
    ⟨none, (some 20), .mov (.t 0)⟩,
    ⟨none, (some 21), .mov (.t 3)⟩,
    ⟨none, (some 22), .bin .sub (.t 21) (.k (.int .i64 1))⟩,
    ⟨none, (some 23), .idxS 1 (.t 20) (.t 22)⟩,
    ⟨none, (some 24), .load 1 false (.t 23)⟩,
    ⟨none, (some 25), .bin .eql (.t 19) (.t 24)⟩])
  (.cond (.t 25) (.seq (.region false [⟨none, (some 26), .mov (.t 0)⟩,
    ⟨none, (some 27), .mov (.t 3)⟩,
    ⟨none, (some 28), .slcS 1 (.t 26) (some (.t 27)) none none⟩,
    ⟨none, (some 4), .mov (.t 28)⟩])
  (.seq (.seq (.region false [⟨none, (some 5), .mov (.k (.int .i64 1))⟩])
  (.block 2 (.loop a126L1)))
  (.seq (.region false [⟨none, (some 54), .mov (.t 0)⟩,
    ⟨none, (some 55), .mov (.t 3)⟩,
    ⟨none, (some 56), .slcS 1 (.t 54) (some (.t 55)) none none⟩,
    ⟨none, none, .clr 1 [(.str [])] (.t 56)⟩])
  (.seq (.region false [⟨none, (some 57), .mov (.t 0)⟩,
    ⟨none, (some 58), .mov (.t 3)⟩,
    ⟨none, (some 59), .slcS 1 (.t 57) none (some (.t 58)) none⟩,
    ⟨none, (some 2), .mov (.t 59)⟩])
  .ret))))
  .skip)))
  (.region false [⟨none, (some 14), .mov (.t 3)⟩,
    ⟨none, (some 15), .bin .add (.t 14) (.k (.int .i64 1))⟩,
    ⟨none, (some 3), .mov (.t 15)⟩])))
def a126S0 (x0 x3 : DV) (h : List AObj) : St := ⟨[x0, .junk, .junk, x3] ++ js 57, h⟩
def a126 : AFn where
  code := (.seq (.region false [⟨none, (some 2), .mov (.k .nils)⟩])
  (.seq (.seq (.region false [⟨none, (some 6), .mov (.t 0)⟩,
    ⟨none, (some 7), .len (.t 6)⟩,
    ⟨none, (some 8), .bin .lss (.t 7) (.k (.int .i64 2))⟩])
  (.cond (.t 8) (.seq (.region false [⟨none, (some 9), .mov (.t 0)⟩,
    ⟨none, (some 2), .mov (.t 9)⟩])
  .ret)
  .skip))
  (.seq (.seq (.region false [⟨none, (some 3), .mov (.k (.int .i64 1))⟩])
  (.block 0 (.loop a126L0)))
  (.seq (.region false [⟨none, (some 60), .mov (.t 0)⟩,
    ⟨none, (some 2), .mov (.t 60)⟩])
  .ret))))
  ntmps := 61
  res := [.tmp 2]
theorem a126_ok : compileFn P Tryz.f126 = some a126 := by kernel_rfl
def a141L0 : ACode :=
  (.seq (.region false [⟨none, (some 9), .bin .lss (.t 8) (.t 7)⟩])
  (.seq (.cond (.t 9) .skip
  (.exit 0))
  (.seq (.block 1 (.seq (.region false [⟨none, (some 10), .mov (.t 8)⟩,
    ⟨none, (some 5), .mov (.t 10)⟩])
  (.seq (.region false [⟨none, (some 11), .mov (.t 1)⟩,
    ⟨none, (some 12), .mov (.t 0)⟩,
    ⟨none, (some 13), .mov (.t 5)⟩,
    ⟨none, (some 14), .idxS 1 (.t 12) (.t 13)⟩,
    ⟨none, (some 15), .load 1 false (.t 14)⟩,
    ⟨none, (some 16), .call (.t 11) [(.t 15)]⟩])
  (.cond (.t 16) (.seq (.region false [⟨none, (some 17), .mov (.t 5)⟩,
    ⟨none, (some 4), .mov (.t 17)⟩])
  .ret)
  .skip))))
  (.region false [⟨none, (some 18), .bin .add (.t 8) (.k (.int .i64 1))⟩,
    ⟨none, (some 8), .mov (.t 18)⟩]))))
def a141S0 (x0 x1 x7 x8 : DV) (h : List AObj) : St := ⟨[x0, x1] ++ js 5 ++ [x7, x8] ++ js 10, h⟩
def a141 : AFn where
  code := (.seq (.region false [⟨none, (some 4), .mov (.k (.int .i64 0))⟩])
  (.seq (.seq (.region false [⟨none, (some 6), .mov (.t 0)⟩,
    ⟨none, (some 7), .len (.t 6)⟩,
    ⟨none, (some 8), .mov (.k (.int .i64 0))⟩])
  (.block 0 (.loop a141L0)))
  (.seq (.region false [⟨none, (some 4), .mov (.k (.int .i64 (-1)))⟩])
  .ret)))
  ntmps := 19
  res := [.tmp 4]
theorem a141_ok : compileFn P Tryz.f141 = some a141 := by kernel_rfl
def a129L0 : ACode :=
  (.seq (.seq (.region false [⟨none, (some 16), .mov (.t 6)⟩,
    ⟨none, (some 17), .mov (.t 0)⟩,
    ⟨none, (some 18), .len (.t 17)⟩,
    ⟨none, (some 19), .bin .lss (.t 16) (.t 18)⟩])
  (.cond (.t 19) .skip
  (.exit 0)))
  (.seq (.block 1 (.seq (.region false [⟨none, (some 22), .mov (.t 0)⟩,
    ⟨none, (some 23), .mov (.t 6)⟩,
    ⟨none, (some 24), .idxS 1 (.t 22) (.t 23)⟩,
    ⟨none, (some 25), .load 1 false (.t 24)⟩,
    ⟨none, (some 7), .mov (.t 25)⟩])
  (.seq (.region false [⟨none, (some 26), .mov (.t 1)⟩,
    ⟨none, (some 27), .mov (.t 7)⟩,
    ⟨none, (some 28), .call (.t 26) [(.t 27)]⟩,
    ⟨none, (some 29), .un .not (.t 28)⟩])
  (.cond (.t 29) (.seq (.region false [⟨none, (some 30), .mov (.t 0)⟩,
    ⟨none, (some 31), .mov (.t 5)⟩,
    ⟨none, (some 32), .mov (.t 7)⟩,
    ⟨none, (some 33), .idxS 1 (.t 30) (.t 31)⟩,
    ⟨none, none, .store 1 (.t 33) (.t 32)⟩])
  (.region false [⟨none, (some 34), .mov (.t 5)⟩,
    ⟨none, (some 35), .bin .add (.t 34) (.k (.int .i64 1))⟩,
    ⟨none, (some 5), .mov (.t 35)⟩]))
  .skip))))
  (.region false [⟨none, (some 20), .mov (.t 6)⟩,
    ⟨none, (some 21), .bin .add (.t 20) (.k (.int .i64 1))⟩,
    ⟨none, (some 6), .mov (.t 21)⟩])))
def a129S0 (x0 x1 x5 x6 : DV) (h : List AObj) : St := ⟨[x0, x1, .junk, .junk, .junk, x5, x6] ++ js 35, h⟩
def a129 : AFn where
  code := (.seq (.region false [⟨none, (some 4), .mov (.k .nils)⟩])
  (.seq (.region false [⟨none, (some 8), .mov (.t 0)⟩,
    ⟨none, (some 9), .mov (.t 1)⟩,
    ⟨none, (some 10), .call (.k (.fn (.func 141) [] [])) [(.t 8), (.t 9)]⟩,
    ⟨none, (some 5), .mov (.t 10)⟩])
  (.seq (.seq (.region false [⟨none, (some 11), .mov (.t 5)⟩,
    ⟨none, (some 12), .bin .eql (.t 11) (.k (.int .i64 (-1)))⟩])
  (.cond (.t 12) (.seq (.region false [⟨none, (some 13), .mov (.t 0)⟩,
    ⟨none, (some 4), .mov (.t 13)⟩])
  .ret)
  .skip))
  (.seq (.seq (.region false [⟨none, (some 14), .mov (.t 5)⟩,
    ⟨none, (some 15), .bin .add (.t 14) (.k (.int .i64 1))⟩,
    ⟨none, (some 6), .mov (.t 15)⟩])
  (.block 0 (.loop a129L0)))
  (.seq (.region false [⟨none, (some 36), .mov (.t 0)⟩,
    ⟨none, (some 37), .mov (.t 5)⟩,
    ⟨none, (some 38), .slcS 1 (.t 36) (some (.t 37)) none none⟩,
    ⟨none, none, .clr 1 [(.str [])] (.t 38)⟩])
  (.seq (.region false [⟨none, (some 39), .mov (.t 0)⟩,
    ⟨none, (some 40), .mov (.t 5)⟩,
    ⟨none, (some 41), .slcS 1 (.t 39) none (some (.t 40)) none⟩,
    ⟨none, (some 4), .mov (.t 41)⟩])
  .ret))))))
  ntmps := 42
  res := [.tmp 4]
theorem a129_ok : compileFn P Tryz.f129 = some a129 := by kernel_rfl
def a142L0 : ACode :=
  (.seq (.region false [⟨none, (some 9), .bin .lss (.t 8) (.t 7)⟩])
  (.seq (.cond (.t 9) .skip
  (.exit 0))
  (.seq (.block 1 (.seq (.region false [⟨none, (some 10), .mov (.t 8)⟩,
    ⟨none, (some 5), .mov (.t 10)⟩])
  (.seq (.region false [⟨none, (some 11), .mov (.t 1)⟩,
    ⟨none, (some 12), .mov (.t 0)⟩,
    ⟨none, (some 13), .mov (.t 5)⟩,
    ⟨none, (some 14), .idxS 1 (.t 12) (.t 13)⟩,
    ⟨none, (some 15), .load 1 false (.t 14)⟩,
    ⟨none, (some 16), .bin .eql (.t 11) (.t 15)⟩])
  (.cond (.t 16) (.seq (.region false [⟨none, (some 17), .mov (.t 5)⟩,
    ⟨none, (some 4), .mov (.t 17)⟩])
  .ret)
  .skip))))
  (.region false [⟨none, (some 18), .bin .add (.t 8) (.k (.int .i64 1))⟩,
    ⟨none, (some 8), .mov (.t 18)⟩]))))
def a142S0 (x0 x1 x7 x8 : DV) (h : List AObj) : St := ⟨[x0, x1] ++ js 5 ++ [x7, x8] ++ js 10, h⟩
def a142 : AFn where
  code := (.seq (.region false [⟨none, (some 4), .mov (.k (.int .i64 0))⟩])
  (.seq (.seq (.region false [⟨none, (some 6), .mov (.t 0)⟩,
    ⟨none, (some 7), .len (.t 6)⟩,
    ⟨none, (some 8), .mov (.k (.int .i64 0))⟩])
  (.block 0 (.loop a142L0)))
  (.seq (.region false [⟨none, (some 4), .mov (.k (.int .i64 (-1)))⟩])
  .ret)))
  ntmps := 19
  res := [.tmp 4]
theorem a142_ok : compileFn P Tryz.f142 = some a142 := by kernel_rfl
def a131 : AFn where
  code := (.seq (.region false [⟨none, (some 4), .mov (.k (.bool false))⟩])
  (.seq (.region false [⟨none, (some 5), .mov (.t 0)⟩,
    ⟨none, (some 6), .mov (.t 1)⟩,
    ⟨none, (some 7), .call (.k (.fn (.func 142) [] [])) [(.t 5), (.t 6)]⟩,
    ⟨none, (some 8), .bin .geq (.t 7) (.k (.int .i64 0))⟩,
    ⟨none, (some 4), .mov (.t 8)⟩])
  .ret))
  ntmps := 9
  res := [.tmp 4]
theorem a131_ok : compileFn P Tryz.f131 = some a131 := by kernel_rfl
end Go.Proofs.YtdnhbfmlklaldaaGreat
set_option linter.unusedSimpArgs false
set_option linter.unusedVariables false
namespace Go.Proofs.YtdnhbfmlklaldaaGreat
open Go Go.Am
def a16 : AFn where
  code := (.seq (.region false [⟨none, (some 4), .mov (.k (.int .i64 0))⟩])
  (.seq (.region false [⟨none, (some 5), .mov (.t 0)⟩,
    ⟨none, (some 6), .mov (.t 1)⟩,
    ⟨none, (some 7), .bin .rem (.t 5) (.t 6)⟩,
    ⟨none, (some 8), .mov (.t 1)⟩,
    ⟨none, (some 9), .bin .add (.t 7) (.t 8)⟩,
    ⟨none, (some 10), .mov (.t 1)⟩,
    ⟨none, (some 11), .bin .rem (.t 9) (.t 10)⟩,
    ⟨none, (some 4), .mov (.t 11)⟩])
  .ret))
  ntmps := 12
  res := [.tmp 4]
theorem a16_ok : compileFn P Tryz.f16 = some a16 := by kernel_rfl
end Go.Proofs.YtdnhbfmlklaldaaGreat
set_option linter.unusedSimpArgs false
set_option linter.unusedVariables false
namespace Go.Proofs.YtdnhbfmlklaldaaGreat
open Go Go.Am
section
variable {α β : Type} {lt : α → α → Bool}
def insR (lt : α → α → Bool) (x : α) (l : List α) : List α := (l.reverse.dropWhile (lt x)).reverse ++ x :: (l.reverse.takeWhile (lt x)).reverse
def sortR (lt : α → α → Bool) (l : List α) : List α := l.foldl (fun a x => insR lt x a) []
theorem insR_at {x : α} {A B : List α} (hB : ∀ b ∈ B, lt x b = true) (hA : A = [] ∨ ∃ (A' : List α) (y : α), A = A' ++ [y] ∧ lt x y = false) : insR lt x (A ++ B) = A ++ x :: B := by
  unfold insR
  have hB' : ∀ b ∈ B.reverse, lt x b = true := fun b hb => hB b (List.mem_reverse.1 hb)
  rw [List.reverse_append]
  rw [List.dropWhile_append_of_pos hB', List.takeWhile_append_of_pos hB']
  rcases hA with rfl | ⟨A', y, rfl, hy⟩
  · simp
  · simp [List.dropWhile_cons, List.takeWhile_cons, hy]
theorem insR_perm {x : α} {l : List α} : (insR lt x l).Perm (x :: l) := by
  unfold insR
  refine List.perm_middle.trans (List.Perm.cons x ?_)
  rw [← List.reverse_append, List.takeWhile_append_dropWhile]
  simp
theorem sortR_snoc {l : List α} {x : α} : sortR lt (l ++ [x]) = insR lt x (sortR lt l) := by simp [sortR]
theorem snoc_ind {P : List α → Prop} (h0 : P []) (h1 : ∀ l x, P l → P (l ++ [x])) : ∀ l, P l := by
  intro l
  rw [← List.reverse_reverse l]
  induction l.reverse with
  | nil => exact h0
  | cons a r ih => rw [List.reverse_cons]; exact h1 _ _ ih
theorem sortR_perm (l : List α) : (sortR lt l).Perm l := by
  induction l using snoc_ind with
  | h0 => exact List.Perm.refl _
  | h1 l x ih =>
    rw [sortR_snoc]
    refine insR_perm.trans ((List.Perm.cons x ih).trans ?_)
    exact (List.perm_append_comm (l₁ := [x]) (l₂ := l))
theorem dropWhile_head {p : α → Bool} : ∀ {l : List α}, l.dropWhile p = [] ∨ ∃ y r, l.dropWhile p = y :: r ∧ p y = false
  | [] => .inl rfl
  | a :: l => by
    rw [List.dropWhile_cons]
    cases h : p a with
    | true => exact dropWhile_head
    | false => exact .inr ⟨a, l, rfl, h⟩
theorem takeWhile_all {p : α → Bool} : ∀ {l : List α}, ∀ b ∈ l.takeWhile p, p b = true
  | [], b, h => by simp at h
  | a :: l, b, h => by
    rw [List.takeWhile_cons] at h
    cases ha : p a with
    | true =>
      rw [ha, if_pos rfl] at h
      rcases List.mem_cons.1 h with rfl | h
      · exact ha
      · exact takeWhile_all b h
    | false => rw [ha] at h; simp at h
end
structure GoodI (l : List Ins) : Prop where
  s : ∀ x ∈ l, 1 ≤ x.state ∧ x.state ≤ 3 ∧ -1 ≤ x.den
  d : l.Pairwise (fun x y => x.id < y.id)
end Go.Proofs.YtdnhbfmlklaldaaGreat
set_option linter.unusedSimpArgs false
set_option linter.unusedVariables false
namespace Go.Proofs.YtdnhbfmlklaldaaGreat
open Go Go.Am
theorem fmap_inj {α : Type} {f : α → List DV} {s : Nat} (hu : ∀ a, (f a).length = s) (h0 : 0 < s) (hi : ∀ a b, f a = f b → a = b) : ∀ {l l' : List α}, l.flatMap f = l'.flatMap f → l = l'
  | [], [], _ => rfl
  | [], b :: l', e => by have := congrArg List.length e; simp [hu] at this; omega
  | a :: l, [], e => by have := congrArg List.length e; simp [hu] at this; omega
  | a :: l, b :: l', e => by
    rw [List.flatMap_cons, List.flatMap_cons] at e
    have := List.append_inj e (by rw [hu, hu])
    rw [hi _ _ this.1, fmap_inj hu h0 hi this.2]
theorem dv_inj {α : Type} {f : α → List DV} {s : Nat} (hu : ∀ a, (f a).length = s) (h0 : 0 < s) (hi : ∀ a b, f a = f b → a = b) {x y : Sl α} (e : x.dv s f = y.dv s f) : x = y := by
  obtain ⟨k, l, h, hb⟩ := x
  obtain ⟨k', l', h', hb'⟩ := y
  cases k with
  | none =>
    cases k' with
    | none => cases h rfl; cases h' rfl; rfl
    | some b => simp [Sl.dv, slD] at e
  | some b =>
    cases k' with
    | none => simp [Sl.dv, slD] at e
    | some b' =>
      simp only [Sl.dv, slD, DV.sl.injEq] at e
      obtain ⟨rfl, _, _, e⟩ := e
      cases fmap_inj hu h0 hi e
      rfl
theorem dgs_inj {x y : Sl Dg} (e : x.dv 32 dgC = y.dv 32 dgC) : x = y := dv_inj len_dgC (by decide) (fun _ _ => dgC_inj) e
theorem con_inj {α : Type} {f : α → List DV} {g : α → DV} (hi : ∀ a b, f a = f b → a = b) (a : α) : con (fun _ => True) f g (f a) = some (g a) := con_eq (fun a b e => by rw [hi a b e]) a trivial
abbrev Str := List UInt8
def stC (s : Str) : List DV := [.str s]
theorem len_stC (s : Str) : (stC s).length = 1 := rfl
theorem pure_stC (s : Str) : pureL (stC s) = true := rfl
theorem stC_inj {a b : Str} (h : stC a = stC b) : a = b := by simpa [stC] using h
structure Fct where
  kind : Int
  own : Str
  rev : Dg
  lay : Str
  run : Str
  at_ : Int
  agr : Bool
  tgt : Dg
  docs : Sl Dg
def faC (f : Fct) : List DV := .int .i64 f.kind :: .str f.own :: (dgC f.rev ++ (.str f.lay :: .str f.run :: .int .i64 f.at_ :: .bool f.agr :: (dgC f.tgt ++ [f.docs.dv 32 dgC])))
structure Fnd where
  inv : Dg
  comp : Int
  id : Str
  sev : Int
  hd : Sl Dg
  st : Int
  dd : Sl Dg
  con : Bool
def fnC (f : Fnd) : List DV := dgC f.inv ++ [.int .i64 f.comp, .str f.id, .int .i64 f.sev, f.hd.dv 32 dgC, .int .i64 f.st, f.dd.dv 32 dgC, .bool f.con]
structure Cas where
  art : Dg
  at_ : Int
  f : Sl Fct
  n : Sl Fnd
  d : Sl Str
def caC (c : Cas) : List DV := dgC c.art ++ [.int .i64 c.at_, c.f.dv 71 faC, c.n.dv 39 fnC, c.d.dv 1 stC]
structure Org where
  rev : Dg
  lay : Str
  run : Str
  deriving DecidableEq
def orC (o : Org) : List DV := dgC o.rev ++ [.str o.lay, .str o.run]
structure Req where
  kind : Int
  n : Int
  m : Int
  text : Str
  deriving DecidableEq
def rqC (q : Req) : List DV := [.int .i64 q.kind, .int .i64 q.n, .int .i64 q.m, .str q.text]
structure Sup where
  holds : Bool
  docs : Sl Dg
  missing : Int
def suC (s : Sup) : List DV := [.bool s.holds, s.docs.dv 32 dgC, .int .i64 s.missing]
theorem len_faC (f : Fct) : (faC f).length = 71 := by simp [faC, len_dgC]
theorem len_fnC (f : Fnd) : (fnC f).length = 39 := by simp [fnC, len_dgC]
theorem len_caC (c : Cas) : (caC c).length = 36 := by simp [caC, len_dgC]
theorem len_orC (o : Org) : (orC o).length = 34 := by simp [orC, len_dgC]
theorem len_rqC (q : Req) : (rqC q).length = 4 := rfl
theorem len_suC (s : Sup) : (suC s).length = 3 := rfl
theorem pure_faC (f : Fct) : pureL (faC f) = true := by
  simp only [faC, pureL, pureD, Bool.true_and]
  exact pureL_append (pure_dgC _) (by simp only [pureL, pureD, Bool.true_and]; exact pureL_append (pure_dgC _) (by simp [pureL, pure_dv32]))
theorem pure_fnC (f : Fnd) : pureL (fnC f) = true := pureL_append (pure_dgC _) (by simp [pureL, pureD, pure_dv32])
theorem pure_orC (o : Org) : pureL (orC o) = true := pureL_append (pure_dgC _) (by simp [pureL, pureD])
theorem pure_rqC (q : Req) : pureL (rqC q) = true := by simp [rqC, pureL, pureD]
theorem pure_suC (s : Sup) : pureL (suC s) = true := by simp [suC, pureL, pureD, pure_dv32]
theorem pure_dv71 (x : Sl Fct) : pureD (x.dv 71 faC) = true := dv_pure pure_faC x
theorem pure_dv39 (x : Sl Fnd) : pureD (x.dv 39 fnC) = true := dv_pure pure_fnC x
theorem pure_dv1s (x : Sl Str) : pureD (x.dv 1 stC) = true := dv_pure pure_stC x
theorem pure_caC (c : Cas) : pureL (caC c) = true := pureL_append (pure_dgC _) (by simp [pureL, pureD, pure_dv71, pure_dv39, pure_dv1s])
theorem faC_inj {a b : Fct} (e : faC a = faC b) : a = b := by
  obtain ⟨a1, a2, a3, a4, a5, a6, a7, a8, a9⟩ := a
  obtain ⟨b1, b2, b3, b4, b5, b6, b7, b8, b9⟩ := b
  simp only [faC, List.cons.injEq, DV.int.injEq, DV.str.injEq, true_and] at e
  obtain ⟨rfl, rfl, e⟩ := e
  obtain ⟨e3, e'⟩ := List.append_inj e (by rw [len_dgC, len_dgC])
  simp only [List.cons.injEq, DV.int.injEq, DV.str.injEq, DV.bool.injEq, true_and] at e'
  obtain ⟨rfl, rfl, rfl, rfl, e'⟩ := e'
  obtain ⟨e8, e''⟩ := List.append_inj e' (by rw [len_dgC, len_dgC])
  simp only [List.cons.injEq, and_true] at e''
  rw [dgC_inj e3, dgC_inj e8, dgs_inj e'']
theorem fnC_inj {a b : Fnd} (e : fnC a = fnC b) : a = b := by
  obtain ⟨a1, a2, a3, a4, a5, a6, a7, a8⟩ := a
  obtain ⟨b1, b2, b3, b4, b5, b6, b7, b8⟩ := b
  obtain ⟨e1, e⟩ := List.append_inj (s₁ := dgC a1) (s₂ := dgC b1) e (by rw [len_dgC, len_dgC])
  simp only [List.cons.injEq, DV.int.injEq, DV.str.injEq, DV.bool.injEq, true_and, and_true] at e
  obtain ⟨rfl, rfl, rfl, e5, rfl, e7, rfl⟩ := e
  rw [dgC_inj e1, dgs_inj e5, dgs_inj e7]
theorem orC_inj {a b : Org} (e : orC a = orC b) : a = b := by
  obtain ⟨a1, a2, a3⟩ := a
  obtain ⟨b1, b2, b3⟩ := b
  obtain ⟨e1, e⟩ := List.append_inj (s₁ := dgC a1) (s₂ := dgC b1) e (by rw [len_dgC, len_dgC])
  simp only [List.cons.injEq, DV.str.injEq, and_true] at e
  obtain ⟨rfl, rfl⟩ := e
  rw [dgC_inj e1]
theorem rqC_inj {a b : Req} (e : rqC a = rqC b) : a = b := by
  obtain ⟨a1, a2, a3, a4⟩ := a
  obtain ⟨b1, b2, b3, b4⟩ := b
  simp only [rqC, List.cons.injEq, DV.int.injEq, DV.str.injEq, true_and, and_true] at e
  obtain ⟨rfl, rfl, rfl, rfl⟩ := e
  rfl
theorem fas_inj {x y : Sl Fct} (e : x.dv 71 faC = y.dv 71 faC) : x = y := dv_inj len_faC (by decide) (fun _ _ => faC_inj) e
theorem fns_inj {x y : Sl Fnd} (e : x.dv 39 fnC = y.dv 39 fnC) : x = y := dv_inj len_fnC (by decide) (fun _ _ => fnC_inj) e
theorem sts_inj {x y : Sl Str} (e : x.dv 1 stC = y.dv 1 stC) : x = y := dv_inj len_stC (by decide) (fun _ _ => stC_inj) e
theorem caC_inj {a b : Cas} (e : caC a = caC b) : a = b := by
  obtain ⟨a1, a2, a3, a4, a5⟩ := a
  obtain ⟨b1, b2, b3, b4, b5⟩ := b
  obtain ⟨e1, e⟩ := List.append_inj (s₁ := dgC a1) (s₂ := dgC b1) e (by rw [len_dgC, len_dgC])
  simp only [List.cons.injEq, DV.int.injEq, true_and, and_true] at e
  obtain ⟨rfl, e3, e4, e5⟩ := e
  rw [dgC_inj e1, fas_inj e3, fns_inj e4, sts_inj e5]
theorem cellsEq_or {a b : Org} : cellsEq (kindsOf [(32, 0), (2, 1)]) (orC a) (orC b) = some (decide (a = b)) := by
  have e : kindsOf [(32, 0), (2, 1)] = kindsOf [(32, 0)] ++ [1, 1] := rfl
  rw [e, orC, orC, cellsEq_append (by simp [len_dgC, kindsOf]) (by simp [len_dgC, kindsOf]), cellsEq_dg]
  obtain ⟨a1, a2, a3⟩ := a
  obtain ⟨b1, b2, b3⟩ := b
  simp [cellsEq, cellEq, Bool.and_assoc, beq_bytes]
theorem cellsEq_rq {a b : Req} : cellsEq [0, 0, 0, 1] (rqC a) (rqC b) = some (decide (a = b)) := by
  obtain ⟨a1, a2, a3, a4⟩ := a
  obtain ⟨b1, b2, b3, b4⟩ := b
  simp [rqC, cellsEq, cellEq, beq_bytes, Bool.beq_eq_decide_eq]
attribute [simp] cellsEq_or cellsEq_rq
end Go.Proofs.YtdnhbfmlklaldaaGreat
set_option linter.unusedSimpArgs false
set_option linter.unusedVariables false
namespace Go.Proofs.YtdnhbfmlklaldaaGreat
open Go Go.Am
structure Tot {α : Type} (lt : α → α → Bool) : Prop where
  irr : ∀ a, lt a a = false
  tr : ∀ a b c, lt a b = true → lt b c = true → lt a c = true
  tot : ∀ a b, lt a b = true ∨ a = b ∨ lt b a = true
set_option linter.unusedSectionVars false
section
variable {α : Type} [DecidableEq α] {lt : α → α → Bool}
def Asc (lt : α → α → Bool) (l : List α) : Prop := l.Pairwise (fun a b => lt a b = true)
theorem asc_head (o : Tot lt) {a b : α} {l m : List α} (h1 : Asc lt (a :: l)) (h2 : Asc lt (b :: m)) (h : ∀ x, x ∈ a :: l ↔ x ∈ b :: m) : a = b := by
  rw [Asc, List.pairwise_cons] at h1 h2
  have ha := (h a).1 (by simp)
  have hb := (h b).2 (by simp)
  rcases List.mem_cons.1 ha with e | ha
  · exact e
  rcases List.mem_cons.1 hb with e | hb
  · exact e.symm
  have := o.tr _ _ _ (h1.1 b hb) (h2.1 a ha)
  rw [o.irr] at this; cases this
theorem asc_unique (o : Tot lt) : ∀ {l m : List α}, Asc lt l → Asc lt m → (∀ x, x ∈ l ↔ x ∈ m) → l = m
  | [], [], _, _, _ => rfl
  | [], b :: m, _, _, h => by have := (h b).2 (by simp); simp at this
  | a :: l, [], _, _, h => by have := (h a).1 (by simp); simp at this
  | a :: l, b :: m, h1, h2, h => by
    have e := asc_head o h1 h2 h
    subst e
    have k1 := (List.pairwise_cons.1 h1).1
    have k2 := (List.pairwise_cons.1 h2).1
    rw [asc_unique o (List.pairwise_cons.1 h1).2 (List.pairwise_cons.1 h2).2 fun x => ⟨fun hx => ?_, fun hx => ?_⟩]
    · rcases List.mem_cons.1 ((h x).1 (by simp [hx])) with e | h'
      · have := k1 x hx; rw [e, o.irr] at this; cases this
      · exact h'
    · rcases List.mem_cons.1 ((h x).2 (by simp [hx])) with e | h'
      · have := k2 x hx; rw [e, o.irr] at this; cases this
      · exact h'
def addU (lt : α → α → Bool) (l : List α) (d : α) : List α := if d ∈ l then l else l.takeWhile (fun x => lt x d) ++ d :: l.dropWhile (fun x => lt x d)
def uSort (lt : α → α → Bool) (l : List α) : List α := l.foldl (addU lt) []
theorem addU_mem {l : List α} {d x : α} : x ∈ addU lt l d ↔ x = d ∨ x ∈ l := by
  unfold addU
  split
  · rename_i h
    exact ⟨.inr, fun q => q.elim (fun e => e ▸ h) id⟩
  · have := List.takeWhile_append_dropWhile (p := fun x => lt x d) (l := l)
    constructor
    · intro hx
      rcases List.mem_append.1 hx with hx | hx
      · exact .inr (by rw [← this]; exact List.mem_append.2 (.inl hx))
      · rcases List.mem_cons.1 hx with e | hx
        · exact .inl e
        · exact .inr (by rw [← this]; exact List.mem_append.2 (.inr hx))
    · rintro (e | hx)
      · rw [e]; exact List.mem_append.2 (.inr (by simp))
      · rw [← this] at hx
        rcases List.mem_append.1 hx with hx | hx
        · exact List.mem_append.2 (.inl hx)
        · exact List.mem_append.2 (.inr (by simp [hx]))
theorem dropWhile_ge (o : Tot lt) {d : α} : ∀ {l : List α}, Asc lt l → d ∉ l → ∀ x ∈ l.dropWhile (fun x => lt x d), lt d x = true
  | [], _, _, x, hx => by simp at hx
  | a :: l, h, hn, x, hx => by
    have h' := List.pairwise_cons.1 h
    rw [List.dropWhile_cons] at hx
    split at hx
    · exact dropWhile_ge o h'.2 (fun q => hn (by simp [q])) x hx
    · rename_i q
      have hda : lt d a = true := by
        rcases o.tot a d with e | e | e
        · exact absurd e q
        · exact absurd (by simp [e]) hn
        · exact e
      rcases List.mem_cons.1 hx with e | hx
      · rw [e]; exact hda
      · exact o.tr _ _ _ hda (h'.1 x hx)
theorem addU_asc (o : Tot lt) {l : List α} {d : α} (h : Asc lt l) : Asc lt (addU lt l d) := by
  unfold addU
  split
  · exact h
  · rename_i hn
    have hs := List.takeWhile_append_dropWhile (p := fun x => lt x d) (l := l)
    have h0 : Asc lt (l.takeWhile (fun x => lt x d) ++ l.dropWhile (fun x => lt x d)) := by rw [hs]; exact h
    rw [Asc, List.pairwise_append] at h0 ⊢
    obtain ⟨p1, p2, p3⟩ := h0
    refine ⟨p1, List.pairwise_cons.2 ⟨dropWhile_ge o h hn, p2⟩, fun a ha b hb => ?_⟩
    rcases List.mem_cons.1 hb with e | hb
    · rw [e]; exact takeWhile_all a ha
    · exact p3 a ha b hb
theorem foldl_addU (o : Tot lt) : ∀ (m l : List α), Asc lt l → Asc lt (m.foldl (addU lt) l) ∧ ∀ x, x ∈ m.foldl (addU lt) l ↔ x ∈ m ∨ x ∈ l
  | [], l, h => ⟨h, fun x => by simp⟩
  | d :: m, l, h => by
    obtain ⟨h1, h2⟩ := foldl_addU o m (addU lt l d) (addU_asc o h)
    refine ⟨h1, fun x => ?_⟩
    rw [List.foldl_cons, h2, addU_mem, List.mem_cons]
    constructor
    · rintro (q | q | q)
      · exact .inl (.inr q)
      · exact .inl (.inl q)
      · exact .inr q
    · rintro ((q | q) | q)
      · exact .inr (.inl q)
      · exact .inl q
      · exact .inr (.inr q)
theorem uSort_asc (o : Tot lt) (l : List α) : Asc lt (uSort lt l) := (foldl_addU o l [] List.Pairwise.nil).1
theorem uSort_mem (o : Tot lt) (l : List α) (x : α) : x ∈ uSort lt l ↔ x ∈ l := by rw [uSort, (foldl_addU o l [] List.Pairwise.nil).2]; simp
theorem uSort_eq (o : Tot lt) {l m : List α} (h : Asc lt m) (hm : ∀ x, x ∈ m ↔ x ∈ l) : m = uSort lt l := asc_unique o h (uSort_asc o l) fun x => by rw [hm, uSort_mem o]
theorem addU_len {l : List α} {d : α} : (addU lt l d).length ≤ l.length + 1 := by
  unfold addU
  split
  · omega
  · have := congrArg List.length (List.takeWhile_append_dropWhile (p := fun x => lt x d) (l := l))
    simp only [List.length_append, List.length_cons] at this ⊢
    omega
theorem foldl_addU_len : ∀ (m l : List α), (m.foldl (addU lt) l).length ≤ m.length + l.length
  | [], l => by simp
  | d :: m, l => by
    have h1 := foldl_addU_len m (addU lt l d)
    have h2 := addU_len (lt := lt) (l := l) (d := d)
    rw [List.foldl_cons, List.length_cons]; omega
theorem uSort_len (l : List α) : (uSort lt l).length ≤ l.length := by have := foldl_addU_len (lt := lt) l []; simpa [uSort] using this
def compL : List α → List α
  | [] => []
  | a :: l => match compL l with
    | [] => [a]
    | b :: r => if a = b then b :: r else a :: b :: r
theorem compL_mem : ∀ {l : List α} {x : α}, x ∈ compL l ↔ x ∈ l
  | [], x => by simp [compL]
  | a :: l, x => by
    have ih := compL_mem (l := l) (x := x)
    simp only [compL]
    split
    · rename_i h
      rw [h] at ih
      simp only [List.mem_cons, ← ih]
    · rename_i b r h
      rw [h] at ih
      split
      · rename_i e
        rw [ih, List.mem_cons, e]
        exact ⟨.inr, fun q => q.elim (fun q => ih.1 (List.mem_cons.2 (.inl q))) id⟩
      · rw [List.mem_cons, ih, List.mem_cons]
theorem compL_head : ∀ {a : α} {l : List α}, ∃ r, compL (a :: l) = a :: r
  | a, l => by
    simp only [compL]
    split
    · exact ⟨[], rfl⟩
    · split
      · rename_i e; subst e; exact ⟨_, rfl⟩
      · exact ⟨_, rfl⟩
def Wsc (lt : α → α → Bool) (l : List α) : Prop := l.Pairwise (fun a b => lt b a = false)
theorem wsc_lt (o : Tot lt) {a b : α} (h : lt b a = false) (hn : a ≠ b) : lt a b = true := by
  rcases o.tot a b with e | e | e
  · exact e
  · exact absurd e hn
  · rw [h] at e; cases e
theorem compL_asc (o : Tot lt) : ∀ {l : List α}, Wsc lt l → Asc lt (compL l)
  | [], _ => List.Pairwise.nil
  | a :: l, h => by
    have h' := List.pairwise_cons.1 h
    have ih := compL_asc o h'.2
    have hm := fun x => compL_mem (l := l) (x := x)
    simp only [compL]
    split
    · exact List.pairwise_singleton _ _
    · rename_i b r e
      rw [e] at ih hm
      split
      · exact ih
      · rename_i hab
        refine List.pairwise_cons.2 ⟨fun x hx => ?_, ih⟩
        have hb := wsc_lt o (h'.1 b ((hm b).1 (by simp))) hab
        rcases List.mem_cons.1 hx with e | hx
        · rw [e]; exact hb
        · exact o.tr _ _ _ hb ((List.pairwise_cons.1 ih).1 x hx)
theorem compL_sorted (o : Tot lt) {l m : List α} (h : Wsc lt m) (hp : m.Perm l) : compL m = uSort lt l := uSort_eq o (compL_asc o h) fun x => by rw [compL_mem, hp.mem_iff]
theorem compL_len : ∀ (l : List α), (compL l).length ≤ l.length
  | [] => by simp [compL]
  | a :: l => by
    have ih := compL_len l
    simp only [compL]
    split
    · simp
    · rename_i b r e
      rw [e] at ih
      split
      · simp only [List.length_cons] at ih ⊢; omega
      · simp only [List.length_cons] at ih ⊢; omega
theorem insR_wsc (o : Tot lt) {x : α} {l : List α} (h : Wsc lt l) : Wsc lt (insR lt x l) := by
  unfold insR
  have hs : (l.reverse.dropWhile (lt x)).reverse ++ (l.reverse.takeWhile (lt x)).reverse = l := by
    rw [← List.reverse_append, List.takeWhile_append_dropWhile, List.reverse_reverse]
  have h0 : Wsc lt ((l.reverse.dropWhile (lt x)).reverse ++ (l.reverse.takeWhile (lt x)).reverse) := by rw [hs]; exact h
  rw [Wsc, List.pairwise_append] at h0 ⊢
  obtain ⟨p1, p2, p3⟩ := h0
  have hT : ∀ b ∈ (l.reverse.takeWhile (lt x)).reverse, lt x b = true := fun b hb => takeWhile_all b (List.mem_reverse.1 hb)
  have asym : ∀ {a b : α}, lt a b = true → lt b a = false := fun {a b} q => by
    cases e : lt b a with
    | false => rfl
    | true => have := o.tr _ _ _ q e; rw [o.irr] at this; cases this
  have hD : ∀ b ∈ (l.reverse.dropWhile (lt x)).reverse, lt x b = false := fun b hb => by
    rcases dropWhile_head (p := lt x) (l := l.reverse) with e | ⟨y, r, e, hy⟩
    · rw [e] at hb; simp at hb
    · rw [e] at hb p1
      rw [List.reverse_cons] at hb p1
      rcases List.mem_append.1 hb with hb | hb
      · have hby := (List.pairwise_append.1 p1).2.2 b hb y (by simp)
        cases q : lt x b with
        | false => rfl
        | true =>
          rcases o.tot b y with e1 | e1 | e1
          · have := o.tr _ _ _ q e1; rw [hy] at this; cases this
          · rw [e1, hy] at q; cases q
          · rw [hby] at e1; cases e1
      · simp at hb; rw [hb]; exact hy
  refine ⟨p1, List.pairwise_cons.2 ⟨fun b hb => asym (hT b hb), p2⟩, fun a ha b hb => ?_⟩
  rcases List.mem_cons.1 hb with e | hb
  · rw [e]; exact hD a ha
  · exact p3 a ha b hb
theorem sortR_wsc (o : Tot lt) (l : List α) : Wsc lt (sortR lt l) := by
  induction l using snoc_ind with
  | h0 => exact List.Pairwise.nil
  | h1 l x ih => rw [sortR_snoc]; exact insR_wsc o ih
theorem compL_sortR (o : Tot lt) (l : List α) : compL (sortR lt l) = uSort lt l := compL_sorted o (sortR_wsc o l) (sortR_perm l)
end
theorem bless_irr : ∀ a : Str, Op.bytesLess a a = false
  | [] => rfl
  | a :: l => by simp [Op.bytesLess, bless_irr l]
theorem bless_tr : ∀ a b c : Str, Op.bytesLess a b = true → Op.bytesLess b c = true → Op.bytesLess a c = true
  | _, _, [], _, h => by simp [Op.bytesLess] at h
  | [], _, _ :: _, _, _ => rfl
  | _ :: _, [], _ :: _, h, _ => by simp [Op.bytesLess] at h
  | a :: x, b :: y, c :: z, h1, h2 => by
    simp only [Op.bytesLess, Bool.or_eq_true, Bool.and_eq_true, decide_eq_true_eq, beq_iff_eq] at *
    rcases h1 with h1 | ⟨h1, h1'⟩
    · rcases h2 with h2 | ⟨h2, h2'⟩
      · exact .inl (UInt8.lt_trans h1 h2)
      · exact .inl (h2 ▸ h1)
    · rcases h2 with h2 | ⟨h2, h2'⟩
      · exact .inl (h1 ▸ h2)
      · exact .inr ⟨h1.trans h2, bless_tr _ _ _ h1' h2'⟩
theorem bless_tot : ∀ a b : Str, Op.bytesLess a b = true ∨ a = b ∨ Op.bytesLess b a = true
  | [], [] => .inr (.inl rfl)
  | [], _ :: _ => .inl rfl
  | _ :: _, [] => .inr (.inr rfl)
  | a :: x, b :: y => by
    simp only [Op.bytesLess, Bool.or_eq_true, Bool.and_eq_true, decide_eq_true_eq, beq_iff_eq]
    rcases UInt8.lt_or_lt_of_ne (a := a) (b := b) |> fun h => (Classical.em (a = b)).imp_right h with e | e | e
    · rcases bless_tot x y with q | q | q
      · exact .inl (.inr ⟨e, q⟩)
      · exact .inr (.inl (by rw [e, q]))
      · exact .inr (.inr (.inr ⟨e.symm, q⟩))
    · exact .inl (.inl e)
    · exact .inr (.inr (.inl e))
theorem tot_str : Tot Op.bytesLess := ⟨bless_irr, bless_tr, bless_tot⟩
theorem tot_inj {α β : Type} {lt : β → β → Bool} {f : α → β} (hf : ∀ a b, f a = f b → a = b) (o : Tot lt) : Tot (fun a b => lt (f a) (f b)) :=
  ⟨fun a => o.irr _, fun a b c => o.tr _ _ _, fun a b => (o.tot (f a) (f b)).imp_right (Or.imp_left (hf a b))⟩
def lexLt {α β : Type} [DecidableEq α] (l1 : α → α → Bool) (l2 : β → β → Bool) (a b : α × β) : Bool := if a.1 = b.1 then l2 a.2 b.2 else l1 a.1 b.1
theorem tot_lex {α β : Type} [DecidableEq α] {l1 : α → α → Bool} {l2 : β → β → Bool} (o1 : Tot l1) (o2 : Tot l2) : Tot (lexLt l1 l2) := by
  refine ⟨fun a => by simp [lexLt, o2.irr], fun a b c h1 h2 => ?_, fun a b => ?_⟩
  · unfold lexLt at *
    by_cases e1 : a.1 = b.1
    · by_cases e2 : b.1 = c.1
      · rw [if_pos e1] at h1; rw [if_pos e2] at h2; rw [if_pos (e1.trans e2)]; exact o2.tr _ _ _ h1 h2
      · rw [if_neg e2] at h2; rw [e1, if_neg e2]; exact h2
    · rw [if_neg e1] at h1
      by_cases e2 : b.1 = c.1
      · rw [← e2, if_neg e1]; exact h1
      · rw [if_neg e2] at h2
        have h3 := o1.tr _ _ _ h1 h2
        rw [if_neg fun e => by rw [e, o1.irr] at h3; cases h3]
        exact h3
  · unfold lexLt
    by_cases e : a.1 = b.1
    · rw [if_pos e, if_pos e.symm]
      rcases o2.tot a.2 b.2 with q | q | q
      · exact .inl q
      · exact .inr (.inl (Prod.ext e q))
      · exact .inr (.inr q)
    · rw [if_neg e, if_neg (fun q => e q.symm)]
      rcases o1.tot a.1 b.1 with q | q | q
      · exact .inl q
      · exact absurd q e
      · exact .inr (.inr q)
def dgU (d : Dg) : List UInt8 := d.1.map fun b => b.toNat.toUInt8
theorem u8_inj {a b : B8} (h : a.toNat.toUInt8 = b.toNat.toUInt8) : a = b := by
  have ha := a.isLt
  have hb := b.isLt
  have h1 := congrArg UInt8.toNat h
  simp only [Nat.toUInt8_eq, UInt8.toNat_ofNat', Nat.mod_eq_of_lt ha, Nat.mod_eq_of_lt hb] at h1
  exact BitVec.eq_of_toNat_eq h1
theorem dgU_inj (a b : Dg) (h : dgU a = dgU b) : a = b := Subtype.ext (List.map_inj_right (fun _ _ => u8_inj) |>.1 h)
def dgLt (a b : Dg) : Bool := Op.bytesLess (dgU a) (dgU b)
theorem tot_dg : Tot dgLt := tot_inj (lt := Op.bytesLess) (f := dgU) dgU_inj tot_str
def orLt (a b : Org) : Bool := lexLt dgLt (lexLt Op.bytesLess Op.bytesLess) (a.rev, a.lay, a.run) (b.rev, b.lay, b.run)
theorem tot_or : Tot orLt := tot_inj (lt := lexLt dgLt (lexLt Op.bytesLess Op.bytesLess)) (f := fun o : Org => (o.rev, o.lay, o.run)) (fun a b h => by
  obtain ⟨a1, a2, a3⟩ := a; obtain ⟨b1, b2, b3⟩ := b
  simp only [Prod.mk.injEq] at h; obtain ⟨rfl, rfl, rfl⟩ := h; rfl) (tot_lex tot_dg (tot_lex tot_str tot_str))
end Go.Proofs.YtdnhbfmlklaldaaGreat
set_option linter.unusedSimpArgs false
set_option linter.unusedVariables false
namespace Go.Proofs.YtdnhbfmlklaldaaGreat
open Go Go.Am
def nilS {α : Type} : Sl α := ⟨none, [], fun _ => rfl, by simp⟩
def ownN {α : Type} (l : List α) : Sl α := if l.isEmpty then nilS else own l
theorem nilS_l {α : Type} : (nilS : Sl α).l = [] := rfl
theorem ownN_ne {α : Type} {l : List α} (h : l ≠ []) : ownN l = own l := by cases l with | nil => exact absurd rfl h | cons a l => rfl
theorem ownN_l {α : Type} {l : List α} (h : l.length ≤ 4294967296) : (ownN l).l = l := by
  cases l with
  | nil => rfl
  | cons a l => rw [ownN_ne (by simp), own_l h]
theorem ownN_nil_dv {α : Type} {s : Nat} {f : α → List DV} : (ownN ([] : List α)).dv s f = .nils := rfl
theorem ownN_dv {α : Type} {l : List α} {s : Nat} {f : α → List DV} (h : l ≠ []) (hb : l.length ≤ 4294967296) : (ownN l).dv s f = .sl false s l.length (l.flatMap f) := by rw [ownN_ne h, own_dv hb]
def orgOf (f : Fct) : Org := ⟨f.rev, f.lay, f.run⟩
def tmB (t : Int) : Bool := decide (0 ≤ t) && decide (t ≤ 1099511627776)
inductive Sel where
  | every
  | same (o : Org)
  | source (o : Org)
  | chained (o : Org) (q : Req)
  | fresh (o : Org) (c : Cas) (q : Req)
  | target (d : Dg)
def Sel.p : Sel → Fct → Bool
  | .every, _ => true
  | .same o, f => decide (orgOf f = o)
  | .source o, f => decide (f.rev = o.rev)
  | .chained o q, f => decide (orgOf f = o) && decide (f.lay = q.text)
  | .fresh o c q, f => decide (orgOf f = o) && (tmB f.at_ && (tmB c.at_ && (decide (f.at_ ≤ c.at_) && decide (c.at_ - f.at_ ≤ q.n))))
  | .target d, f => decide (f.tgt = d)
def factsS (l : List Fct) (k : Int) (s : Sel) : List Fct := l.filter fun f => decide (f.kind = k) && s.p f
def strU (l : List Str) : List Str := uSort Op.bytesLess l
def dgsU (l : List Dg) : List Dg := uSort dgLt l
def ownersS (l : List Fct) : List Str := strU (l.map (·.own))
def firstDocs (l : List Fct) (n : Str) : List Dg := match l.find? (fun f => decide (f.own = n)) with
  | some f => f.docs.l
  | none => []
def docsS (l : List Fct) (names : List Str) : List Dg := names.flatMap (firstDocs l)
def sortedS (x : Sl Dg) : Sl Dg := if x.l = [] then x.clone else own (dgsU x.l)
def heldS (docs : Sl Dg) : Sup := ⟨true, sortedS docs, 0⟩
def lackS (n : Int) : Sup := ⟨false, nilS, n⟩
def enoughS (l : List Fct) (n : Int) : Sup := if (ownersS l).length < n then lackS (n - (ownersS l).length) else heldS (ownN (docsS l ((ownersS l).take n.toNat)))
def oneS (l : List Fct) : Sup := match l with
  | [] => lackS 1
  | f :: _ => heldS f.docs
def againstS (all : List Fct) : List Str := ownersS (all.filter fun f => !f.agr)
def agreeS (shown all : List Fct) : List Str := (ownersS shown).filter fun n => !decide (n ∈ againstS all)
def rebMiss (shown all : List Fct) (q : Req) : Int := max (q.n - (agreeS shown all).length) 0 + max ((againstS all).length - q.m) 0
def rebuiltS (shown all : List Fct) (q : Req) : Sup := if 0 < rebMiss shown all q then lackS (rebMiss shown all q) else heldS (ownN (docsS shown ((agreeS shown all).take q.n.toNat)))
def listGo (l : List Fct) (n : Int) : List Dg → Int → Sup
  | [], m => lackS m
  | d :: r, m => if (enoughS (factsS l 5 (.target d)) n).holds then enoughS (factsS l 5 (.target d)) n else listGo l n r (min m (enoughS (factsS l 5 (.target d)) n).missing)
def listedS (l : List Fct) (n : Int) : Sup := listGo l n (dgsU (l.map (·.tgt))) n
def decS (l : List Fnd) (s : Int) : List Dg := (l.filter fun f => decide (s ≤ f.sev)).flatMap (·.dd.l)
def isOpen (f : Fnd) : Bool := decide (f.st = 3) || decide (f.st = 4)
def openL (l : List Fnd) (s : Int) : List Fnd := l.filter fun f => isOpen f && decide (s ≤ f.sev)
def contS (l : List Fnd) : Int := (l.filter (·.con)).length
def inspS (l : List Fct) (n : Int) (docs : List Dg) : Sup := match l with
  | [] => lackS 1
  | f :: _ => if 0 < n then lackS n else heldS (ownN (f.docs.l ++ docs))
def checkS (c : Cas) (fs all : List Fct) (o : Org) (q : Req) : Sup :=
  if q.kind = 1 then enoughS (factsS fs 1 (.same o)) q.n
  else if q.kind = 2 then oneS (factsS fs 2 (.chained o q))
  else if q.kind = 3 then enoughS (factsS fs 3 (.source o)) q.n
  else if q.kind = 4 then rebuiltS (factsS fs 4 (.source o)) (factsS all 4 (.source o)) q
  else if q.kind = 5 then listedS (factsS fs 5 .every) q.n
  else if q.kind = 6 then inspS (factsS fs 5 .every) (openL c.n.l q.n).length (decS c.n.l q.n)
  else if q.kind = 7 then oneS (factsS fs 1 (.fresh o c q))
  else inspS (factsS fs 5 .every) (contS c.n.l + c.d.l.length) []
def nameChar (first : Bool) (b : UInt8) : Bool := ((decide (97#8 ≤ b.toBitVec) && decide (b.toBitVec ≤ 122#8)) || (decide (48#8 ≤ b.toBitVec) && decide (b.toBitVec ≤ 57#8))) || (!first && (decide (b.toBitVec = 46#8) || decide (b.toBitVec = 95#8) || decide (b.toBitVec = 45#8)))
def nameB (s : Str) : Bool := decide (1 ≤ s.length) && decide (s.length ≤ 64) && (match s with | [] => false | b :: r => nameChar true b && r.all (nameChar false))
def inB (n a b : Int) : Bool := decide (a ≤ n) && decide (n ≤ b)
def reqB (q : Req) : Bool :=
  if q.kind = 1 ∨ q.kind = 3 ∨ q.kind = 5 then inB q.n 1 32 && decide (q.m = 0) && decide (q.text = [])
  else if q.kind = 4 then inB q.n 1 32 && inB q.m 0 32 && decide (q.text = [])
  else if q.kind = 2 then decide (q.n = 0) && decide (q.m = 0) && nameB q.text
  else if q.kind = 6 then inB q.n 1 10 && decide (q.m = 0) && decide (q.text = [])
  else if q.kind = 7 then inB q.n 0 1099511627776 && decide (q.m = 0) && decide (q.text = [])
  else decide (q.kind = 8) && decide (q.n = 0) && decide (q.m = 0) && decide (q.text = [])
def supZ : Sup := ⟨false, nilS, 0⟩
def CheckS (c : Cas) (o : Org) (q : Req) : Sup := if reqB q then checkS c c.f.l c.f.l o q else supZ
def subB (l docs : List Dg) : Bool := l.all fun d => decide (d ∈ docs)
def ByS (c : Cas) (o : Org) (q : Req) (docs : List Dg) : Bool :=
  reqB q && (!decide (q.kind = 6) || subB (decS c.n.l q.n) docs) && (checkS c (c.f.l.filter fun f => subB f.docs.l docs) c.f.l o q).holds
end Go.Proofs.YtdnhbfmlklaldaaGreat
set_option linter.unusedSimpArgs false
set_option linter.unusedVariables false
namespace Go.Proofs.YtdnhbfmlklaldaaGreat
open Go Go.Am
noncomputable def cS1 (g : DV) : List DV → Option DV := con (fun _ => True) (fun a : Str => [.str a]) (fun _ => g)
theorem cS1_eq {g : DV} {a : Str} : cS1 g [.str a] = some g := con_inj (f := fun a : Str => [.str a]) (g := fun _ => g) (fun a b e => by simpa using e) a
noncomputable def cS2 (g : Str → Str → DV) : List DV → Option DV := con (fun _ => True) (fun a : Str × Str => [.str a.1, .str a.2]) (fun a => g a.1 a.2)
theorem cS2_eq {g : Str → Str → DV} {a b : Str} : cS2 g [.str a, .str b] = some (g a b) := con_inj (f := fun a : Str × Str => [.str a.1, .str a.2]) (g := fun a => g a.1 a.2) (by
  rintro ⟨a, b⟩ ⟨c, d⟩ e
  simp only [List.cons.injEq, DV.str.injEq, and_true] at e
  rw [e.1, e.2]) (a, b)
theorem blss_str {a b : List UInt8} : binOpD .lss (.str a) (.str b) = some (.bool (Op.bytesLess a b)) := rfl
attribute [simp] blss_str
theorem runs_nan (a : Str) : Runs tbl0 a63 [.str a] (.bool false) := by
  refine ⟨?_⟩
  simp (disch := first | omega | (simp [-List.map_take, -List.map_drop, -List.map_set, -List.map_append, -List.drop_one] <;> omega) | fail) [-List.map_take, -List.map_drop, -List.map_set, -List.map_append, -List.drop_one, a63]
noncomputable def T500 : Tbl := addT 63 (.pure (cS1 (.bool false))) tbl0
theorem T500_n : T500 63 = .pure (cS1 (.bool false)) := by simp [T500]
theorem T500_sound : T500.Sound P := addT_sound (con_sound fun a _ => sem_runs mix tbl0_sound Tryz.func63 a63_ok (runs_nan a)) tbl0_sound
theorem runs_less (a b : Str) : Runs T500 a150 [.str a, .str b] (.bool (Op.bytesLess a b)) := by
  refine ⟨?_⟩
  simp (disch := first | omega | (simp [-List.map_take, -List.map_drop, -List.map_set, -List.map_append, -List.drop_one] <;> omega) | fail) [-List.map_take, -List.map_drop, -List.map_set, -List.map_append, -List.drop_one, a150, T500_n, cS1_eq]
noncomputable abbrev cLess : List DV → Option DV := cS2 fun a b => .bool (Op.bytesLess a b)
theorem cLess_eq {a b : Str} : cLess [.str a, .str b] = some (.bool (Op.bytesLess a b)) := cS2_eq
theorem less_sound : (Con.pure cLess).Sound P 150 := con_sound fun (a : Str × Str) _ => sem_runs mix T500_sound Tryz.func150 a150_ok (runs_less a.1 a.2)
noncomputable def T501 : Tbl := addT 150 (.pure cLess) tbl0
theorem T501_l : T501 150 = .pure cLess := by simp [T501]
theorem T501_sound : T501.Sound P := addT_sound less_sound tbl0_sound
theorem objV_pre0 {pre l : List AObj} {ver : Nat} : objV (pre ++ l) pre.length ver = objV l 0 ver := by
  unfold objV objAt; rw [List.getElem?_append_right (by omega), Nat.sub_self]
theorem set_pre0 {pre l : List AObj} {o : AObj} : (pre ++ l).set pre.length o = pre ++ l.set 0 o := by rw [List.set_append_right _ _ (by omega)]; simp
section
variable {α : Type} {lt : α → α → Bool}
theorem sortR_len (l : List α) : (sortR lt l).length = l.length := (sortR_perm l).length_eq
theorem sortR_one {l : List α} (h : l.length ≤ 1) : sortR lt l = l := by
  match l, h with
  | [], _ => rfl
  | [a], _ => rfl
theorem swap_set {A B R : List α} {x y : α} : ((A ++ [y] ++ x :: (B ++ R)).set (A.length + 1) y).set A.length x = A ++ x :: (y :: B ++ R) := by
  rw [List.append_assoc, List.set_append_right _ _ (by omega), show A.length + 1 - A.length = 1 by omega, List.set_append_right _ _ (by omega), Nat.sub_self]
  rfl
end
structure IPg (α : Type) where
  A : List α
  B : List α
def S500 (pre : List AObj) (n : Nat) (l : List Str) (i : Nat) : St := a144S0 (.ms pre.length n 0 1 n n) (.int .i64 0) (.int .i64 n) (.int .i64 i) (pre ++ [.cells ((sortR Op.bytesLess (l.take i) ++ l.drop i).map .str)])
def S501 (pre : List AObj) (n i : Nat) (x : Str) (R : List Str) (a : IPg Str) : St := a144S1 (.ms pre.length n 0 1 n n) (.int .i64 0) (.int .i64 n) (.int .i64 i) (.int .i64 a.A.length) (pre ++ [.cells ((a.A ++ x :: (a.B ++ R)).map .str)])
theorem runs_insS (pre : List AObj) (l : List Str) (hb : l.length ≤ 1000000) :
    RunsH T501 a144 [.ms pre.length l.length 0 1 l.length l.length, .int .i64 0, .int .i64 l.length] (pre ++ [.cells (l.map .str)]) (.tup []) (pre ++ [.cells ((sortR Op.bytesLess l).map .str)]) := by
  refine ⟨?_⟩
  obtain ⟨n, hn⟩ : ∃ n, l.length = n := ⟨_, rfl⟩
  rw [hn]
  rw [hn] at hb
  simp (disch := first | omega | (simp [-List.map_take, -List.map_drop, -List.map_set, -List.map_append, -List.drop_one] <;> omega) | fail) [-List.map_take, -List.map_drop, -List.map_set, -List.map_append, -List.drop_one, a144]
  refine W_loop (S500 pre n l) (fun i => n + 1 - i) (fun i => 1 ≤ i ∧ (i ≤ n ∨ n = 0)) 1 (weak_same (by simp (disch := first | omega | (simp [-List.map_take, -List.map_drop, -List.map_set, -List.map_append, -List.drop_one] <;> omega) | fail) [-List.map_take, -List.map_drop, -List.map_set, -List.map_append, -List.drop_one, S500, a144S0]) ?_) ⟨by omega, by omega⟩ (fun i hi => ?_)
  · simp (disch := first | omega | (simp [-List.map_take, -List.map_drop, -List.map_set, -List.map_append, -List.drop_one] <;> omega) | fail) [-List.map_take, -List.map_drop, -List.map_set, -List.map_append, -List.drop_one, S500, a144S0]
    rw [sortR_one (by simp; omega), List.take_append_drop]
  obtain ⟨h1, h2⟩ := hi
  simp (disch := first | omega | (simp [-List.map_take, -List.map_drop, -List.map_set, -List.map_append, -List.drop_one] <;> omega) | fail) [-List.map_take, -List.map_drop, -List.map_set, -List.map_append, -List.drop_one, a144L0, a144S0, S500]
  by_cases h : i < n
  · have h' : (i : Int) < n := by omega
    have hil : i < l.length := by omega
    obtain ⟨x, hx⟩ : ∃ x, l[i] = x := ⟨_, rfl⟩
    have hd : l.drop i = x :: l.drop (i + 1) := by rw [List.drop_eq_getElem_cons hil, hx]
    obtain ⟨Q, hQ⟩ : ∃ Q, sortR Op.bytesLess (l.take i) = Q := ⟨_, rfl⟩
    have hQl : Q.length = i := by rw [← hQ, sortR_len]; simp; omega
    have hnext : sortR Op.bytesLess (l.take (i + 1)) = insR Op.bytesLess x Q := by rw [List.take_succ_eq_append_getElem hil, sortR_snoc, hQ, hx]
    obtain ⟨R, hR⟩ : ∃ R, l.drop (i + 1) = R := ⟨_, rfl⟩
    have hRl : R.length = n - (i + 1) := by rw [← hR]; simp; omega
    rw [hd, hQ, hR]
    simp (disch := first | omega | (simp [-List.map_take, -List.map_drop, -List.map_set, -List.map_append, -List.drop_one] <;> omega) | fail) [-List.map_take, -List.map_drop, -List.map_set, -List.map_append, -List.drop_one, h, h']
    refine W_loop (S501 pre n i x R) (fun a => a.A.length) (fun a => a.A ++ a.B = Q ∧ ∀ b ∈ a.B, Op.bytesLess x b = true) ⟨Q, []⟩ (weak_same (by simp (disch := first | omega | (simp [-List.map_take, -List.map_drop, -List.map_set, -List.map_append, -List.drop_one] <;> omega) | fail) [-List.map_take, -List.map_drop, -List.map_set, -List.map_append, -List.drop_one, S501, a144S1, hQl]) (by simp (disch := first | omega | (simp [-List.map_take, -List.map_drop, -List.map_set, -List.map_append, -List.drop_one] <;> omega) | fail) [-List.map_take, -List.map_drop, -List.map_set, -List.map_append, -List.drop_one, S501, a144S1])) ⟨by simp, by simp⟩ (fun a ha => ?_)
    obtain ⟨A, B⟩ := a
    obtain ⟨r1, r2⟩ := ha
    simp only at r1 r2
    simp (disch := first | omega | (simp [-List.map_take, -List.map_drop, -List.map_set, -List.map_append, -List.drop_one] <;> omega) | fail) [-List.map_take, -List.map_drop, -List.map_set, -List.map_append, -List.drop_one, a144L1, a144S1, S501]
    rcases (List.eq_nil_or_concat A) with rfl | ⟨A', y, rfl⟩
    · have e : insR Op.bytesLess x Q = x :: B := by rw [← r1]; exact insR_at r2 (.inl rfl)
      have hfin : sortR Op.bytesLess (l.take (i + 1)) ++ l.drop (i + 1) = x :: (B ++ R) := by rw [hnext, e, hR]; rfl
      simp (disch := first | omega | (simp [-List.map_take, -List.map_drop, -List.map_set, -List.map_append, -List.drop_one] <;> omega) | fail) [-List.map_take, -List.map_drop, -List.map_set, -List.map_append, -List.drop_one]
      refine ⟨i + 1, weak_same (by simp (disch := first | omega | (simp [-List.map_take, -List.map_drop, -List.map_set, -List.map_append, -List.drop_one] <;> omega) | fail) [-List.map_take, -List.map_drop, -List.map_set, -List.map_append, -List.drop_one, S500, a144S0]) (by simp (disch := first | omega | (simp [-List.map_take, -List.map_drop, -List.map_set, -List.map_append, -List.drop_one] <;> omega) | fail) [-List.map_take, -List.map_drop, -List.map_set, -List.map_append, -List.drop_one, S500, a144S0, hfin]), by omega, by omega, by omega⟩
    · rw [List.concat_eq_append] at r1
      have hAl : A'.length + 1 + B.length = i := by rw [← hQl, ← r1]; simp; omega
      obtain ⟨L, hL⟩ : ∃ L, A' ++ [y] ++ x :: (B ++ R) = L := ⟨_, rfl⟩
      have hLl : L.length = n := by rw [← hL]; simp; omega
      have g1 : ∀ h : A'.length < L.length, L[A'.length] = y := fun h => by subst hL; simp
      have g2 : ∀ h : A'.length + 1 < L.length, L[A'.length + 1] = x := fun h => by subst hL; simp [List.getElem_append_right]
      have hs := swap_set (A := A') (B := B) (R := R) (x := x) (y := y)
      rw [hL] at hs
      have hs2 := congrArg (List.map DV.str) hs
      rw [List.map_set, List.map_set] at hs2
      cases hc : Op.bytesLess x y with
      | true =>
        simp (disch := first | omega | (simp [-List.map_take, -List.map_drop, -List.map_set, -List.map_append, -List.drop_one] <;> omega) | fail) [-List.map_take, -List.map_drop, -List.map_set, -List.map_append, -List.drop_one, hL, hLl, g1, g2, T501_l, cLess_eq, objV_pre0, set_pre0, hc, hs2]
        refine ⟨⟨A', y :: B⟩, weak_same (by simp (disch := first | omega | (simp [-List.map_take, -List.map_drop, -List.map_set, -List.map_append, -List.drop_one] <;> omega) | fail) [-List.map_take, -List.map_drop, -List.map_set, -List.map_append, -List.drop_one, S501, a144S1]) (by simp (disch := first | omega | (simp [-List.map_take, -List.map_drop, -List.map_set, -List.map_append, -List.drop_one] <;> omega) | fail) [-List.map_take, -List.map_drop, -List.map_set, -List.map_append, -List.drop_one, S501, a144S1]), by simp, by simpa using r1, fun b hb => ?_⟩
        rcases List.mem_cons.1 hb with rfl | hb
        · exact hc
        · exact r2 b hb
      | false =>
        simp (disch := first | omega | (simp [-List.map_take, -List.map_drop, -List.map_set, -List.map_append, -List.drop_one] <;> omega) | fail) [-List.map_take, -List.map_drop, -List.map_set, -List.map_append, -List.drop_one, hL, hLl, g1, g2, T501_l, cLess_eq, objV_pre0, set_pre0, hc]
        have e : insR Op.bytesLess x Q = A' ++ [y] ++ x :: B := by rw [← r1]; exact insR_at r2 (.inr ⟨A', y, rfl, hc⟩)
        have hfin : sortR Op.bytesLess (l.take (i + 1)) ++ l.drop (i + 1) = L := by rw [hnext, e, hR, ← hL]; simp
        refine ⟨i + 1, weak_same (by simp (disch := first | omega | (simp [-List.map_take, -List.map_drop, -List.map_set, -List.map_append, -List.drop_one] <;> omega) | fail) [-List.map_take, -List.map_drop, -List.map_set, -List.map_append, -List.drop_one, S500, a144S0]) (by simp (disch := first | omega | (simp [-List.map_take, -List.map_drop, -List.map_set, -List.map_append, -List.drop_one] <;> omega) | fail) [-List.map_take, -List.map_drop, -List.map_set, -List.map_append, -List.drop_one, S500, a144S0, hfin]), by omega, by omega, by omega⟩
  · have h' : ¬ (i : Int) < n := by omega
    have e1 : l.drop i = [] := List.drop_of_length_le (by omega)
    have e2 : l.take i = l := List.take_of_length_le (by omega)
    simp (disch := first | omega | (simp [-List.map_take, -List.map_drop, -List.map_set, -List.map_append, -List.drop_one] <;> omega) | fail) [-List.map_take, -List.map_drop, -List.map_set, -List.map_append, -List.drop_one, h, h', e1, e2]
end Go.Proofs.YtdnhbfmlklaldaaGreat
set_option linter.unusedSimpArgs false
set_option linter.unusedVariables false
namespace Go.Proofs.YtdnhbfmlklaldaaGreat
open Go Go.Am
set_option linter.unusedSectionVars false
section
variable {α : Type} [DecidableEq α]
def consC (a : α) : List α → List α
  | [] => [a]
  | b :: r => if a = b then b :: r else a :: b :: r
theorem compL_cons (a : α) (l : List α) : compL (a :: l) = consC a (compL l) := by
  rw [compL]; cases compL l <;> rfl
theorem consC_app {a b x : α} {r : List α} : consC a (b :: r ++ [x]) = consC a (b :: r) ++ [x] := by
  simp only [List.cons_append, consC]; split <;> simp
theorem compL_snoc : ∀ (l : List α) (x : α), compL (l ++ [x]) = if l.getLast? = some x then compL l else compL l ++ [x]
  | [], x => by simp [compL]
  | [a], x => by
    by_cases h : a = x
    · simp [compL, h]
    · simp [compL, h]
  | a :: b :: r, x => by
    have ih := compL_snoc (b :: r) x
    obtain ⟨r', hr⟩ := compL_head (a := b) (l := r)
    rw [List.cons_append, compL_cons a (b :: r ++ [x]), compL_cons a (b :: r), ih, List.getLast?_cons_cons]
    by_cases h : (b :: r).getLast? = some x
    · rw [if_pos h, if_pos h]
    · rw [if_neg h, if_neg h, hr, consC_app]
theorem getLast_take {l : List α} {j : Nat} (h0 : 0 < j) (h : j ≤ l.length) : (l.take j).getLast? = some l[j - 1] := by
  obtain ⟨i, rfl⟩ : ∃ i, j = i + 1 := ⟨j - 1, by omega⟩
  rw [List.take_succ_eq_append_getElem (by omega), List.getLast?_concat]
  rfl
theorem compL_take {l : List α} {j : Nat} (h0 : 0 < j) (h : j < l.length) : compL (l.take (j + 1)) = if l[j - 1] = l[j] then compL (l.take j) else compL (l.take j) ++ [l[j]] := by
  rw [List.take_succ_eq_append_getElem h, compL_snoc, getLast_take h0 (by omega)]
  by_cases e : l[j - 1] = l[j] <;> simp [e]
structure CPg (α : Type) where
  j : Nat
  M : List α
structure CompI (l : List α) (k0 : Nat) (a : CPg α) : Prop where
  j0 : k0 < a.j
  j1 : a.j ≤ l.length
  len : a.M.length = l.length
  t : a.M.take (compL (l.take a.j)).length = compL (l.take a.j)
  d : a.M.drop (a.j - 1) = l.drop (a.j - 1)
  k : (compL (l.take a.j)).length ≤ a.j - 1
theorem CompI.start {l : List α} {k0 : Nat} (h0 : 0 < k0) (h : k0 < l.length) (hc : compL (l.take k0) = l.take k0) (he : l[k0 - 1] = l[k0]) : CompI l k0 ⟨k0 + 1, l⟩ ∧ (compL (l.take (k0 + 1))).length = k0 := by
  have e : compL (l.take (k0 + 1)) = l.take k0 := by rw [compL_take h0 h, if_pos he, hc]
  have el : (compL (l.take (k0 + 1))).length = k0 := by rw [e, List.length_take]; omega
  exact ⟨⟨by simp, h, rfl, by simp only [el]; exact e.symm, rfl, by simp only [el]; omega⟩, el⟩
theorem CompI.get {l : List α} {k0 : Nat} {a : CPg α} (h : CompI l k0 a) (hj : a.j < l.length) (h1 : a.j < a.M.length) (h2 : a.j - 1 < a.M.length) : a.M[a.j] = l[a.j] ∧ a.M[a.j - 1] = l[a.j - 1] := by
  have hd := h.d
  have h0 := h.j0
  have e1 : (a.M.drop (a.j - 1))[0]'(by simp; omega) = (l.drop (a.j - 1))[0]'(by simp; omega) := by simp only [hd]
  have e2 : (a.M.drop (a.j - 1))[1]'(by simp; omega) = (l.drop (a.j - 1))[1]'(by simp; omega) := by simp only [hd]
  simp only [List.getElem_drop, Nat.add_zero] at e1
  simp only [List.getElem_drop, show a.j - 1 + 1 = a.j by omega] at e2
  exact ⟨e2, e1⟩
theorem drop_step {l M : List α} {i : Nat} (h : M.drop i = l.drop i) : M.drop (i + 1) = l.drop (i + 1) := by
  have := congrArg (List.drop 1) h
  simpa [List.drop_drop] using this
theorem CompI.same {l : List α} {k0 : Nat} {a : CPg α} (h : CompI l k0 a) (h0 : 0 < k0) (hj : a.j < l.length) (e : l[a.j - 1] = l[a.j]) : CompI l k0 ⟨a.j + 1, a.M⟩ ∧ compL (l.take (a.j + 1)) = compL (l.take a.j) := by
  have hj0 := h.j0
  have ec : compL (l.take (a.j + 1)) = compL (l.take a.j) := by rw [compL_take (by omega) hj, if_pos e]
  have hd := drop_step h.d
  rw [show a.j - 1 + 1 = a.j by omega] at hd
  exact ⟨⟨by simp only; omega, hj, h.len, by simp only [ec]; exact h.t, by simpa using hd, by have := h.k; simp only [ec]; omega⟩, ec⟩
theorem CompI.step {l : List α} {k0 : Nat} {a : CPg α} (h : CompI l k0 a) (h0 : 0 < k0) (hj : a.j < l.length) (e : ¬ l[a.j - 1] = l[a.j]) : CompI l k0 ⟨a.j + 1, a.M.set (compL (l.take a.j)).length l[a.j]⟩ ∧ (compL (l.take (a.j + 1))).length = (compL (l.take a.j)).length + 1 := by
  have hj0 := h.j0
  have hk := h.k
  have hl := h.len
  have ht := h.t
  have ec : compL (l.take (a.j + 1)) = compL (l.take a.j) ++ [l[a.j]] := by rw [compL_take (by omega) hj, if_neg e]
  have el : (compL (l.take (a.j + 1))).length = (compL (l.take a.j)).length + 1 := by rw [ec]; simp
  obtain ⟨C, hC⟩ : ∃ C, compL (l.take a.j) = C := ⟨_, rfl⟩
  rw [hC] at ec el hk ht ⊢
  have hd := drop_step h.d
  rw [show a.j - 1 + 1 = a.j by omega] at hd
  refine ⟨⟨by simp only; omega, hj, by simp only [List.length_set]; exact hl, ?_, ?_, by simp only [el]; omega⟩, el⟩
  · show (a.M.set C.length l[a.j]).take (compL (l.take (a.j + 1))).length = compL (l.take (a.j + 1))
    rw [el, ec]
    rw [List.set_eq_take_append_cons_drop, if_pos (by omega), ht, List.take_append, List.take_of_length_le (by omega), show C.length + 1 - C.length = 1 by omega]
    rfl
  · simp only [show a.j + 1 - 1 = a.j by omega]
    rw [List.drop_set, if_pos (by omega)]
    exact hd
theorem CompI.fin {l : List α} {k0 : Nat} {a : CPg α} (h : CompI l k0 a) (hj : a.j = l.length) : a.M = compL l ++ a.M.drop (compL l).length := by
  have ht := h.t
  rw [hj, List.take_length] at ht
  have := (List.take_append_drop (compL l).length a.M).symm
  rw [ht] at this
  exact this
def compO (z : α) (l : List α) : List α := compL l ++ List.replicate (l.length - (compL l).length) z
theorem compO_len (z : α) (l : List α) : (compO z l).length = l.length := by have := compL_len l; simp [compO]; omega
theorem compO_same {z : α} {l : List α} (h : compL l = l) : compO z l = l := by simp [compO, h]
end
theorem splice_end {A B C : List DV} (h : B.length = C.length) : splice (A ++ B) A.length C = A ++ C := by
  unfold splice
  rw [List.take_left, ← h, ← List.length_append, List.drop_length, List.append_nil]
def stV (p : Nat) (l : List Str) : DV := if l = [] then .nils else .ms p l.length 0 1 l.length l.length
def stH (pre : List AObj) (l : List Str) : List AObj := if l = [] then pre else pre ++ [.cells (l.map .str)]
theorem stV_nil {p : Nat} : stV p [] = .nils := rfl
theorem stH_nil {pre : List AObj} : stH pre [] = pre := rfl
theorem stV_ne {p : Nat} {l : List Str} (h : l ≠ []) : stV p l = .ms p l.length 0 1 l.length l.length := if_neg h
theorem stH_ne {pre : List AObj} {l : List Str} (h : l ≠ []) : stH pre l = pre ++ [.cells (l.map .str)] := if_neg h
theorem mapstr_inj {a b : List Str} : a.map DV.str = b.map DV.str ↔ a = b := List.map_inj_right (fun _ _ h => by simpa using h)
theorem st_inj {pre pre' : List AObj} {l l' : List Str} (h1 : stV pre.length l = stV pre'.length l') (h2 : stH pre l = stH pre' l') : pre = pre' ∧ l = l' := by
  by_cases e : l = []
  · by_cases e' : l' = []
    · subst e e'; exact ⟨h2, rfl⟩
    · subst e; rw [stV_nil, stV_ne e'] at h1; cases h1
  · by_cases e' : l' = []
    · subst e'; rw [stV_nil, stV_ne e] at h1; cases h1
    · rw [stH_ne e, stH_ne e'] at h2
      have h := List.append_inj' h2 rfl
      refine ⟨h.1, ?_⟩
      have h3 := h.2
      simp only [List.cons.injEq, AObj.cells.injEq, and_true, mapstr_inj] at h3
      exact h3
theorem lenD_st {pre : List AObj} {l : List Str} : lenD (stH pre l) (stV pre.length l) = some (.int .i64 l.length) := by
  by_cases e : l = []
  · subst e; rfl
  · rw [stV_ne e, stH_ne e]
    simp [objV_last]
def blN (n : Nat) : Nat := if n = 0 then 0 else Nat.log2 n + 1
abbrev SA := List AObj × List Str
noncomputable def cSt (A : SA → Prop) (f : SA → List DV) (g : SA → DV × List AObj) : List DV → List AObj → Option (DV × List AObj) := conH A (fun a => (f a, stH a.1 a.2)) g
theorem cSt_eq {A : SA → Prop} {f : SA → List DV} {g : SA → DV × List AObj} (hf : ∀ a b, f a = f b → stV a.1.length a.2 = stV b.1.length b.2) {a : SA} (h : A a) : cSt A f g (f a) (stH a.1 a.2) = some (g a) :=
  conH_eq' (A := A) (f := fun a => (f a, stH a.1 a.2)) (g := g) (fun a b h1 h2 e => by
    simp only [Prod.mk.injEq] at e
    obtain ⟨p, q⟩ := st_inj (hf a b e.1) e.2
    rw [show a = b from Prod.ext p q]) a h
def sSrt (a : SA) : DV × List AObj := (.tup [], stH a.1 (sortR Op.bytesLess a.2))
def sB (a : SA) : Prop := a.2.length ≤ 12
def fInsS (a : SA) : List DV := [stV a.1.length a.2, .int .i64 0, .int .i64 a.2.length]
def fPdqS (a : SA) : List DV := [stV a.1.length a.2, .int .i64 0, .int .i64 a.2.length, .int .i64 (blN a.2.length)]
def fOne (a : SA) : List DV := [stV a.1.length a.2]
theorem fIns_inj (a b : SA) (e : fInsS a = fInsS b) : stV a.1.length a.2 = stV b.1.length b.2 := by simp only [fInsS, List.cons.injEq] at e; exact e.1
theorem fPdq_inj (a b : SA) (e : fPdqS a = fPdqS b) : stV a.1.length a.2 = stV b.1.length b.2 := by simp only [fPdqS, List.cons.injEq] at e; exact e.1
theorem fOne_inj (a b : SA) (e : fOne a = fOne b) : stV a.1.length a.2 = stV b.1.length b.2 := by simp only [fOne, List.cons.injEq] at e; exact e.1
theorem sortR_ne' {l : List Str} (h : l ≠ []) : sortR Op.bytesLess l ≠ [] := fun e => h (List.eq_nil_of_length_eq_zero (by rw [← sortR_len (lt := Op.bytesLess), e]; rfl))
theorem runs_insS0 (pre : List AObj) : RunsH T501 a144 [.nils, .int .i64 0, .int .i64 0] pre (.tup []) pre := by
  refine ⟨?_⟩
  simp (disch := first | omega | (simp [-List.map_take, -List.map_drop, -List.map_set, -List.map_append, -List.drop_one] <;> omega) | fail) [-List.map_take, -List.map_drop, -List.map_set, -List.map_append, -List.drop_one, a144]
  refine W_loop (fun _ : Unit => a144S0 .nils (.int .i64 0) (.int .i64 0) (.int .i64 1) pre) (fun _ => 0) (fun _ => True) () (weak_same (by simp (disch := first | omega | (simp [-List.map_take, -List.map_drop, -List.map_set, -List.map_append, -List.drop_one] <;> omega) | fail) [-List.map_take, -List.map_drop, -List.map_set, -List.map_append, -List.drop_one, a144S0]) (by simp (disch := first | omega | (simp [-List.map_take, -List.map_drop, -List.map_set, -List.map_append, -List.drop_one] <;> omega) | fail) [-List.map_take, -List.map_drop, -List.map_set, -List.map_append, -List.drop_one, a144S0])) trivial (fun i hi => ?_)
  simp (disch := first | omega | (simp [-List.map_take, -List.map_drop, -List.map_set, -List.map_append, -List.drop_one] <;> omega) | fail) [-List.map_take, -List.map_drop, -List.map_set, -List.map_append, -List.drop_one, a144L0, a144S0]
theorem runs_insSG {a : SA} (h : sB a) : RunsH T501 a144 (fInsS a) (stH a.1 a.2) (.tup []) (stH a.1 (sortR Op.bytesLess a.2)) := by
  obtain ⟨pre, l⟩ := a
  have h : l.length ≤ 12 := h
  by_cases e : l = []
  · subst e; exact runs_insS0 pre
  · have := runs_insS pre l (by omega)
    simp only [fInsS, stV_ne e, stH_ne e, stH_ne (sortR_ne' e)]
    exact this
noncomputable def T502 : Tbl := addT 144 (.heap (cSt sB fInsS sSrt)) tbl0
theorem T502_i : T502 144 = .heap (cSt sB fInsS sSrt) := by simp [T502]
theorem T502_sound : T502.Sound P := addT_sound (conH_sound fun a h => calls_runs mix T501_sound Tryz.func144 a144_ok (runs_insSG h)) tbl0_sound
theorem cIns_eq {pre : List AObj} {l : List Str} (h : l.length ≤ 12) : cSt sB fInsS sSrt [stV pre.length l, .int .i64 0, .int .i64 l.length] (stH pre l) = some (.tup [], stH pre (sortR Op.bytesLess l)) := cSt_eq fIns_inj (a := (pre, l)) h
theorem runs_pdqS {a : SA} (h : sB a) : RunsH T502 a140 (fPdqS a) (stH a.1 a.2) (.tup []) (stH a.1 (sortR Op.bytesLess a.2)) := by
  obtain ⟨pre, l⟩ := a
  have h : l.length ≤ 12 := h
  have he := cIns_eq (pre := pre) h
  refine ⟨?_⟩
  simp only [fPdqS]
  obtain ⟨b, hb⟩ : ∃ b, blN l.length = b := ⟨_, rfl⟩
  obtain ⟨n, hn⟩ : ∃ n, l.length = n := ⟨_, rfl⟩
  rw [hn] at he h
  rw [hb, hn]
  obtain ⟨V, hV⟩ : ∃ V, stV pre.length l = V := ⟨_, rfl⟩
  obtain ⟨H, hH⟩ : ∃ H, stH pre l = H := ⟨_, rfl⟩
  obtain ⟨K, hK⟩ : ∃ K, stH pre (sortR Op.bytesLess l) = K := ⟨_, rfl⟩
  rw [hV, hH, hK] at he
  rw [hV, hH, hK]
  have h1 : (n : Int) ≤ 12 := by omega
  simp (disch := first | omega | (simp [-List.map_take, -List.map_drop, -List.map_set, -List.map_append, -List.drop_one] <;> omega) | fail) [-List.map_take, -List.map_drop, -List.map_set, -List.map_append, -List.drop_one, a140]
  refine W_loop (fun _ : Unit => a140S0 V (.int .i64 0) (.int .i64 n) (.int .i64 b) (.bool true) (.bool true) H) (fun _ => 0) (fun _ => True) () (weak_same (by simp (disch := first | omega | (simp [-List.map_take, -List.map_drop, -List.map_set, -List.map_append, -List.drop_one] <;> omega) | fail) [-List.map_take, -List.map_drop, -List.map_set, -List.map_append, -List.drop_one, a140S0]) (by simp (disch := first | omega | (simp [-List.map_take, -List.map_drop, -List.map_set, -List.map_append, -List.drop_one] <;> omega) | fail) [-List.map_take, -List.map_drop, -List.map_set, -List.map_append, -List.drop_one, a140S0])) trivial (fun i hi => ?_)
  simp (disch := first | omega | (simp [-List.map_take, -List.map_drop, -List.map_set, -List.map_append, -List.drop_one] <;> omega) | fail) [-List.map_take, -List.map_drop, -List.map_set, -List.map_append, -List.drop_one, a140L0, a140S0, h1, T502_i, he]
def len8tab : List UInt8 := [0, 1, 2, 2, 3, 3, 3, 3, 4, 4, 4, 4, 4, 4, 4, 4, 5, 5, 5, 5, 5, 5, 5, 5, 5, 5, 5, 5, 5, 5, 5, 5, 6, 6, 6, 6, 6, 6, 6, 6, 6, 6, 6, 6, 6, 6, 6, 6, 6, 6, 6, 6, 6, 6, 6, 6, 6, 6, 6, 6, 6, 6, 6, 6, 7, 7, 7, 7, 7, 7, 7, 7, 7, 7, 7, 7, 7, 7, 7, 7, 7, 7, 7, 7, 7, 7, 7, 7, 7, 7, 7, 7, 7, 7, 7, 7, 7, 7, 7, 7, 7, 7, 7, 7, 7, 7, 7, 7, 7, 7, 7, 7, 7, 7, 7, 7, 7, 7, 7, 7, 7, 7, 7, 7, 7, 7, 7, 7, 8, 8, 8, 8, 8, 8, 8, 8, 8, 8, 8, 8, 8, 8, 8, 8, 8, 8, 8, 8, 8, 8, 8, 8, 8, 8, 8, 8, 8, 8, 8, 8, 8, 8, 8, 8, 8, 8, 8, 8, 8, 8, 8, 8, 8, 8, 8, 8, 8, 8, 8, 8, 8, 8, 8, 8, 8, 8, 8, 8, 8, 8, 8, 8, 8, 8, 8, 8, 8, 8, 8, 8, 8, 8, 8, 8, 8, 8, 8, 8, 8, 8, 8, 8, 8, 8, 8, 8, 8, 8, 8, 8, 8, 8, 8, 8, 8, 8, 8, 8, 8, 8, 8, 8, 8, 8, 8, 8, 8, 8, 8, 8, 8, 8, 8, 8, 8, 8, 8, 8, 8, 8, 8, 8, 8, 8, 8, 8]
set_option maxRecDepth 20000 in
theorem len_len8tab : len8tab.length = 256 := by decide +kernel
set_option maxRecDepth 20000 in
theorem len8tab_eq : ∀ n (h : n < len8tab.length), IntKind.i64.wrap ((len8tab[n]).toNat : Int) = ((blN n : Nat) : Int) := by decide +kernel
set_option maxRecDepth 20000 in
theorem runs_len64 (n : Nat) (h1 : n < 256) : Runs tbl0 a103 [w64 (BitVec.ofNat 64 n)] (.int .i64 (blN n)) := by
  refine ⟨?_⟩
  have c1 : ¬ (4294967296#64 ≤ BitVec.ofNat 64 n) := by rw [BitVec.le_def, BitVec.toNat_ofNat, BitVec.toNat_ofNat]; omega
  have c2 : ¬ (65536#64 ≤ BitVec.ofNat 64 n) := by rw [BitVec.le_def, BitVec.toNat_ofNat, BitVec.toNat_ofNat]; omega
  have c3 : ¬ (256#64 ≤ BitVec.ofNat 64 n) := by rw [BitVec.le_def, BitVec.toNat_ofNat, BitVec.toNat_ofNat]; omega
  have e1 : (BitVec.ofNat 8 n).toNat = n := by simp; omega
  simp (disch := first | omega | (simp [-List.map_take, -List.map_drop, -List.map_set, -List.map_append, -List.drop_one] <;> omega) | fail) [-List.map_take, -List.map_drop, -List.map_set, -List.map_append, -List.drop_one, a103, c1, c2, c3]
  have e3 : ((n : Int) % 256).toNat = n := by omega
  have := len8tab_eq n (by rw [len_len8tab]; exact h1)
  simp only [e3]
  simpa [len8tab] using this
noncomputable def cLen : List DV → Option DV := con (fun (n : Nat) => n < 256) (fun n => [w64 (BitVec.ofNat 64 n)]) (fun n => .int .i64 (blN n))
theorem cLen_eq {n : Nat} (h1 : n < 256) : cLen [w64 (BitVec.ofNat 64 n)] = some (.int .i64 (blN n)) :=
  con_eq' (a := n) (by
    intro a b ha hb e
    simp only [List.cons.injEq, and_true, inj_w64] at e
    have := congrArg BitVec.toNat e
    rw [BitVec.toNat_ofNat, BitVec.toNat_ofNat] at this
    have : a = b := by omega
    rw [this]) h1
noncomputable def T503 : Tbl := addT 103 (.pure cLen) tbl0
theorem T503_len : T503 103 = .pure cLen := by simp [T503]
theorem T503_sound : T503.Sound P := addT_sound (con_sound fun n h => sem_runs mix tbl0_sound Tryz.func103 a103_ok (runs_len64 n h)) tbl0_sound
theorem runs_blen (n : Nat) (h1 : n < 256) : Runs T503 a61 [w64 (BitVec.ofNat 64 n)] (.int .i64 (blN n)) := by
  refine ⟨?_⟩
  simp (disch := first | omega | (simp [-List.map_take, -List.map_drop, -List.map_set, -List.map_append, -List.drop_one] <;> omega) | fail) [-List.map_take, -List.map_drop, -List.map_set, -List.map_append, -List.drop_one, a61, T503_len, cLen_eq h1]
theorem blen_sound : (Con.pure cLen).Sound P 61 := con_sound fun n h => sem_runs mix T503_sound Tryz.func61 a61_ok (runs_blen n h)
noncomputable def T504 : Tbl := addT 61 (.pure cLen) (addT 140 (.heap (cSt sB fPdqS sSrt)) tbl0)
theorem T504_l : T504 61 = .pure cLen := by simp [T504]
theorem T504_p : T504 140 = .heap (cSt sB fPdqS sSrt) := by simp [T504]
theorem T504_sound : T504.Sound P := addT_sound blen_sound (addT_sound (conH_sound fun a h => calls_runs mix T502_sound Tryz.func140 a140_ok (runs_pdqS h)) tbl0_sound)
theorem cPdq_eq {pre : List AObj} {l : List Str} (h : l.length ≤ 12) : cSt sB fPdqS sSrt [stV pre.length l, .int .i64 0, .int .i64 l.length, .int .i64 (blN l.length)] (stH pre l) = some (.tup [], stH pre (sortR Op.bytesLess l)) := cSt_eq fPdq_inj (a := (pre, l)) h
theorem runs_sortS {a : SA} (h : sB a) : RunsH T504 a125 (fOne a) (stH a.1 a.2) (.tup []) (stH a.1 (sortR Op.bytesLess a.2)) := by
  obtain ⟨pre, l⟩ := a
  have h : l.length ≤ 12 := h
  have he := cPdq_eq (pre := pre) h
  have hl := lenD_st (pre := pre) (l := l)
  refine ⟨?_⟩
  simp only [fOne]
  obtain ⟨n, hn⟩ : ∃ n, l.length = n := ⟨_, rfl⟩
  rw [hn] at he h hl
  obtain ⟨V, hV⟩ : ∃ V, stV pre.length l = V := ⟨_, rfl⟩
  obtain ⟨H, hH⟩ : ∃ H, stH pre l = H := ⟨_, rfl⟩
  obtain ⟨K, hK⟩ : ∃ K, stH pre (sortR Op.bytesLess l) = K := ⟨_, rfl⟩
  rw [hV, hH, hK] at he
  rw [hV, hH] at hl
  rw [hV, hH, hK]
  have hc := cLen_eq (n := n) (by omega)
  simp (disch := first | omega | (simp [-List.map_take, -List.map_drop, -List.map_set, -List.map_append, -List.drop_one] <;> omega) | fail) [-List.map_take, -List.map_drop, -List.map_set, -List.map_append, -List.drop_one, a125, hl, T504_l, T504_p, he, hc]
theorem sortS_sound : (Con.heap (cSt sB fOne sSrt)).Sound P 125 := conH_sound fun a h => calls_runs mix T504_sound Tryz.func125 a125_ok (runs_sortS h)
end Go.Proofs.YtdnhbfmlklaldaaGreat
set_option linter.unusedSimpArgs false
set_option linter.unusedVariables false
namespace Go.Proofs.YtdnhbfmlklaldaaGreat
open Go Go.Am
def a37 : AFn where
  code := (.seq (.region false [⟨none, (some 4), .mov (.k (.int .i64 0))⟩])
  (.seq (.region false [⟨none, (some 5), .mov (.t 0)⟩,
    ⟨none, (some 6), .mov (.t 1)⟩,
    ⟨none, (some 7), .call (.k (.fn (.func 62) [] [])) [(.t 5), (.t 6)]⟩,
    ⟨none, (some 4), .mov (.t 7)⟩])
  .ret))
  ntmps := 8
  res := [.tmp 4]
theorem a37_ok : compileFn P Tryz.f37 = some a37 := by kernel_rfl
def a133 : AFn where
  code := (.seq (.region false [⟨none, (some 2), .box (.t 0)⟩,
    ⟨none, (some 3), .box (.t 1)⟩,
    ⟨none, (some 4), .mov (.k (.int .i64 0))⟩])
  (.seq (.region true [⟨none, (some 5), .slcA 32 1 (.t 2) none none⟩,
    ⟨none, (some 6), .slcA 32 1 (.t 3) none none⟩,
    ⟨none, (some 7), .callN (.k (.fn (.func 37) [] [])) [(.t 5), (.t 6)]⟩,
    ⟨none, (some 4), .mov (.t 7)⟩])
  .ret))
  ntmps := 8
  res := [.tmp 4]
theorem a133_ok : compileFn P Tryz.f133 = some a133 := by kernel_rfl
def a153L1 : ACode :=
  (.seq (.seq (.region true [⟨none, (some 18), .mov (.t 9)⟩,
    ⟨none, (some 19), .mov (.t 1)⟩,
    ⟨none, (some 20), .bin .gtr (.t 18) (.t 19)⟩,
    ⟨none, (some 21), .mov (.t 20)⟩,
    ⟨(some (21, true)), (some 22), .mov (.t 3)⟩,
    ⟨(some (21, true)), (some 23), .mov (.t 0)⟩,
    ⟨(some (21, true)), (some 24), .mov (.t 9)⟩,
    ⟨(some (21, true)), (some 25), .idxS 32 (.t 23) (.t 24)⟩,
    ⟨(some (21, true)), (some 26), .load 32 true (.t 25)⟩,
    ⟨(some (21, true)), (some 27), .mov (.t 0)⟩,
    ⟨(some (21, true)), (some 28), .mov (.t 9)⟩,
    ⟨(some (21, true)), (some 29), .bin .sub (.t 28) (.k (.int .i64 1))⟩,
    ⟨(some (21, true)), (some 30), .idxS 32 (.t 27) (.t 29)⟩,
    ⟨(some (21, true)), (some 31), .load 32 true (.t 30)⟩,
    ⟨(some (21, true)), (some 32), .callN (.t 22) [(.t 26), (.t 31)]⟩,
    ⟨(some (21, true)), (some 33), .bin .lss (.t 32) (.k (.int .i64 0))⟩,
    ⟨none, (some 34), .pick (.t 21) (.t 33) (.k (.bool false))⟩])
  (.cond (.t 34) .skip
  (.exit 2)))
  (.seq (.block 3 (.region true [⟨none, (some 37), .mov (.t 0)⟩,
    ⟨none, (some 38), .mov (.t 9)⟩,
    ⟨none, (some 39), .mov (.t 0)⟩,
    ⟨none, (some 40), .mov (.t 9)⟩,
    ⟨none, (some 41), .bin .sub (.t 40) (.k (.int .i64 1))⟩,
    ⟨none, (some 42), .mov (.t 0)⟩,
    ⟨none, (some 43), .mov (.t 9)⟩,
    ⟨none, (some 44), .bin .sub (.t 43) (.k (.int .i64 1))⟩,
    ⟨none, (some 45), .idxS 32 (.t 42) (.t 44)⟩,
    ⟨none, (some 46), .load 32 true (.t 45)⟩,
    ⟨none, (some 47), .mov (.t 0)⟩,
    ⟨none, (some 48), .mov (.t 9)⟩,
    ⟨none, (some 49), .idxS 32 (.t 47) (.t 48)⟩,
    ⟨none, (some 50), .load 32 true (.t 49)⟩,
    ⟨none, (some 51), .idxS 32 (.t 37) (.t 38)⟩,
    ⟨none, none, .store 32 (.t 51) (.t 46)⟩,
    ⟨none, (some 52), .idxS 32 (.t 39) (.t 41)⟩,
    ⟨none, none, .store 32 (.t 52) (.t 50)⟩]))
  (.region false [⟨none, (some 35), .mov (.t 9)⟩,
    ⟨none, (some 36), .bin .sub (.t 35) (.k (.int .i64 1))⟩,
    ⟨none, (some 9), .mov (.t 36)⟩])))
def a153S1 (x0 x1 x2 x3 x8 x9 : DV) (h : List AObj) : St := ⟨[x0, x1, x2, x3] ++ js 4 ++ [x8, x9] ++ js 43, h⟩
def a153L0 : ACode :=
  (.seq (.seq (.region false [⟨none, (some 12), .mov (.t 8)⟩,
    ⟨none, (some 13), .mov (.t 2)⟩,
    ⟨none, (some 14), .bin .lss (.t 12) (.t 13)⟩])
  (.cond (.t 14) .skip
  (.exit 0)))
  (.seq (.block 1 (.seq (.region false [⟨none, (some 17), .mov (.t 8)⟩,
    ⟨none, (some 9), .mov (.t 17)⟩])
  (.block 2 (.loop a153L1))))
  (.region false [⟨none, (some 15), .mov (.t 8)⟩,
    ⟨none, (some 16), .bin .add (.t 15) (.k (.int .i64 1))⟩,
    ⟨none, (some 8), .mov (.t 16)⟩])))
def a153S0 (x0 x1 x2 x3 x8 : DV) (h : List AObj) : St := ⟨[x0, x1, x2, x3] ++ js 4 ++ [x8] ++ js 44, h⟩
def a153 : AFn where
  code := (.seq (.region false [⟨none, (some 10), .mov (.t 1)⟩,
    ⟨none, (some 11), .bin .add (.t 10) (.k (.int .i64 1))⟩,
    ⟨none, (some 8), .mov (.t 11)⟩])
  (.block 0 (.loop a153L0)))
  ntmps := 53
  res := []
theorem a153_ok : compileFn P Tryz.f153 = some a153 := by kernel_rfl
def a143L0 : ACode :=
  (.block 1 (.seq (.region false [⟨none, (some 21), .mov (.t 2)⟩,
    ⟨none, (some 22), .mov (.t 1)⟩,
    ⟨none, (some 23), .bin .sub (.t 21) (.t 22)⟩,
    ⟨none, (some 12), .mov (.t 23)⟩])
  (.seq (.seq (.region false [⟨none, (some 24), .mov (.t 12)⟩,
    ⟨none, (some 25), .bin .leq (.t 24) (.k (.int .i64 12))⟩])
  (.cond (.t 25) (.seq (.region false [⟨none, (some 26), .mov (.t 0)⟩,
    ⟨none, (some 27), .mov (.t 1)⟩,
    ⟨none, (some 28), .mov (.t 2)⟩,
    ⟨none, (some 29), .mov (.t 4)⟩,
    ⟨none, (some 30), .call (.k (.fn (.func 153) [] [])) [(.t 26), (.t 27), (.t 28), (.t 29)]⟩])
  .ret)
  .skip))
  (.seq (.seq (.region false [⟨none, (some 31), .mov (.t 3)⟩,
    ⟨none, (some 32), .bin .eql (.t 31) (.k (.int .i64 0))⟩])
  (.cond (.t 32) (.seq (.region false [⟨none, (some 33), .mov (.t 0)⟩,
    ⟨none, (some 34), .mov (.t 1)⟩,
    ⟨none, (some 35), .mov (.t 2)⟩,
    ⟨none, (some 36), .mov (.t 4)⟩,
    ⟨none, (some 37), .call (.k (.fn (.func 154) [] [])) [(.t 33), (.t 34), (.t 35), (.t 36)]⟩])
  .ret)
  .skip))
  (.seq (.seq (.region false [⟨none, (some 38), .mov (.t 10)⟩,
    ⟨none, (some 39), .un .not (.t 38)⟩])
  (.cond (.t 39) (.seq (.region false [⟨none, (some 40), .mov (.t 0)⟩,
    ⟨none, (some 41), .mov (.t 1)⟩,
    ⟨none, (some 42), .mov (.t 2)⟩,
    ⟨none, (some 43), .mov (.t 4)⟩,
    ⟨none, (some 44), .call (.k (.fn (.func 155) [] [])) [(.t 40), (.t 41), (.t 42), (.t 43)]⟩])
  (.region false [⟨none, (some 45), .mov (.t 3)⟩,
    ⟨none, (some 46), .bin .sub (.t 45) (.k (.int .i64 1))⟩,
    ⟨none, (some 3), .mov (.t 46)⟩]))
  .skip))
  (.seq (.region false [⟨none, (some 48), .mov (.t 0)⟩,
    ⟨none, (some 49), .mov (.t 1)⟩,
    ⟨none, (some 50), .mov (.t 2)⟩,
    ⟨none, (some 51), .mov (.t 4)⟩,
    ⟨none, (some 52), .call (.k (.fn (.func 156) [] [])) [(.t 48), (.t 49), (.t 50), (.t 51)]⟩,
    ⟨none, (some 47), .mov (.t 52)⟩,
    ⟨none, (some 53), .ext (.t 47) 0⟩,
    ⟨none, (some 54), .ext (.t 47) 1⟩,
    ⟨none, (some 13), .mov (.t 53)⟩,
    ⟨none, (some 14), .mov (.t 54)⟩])
  (.seq (.seq (.region false [⟨none, (some 55), .mov (.t 14)⟩,
    ⟨none, (some 56), .bin .eql (.t 55) (.k (.int .i64 2))⟩])
  (.cond (.t 56) (.seq (.region false [⟨none, (some 57), .mov (.t 0)⟩,
    ⟨none, (some 58), .mov (.t 1)⟩,
    ⟨none, (some 59), .mov (.t 2)⟩,
    ⟨none, (some 60), .mov (.t 4)⟩,
    ⟨none, (some 61), .call (.k (.fn (.func 157) [] [])) [(.t 57), (.t 58), (.t 59), (.t 60)]⟩])
  (.seq (.region false [⟨none, (some 62), .mov (.t 2)⟩,
    ⟨none, (some 63), .bin .sub (.t 62) (.k (.int .i64 1))⟩,
    ⟨none, (some 64), .mov (.t 13)⟩,
    ⟨none, (some 65), .mov (.t 1)⟩,
    ⟨none, (some 66), .bin .sub (.t 64) (.t 65)⟩,
    ⟨none, (some 67), .bin .sub (.t 63) (.t 66)⟩,
    ⟨none, (some 13), .mov (.t 67)⟩])
  (.region false [⟨none, (some 14), .mov (.k (.int .i64 1))⟩])))
  .skip))
  (.seq (.seq (.region false [⟨none, (some 68), .mov (.t 10)⟩,
    ⟨none, (some 69), .mov (.t 68)⟩,
    ⟨(some (69, true)), (some 70), .mov (.t 11)⟩,
    ⟨none, (some 71), .pick (.t 69) (.t 70) (.k (.bool false))⟩,
    ⟨none, (some 72), .mov (.t 71)⟩,
    ⟨(some (72, true)), (some 73), .mov (.t 14)⟩,
    ⟨(some (72, true)), (some 74), .bin .eql (.t 73) (.k (.int .i64 1))⟩,
    ⟨none, (some 75), .pick (.t 72) (.t 74) (.k (.bool false))⟩])
  (.cond (.t 75) (.seq (.region false [⟨none, (some 76), .mov (.t 0)⟩,
    ⟨none, (some 77), .mov (.t 1)⟩,
    ⟨none, (some 78), .mov (.t 2)⟩,
    ⟨none, (some 79), .mov (.t 4)⟩,
    ⟨none, (some 80), .call (.k (.fn (.func 158) [] [])) [(.t 76), (.t 77), (.t 78), (.t 79)]⟩])
  (.cond (.t 80) .ret
  .skip))
  .skip))
  (.seq (.seq (.region true [⟨none, (some 81), .mov (.t 1)⟩,
    ⟨none, (some 82), .bin .gtr (.t 81) (.k (.int .i64 0))⟩,
    ⟨none, (some 83), .mov (.t 82)⟩,
    ⟨(some (83, true)), (some 84), .mov (.t 4)⟩,
    ⟨(some (83, true)), (some 85), .mov (.t 0)⟩,
    ⟨(some (83, true)), (some 86), .mov (.t 1)⟩,
    ⟨(some (83, true)), (some 87), .bin .sub (.t 86) (.k (.int .i64 1))⟩,
    ⟨(some (83, true)), (some 88), .idxS 32 (.t 85) (.t 87)⟩,
    ⟨(some (83, true)), (some 89), .load 32 true (.t 88)⟩,
    ⟨(some (83, true)), (some 90), .mov (.t 0)⟩,
    ⟨(some (83, true)), (some 91), .mov (.t 13)⟩,
    ⟨(some (83, true)), (some 92), .idxS 32 (.t 90) (.t 91)⟩,
    ⟨(some (83, true)), (some 93), .load 32 true (.t 92)⟩,
    ⟨(some (83, true)), (some 94), .callN (.t 84) [(.t 89), (.t 93)]⟩,
    ⟨(some (83, true)), (some 95), .bin .lss (.t 94) (.k (.int .i64 0))⟩,
    ⟨(some (83, true)), (some 96), .un .not (.t 95)⟩,
    ⟨none, (some 97), .pick (.t 83) (.t 96) (.k (.bool false))⟩])
  (.cond (.t 97) (.seq (.region false [⟨none, (some 98), .mov (.t 0)⟩,
    ⟨none, (some 99), .mov (.t 1)⟩,
    ⟨none, (some 100), .mov (.t 2)⟩,
    ⟨none, (some 101), .mov (.t 13)⟩,
    ⟨none, (some 102), .mov (.t 4)⟩,
    ⟨none, (some 103), .call (.k (.fn (.func 159) [] [])) [(.t 98), (.t 99), (.t 100), (.t 101), (.t 102)]⟩,
    ⟨none, (some 15), .mov (.t 103)⟩])
  (.seq (.region false [⟨none, (some 104), .mov (.t 15)⟩,
    ⟨none, (some 1), .mov (.t 104)⟩])
  (.exit 1)))
  .skip))
  (.seq (.region false [⟨none, (some 106), .mov (.t 0)⟩,
    ⟨none, (some 107), .mov (.t 1)⟩,
    ⟨none, (some 108), .mov (.t 2)⟩,
    ⟨none, (some 109), .mov (.t 13)⟩,
    ⟨none, (some 110), .mov (.t 4)⟩,
    ⟨none, (some 111), .call (.k (.fn (.func 160) [] [])) [(.t 106), (.t 107), (.t 108), (.t 109), (.t 110)]⟩,
    ⟨none, (some 105), .mov (.t 111)⟩,
    ⟨none, (some 112), .ext (.t 105) 0⟩,
    ⟨none, (some 113), .ext (.t 105) 1⟩,
    ⟨none, (some 16), .mov (.t 112)⟩,
    ⟨none, (some 17), .mov (.t 113)⟩])
  (.seq (.region false [⟨none, (some 114), .mov (.t 17)⟩,
    ⟨none, (some 11), .mov (.t 114)⟩])
  (.seq (.region false [⟨none, (some 115), .mov (.t 16)⟩,
    ⟨none, (some 116), .mov (.t 1)⟩,
    ⟨none, (some 117), .bin .sub (.t 115) (.t 116)⟩,
    ⟨none, (some 118), .mov (.t 2)⟩,
    ⟨none, (some 119), .mov (.t 16)⟩,
    ⟨none, (some 120), .bin .sub (.t 118) (.t 119)⟩,
    ⟨none, (some 18), .mov (.t 117)⟩,
    ⟨none, (some 19), .mov (.t 120)⟩])
  (.seq (.region false [⟨none, (some 121), .mov (.t 12)⟩,
    ⟨none, (some 122), .bin .quo (.t 121) (.k (.int .i64 8))⟩,
    ⟨none, (some 20), .mov (.t 122)⟩])
  (.seq (.region false [⟨none, (some 123), .mov (.t 18)⟩,
    ⟨none, (some 124), .mov (.t 19)⟩,
    ⟨none, (some 125), .bin .lss (.t 123) (.t 124)⟩])
  (.cond (.t 125) (.seq (.region false [⟨none, (some 126), .mov (.t 18)⟩,
    ⟨none, (some 127), .mov (.t 20)⟩,
    ⟨none, (some 128), .bin .geq (.t 126) (.t 127)⟩,
    ⟨none, (some 10), .mov (.t 128)⟩])
  (.seq (.region false [⟨none, (some 129), .mov (.t 0)⟩,
    ⟨none, (some 130), .mov (.t 1)⟩,
    ⟨none, (some 131), .mov (.t 16)⟩,
    ⟨none, (some 132), .mov (.t 3)⟩,
    ⟨none, (some 133), .mov (.t 4)⟩,
    ⟨none, (some 134), .call (.k (.fn (.func 143) [] [])) [(.t 129), (.t 130), (.t 131), (.t 132), (.t 133)]⟩])
  (.region false [⟨none, (some 135), .mov (.t 16)⟩,
    ⟨none, (some 136), .bin .add (.t 135) (.k (.int .i64 1))⟩,
    ⟨none, (some 1), .mov (.t 136)⟩])))
  (.seq (.region false [⟨none, (some 137), .mov (.t 19)⟩,
    ⟨none, (some 138), .mov (.t 20)⟩,
    ⟨none, (some 139), .bin .geq (.t 137) (.t 138)⟩,
    ⟨none, (some 10), .mov (.t 139)⟩])
  (.seq (.region false [⟨none, (some 140), .mov (.t 0)⟩,
    ⟨none, (some 141), .mov (.t 16)⟩,
    ⟨none, (some 142), .bin .add (.t 141) (.k (.int .i64 1))⟩,
    ⟨none, (some 143), .mov (.t 2)⟩,
    ⟨none, (some 144), .mov (.t 3)⟩,
    ⟨none, (some 145), .mov (.t 4)⟩,
    ⟨none, (some 146), .call (.k (.fn (.func 143) [] [])) [(.t 140), (.t 142), (.t 143), (.t 144), (.t 145)]⟩])
  (.region false [⟨none, (some 147), .mov (.t 16)⟩,
    ⟨none, (some 2), .mov (.t 147)⟩]))))))))))))))))))
def a143S0 (x0 x1 x2 x3 x4 x10 x11 : DV) (h : List AObj) : St := ⟨[x0, x1, x2, x3, x4] ++ js 5 ++ [x10, x11] ++ js 136, h⟩
def a143 : AFn where
  code := (.seq (.region false [⟨none, (some 10), .mov (.k (.bool true))⟩])
  (.seq (.region false [⟨none, (some 11), .mov (.k (.bool true))⟩])
  (.block 0 (.loop a143L0))))
  ntmps := 148
  res := []
theorem a143_ok : compileFn P Tryz.f143 = some a143 := by kernel_rfl
def a132 : AFn where
  code := (.seq (.region false [⟨none, (some 5), .mov (.t 0)⟩,
    ⟨none, (some 6), .len (.t 5)⟩,
    ⟨none, (some 4), .mov (.t 6)⟩])
  (.region false [⟨none, (some 7), .mov (.t 0)⟩,
    ⟨none, (some 8), .mov (.t 4)⟩,
    ⟨none, (some 9), .mov (.t 4)⟩,
    ⟨none, (some 10), .conv .u64 (.t 9)⟩,
    ⟨none, (some 11), .call (.k (.fn (.func 61) [] [])) [(.t 10)]⟩,
    ⟨none, (some 12), .mov (.t 1)⟩,
    ⟨none, (some 13), .call (.k (.fn (.func 143) [] [])) [(.t 7), (.k (.int .i64 0)), (.t 8), (.t 11), (.t 12)]⟩]))
  ntmps := 14
  res := []
theorem a132_ok : compileFn P Tryz.f132 = some a132 := by kernel_rfl
def a134L1 : ACode :=
  (.seq (.seq (.region false [⟨none, (some 29), .mov (.t 5)⟩,
    ⟨none, (some 30), .mov (.t 4)⟩,
    ⟨none, (some 31), .len (.t 30)⟩,
    ⟨none, (some 32), .bin .lss (.t 29) (.t 31)⟩])
  (.cond (.t 32) .skip
  (.exit 2)))
  (.seq (.block 3 (.seq (.region true [⟨none, (some 35), .mov (.t 4)⟩,
    ⟨none, (some 36), .mov (.t 5)⟩,
    ⟨none, (some 37), .idxS 32 (.t 35) (.t 36)⟩,
    ⟨none, (some 38), .load 32 true (.t 37)⟩,
    ⟨none, (some 39), .mov (.t 4)⟩,
    ⟨none, (some 40), .mov (.t 5)⟩,
    ⟨none, (some 41), .bin .sub (.t 40) (.k (.int .i64 1))⟩,
    ⟨none, (some 42), .idxS 32 (.t 39) (.t 41)⟩,
    ⟨none, (some 43), .load 32 true (.t 42)⟩,
    ⟨none, (some 44), .eqa true [(32, 0)] (.t 38) (.t 43)⟩])
  (.cond (.t 44) (.seq (.region false [⟨none, (some 45), .mov (.t 0)⟩,
    ⟨none, (some 46), .mov (.t 3)⟩,
    ⟨none, (some 47), .mov (.t 4)⟩,
    ⟨none, (some 48), .mov (.t 5)⟩,
    ⟨none, (some 49), .idxS 32 (.t 47) (.t 48)⟩,
    ⟨none, (some 50), .load 32 true (.t 49)⟩,
    ⟨none, (some 51), .idxS 32 (.t 45) (.t 46)⟩,
    ⟨none, none, .store 32 (.t 51) (.t 50)⟩])
  (.region false [⟨none, (some 52), .mov (.t 3)⟩,
    ⟨none, (some 53), .bin .add (.t 52) (.k (.int .i64 1))⟩,
    ⟨none, (some 3), .mov (.t 53)⟩]))
  .skip)))
  (.region false [⟨none, (some 33), .mov (.t 5)⟩,
    ⟨none, (some 34), .bin .add (.t 33) (.k (.int .i64 1))⟩,
    ⟨none, (some 5), .mov (.t 34)⟩])))
def a134S1 (x0 x3 x4 x5 : DV) (h : List AObj) : St := ⟨[x0, .junk, .junk, x3, x4, x5] ++ js 55, h⟩
def a134L0 : ACode :=
  (.seq (.seq (.region false [⟨none, (some 10), .mov (.t 3)⟩,
    ⟨none, (some 11), .mov (.t 0)⟩,
    ⟨none, (some 12), .len (.t 11)⟩,
    ⟨none, (some 13), .bin .lss (.t 10) (.t 12)⟩])
  (.cond (.t 13) .skip
  (.exit 0)))
  (.seq (.block 1 (.seq (.region true [⟨none, (some 16), .mov (.t 0)⟩,
    ⟨none, (some 17), .mov (.t 3)⟩,
    ⟨none, (some 18), .idxS 32 (.t 16) (.t 17)⟩,
    ⟨none, (some 19), .load 32 true (.t 18)⟩,
    ⟨none, (some 20), .mov (.t 0)⟩,
    ⟨none, (some 21), .mov (.t 3)⟩,
    ⟨none, (some 22), .bin .sub (.t 21) (.k (.int .i64 1))⟩,
    ⟨none, (some 23), .idxS 32 (.t 20) (.t 22)⟩,
    ⟨none, (some 24), .load 32 true (.t 23)⟩,
    ⟨none, (some 25), .eqa false [(32, 0)] (.t 19) (.t 24)⟩])
  (.cond (.t 25) (.seq (.region false [⟨none, (some 26), .mov (.t 0)⟩,
    ⟨none, (some 27), .mov (.t 3)⟩,
    ⟨none, (some 28), .slcS 32 (.t 26) (some (.t 27)) none none⟩,
    ⟨none, (some 4), .mov (.t 28)⟩])
  (.seq (.seq (.region false [⟨none, (some 5), .mov (.k (.int .i64 1))⟩])
  (.block 2 (.loop a134L1)))
  (.seq (.region false [⟨none, (some 54), .mov (.t 0)⟩,
    ⟨none, (some 55), .mov (.t 3)⟩,
    ⟨none, (some 56), .slcS 32 (.t 54) (some (.t 55)) none none⟩,
    ⟨none, none, .clr 32 (rep 32 (w8 0#8)) (.t 56)⟩])
  (.seq (.region false [⟨none, (some 57), .mov (.t 0)⟩,
    ⟨none, (some 58), .mov (.t 3)⟩,
    ⟨none, (some 59), .slcS 32 (.t 57) none (some (.t 58)) none⟩,
    ⟨none, (some 2), .mov (.t 59)⟩])
  .ret))))
  .skip)))
  (.region false [⟨none, (some 14), .mov (.t 3)⟩,
    ⟨none, (some 15), .bin .add (.t 14) (.k (.int .i64 1))⟩,
    ⟨none, (some 3), .mov (.t 15)⟩])))
def a134S0 (x0 x3 : DV) (h : List AObj) : St := ⟨[x0, .junk, .junk, x3] ++ js 57, h⟩
def a134 : AFn where
  code := (.seq (.region false [⟨none, (some 2), .mov (.k .nils)⟩])
  (.seq (.seq (.region false [⟨none, (some 6), .mov (.t 0)⟩,
    ⟨none, (some 7), .len (.t 6)⟩,
    ⟨none, (some 8), .bin .lss (.t 7) (.k (.int .i64 2))⟩])
  (.cond (.t 8) (.seq (.region false [⟨none, (some 9), .mov (.t 0)⟩,
    ⟨none, (some 2), .mov (.t 9)⟩])
  .ret)
  .skip))
  (.seq (.seq (.region false [⟨none, (some 3), .mov (.k (.int .i64 1))⟩])
  (.block 0 (.loop a134L0)))
  (.seq (.region false [⟨none, (some 60), .mov (.t 0)⟩,
    ⟨none, (some 2), .mov (.t 60)⟩])
  .ret))))
  ntmps := 61
  res := [.tmp 2]
theorem a134_ok : compileFn P Tryz.f134 = some a134 := by kernel_rfl
def a114 : AFn where
  code := (.seq (.region false [⟨none, (some 2), .mov (.k .nils)⟩])
  (.seq (.seq (.region false [⟨none, (some 3), .mov (.t 0)⟩,
    ⟨none, (some 4), .eqn 0 false (.t 3) (.k .nils)⟩])
  (.cond (.t 4) (.seq (.region false [⟨none, (some 2), .mov (.k .nils)⟩])
  .ret)
  .skip))
  (.seq (.region false [⟨none, (some 5), .bsl 32 0 (rep 32 (w8 0#8)) []⟩,
    ⟨none, (some 6), .mov (.t 0)⟩,
    ⟨none, (some 7), .app 32 32 (.t 5) (.t 6)⟩,
    ⟨none, (some 2), .mov (.t 7)⟩])
  .ret)))
  ntmps := 8
  res := [.tmp 2]
theorem a114_ok : compileFn P Tryz.f114 = some a114 := by kernel_rfl
def a110 : AFn where
  code := (.seq (.region false [⟨none, (some 2), .mov (.k .nils)⟩])
  (.seq (.region false [⟨none, (some 3), .mov (.t 0)⟩,
    ⟨none, (some 4), .call (.k (.fn (.func 114) [] [])) [(.t 3)]⟩,
    ⟨none, (some 0), .mov (.t 4)⟩])
  (.seq (.region false [⟨none, (some 5), .mov (.t 0)⟩,
    ⟨none, (some 6), .call (.k (.fn (.func 132) [] [])) [(.t 5), (.k (.fn (.func 133) [] []))]⟩])
  (.seq (.region false [⟨none, (some 7), .mov (.t 0)⟩,
    ⟨none, (some 8), .call (.k (.fn (.func 134) [] [])) [(.t 7)]⟩,
    ⟨none, (some 2), .mov (.t 8)⟩])
  .ret))))
  ntmps := 9
  res := [.tmp 2]
theorem a110_ok : compileFn P Tryz.f110 = some a110 := by kernel_rfl
def a112L0 : ACode :=
  (.seq (.region false [⟨none, (some 12), .bin .lss (.t 11) (.t 10)⟩])
  (.seq (.cond (.t 12) .skip
  (.exit 0))
  (.seq (.block 1 (.seq (.region false [⟨none, (some 13), .idxS 1 (.t 9) (.t 11)⟩,
    ⟨none, (some 14), .load 1 false (.t 13)⟩,
    ⟨none, (some 5), .mov (.t 14)⟩])
  (.seq (.region false [⟨none, (some 15), .mov (.t 3)⟩,
    ⟨none, (some 16), .mov (.t 5)⟩,
    ⟨none, (some 17), .len (.t 16)⟩,
    ⟨none, (some 18), .bin .add (.t 15) (.t 17)⟩,
    ⟨none, (some 3), .mov (.t 18)⟩])
  (.seq (.region false [⟨none, (some 19), .mov (.t 3)⟩,
    ⟨none, (some 20), .bin .lss (.t 19) (.k (.int .i64 0))⟩])
  (.cond (.t 20) (.region false [⟨none, (some 21), .ext (.k .junk) 0⟩,
    ⟨none, none, .ext (.k .junk) 0⟩])
  .skip)))))
  (.region false [⟨none, (some 22), .bin .add (.t 11) (.k (.int .i64 1))⟩,
    ⟨none, (some 11), .mov (.t 22)⟩]))))
def a112S0 (x0 x3 x9 x10 x11 : DV) (h : List AObj) : St := ⟨[x0, .junk, .junk, x3] ++ js 5 ++ [x9, x10, x11] ++ js 24, h⟩
def a112L1 : ACode :=
  (.seq (.region false [⟨none, (some 28), .bin .lss (.t 27) (.t 26)⟩])
  (.seq (.cond (.t 28) .skip
  (.exit 2))
  (.seq (.block 3 (.seq (.region false [⟨none, (some 29), .idxS 1 (.t 25) (.t 27)⟩,
    ⟨none, (some 30), .load 1 false (.t 29)⟩,
    ⟨none, (some 8), .mov (.t 30)⟩])
  (.region false [⟨none, (some 31), .mov (.t 6)⟩,
    ⟨none, (some 32), .mov (.t 8)⟩,
    ⟨none, (some 33), .app 32 32 (.t 31) (.t 32)⟩,
    ⟨none, (some 6), .mov (.t 33)⟩])))
  (.region false [⟨none, (some 34), .bin .add (.t 27) (.k (.int .i64 1))⟩,
    ⟨none, (some 27), .mov (.t 34)⟩]))))
def a112S1 (x6 x25 x26 x27 : DV) (h : List AObj) : St := ⟨js 6 ++ [x6] ++ js 18 ++ [x25, x26, x27] ++ js 8, h⟩
def a112 : AFn where
  code := (.seq (.region false [⟨none, (some 2), .mov (.k .nils)⟩])
  (.seq (.region false [⟨none, (some 3), .mov (.k (.int .i64 0))⟩])
  (.seq (.seq (.region false [⟨none, (some 9), .mov (.t 0)⟩,
    ⟨none, (some 10), .len (.t 9)⟩,
    ⟨none, (some 11), .mov (.k (.int .i64 0))⟩])
  (.block 0 (.loop a112L0)))
  (.seq (.region false [⟨none, (some 23), .mov (.t 3)⟩,
    ⟨none, (some 24), .call (.k (.fn (.func 135) [] [])) [(.k .nils), (.t 23)]⟩,
    ⟨none, (some 6), .mov (.t 24)⟩])
  (.seq (.seq (.region false [⟨none, (some 25), .mov (.t 0)⟩,
    ⟨none, (some 26), .len (.t 25)⟩,
    ⟨none, (some 27), .mov (.k (.int .i64 0))⟩])
  (.block 2 (.loop a112L1)))
  (.seq (.region false [⟨none, (some 35), .mov (.t 6)⟩,
    ⟨none, (some 2), .mov (.t 35)⟩])
  .ret))))))
  ntmps := 36
  res := [.tmp 2]
theorem a112_ok : compileFn P Tryz.f112 = some a112 := by kernel_rfl
end Go.Proofs.YtdnhbfmlklaldaaGreat
set_option linter.unusedSimpArgs false
set_option linter.unusedVariables false
namespace Go.Proofs.YtdnhbfmlklaldaaGreat
open Go Go.Am Go.RowKit
def u8L (l : List B8) : List UInt8 := l.map fun b => b.toNat.toUInt8
theorem rep_w8 {E : Env} {X : Forb} {w : World} {v : Value} {b : B8} (h : Rep E X w v (w8 b)) : v = .int .u8 b.toNat := by
  cases h; rfl
theorem load_sl {P : Program} {w : World} {a : Addr} {x : List B8} {cv : Nat → Value} (hc : ∀ i, i < (x.map w8).length → w.cell? (a.add i) = some (cv i)) {E : Env} {X : Forb} (hr : ∀ i (h : i < (x.map w8).length), Rep E X w (cv i) (x.map w8)[i]) :
    (Extern.Bytes.loadBytes a x.length .empty).run P w = .ok ⟨(u8L x).toArray⟩ w := by
  have h := Lib.run_loadBytesX (P := P) (w := w) (x.map fun b => (b.toNat : Int)) a .empty (fun j y hy => by
    obtain ⟨hj, e⟩ := List.getElem?_eq_some_iff.1 hy
    have hj' : j < x.length := by simpa using hj
    have h1 := hc j (by simpa using hj')
    have h2 := hr j (by simpa using hj')
    rw [List.getElem_map] at h2
    rw [h1, rep_w8 h2]
    rw [List.getElem_map] at e
    rw [e])
  rw [List.length_map] at h
  rw [h]
  have e : Lib.bytesOf (x.map fun b => (b.toNat : Int)) = u8L x := by simp [Lib.bytesOf, u8L, List.map_map, Function.comp_def]
  rw [e]
  simp
theorem sem_bcmp {P : Program} {f : FuncId} {fn : Func} (hf : P.funcs[f]? = some fn) (h1 : (fn.name == "runtime.NumGoroutine") = false) (h2 : fn.body.isNone = true) (h3 : Extern.findNext fn = none) (h4 : Extern.find fn = some Extern.BytealgCompare.compare) (x y : List B8) (fx fy : Bool) :
    Am.Sem P f [.sl fx 1 x.length (x.map w8), .sl fy 1 y.length (y.map w8)] (.int .i64 (Lib.compareBytes (u8L x) (u8L y))) := by
  intro X w vs _ hr
  obtain ⟨v1, v2, rfl, hx, hy⟩ := repA_two hr
  cases hx with
  | sl _ _ _ cap1 a1 _ cv1 hn1 hf1 hl1 hc1 hx1 hr1 =>
  cases hy with
  | sl _ _ _ cap2 a2 _ cv2 hn2 hf2 hl2 hc2 hx2 hr2 =>
  refine .inr ⟨_, w, ?_, _, rfl, Rep.int .i64 _, Below.refl _ w⟩
  have hrun : (Extern.BytealgCompare.compare #[.slice (some a1) x.length cap1, .slice (some a2) y.length cap2]).run P w = .ok (.int .i64 (Lib.compareBytes (u8L x) (u8L y))) w := by
    change Sem.run P (do pure (goInt (Extern.BytealgCompare.cmp (← Extern.Bytes.bytesOf (.slice (some a1) x.length cap1)) (← Extern.Bytes.bytesOf (.slice (some a2) y.length cap2))))) w = _
    simp only [Extern.Bytes.bytesOf, Sem.run_bind, Sem.run_pure, load_sl hc1 hr1, load_sl hc2 hr2, Result.andThen]
    rw [Lib.cmp_eq]
    rfl
  rw [run_callFunc_extern hf h1 h2 h3 h4, hrun]
  rfl
theorem cmpB_lt : ∀ (a b : List UInt8), Lib.compareBytes a b < 0 ↔ Op.bytesLess a b = true
  | [], [] => by simp [Lib.compareBytes, Op.bytesLess]
  | [], _ :: _ => by simp [Lib.compareBytes, Op.bytesLess]
  | _ :: _, [] => by simp [Lib.compareBytes, Op.bytesLess]
  | x :: a, y :: b => by
    have ih := cmpB_lt a b
    simp only [Lib.compareBytes, Op.bytesLess, Bool.or_eq_true, Bool.and_eq_true, decide_eq_true_eq, beq_iff_eq]
    by_cases h : x < y
    · simp [h]
    · by_cases h' : y < x
      · have : ¬ x = y := fun e => by subst e; exact h h'
        simp [h, h', this]
      · have : x = y := UInt8.le_antisymm (UInt8.not_lt.1 h') (UInt8.not_lt.1 h)
        subst this; simp [ih]
theorem snap_dv {α : Type} {h : List AObj} {k s : Nat} {f : α → List DV} {x : Sl α} (hp : ∀ a, pureL (f a) = true) : snap h k (x.dv s f) = some (x.dv s f) := snap_clean (dv_pure hp x)
theorem snap_dv32 {h : List AObj} {k : Nat} {x : Sl Dg} : snap h k (x.dv 32 dgC) = some (x.dv 32 dgC) := snap_dv pure_dgC
theorem snap_dv71 {h : List AObj} {k : Nat} {x : Sl Fct} : snap h k (x.dv 71 faC) = some (x.dv 71 faC) := snap_dv pure_faC
theorem snap_dv39 {h : List AObj} {k : Nat} {x : Sl Fnd} : snap h k (x.dv 39 fnC) = some (x.dv 39 fnC) := snap_dv pure_fnC
theorem snap_dv1 {h : List AObj} {k : Nat} {x : Sl Str} : snap h k (x.dv 1 stC) = some (x.dv 1 stC) := snap_dv pure_stC
theorem snap_dv34 {h : List AObj} {k : Nat} {x : Sl Org} : snap h k (x.dv 34 orC) = some (x.dv 34 orC) := snap_dv pure_orC
theorem snapL_faC {h : List AObj} {k : Nat} {c : Fct} : snapL h k (faC c) = some (faC c) := snapL_clean (pure_faC c)
theorem snapL_fnC {h : List AObj} {k : Nat} {c : Fnd} : snapL h k (fnC c) = some (fnC c) := snapL_clean (pure_fnC c)
theorem snapL_caC {h : List AObj} {k : Nat} {c : Cas} : snapL h k (caC c) = some (caC c) := snapL_clean (pure_caC c)
theorem snapL_orC {h : List AObj} {k : Nat} {c : Org} : snapL h k (orC c) = some (orC c) := snapL_clean (pure_orC c)
theorem snapL_rqC {h : List AObj} {k : Nat} {c : Req} : snapL h k (rqC c) = some (rqC c) := snapL_clean (pure_rqC c)
theorem snapL_suC {h : List AObj} {k : Nat} {c : Sup} : snapL h k (suC c) = some (suC c) := snapL_clean (pure_suC c)
theorem snap_fn1' {h : List AObj} {k : Nat} {f : Fn} {x : DV} : snap h (k + 1) (.fn f [] [x]) = (snap h (k + 1) x).map fun y => .fn f [] [y] := by
  simp only [snap, snapW, snapWL]
  cases snapW _ x <;> rfl
theorem snap_fn2 {h : List AObj} {k : Nat} {f : Fn} {x y : DV} : snap h (k + 1) (.fn f [] [x, y]) = (snap h (k + 1) x).bind fun a => (snap h (k + 1) y).map fun b => .fn f [] [a, b] := by
  simp only [snap, snapW, snapWL]
  cases snapW _ x <;> simp only [Option.bind_some, Option.bind_none]
  · rfl
  · cases snapW _ y <;> rfl
theorem snap_fn3 {h : List AObj} {k : Nat} {f : Fn} {x y z : DV} : snap h (k + 1) (.fn f [] [x, y, z]) = (snap h (k + 1) x).bind fun a => (snap h (k + 1) y).bind fun b => (snap h (k + 1) z).map fun c => .fn f [] [a, b, c] := by
  simp only [snap, snapW, snapWL]
  cases snapW _ x <;> simp only [Option.bind_some, Option.bind_none]
  · rfl
  · cases snapW _ y <;> simp only [Option.bind_some, Option.bind_none]
    · rfl
    · cases snapW _ z <;> rfl
theorem snap_fnL {h : List AObj} {k : Nat} {f : Fn} {l : List DV} : snap h k (.fn f [] l) = (snapL h k l).map (.fn f []) := by
  cases k <;> simp only [snap, snapW, snapWL, snapL, snapWL_eq] <;> first | rfl | (cases mapAll _ l <;> rfl)
theorem snap_fn0 {h : List AObj} {k : Nat} {f : Fn} : snap h k (.fn f [] []) = some (.fn f [] []) := by cases k <;> rfl
attribute [simp] snap_fn1' snap_fn2 snap_fn3 snap_dv32 snap_dv71 snap_dv39 snap_dv1 snap_dv34 snapL_faC snapL_fnC snapL_caC snapL_orC snapL_rqC snapL_suC snap_fn0 len_faC len_fnC len_caC len_orC len_rqC len_suC
end Go.Proofs.YtdnhbfmlklaldaaGreat
set_option linter.unusedSimpArgs false
set_option linter.unusedVariables false
namespace Go.Proofs.YtdnhbfmlklaldaaGreat
open Go Go.Am
mutual
theorem below_pure (n : Nat) : ∀ (d : DV), pureD d = true → Am.below n d = true
  | .agg cs, h => by simp only [pureD] at h; simp only [Am.below]; exact belowL_pure n cs h
  | .tup cs, h => by simp only [pureD] at h; simp only [Am.below]; exact belowL_pure n cs h
  | .sl _ _ _ cs, h => by simp only [pureD] at h; simp only [Am.below]; exact belowL_pure n cs h
  | .ref cs, h => by simp only [pureD] at h; simp only [Am.below]; exact belowL_pure n cs h
  | .fn _ a b, h => by simp only [pureD, Bool.and_eq_true] at h; simp only [Am.below, Bool.and_eq_true]; exact ⟨belowL_pure n a h.1, belowL_pure n b h.2⟩
  | .iface _ v, h => by simp only [pureD] at h; simp only [Am.below]; exact below_pure n v h
  | .ms .., h => by simp [pureD] at h
  | .mp .., h => by simp [pureD] at h
  | .int .., _ => rfl
  | .bool .., _ => rfl
  | .str .., _ => rfl
  | .nilp, _ => rfl
  | .nilm, _ => rfl
  | .nilf, _ => rfl
  | .nili, _ => rfl
  | .nils, _ => rfl
  | .junk, _ => rfl
theorem belowL_pure (n : Nat) : ∀ (l : List DV), pureL l = true → belowL n l = true
  | [], _ => rfl
  | d :: r, h => by simp only [pureL, Bool.and_eq_true] at h; simp only [belowL, Bool.and_eq_true]; exact ⟨below_pure n d h.1, belowL_pure n r h.2⟩
end
theorem all_dgC {d : Dg} : (dgC d).all DV.one = true := all_w8
theorem snapL_dgC {h : List AObj} {k : Nat} {c : Dg} : snapL h k (dgC c) = some (dgC c) := snapL_clean (pure_dgC c)
theorem belowL_dg {n : Nat} {g : Dg} : belowL n (dgC g) = true := belowL_pure n _ (pure_dgC g)
theorem storeO_dg {h : List AObj} {id : Nat} {d : Dg} {l : List DV} (hl : l.length = 32) : storeO h id 32 0 (.agg (dgC d)) (some l) = some (.junk, h.set id (.cells (dgC d))) := storeO_agg (len_dgC d) hl all_w8
theorem one_pre {d : Dg} {r : List DV} : one 32 true (dgC d ++ r) = some (.agg (dgC d)) := by
  simp only [one, if_true]; rw [if_pos (by simp [len_dgC]), List.take_left' (len_dgC _)]
theorem drop_pre {d : Dg} {r : List DV} {n : Nat} (h : 32 ≤ n) : (dgC d ++ r).drop n = r.drop (n - 32) := by
  rw [List.drop_append, List.drop_of_length_le (by rw [len_dgC]; exact h), len_dgC, List.nil_append]
theorem one_fa {x : Fct} : one 71 true (faC x) = some (.agg (faC x)) := by simp [one, len_faC, List.take_of_length_le]
theorem getf_fa {x : Fct} {off n : Nat} {a : Bool} (hl : off + n ≤ 71) : getfD off n a (.agg (faC x)) = one n a ((faC x).drop off) := by simp [getfD, len_faC, hl]
theorem belowL_fa {x : Fct} {n : Nat} : belowL n (faC x) = true := belowL_pure n _ (pure_faC x)
theorem all_faC {x : Fct} : (faC x).all DV.one = true := by simp only [faC, List.all_cons, List.all_append, all_dgC, one_int, one_bool, one_str, dv_one, List.all_nil, Bool.and_self]
theorem storeO_fa {x : Fct} {h : List AObj} {id : Nat} {l : List DV} (hl : l.length = 71) : storeO h id 71 0 (.agg (faC x)) (some l) = some (.junk, h.set id (.cells (faC x))) := storeO_agg (len_faC x) hl all_faC
theorem one_fn {x : Fnd} : one 39 true (fnC x) = some (.agg (fnC x)) := by simp [one, len_fnC, List.take_of_length_le]
theorem getf_fn {x : Fnd} {off n : Nat} {a : Bool} (hl : off + n ≤ 39) : getfD off n a (.agg (fnC x)) = one n a ((fnC x).drop off) := by simp [getfD, len_fnC, hl]
theorem belowL_fn {x : Fnd} {n : Nat} : belowL n (fnC x) = true := belowL_pure n _ (pure_fnC x)
theorem all_fnC {x : Fnd} : (fnC x).all DV.one = true := by simp only [fnC, List.all_cons, List.all_append, all_dgC, one_int, one_bool, one_str, dv_one, List.all_nil, Bool.and_self]
theorem storeO_fn {x : Fnd} {h : List AObj} {id : Nat} {l : List DV} (hl : l.length = 39) : storeO h id 39 0 (.agg (fnC x)) (some l) = some (.junk, h.set id (.cells (fnC x))) := storeO_agg (len_fnC x) hl all_fnC
theorem one_ca {x : Cas} : one 36 true (caC x) = some (.agg (caC x)) := by simp [one, len_caC, List.take_of_length_le]
theorem getf_ca {x : Cas} {off n : Nat} {a : Bool} (hl : off + n ≤ 36) : getfD off n a (.agg (caC x)) = one n a ((caC x).drop off) := by simp [getfD, len_caC, hl]
theorem belowL_ca {x : Cas} {n : Nat} : belowL n (caC x) = true := belowL_pure n _ (pure_caC x)
theorem all_caC {x : Cas} : (caC x).all DV.one = true := by simp only [caC, List.all_cons, List.all_append, all_dgC, one_int, one_bool, one_str, dv_one, List.all_nil, Bool.and_self]
theorem storeO_ca {x : Cas} {h : List AObj} {id : Nat} {l : List DV} (hl : l.length = 36) : storeO h id 36 0 (.agg (caC x)) (some l) = some (.junk, h.set id (.cells (caC x))) := storeO_agg (len_caC x) hl all_caC
theorem one_or {x : Org} : one 34 true (orC x) = some (.agg (orC x)) := by simp [one, len_orC, List.take_of_length_le]
theorem getf_or {x : Org} {off n : Nat} {a : Bool} (hl : off + n ≤ 34) : getfD off n a (.agg (orC x)) = one n a ((orC x).drop off) := by simp [getfD, len_orC, hl]
theorem belowL_or {x : Org} {n : Nat} : belowL n (orC x) = true := belowL_pure n _ (pure_orC x)
theorem all_orC {x : Org} : (orC x).all DV.one = true := by simp only [orC, List.all_cons, List.all_append, all_dgC, one_int, one_bool, one_str, dv_one, List.all_nil, Bool.and_self]
theorem storeO_or {x : Org} {h : List AObj} {id : Nat} {l : List DV} (hl : l.length = 34) : storeO h id 34 0 (.agg (orC x)) (some l) = some (.junk, h.set id (.cells (orC x))) := storeO_agg (len_orC x) hl all_orC
theorem one_rq {x : Req} : one 4 true (rqC x) = some (.agg (rqC x)) := rfl
theorem getf_rq {x : Req} {off n : Nat} {a : Bool} (hl : off + n ≤ 4) : getfD off n a (.agg (rqC x)) = one n a ((rqC x).drop off) := by simp [getfD, len_rqC, hl]
theorem belowL_rq {x : Req} {n : Nat} : belowL n (rqC x) = true := belowL_pure n _ (pure_rqC x)
theorem all_rqC {x : Req} : (rqC x).all DV.one = true := by simp only [rqC, List.all_cons, List.all_append, all_dgC, one_int, one_bool, one_str, dv_one, List.all_nil, Bool.and_self]
theorem storeO_rq {x : Req} {h : List AObj} {id : Nat} {l : List DV} (hl : l.length = 4) : storeO h id 4 0 (.agg (rqC x)) (some l) = some (.junk, h.set id (.cells (rqC x))) := storeO_agg (len_rqC x) hl all_rqC
theorem one_su {x : Sup} : one 3 true (suC x) = some (.agg (suC x)) := rfl
theorem getf_su {x : Sup} {off n : Nat} {a : Bool} (hl : off + n ≤ 3) : getfD off n a (.agg (suC x)) = one n a ((suC x).drop off) := by simp [getfD, len_suC, hl]
theorem belowL_su {x : Sup} {n : Nat} : belowL n (suC x) = true := belowL_pure n _ (pure_suC x)
theorem all_suC {x : Sup} : (suC x).all DV.one = true := by simp only [suC, List.all_cons, List.all_append, all_dgC, one_int, one_bool, one_str, dv_one, List.all_nil, Bool.and_self]
theorem storeO_su {x : Sup} {h : List AObj} {id : Nat} {l : List DV} (hl : l.length = 3) : storeO h id 3 0 (.agg (suC x)) (some l) = some (.junk, h.set id (.cells (suC x))) := storeO_agg (len_suC x) hl all_suC
theorem one_fa0 {x : Fct} : one 1 false (faC x) = some (.int .i64 x.kind) := rfl
theorem one_fa1 {x : Fct} : one 1 false ((faC x).drop 1) = some (.str x.own) := rfl
theorem one_fa2 {x : Fct} : one 32 true ((faC x).drop 2) = some (.agg (dgC x.rev)) := one_pre
theorem fa_34 {x : Fct} : (faC x).drop 34 = .str x.lay :: .str x.run :: .int .i64 x.at_ :: .bool x.agr :: (dgC x.tgt ++ [x.docs.dv 32 dgC]) := by
  show (dgC x.rev ++ _).drop 32 = _; rw [drop_pre (by decide)]; rfl
theorem one_fa34 {x : Fct} : one 1 false ((faC x).drop 34) = some (.str x.lay) := by rw [show (34 : Nat) = 34 + 0 from rfl, ← List.drop_drop, fa_34]; rfl
theorem one_fa35 {x : Fct} : one 1 false ((faC x).drop 35) = some (.str x.run) := by rw [show (35 : Nat) = 34 + 1 from rfl, ← List.drop_drop, fa_34]; rfl
theorem one_fa36 {x : Fct} : one 1 false ((faC x).drop 36) = some (.int .i64 x.at_) := by rw [show (36 : Nat) = 34 + 2 from rfl, ← List.drop_drop, fa_34]; rfl
theorem one_fa37 {x : Fct} : one 1 false ((faC x).drop 37) = some (.bool x.agr) := by rw [show (37 : Nat) = 34 + 3 from rfl, ← List.drop_drop, fa_34]; rfl
theorem one_fa38 {x : Fct} : one 32 true ((faC x).drop 38) = some (.agg (dgC x.tgt)) := by rw [show (38 : Nat) = 34 + 4 from rfl, ← List.drop_drop, fa_34]; exact one_pre
theorem one_fa70 {x : Fct} : one 1 false ((faC x).drop 70) = some (x.docs.dv 32 dgC) := by rw [show (70 : Nat) = 34 + 36 from rfl, ← List.drop_drop, fa_34]; show one 1 false ((dgC x.tgt ++ _).drop 32) = _; rw [drop_pre (by decide)]; rfl
theorem one_fn0 {x : Fnd} : one 32 true (fnC x) = some (.agg (dgC x.inv)) := one_pre
theorem fn_32 {x : Fnd} : (fnC x).drop 32 = [.int .i64 x.comp, .str x.id, .int .i64 x.sev, x.hd.dv 32 dgC, .int .i64 x.st, x.dd.dv 32 dgC, .bool x.con] := by
  show (dgC x.inv ++ _).drop 32 = _; rw [drop_pre (by decide)]; rfl
theorem one_fn32 {x : Fnd} : one 1 false ((fnC x).drop 32) = some (.int .i64 x.comp) := by rw [show (32 : Nat) = 32 + 0 from rfl, ← List.drop_drop, fn_32]; rfl
theorem one_fn33 {x : Fnd} : one 1 false ((fnC x).drop 33) = some (.str x.id) := by rw [show (33 : Nat) = 32 + 1 from rfl, ← List.drop_drop, fn_32]; rfl
theorem one_fn34 {x : Fnd} : one 1 false ((fnC x).drop 34) = some (.int .i64 x.sev) := by rw [show (34 : Nat) = 32 + 2 from rfl, ← List.drop_drop, fn_32]; rfl
theorem one_fn35 {x : Fnd} : one 1 false ((fnC x).drop 35) = some (x.hd.dv 32 dgC) := by rw [show (35 : Nat) = 32 + 3 from rfl, ← List.drop_drop, fn_32]; rfl
theorem one_fn36 {x : Fnd} : one 1 false ((fnC x).drop 36) = some (.int .i64 x.st) := by rw [show (36 : Nat) = 32 + 4 from rfl, ← List.drop_drop, fn_32]; rfl
theorem one_fn37 {x : Fnd} : one 1 false ((fnC x).drop 37) = some (x.dd.dv 32 dgC) := by rw [show (37 : Nat) = 32 + 5 from rfl, ← List.drop_drop, fn_32]; rfl
theorem one_fn38 {x : Fnd} : one 1 false ((fnC x).drop 38) = some (.bool x.con) := by rw [show (38 : Nat) = 32 + 6 from rfl, ← List.drop_drop, fn_32]; rfl
theorem one_ca0 {x : Cas} : one 32 true (caC x) = some (.agg (dgC x.art)) := one_pre
theorem ca_32 {x : Cas} : (caC x).drop 32 = [.int .i64 x.at_, x.f.dv 71 faC, x.n.dv 39 fnC, x.d.dv 1 stC] := by
  show (dgC x.art ++ _).drop 32 = _; rw [drop_pre (by decide)]; rfl
theorem one_ca32 {x : Cas} : one 1 false ((caC x).drop 32) = some (.int .i64 x.at_) := by rw [show (32 : Nat) = 32 + 0 from rfl, ← List.drop_drop, ca_32]; rfl
theorem one_ca33 {x : Cas} : one 1 false ((caC x).drop 33) = some (x.f.dv 71 faC) := by rw [show (33 : Nat) = 32 + 1 from rfl, ← List.drop_drop, ca_32]; rfl
theorem one_ca34 {x : Cas} : one 1 false ((caC x).drop 34) = some (x.n.dv 39 fnC) := by rw [show (34 : Nat) = 32 + 2 from rfl, ← List.drop_drop, ca_32]; rfl
theorem one_ca35 {x : Cas} : one 1 false ((caC x).drop 35) = some (x.d.dv 1 stC) := by rw [show (35 : Nat) = 32 + 3 from rfl, ← List.drop_drop, ca_32]; rfl
theorem one_or0 {x : Org} : one 32 true (orC x) = some (.agg (dgC x.rev)) := one_pre
theorem or_32 {x : Org} : (orC x).drop 32 = [.str x.lay, .str x.run] := by
  show (dgC x.rev ++ _).drop 32 = _; rw [drop_pre (by decide)]; rfl
theorem one_or32 {x : Org} : one 1 false ((orC x).drop 32) = some (.str x.lay) := by rw [show (32 : Nat) = 32 + 0 from rfl, ← List.drop_drop, or_32]; rfl
theorem one_or33 {x : Org} : one 1 false ((orC x).drop 33) = some (.str x.run) := by rw [show (33 : Nat) = 32 + 1 from rfl, ← List.drop_drop, or_32]; rfl
theorem one_rq0 {x : Req} : one 1 false (rqC x) = some (.int .i64 x.kind) := rfl
theorem one_rq1 {x : Req} : one 1 false ((rqC x).drop 1) = some (.int .i64 x.n) := rfl
theorem one_rq2 {x : Req} : one 1 false ((rqC x).drop 2) = some (.int .i64 x.m) := rfl
theorem one_rq3 {x : Req} : one 1 false ((rqC x).drop 3) = some (.str x.text) := rfl
theorem one_su0 {x : Sup} : one 1 false (suC x) = some (.bool x.holds) := rfl
theorem one_su1 {x : Sup} : one 1 false ((suC x).drop 1) = some (x.docs.dv 32 dgC) := rfl
theorem one_su2 {x : Sup} : one 1 false ((suC x).drop 2) = some (.int .i64 x.missing) := rfl
theorem below_dv71 {n : Nat} {x : Sl Fct} : Am.below n (x.dv 71 faC) = true := below_pure n _ (dv_pure pure_faC x)
theorem below_dv39 {n : Nat} {x : Sl Fnd} : Am.below n (x.dv 39 fnC) = true := below_pure n _ (dv_pure pure_fnC x)
theorem below_dv1s {n : Nat} {x : Sl Str} : Am.below n (x.dv 1 stC) = true := below_pure n _ (dv_pure pure_stC x)
theorem below_dv34 {n : Nat} {x : Sl Org} : Am.below n (x.dv 34 orC) = true := below_pure n _ (dv_pure pure_orC x)
theorem below_dv32 {n : Nat} {x : Sl Dg} : Am.below n (x.dv 32 dgC) = true := below_pure n _ (dv_pure pure_dgC x)
attribute [simp] snapL_dgC belowL_dg storeO_dg one_fa getf_fa belowL_fa storeO_fa one_fn getf_fn belowL_fn storeO_fn one_ca getf_ca belowL_ca storeO_ca one_or getf_or belowL_or storeO_or one_rq getf_rq belowL_rq storeO_rq one_su getf_su belowL_su storeO_su one_fa0 one_fa1 one_fa2 one_fa34 one_fa35 one_fa36 one_fa37 one_fa38 one_fa70 one_fn0 one_fn32 one_fn33 one_fn34 one_fn35 one_fn36 one_fn37 one_fn38 one_ca0 one_ca32 one_ca33 one_ca34 one_ca35 one_or0 one_or32 one_or33 one_rq0 one_rq1 one_rq2 one_rq3 one_su0 one_su1 one_su2 below_dv71 below_dv39 below_dv1s below_dv34 below_dv32 pure_faC pure_fnC pure_caC pure_orC pure_rqC pure_suC pure_dv71 pure_dv39 pure_dv1s pure_dv32 pure_dgC
end Go.Proofs.YtdnhbfmlklaldaaGreat
set_option linter.unusedSimpArgs false
set_option linter.unusedVariables false
namespace Go.Proofs.YtdnhbfmlklaldaaGreat
open Go Go.Am
abbrev BB := (Bool × List B8) × (Bool × List B8)
def fBB (a : BB) : List DV := [.sl a.1.1 1 a.1.2.length (a.1.2.map w8), .sl a.2.1 1 a.2.2.length (a.2.2.map w8)]
noncomputable def cBc : List DV → Option DV := con (fun _ => True) fBB (fun a => .int .i64 (Lib.compareBytes (u8L a.1.2) (u8L a.2.2)))
theorem cBc_eq {f g : Bool} {a b : List B8} : cBc [.sl f 1 a.length (a.map w8), .sl g 1 b.length (b.map w8)] = some (.int .i64 (Lib.compareBytes (u8L a) (u8L b))) :=
  con_inj (f := fBB) (g := fun a => .int .i64 (Lib.compareBytes (u8L a.1.2) (u8L a.2.2))) (by
    rintro ⟨⟨a, b⟩, ⟨c, d⟩⟩ ⟨⟨a', b'⟩, ⟨c', d'⟩⟩ e
    simp only [fBB, List.cons.injEq, DV.sl.injEq, and_true, true_and] at e
    obtain ⟨⟨rfl, -, e1⟩, rfl, -, e2⟩ := e
    rw [map_inj_w8] at e1 e2
    rw [e1, e2]) ((f, a), (g, b))
noncomputable def T520 : Tbl := addT 62 (.pure cBc) tbl0
theorem T520_c : T520 62 = .pure cBc := by simp [T520]
theorem T520_sound : T520.Sound P := addT_sound (con_sound fun a _ => sem_bcmp Tryz.func62 (by kernel_rfl) (by kernel_rfl) (by kernel_rfl) (by kernel_rfl) a.1.2 a.2.2 a.1.1 a.2.1) tbl0_sound
theorem runs_bcmp (a : BB) : Runs T520 a37 (fBB a) (.int .i64 (Lib.compareBytes (u8L a.1.2) (u8L a.2.2))) := by
  refine ⟨?_⟩
  obtain ⟨⟨f, a⟩, ⟨g, b⟩⟩ := a
  simp (disch := first | omega | (simp [-List.map_take, -List.map_drop, -List.map_set, -List.map_append, -List.drop_one] <;> omega) | fail) [-List.map_take, -List.map_drop, -List.map_set, -List.map_append, -List.drop_one, fBB, a37, T520_c, cBc_eq]
theorem bcmp_sound : (Con.pure cBc).Sound P 37 := con_sound fun a _ => sem_runs mix T520_sound Tryz.func37 a37_ok (runs_bcmp a)
def cmpDg (a b : Dg) : Int := Lib.compareBytes (dgU a) (dgU b)
theorem cmpDg_lt {a b : Dg} : cmpDg a b < 0 ↔ dgLt a b = true := cmpB_lt _ _
noncomputable def T521 : Tbl := addT 37 (.pure cBc) tbl0
theorem T521_c : T521 37 = .pure cBc := by simp [T521]
theorem T521_sound : T521.Sound P := addT_sound bcmp_sound tbl0_sound
theorem cBc_dg {f g : Bool} {a b : Dg} : cBc [.sl f 1 32 (dgC a), .sl g 1 32 (dgC b)] = some (.int .i64 (cmpDg a b)) := by
  have := cBc_eq (f := f) (g := g) (a := a.1) (b := b.1)
  rw [a.2, b.2] at this
  exact this
theorem runs_cmpD (a b : Dg) : Runs T521 a133 [.agg (dgC a), .agg (dgC b)] (.int .i64 (cmpDg a b)) := by
  refine ⟨?_⟩
  simp (disch := first | omega | (simp [-List.map_take, -List.map_drop, -List.map_set, -List.map_append, -List.drop_one] <;> omega) | fail) [-List.map_take, -List.map_drop, -List.map_set, -List.map_append, -List.drop_one, a133, T521_c, cBc_dg, len_dgC, List.take_of_length_le]
noncomputable def cCmpD : List DV → Option DV := con (fun _ => True) (fun a : Dg × Dg => [.agg (dgC a.1), .agg (dgC a.2)]) (fun a => .int .i64 (cmpDg a.1 a.2))
theorem cCmpD_eq {a b : Dg} : cCmpD [.agg (dgC a), .agg (dgC b)] = some (.int .i64 (cmpDg a b)) :=
  con_inj (f := fun a : Dg × Dg => [.agg (dgC a.1), .agg (dgC a.2)]) (g := fun a => .int .i64 (cmpDg a.1 a.2)) (by
    rintro ⟨a, b⟩ ⟨c, d⟩ e
    simp only [List.cons.injEq, DV.agg.injEq, and_true] at e
    rw [dgC_inj e.1, dgC_inj e.2]) (a, b)
noncomputable def TcD : Tbl := addT 133 (.pure cCmpD) tbl0
theorem TcD_c : TcD 133 = .pure cCmpD := by simp [TcD]
theorem TcD_sound : TcD.Sound P := addT_sound (con_sound fun (a : Dg × Dg) _ => sem_runs mix T521_sound Tryz.func133 a133_ok (runs_cmpD a.1 a.2)) tbl0_sound
def mutD {α : Type} (id s : Nat) (x : Sl α) (f : α → List DV) : DV := if x.l = [] then x.clone.dv s f else .ms id (x.l.length * s) 0 s x.l.length (x.l.length * s)
def fl {α : Type} (f : α → List DV) (l : List α) : List DV := l.flatMap f
theorem fl_len {α : Type} {f : α → List DV} {K : Nat} (hu : ∀ a, (f a).length = K) (l : List α) : (fl f l).length = l.length * K := fm_len hu l
def mo {α : Type} (f : α → List DV) (l : List α) : List AObj := if l = [] then [] else [.cells (fl f l)]
theorem mutD_nil {α : Type} {id s : Nat} {x : Sl α} {f : α → List DV} (h : x.l = []) : mutD id s x f = x.clone.dv s f := if_pos h
theorem mutD_ne {α : Type} {id s : Nat} {x : Sl α} {f : α → List DV} (h : x.l ≠ []) : mutD id s x f = .ms id (x.l.length * s) 0 s x.l.length (x.l.length * s) := if_neg h
theorem mo_nil {α : Type} {f : α → List DV} : mo f [] = [] := rfl
theorem mo_ne {α : Type} {l : List α} {f : α → List DV} (h : l ≠ []) : mo f l = [.cells (fl f l)] := if_neg h
section
variable {α : Type} {f : α → List DV} {K : Nat}
theorem mut_inj (hu : ∀ a, (f a).length = K) (h0 : 0 < K) (hi : ∀ a b, f a = f b → a = b) {pre pre' : List AObj} {x x' : Sl α} (h1 : mutD pre.length K x f = mutD pre'.length K x' f) (h2 : pre ++ mo f x.l = pre' ++ mo f x'.l) : pre = pre' ∧ x.l = x'.l ∧ (x.l = [] → x.clone.dv K f = x'.clone.dv K f) := by
  have nm : ∀ {y : Sl α} {a b c d e g : Nat}, y.clone.dv K f ≠ .ms a b c d e g := fun {y} {a b c d e g} h => by
    unfold Sl.dv slD at h; split at h <;> cases h
  by_cases e : x.l = []
  · by_cases e' : x'.l = []
    · rw [e, e', mo_nil, List.append_nil, List.append_nil] at h2
      rw [mutD_nil e, mutD_nil e'] at h1
      exact ⟨h2, e.trans e'.symm, fun _ => h1⟩
    · rw [mutD_nil e, mutD_ne e'] at h1; exact absurd h1 nm
  · by_cases e' : x'.l = []
    · rw [mutD_ne e, mutD_nil e'] at h1; exact absurd h1.symm nm
    · rw [mo_ne e, mo_ne e'] at h2
      have h := List.append_inj' h2 rfl
      refine ⟨h.1, ?_, fun q => absurd q e⟩
      have h3 := h.2
      simp only [List.cons.injEq, AObj.cells.injEq, and_true] at h3
      exact fmap_inj hu h0 hi h3
theorem one_fm (hu : ∀ a, (f a).length = K) {l : List α} {i : Nat} (hi : i < l.length) : one K true ((fl f l).drop (i * K)) = some (.agg (f l[i])) := by
  rw [fl, fm_drop hu, List.drop_eq_getElem_cons hi, List.flatMap_cons, one_agg (by simp [hu]), List.take_left' (hu _)]
theorem storeO_fm (hu : ∀ a, (f a).length = K) (h0 : 0 < K) (ha : ∀ a, (f a).all DV.one = true) {h : List AObj} {id i : Nat} {l : List α} {x : α} (hi : i < l.length) : storeO h id K (i * K) (.agg (f x)) (some (fl f l)) = some (.junk, h.set id (.cells (fl f (l.set i x)))) := by
  have hl := fl_len hu l
  have h1 : i * K + K ≤ l.length * K := by rw [← Nat.succ_mul]; exact Nat.mul_le_mul_right _ hi
  simp only [storeO, DV.cells, hu, ha, hl]
  rw [if_pos ⟨trivial, h1, trivial⟩, fl, fm_set hu hi, fl]
theorem fm_rep {z : α} {n : Nat} : reps n (f z) = fl f (List.replicate n z) := by
  unfold fl
  induction n with
  | zero => rfl
  | succ n ih => rw [List.replicate_succ, List.flatMap_cons, ← ih]; rfl
theorem splice_fm (hu : ∀ a, (f a).length = K) {A B C : List α} (h : B.length = C.length) : splice (fl f (A ++ B)) (A.length * K) (fl f C) = fl f (A ++ C) := by
  unfold fl
  have := splice_end (A := A.flatMap f) (B := B.flatMap f) (C := C.flatMap f) (by rw [fm_len hu, fm_len hu, h])
  rw [fm_len hu] at this
  rw [List.flatMap_append, this, List.flatMap_append]
theorem fm_all {f : α → List DV} (h : ∀ a, (f a).all DV.one = true) : ∀ (l : List α), (l.flatMap f).all DV.one = true
  | [] => rfl
  | a :: l => by rw [List.flatMap_cons, List.all_append, h, fm_all h l]; rfl
theorem lenD_mut {pre : List AObj} {x : Sl α} (hu : ∀ a, (f a).length = K) : lenD (pre ++ mo f x.l) (mutD pre.length K x f) = some (.int .i64 x.l.length) := by
  by_cases e : x.l = []
  · rw [mutD_nil e, lenD_dv]; rfl
  · rw [mutD_ne e, mo_ne e, lenD_ms, objV_pre0, objV_zero, if_pos (fl_len hu _)]; rfl
end
def AllLt {α : Type} (lt : α → α → Bool) (x : α) (B : List α) : Prop := ∀ b ∈ B, lt x b = true
def cmD {α : Type} (K p : Nat) (f : α → List DV) [DecidableEq α] (x : Sl α) : DV := if x.l = [] then x.clone.dv K f else .ms p (x.l.length * K) 0 K (compL x.l).length (x.l.length * K)
theorem compO_nil {α : Type} [DecidableEq α] {z : α} : compO z ([] : List α) = [] := rfl
theorem compO_ne' {α : Type} [DecidableEq α] {z : α} {l : List α} (h : l ≠ []) : compO z l ≠ [] := fun e => h (List.eq_nil_of_length_eq_zero (by rw [← compO_len z l, e]; rfl))
theorem sortR_neg {α : Type} {lt : α → α → Bool} {l : List α} (h : l ≠ []) : sortR lt l ≠ [] := fun e => h (List.eq_nil_of_length_eq_zero (by rw [← sortR_len (lt := lt), e]; rfl))
theorem compL_one' {α : Type} [DecidableEq α] {l : List α} (h : l.length ≤ 1) : compL l = l := by
  match l, h with
  | [], _ => rfl
  | [a], _ => rfl
def S522 (pre : List AObj) (n : Nat) (l : List Dg) (i : Nat) : St := a153S0 (.ms pre.length (n * 32) 0 32 n (n * 32)) (.int .i64 0) (.int .i64 n) (.fn (.func 133) [] []) (.int .i64 i) (pre ++ [.cells (fl dgC (sortR dgLt (l.take i) ++ l.drop i))])
def S523 (pre : List AObj) (n i : Nat) (x : Dg) (R : List Dg) (a : IPg Dg) : St := a153S1 (.ms pre.length (n * 32) 0 32 n (n * 32)) (.int .i64 0) (.int .i64 n) (.fn (.func 133) [] []) (.int .i64 i) (.int .i64 a.A.length) (pre ++ [.cells (fl dgC (a.A ++ x :: (a.B ++ R)))])
set_option maxRecDepth 20000 in
theorem runs_insD (pre : List AObj) (l : List Dg) (hb : l.length ≤ 1000000) :
    RunsH TcD a153 [.ms pre.length (l.length * 32) 0 32 l.length (l.length * 32), .int .i64 0, .int .i64 l.length, (.fn (.func 133) [] [])] (pre ++ [.cells (fl dgC l)]) (.tup []) (pre ++ [.cells (fl dgC (sortR dgLt l))]) := by
  refine ⟨?_⟩
  obtain ⟨n, hn⟩ : ∃ n, l.length = n := ⟨_, rfl⟩
  rw [hn]
  rw [hn] at hb
  simp (disch := first | omega | (simp [-List.map_take, -List.map_drop, -List.map_set, -List.map_append, -List.drop_one] <;> omega) | fail) [-List.map_take, -List.map_drop, -List.map_set, -List.map_append, -List.drop_one, a153]
  refine W_loop (S522 pre n l) (fun i => n + 1 - i) (fun i => 1 ≤ i ∧ (i ≤ n ∨ n = 0)) 1 (weak_same (by simp (disch := first | omega | (simp [-List.map_take, -List.map_drop, -List.map_set, -List.map_append, -List.drop_one] <;> omega) | fail) [-List.map_take, -List.map_drop, -List.map_set, -List.map_append, -List.drop_one, S522, a153S0]) ?_) ⟨by omega, by omega⟩ (fun i hi => ?_)
  · simp (disch := first | omega | (simp [-List.map_take, -List.map_drop, -List.map_set, -List.map_append, -List.drop_one] <;> omega) | fail) [-List.map_take, -List.map_drop, -List.map_set, -List.map_append, -List.drop_one, S522, a153S0]
    rw [sortR_one (by simp; omega), List.take_append_drop]
  obtain ⟨h1, h2⟩ := hi
  simp (disch := first | omega | (simp [-List.map_take, -List.map_drop, -List.map_set, -List.map_append, -List.drop_one] <;> omega) | fail) [-List.map_take, -List.map_drop, -List.map_set, -List.map_append, -List.drop_one, a153L0, a153S0, S522]
  by_cases h : i < n
  · have h' : (i : Int) < n := by omega
    have hil : i < l.length := by omega
    obtain ⟨x, hx⟩ : ∃ x, l[i] = x := ⟨_, rfl⟩
    have hd : l.drop i = x :: l.drop (i + 1) := by rw [List.drop_eq_getElem_cons hil, hx]
    obtain ⟨Q, hQ⟩ : ∃ Q, sortR dgLt (l.take i) = Q := ⟨_, rfl⟩
    have hQl : Q.length = i := by rw [← hQ, sortR_len]; simp; omega
    have hnext : sortR dgLt (l.take (i + 1)) = insR dgLt x Q := by rw [List.take_succ_eq_append_getElem hil, sortR_snoc, hQ, hx]
    obtain ⟨R, hR⟩ : ∃ R, l.drop (i + 1) = R := ⟨_, rfl⟩
    have hRl : R.length = n - (i + 1) := by rw [← hR]; simp; omega
    rw [hd, hQ, hR]
    simp (disch := first | omega | (simp [-List.map_take, -List.map_drop, -List.map_set, -List.map_append, -List.drop_one] <;> omega) | fail) [-List.map_take, -List.map_drop, -List.map_set, -List.map_append, -List.drop_one, h, h']
    refine W_loop (S523 pre n i x R) (fun a => a.A.length) (fun a => a.A ++ a.B = Q ∧ AllLt dgLt x a.B) ⟨Q, []⟩ (weak_same (by simp (disch := first | omega | (simp [-List.map_take, -List.map_drop, -List.map_set, -List.map_append, -List.drop_one] <;> omega) | fail) [-List.map_take, -List.map_drop, -List.map_set, -List.map_append, -List.drop_one, S523, a153S1, hQl]) (by simp (disch := first | omega | (simp [-List.map_take, -List.map_drop, -List.map_set, -List.map_append, -List.drop_one] <;> omega) | fail) [-List.map_take, -List.map_drop, -List.map_set, -List.map_append, -List.drop_one, S523, a153S1])) ⟨by simp, fun b hb => by simp at hb⟩ (fun a ha => ?_)
    obtain ⟨A, B⟩ := a
    obtain ⟨r1, r2⟩ := ha
    simp only at r1 r2
    simp only [S523]
    rcases (List.eq_nil_or_concat A) with rfl | ⟨A', y, rfl⟩
    · have e : insR dgLt x Q = x :: B := by rw [← r1]; exact insR_at r2 (.inl rfl)
      have hfin : sortR dgLt (l.take (i + 1)) ++ l.drop (i + 1) = x :: (B ++ R) := by rw [hnext, e, hR]; rfl
      simp (disch := first | omega | (simp [-List.map_take, -List.map_drop, -List.map_set, -List.map_append, -List.drop_one] <;> omega) | fail) [-List.map_take, -List.map_drop, -List.map_set, -List.map_append, -List.drop_one, a153L1, a153S1]
      refine ⟨i + 1, weak_same (by simp (disch := first | omega | (simp [-List.map_take, -List.map_drop, -List.map_set, -List.map_append, -List.drop_one] <;> omega) | fail) [-List.map_take, -List.map_drop, -List.map_set, -List.map_append, -List.drop_one, S522, a153S0]) (by simp (disch := first | omega | (simp [-List.map_take, -List.map_drop, -List.map_set, -List.map_append, -List.drop_one] <;> omega) | fail) [-List.map_take, -List.map_drop, -List.map_set, -List.map_append, -List.drop_one, S522, a153S0, hfin]), by omega, by omega, by omega⟩
    · rw [List.concat_eq_append] at r1
      have hAl : A'.length + 1 + B.length = i := by rw [← hQl, ← r1]; simp; omega
      rw [List.concat_eq_append]
      obtain ⟨L, hL⟩ : ∃ L, A' ++ [y] ++ x :: (B ++ R) = L := ⟨_, rfl⟩
      have hLl : L.length = n := by rw [← hL]; simp; omega
      obtain ⟨p, hp⟩ : ∃ p, A'.length = p := ⟨_, rfl⟩
      have g1 : ∀ h : p < L.length, L[p] = y := fun h => by subst hL hp; simp
      have g2 : ∀ h : p + 1 < L.length, L[p + 1] = x := fun h => by subst hL hp; simp [List.getElem_append_right]
      have hs := swap_set (A := A') (B := B) (R := R) (x := x) (y := y)
      rw [hL, hp] at hs
      obtain ⟨G, hG⟩ : ∃ G, fl dgC L = G := ⟨_, rfl⟩
      have hGl : G.length = n * 32 := by rw [← hG, fl_len len_dgC, hLl]
      obtain ⟨G2, hG2⟩ : ∃ G2, fl dgC (L.set (p + 1) y) = G2 := ⟨_, rfl⟩
      have hG2l : G2.length = n * 32 := by rw [← hG2, fl_len len_dgC, List.length_set, hLl]
      have o1 : one 32 true (G.drop (p * 32)) = some (.agg (dgC y)) := by rw [← hG, one_fm len_dgC (by omega), g1]
      have o2 : one 32 true (G.drop ((p + 1) * 32)) = some (.agg (dgC x)) := by rw [← hG, one_fm len_dgC (by omega), g2]
      have s1 : ∀ h : List AObj, storeO h pre.length 32 ((p + 1) * 32) (.agg (dgC y)) (some G) = some (.junk, h.set pre.length (.cells G2)) := fun h => by rw [← hG, storeO_fm len_dgC (by decide) (fun _ => all_dgC) (by omega), hG2]
      have s2 : ∀ h : List AObj, storeO h pre.length 32 (p * 32) (.agg (dgC x)) (some G2) = some (.junk, h.set pre.length (.cells (fl dgC (A' ++ x :: (y :: B ++ R))))) := fun h => by rw [← hG2, storeO_fm len_dgC (by decide) (fun _ => all_dgC) (by rw [List.length_set]; omega), hs]
      have hv := cCmpD_eq (a := x) (b := y)
      have hq := cmpDg_lt (a := x) (b := y)
      have t1 : ((p : Int) + 1).toNat = p + 1 := by omega
      have t2 : (A' ++ [y]).length = p + 1 := by rw [← hp]; simp
      rw [hL, hG, t2]
      cases hc : dgLt x y with
      | true =>
        have hq' : cmpDg x y < 0 := hq.2 hc
        simp (disch := first | omega | (simp [-List.map_take, -List.map_drop, -List.map_set, -List.map_append, -List.drop_one] <;> omega) | fail) [-List.map_take, -List.map_drop, -List.map_set, -List.map_append, -List.drop_one, a153L1, a153S1, hGl, hG2l, o1, o2, s1, s2, t1, TcD_c, hv, hq', objV_pre0, objV_zero, set_pre0]
        refine ⟨⟨A', y :: B⟩, weak_same (by simp (disch := first | omega | (simp [-List.map_take, -List.map_drop, -List.map_set, -List.map_append, -List.drop_one] <;> omega) | fail) [-List.map_take, -List.map_drop, -List.map_set, -List.map_append, -List.drop_one, S523, a153S1, hp]) (by simp (disch := first | omega | (simp [-List.map_take, -List.map_drop, -List.map_set, -List.map_append, -List.drop_one] <;> omega) | fail) [-List.map_take, -List.map_drop, -List.map_set, -List.map_append, -List.drop_one, S523, a153S1]), by simp, by simpa using r1, fun b hb => ?_⟩
        rcases List.mem_cons.1 hb with rfl | hb
        · exact hc
        · exact r2 b hb
      | false =>
        have hq' : ¬ cmpDg x y < 0 := fun q => by rw [hq.1 q] at hc; cases hc
        simp (disch := first | omega | (simp [-List.map_take, -List.map_drop, -List.map_set, -List.map_append, -List.drop_one] <;> omega) | fail) [-List.map_take, -List.map_drop, -List.map_set, -List.map_append, -List.drop_one, a153L1, a153S1, hGl, o1, o2, t1, TcD_c, hv, hq', objV_pre0, objV_zero]
        have e : insR dgLt x Q = A' ++ [y] ++ x :: B := by rw [← r1]; exact insR_at r2 (.inr ⟨A', y, rfl, hc⟩)
        have hfin : sortR dgLt (l.take (i + 1)) ++ l.drop (i + 1) = L := by rw [hnext, e, hR, ← hL]; simp
        refine ⟨i + 1, weak_same (by simp (disch := first | omega | (simp [-List.map_take, -List.map_drop, -List.map_set, -List.map_append, -List.drop_one] <;> omega) | fail) [-List.map_take, -List.map_drop, -List.map_set, -List.map_append, -List.drop_one, S522, a153S0]) (by simp (disch := first | omega | (simp [-List.map_take, -List.map_drop, -List.map_set, -List.map_append, -List.drop_one] <;> omega) | fail) [-List.map_take, -List.map_drop, -List.map_set, -List.map_append, -List.drop_one, S522, a153S0, hfin, hG]), by omega, by omega, by omega⟩
  · have h' : ¬ (i : Int) < n := by omega
    have e1 : l.drop i = [] := List.drop_of_length_le (by omega)
    have e2 : l.take i = l := List.take_of_length_le (by omega)
    simp (disch := first | omega | (simp [-List.map_take, -List.map_drop, -List.map_set, -List.map_append, -List.drop_one] <;> omega) | fail) [-List.map_take, -List.map_drop, -List.map_set, -List.map_append, -List.drop_one, h, h', e1, e2]
end Go.Proofs.YtdnhbfmlklaldaaGreat
set_option linter.unusedSimpArgs false
set_option linter.unusedVariables false
namespace Go.Proofs.YtdnhbfmlklaldaaGreat
open Go Go.Am
abbrev SD := List AObj × Sl Dg
noncomputable def cMuD (A : SD → Prop) (f : SD → List DV) (g : SD → DV × List AObj) : List DV → List AObj → Option (DV × List AObj) := conH A (fun a => (f a, a.1 ++ mo dgC a.2.l)) g
theorem cMuD_eq {A : SD → Prop} {f : SD → List DV} {g : SD → DV × List AObj} (hf : ∀ a b, f a = f b → mutD a.1.length 32 a.2 dgC = mutD b.1.length 32 b.2 dgC) (hg : ∀ a b : SD, a.1 = b.1 → a.2.l = b.2.l → (a.2.l = [] → a.2.clone.dv 32 dgC = b.2.clone.dv 32 dgC) → g a = g b) {a : SD} (h : A a) : cMuD A f g (f a) (a.1 ++ mo dgC a.2.l) = some (g a) :=
  conH_eq' (A := A) (f := fun a => (f a, a.1 ++ mo dgC a.2.l)) (g := g) (fun a b h1 h2 e => by
    simp only [Prod.mk.injEq] at e
    obtain ⟨p, q, r⟩ := mut_inj len_dgC (by decide) (fun _ _ => dgC_inj) (hf a b e.1) e.2
    exact hg a b p q r) a h
def sSrtD (a : SD) : DV × List AObj := (.tup [], a.1 ++ mo dgC (sortR dgLt a.2.l))
theorem sSrtD_c (a b : SD) (h1 : a.1 = b.1) (h2 : a.2.l = b.2.l) (h3 : a.2.l = [] → a.2.clone.dv 32 dgC = b.2.clone.dv 32 dgC) : sSrtD a = sSrtD b := by unfold sSrtD; rw [h1, h2]
def sCmpD (a : SD) : DV × List AObj := (cmD 32 a.1.length dgC a.2, a.1 ++ mo dgC (compO dg0 a.2.l))
theorem sCmpD_c (a b : SD) (h1 : a.1 = b.1) (h2 : a.2.l = b.2.l) (h3 : a.2.l = [] → a.2.clone.dv 32 dgC = b.2.clone.dv 32 dgC) : sCmpD a = sCmpD b := by
  unfold sCmpD cmD
  rw [h1, h2]
  by_cases e : b.2.l = []
  · rw [if_pos e, if_pos e, h3 (h2.trans e)]
  · rw [if_neg e, if_neg e]
def sBD (a : SD) : Prop := a.2.l.length ≤ 12
def cBD (a : SD) : Prop := a.2.l.length ≤ 1000000
def fInsD (a : SD) : List DV := [mutD a.1.length 32 a.2 dgC, .int .i64 0, .int .i64 a.2.l.length, (.fn (.func 133) [] [])]
def fPdqD (a : SD) : List DV := [mutD a.1.length 32 a.2 dgC, .int .i64 0, .int .i64 a.2.l.length, .int .i64 (blN a.2.l.length), (.fn (.func 133) [] [])]
def fSrtD (a : SD) : List DV := [mutD a.1.length 32 a.2 dgC, (.fn (.func 133) [] [])]
def fOneD (a : SD) : List DV := [mutD a.1.length 32 a.2 dgC]
theorem cInsD_eq {a : SD} (h : a.2.l.length ≤ 12) : cMuD sBD fInsD sSrtD (fInsD a) (a.1 ++ mo dgC a.2.l) = some (.tup [], a.1 ++ mo dgC (sortR dgLt a.2.l)) := cMuD_eq (fun a b e => by simp only [fInsD, List.cons.injEq] at e; exact e.1) sSrtD_c h
theorem cPdqD_eq {a : SD} (h : a.2.l.length ≤ 12) : cMuD sBD fPdqD sSrtD (fPdqD a) (a.1 ++ mo dgC a.2.l) = some (.tup [], a.1 ++ mo dgC (sortR dgLt a.2.l)) := cMuD_eq (fun a b e => by simp only [fPdqD, List.cons.injEq] at e; exact e.1) sSrtD_c h
theorem cSrtD_eq {a : SD} (h : a.2.l.length ≤ 12) : cMuD sBD fSrtD sSrtD (fSrtD a) (a.1 ++ mo dgC a.2.l) = some (.tup [], a.1 ++ mo dgC (sortR dgLt a.2.l)) := cMuD_eq (fun a b e => by simp only [fSrtD, List.cons.injEq] at e; exact e.1) sSrtD_c h
theorem cCmpD_q {a : SD} (h : a.2.l.length ≤ 1000000) : cMuD cBD fOneD sCmpD (fOneD a) (a.1 ++ mo dgC a.2.l) = some (sCmpD a) := cMuD_eq (fun a b e => by simp only [fOneD, List.cons.injEq] at e; exact e.1) sCmpD_c h
theorem runs_ins0D (pre : List AObj) (V : DV) : RunsH TcD a153 [V, .int .i64 0, .int .i64 0, (.fn (.func 133) [] [])] pre (.tup []) pre := by
  refine ⟨?_⟩
  simp (disch := first | omega | (simp [-List.map_take, -List.map_drop, -List.map_set, -List.map_append, -List.drop_one] <;> omega) | fail) [-List.map_take, -List.map_drop, -List.map_set, -List.map_append, -List.drop_one, a153]
  refine W_loop (fun _ : Unit => a153S0 V (.int .i64 0) (.int .i64 0) (.fn (.func 133) [] []) (.int .i64 1) pre) (fun _ => 0) (fun _ => True) () (weak_same (by simp (disch := first | omega | (simp [-List.map_take, -List.map_drop, -List.map_set, -List.map_append, -List.drop_one] <;> omega) | fail) [-List.map_take, -List.map_drop, -List.map_set, -List.map_append, -List.drop_one, a153S0]) (by simp (disch := first | omega | (simp [-List.map_take, -List.map_drop, -List.map_set, -List.map_append, -List.drop_one] <;> omega) | fail) [-List.map_take, -List.map_drop, -List.map_set, -List.map_append, -List.drop_one, a153S0])) trivial (fun i hi => ?_)
  simp (disch := first | omega | (simp [-List.map_take, -List.map_drop, -List.map_set, -List.map_append, -List.drop_one] <;> omega) | fail) [-List.map_take, -List.map_drop, -List.map_set, -List.map_append, -List.drop_one, a153L0, a153S0]
theorem runs_insGD {a : SD} (h : sBD a) : RunsH TcD a153 (fInsD a) (a.1 ++ mo dgC a.2.l) (.tup []) (a.1 ++ mo dgC (sortR dgLt a.2.l)) := by
  obtain ⟨pre, x⟩ := a
  have h : x.l.length ≤ 12 := h
  by_cases e : x.l = []
  · have e1 : sortR dgLt x.l = [] := by rw [e]; rfl
    have e2 : x.l.length = 0 := by rw [e]; rfl
    have e3 : mo dgC x.l = [] := by rw [e]; rfl
    simp only [fInsD, e1, e2, e3, mo_nil, List.append_nil]; exact runs_ins0D pre _
  · have := runs_insD pre x.l (by omega)
    simp only [fInsD, mutD_ne e, mo_ne e, mo_ne (sortR_neg e)]
    exact this
noncomputable def TiD : Tbl := addT 153 (.heap (cMuD sBD fInsD sSrtD)) tbl0
theorem TiD_i : TiD 153 = .heap (cMuD sBD fInsD sSrtD) := by simp [TiD]
theorem TiD_sound : TiD.Sound P := addT_sound (conH_sound fun a h => calls_runs mix TcD_sound Tryz.func153 a153_ok (runs_insGD h)) tbl0_sound
theorem runs_pdqD {a : SD} (h : sBD a) : RunsH TiD a143 (fPdqD a) (a.1 ++ mo dgC a.2.l) (.tup []) (a.1 ++ mo dgC (sortR dgLt a.2.l)) := by
  have he := cInsD_eq (a := a) h
  obtain ⟨pre, x⟩ := a
  have h : x.l.length ≤ 12 := h
  refine ⟨?_⟩
  simp only [fPdqD]
  simp only [fInsD] at he
  obtain ⟨b, hb⟩ : ∃ b, blN x.l.length = b := ⟨_, rfl⟩
  obtain ⟨n, hn⟩ : ∃ n, x.l.length = n := ⟨_, rfl⟩
  rw [hn] at he h
  rw [hb, hn]
  obtain ⟨V, hV⟩ : ∃ V, mutD pre.length 32 x dgC = V := ⟨_, rfl⟩
  obtain ⟨H, hH⟩ : ∃ H, pre ++ mo dgC x.l = H := ⟨_, rfl⟩
  obtain ⟨K, hK⟩ : ∃ K, pre ++ mo dgC (sortR dgLt x.l) = K := ⟨_, rfl⟩
  rw [hV, hH, hK] at he
  rw [hV, hH, hK]
  have h1 : (n : Int) ≤ 12 := by omega
  simp (disch := first | omega | (simp [-List.map_take, -List.map_drop, -List.map_set, -List.map_append, -List.drop_one] <;> omega) | fail) [-List.map_take, -List.map_drop, -List.map_set, -List.map_append, -List.drop_one, a143]
  refine W_loop (fun _ : Unit => a143S0 V (.int .i64 0) (.int .i64 n) (.int .i64 b) (.fn (.func 133) [] []) (.bool true) (.bool true) H) (fun _ => 0) (fun _ => True) () (weak_same (by simp (disch := first | omega | (simp [-List.map_take, -List.map_drop, -List.map_set, -List.map_append, -List.drop_one] <;> omega) | fail) [-List.map_take, -List.map_drop, -List.map_set, -List.map_append, -List.drop_one, a143S0]) (by simp (disch := first | omega | (simp [-List.map_take, -List.map_drop, -List.map_set, -List.map_append, -List.drop_one] <;> omega) | fail) [-List.map_take, -List.map_drop, -List.map_set, -List.map_append, -List.drop_one, a143S0])) trivial (fun i hi => ?_)
  simp (disch := first | omega | (simp [-List.map_take, -List.map_drop, -List.map_set, -List.map_append, -List.drop_one] <;> omega) | fail) [-List.map_take, -List.map_drop, -List.map_set, -List.map_append, -List.drop_one, a143L0, a143S0, h1, TiD_i, he]
noncomputable def TqD : Tbl := addT 61 (.pure cLen) (addT 143 (.heap (cMuD sBD fPdqD sSrtD)) tbl0)
theorem TqD_l : TqD 61 = .pure cLen := by simp [TqD]
theorem TqD_p : TqD 143 = .heap (cMuD sBD fPdqD sSrtD) := by simp [TqD]
theorem TqD_sound : TqD.Sound P := addT_sound blen_sound (addT_sound (conH_sound fun a h => calls_runs mix TiD_sound Tryz.func143 a143_ok (runs_pdqD h)) tbl0_sound)
theorem runs_sortD {a : SD} (h : sBD a) : RunsH TqD a132 (fSrtD a) (a.1 ++ mo dgC a.2.l) (.tup []) (a.1 ++ mo dgC (sortR dgLt a.2.l)) := by
  have he := cPdqD_eq (a := a) h
  obtain ⟨pre, x⟩ := a
  have h : x.l.length ≤ 12 := h
  have hl := lenD_mut (pre := pre) (x := x) len_dgC
  refine ⟨?_⟩
  simp only [fSrtD]
  simp only [fPdqD] at he
  obtain ⟨n, hn⟩ : ∃ n, x.l.length = n := ⟨_, rfl⟩
  rw [hn] at he h hl
  obtain ⟨V, hV⟩ : ∃ V, mutD pre.length 32 x dgC = V := ⟨_, rfl⟩
  obtain ⟨H, hH⟩ : ∃ H, pre ++ mo dgC x.l = H := ⟨_, rfl⟩
  obtain ⟨K, hK⟩ : ∃ K, pre ++ mo dgC (sortR dgLt x.l) = K := ⟨_, rfl⟩
  rw [hV, hH, hK] at he
  rw [hV, hH] at hl
  rw [hV, hH, hK]
  have hc := cLen_eq (n := n) (by omega)
  simp (disch := first | omega | (simp [-List.map_take, -List.map_drop, -List.map_set, -List.map_append, -List.drop_one] <;> omega) | fail) [-List.map_take, -List.map_drop, -List.map_set, -List.map_append, -List.drop_one, a132, hl, TqD_l, TqD_p, he, hc]
theorem sortD_sound : (Con.heap (cMuD sBD fSrtD sSrtD)).Sound P 132 := conH_sound fun a h => calls_runs mix TqD_sound Tryz.func132 a132_ok (runs_sortD h)
def S524 (pre : List AObj) (n : Nat) (l : List Dg) (k : Nat) : St := a134S0 (.ms pre.length (n * 32) 0 32 n (n * 32)) (.int .i64 k) (pre ++ [.cells (fl dgC l)])
def S525 (pre : List AObj) (n k0 : Nat) (l : List Dg) (a : CPg Dg) : St := a134S1 (.ms pre.length (n * 32) 0 32 n (n * 32)) (.int .i64 (compL (l.take a.j)).length) (.ms pre.length (n * 32) (k0 * 32) 32 (n - k0) (n * 32)) (.int .i64 ((a.j - k0 : Nat) : Int)) (pre ++ [.cells (fl dgC a.M)])
set_option maxRecDepth 20000 in
theorem runs_compD (pre : List AObj) (l : List Dg) (hb : l.length ≤ 1000000) (hne : l ≠ []) :
    RunsH tbl0 a134 [.ms pre.length (l.length * 32) 0 32 l.length (l.length * 32)] (pre ++ [.cells (fl dgC l)]) (.ms pre.length (l.length * 32) 0 32 (compL l).length (l.length * 32)) (pre ++ [.cells (fl dgC (compO dg0 l))]) := by
  refine ⟨?_⟩
  obtain ⟨n, hn⟩ : ∃ n, l.length = n := ⟨_, rfl⟩
  have hn0 : 0 < n := by rw [← hn]; exact List.length_pos_iff.2 hne
  have hfl : (fl dgC l).length = n * 32 := by rw [fl_len len_dgC, hn]
  have hln : lenD (pre ++ [.cells (fl dgC l)]) (.ms pre.length (n * 32) 0 32 n (n * 32)) = some (.int .i64 n) := by rw [lenD_ms, objV_pre0, objV_zero, if_pos hfl]; rfl
  rw [hn]
  rw [hn] at hb
  by_cases h2 : n < 2
  · have h2' : (n : Int) < 2 := by omega
    have hc := compL_one' (l := l) (by omega)
    have hcl : (compL l).length = n := by rw [hc, hn]
    have ho := compO_same (z := dg0) hc
    rw [hcl, ho]
    simp (disch := first | omega | (simp [-List.map_take, -List.map_drop, -List.map_set, -List.map_append, -List.drop_one] <;> omega) | fail) [-List.map_take, -List.map_drop, -List.map_set, -List.map_append, -List.drop_one, a134, hln, h2, h2', objV_pre0, objV_zero, hfl]
  have h2' : ¬ (n : Int) < 2 := by omega
  simp (disch := first | omega | (simp [-List.map_take, -List.map_drop, -List.map_set, -List.map_append, -List.drop_one] <;> omega) | fail) [-List.map_take, -List.map_drop, -List.map_set, -List.map_append, -List.drop_one, a134, hln, h2, h2']
  refine W_loop (S524 pre n l) (fun i => n - i) (fun i => 1 ≤ i ∧ i ≤ n ∧ compL (l.take i) = l.take i) 1 (weak_same (by simp (disch := first | omega | (simp [-List.map_take, -List.map_drop, -List.map_set, -List.map_append, -List.drop_one] <;> omega) | fail) [-List.map_take, -List.map_drop, -List.map_set, -List.map_append, -List.drop_one, S524, a134S0]) (by simp (disch := first | omega | (simp [-List.map_take, -List.map_drop, -List.map_set, -List.map_append, -List.drop_one] <;> omega) | fail) [-List.map_take, -List.map_drop, -List.map_set, -List.map_append, -List.drop_one, S524, a134S0])) ⟨by omega, by omega, compL_one' (by simp; omega)⟩ (fun i hi => ?_)
  obtain ⟨h3, h4, h5⟩ := hi
  simp (disch := first | omega | (simp [-List.map_take, -List.map_drop, -List.map_set, -List.map_append, -List.drop_one] <;> omega) | fail) [-List.map_take, -List.map_drop, -List.map_set, -List.map_append, -List.drop_one, a134L0, a134S0, S524, hln]
  by_cases h : i < n
  · have h' : (i : Int) < n := by omega
    have hil : i < l.length := by omega
    have hi1 : (((i : Int) - 1)).toNat = i - 1 := by omega
    have o1 : one 32 true ((fl dgC l).drop (i * 32)) = some (.agg (dgC l[i])) := one_fm len_dgC hil
    have o2 : one 32 true ((fl dgC l).drop ((i - 1) * 32)) = some (.agg (dgC l[i - 1])) := one_fm len_dgC (by omega)
    by_cases e : l[i - 1] = l[i]
    · simp (disch := first | omega | (simp [-List.map_take, -List.map_drop, -List.map_set, -List.map_append, -List.drop_one] <;> omega) | fail) [-List.map_take, -List.map_drop, -List.map_set, -List.map_append, -List.drop_one, h, h', objV_pre0, objV_zero, hfl, hi1, o1, o2, e]
      obtain ⟨hs, hk⟩ := CompI.start (by omega) hil h5 e
      refine W_loop (S525 pre n i l) (fun a => n - a.j) (fun a => CompI l i a) ⟨i + 1, l⟩ (weak_same (by simp (disch := first | omega | (simp [-List.map_take, -List.map_drop, -List.map_set, -List.map_append, -List.drop_one] <;> omega) | fail) [-List.map_take, -List.map_drop, -List.map_set, -List.map_append, -List.drop_one, S525, a134S1, hk]) (by simp (disch := first | omega | (simp [-List.map_take, -List.map_drop, -List.map_set, -List.map_append, -List.drop_one] <;> omega) | fail) [-List.map_take, -List.map_drop, -List.map_set, -List.map_append, -List.drop_one, S525, a134S1])) hs (fun a ha => ?_)
      obtain ⟨j, M⟩ := a
      have h6 := ha.j0
      have h7 := ha.j1
      have h8 := ha.len
      have h9 := ha.k
      simp only at h6 h7 h8 h9
      obtain ⟨K, hK⟩ : ∃ K, (compL (l.take j)).length = K := ⟨_, rfl⟩
      obtain ⟨J, hJ⟩ : ∃ J, j - i = J := ⟨_, rfl⟩
      rw [hK] at h9
      have hfM : (fl dgC M).length = n * 32 := by rw [fl_len len_dgC, h8, hn]
      have hlM : lenD (pre ++ [.cells (fl dgC M)]) (.ms pre.length (n * 32) (i * 32) 32 (n - i) (n * 32)) = some (.int .i64 ((n - i : Nat) : Int)) := by rw [lenD_ms, objV_pre0, objV_zero, if_pos hfM]; rfl
      simp (disch := first | omega | (simp [-List.map_take, -List.map_drop, -List.map_set, -List.map_append, -List.drop_one] <;> omega) | fail) [-List.map_take, -List.map_drop, -List.map_set, -List.map_append, -List.drop_one, a134L1, a134S1, S525, hK, hJ, hlM]
      by_cases hj : j < n
      · have hj1 : (J : Int) < ((n - i : Nat) : Int) := by omega
        have hj1' : J < n - i := by omega
        have hj2 : ((J : Int) - 1).toNat = J - 1 := by omega
        have hj3 : i * 32 + J * 32 = j * 32 := by omega
        have hj4 : i * 32 + (J - 1) * 32 = (j - 1) * 32 := by omega
        have hjl : j < l.length := by omega
        obtain ⟨g1, g2⟩ := ha.get hjl (by simp only; omega) (by simp only; omega)
        simp only at g1 g2
        have u1 : one 32 true ((fl dgC M).drop (j * 32)) = some (.agg (dgC l[j])) := by rw [one_fm len_dgC (by omega), g1]
        have u2 : one 32 true ((fl dgC M).drop ((j - 1) * 32)) = some (.agg (dgC l[j - 1])) := by rw [one_fm len_dgC (by omega), g2]
        by_cases e2 : l[j - 1] = l[j]
        · simp (disch := first | omega | (simp [-List.map_take, -List.map_drop, -List.map_set, -List.map_append, -List.drop_one] <;> omega) | fail) [-List.map_take, -List.map_drop, -List.map_set, -List.map_append, -List.drop_one, hj1, hj1', hj2, hj3, hj4, objV_pre0, objV_zero, hfM, u1, u2, e2]
          obtain ⟨q1, q2⟩ := ha.same (by omega) hjl e2
          have hJ' : j + 1 - i = J + 1 := by omega
          simp only at q1 q2
          exact ⟨⟨j + 1, M⟩, weak_same (by simp (disch := first | omega | (simp [-List.map_take, -List.map_drop, -List.map_set, -List.map_append, -List.drop_one] <;> omega) | fail) [-List.map_take, -List.map_drop, -List.map_set, -List.map_append, -List.drop_one, S525, a134S1, q2, hK, hJ']) (by simp (disch := first | omega | (simp [-List.map_take, -List.map_drop, -List.map_set, -List.map_append, -List.drop_one] <;> omega) | fail) [-List.map_take, -List.map_drop, -List.map_set, -List.map_append, -List.drop_one, S525, a134S1]), by simp only; omega, q1⟩
        · have e2' : ¬ l[j] = l[j - 1] := fun q => e2 q.symm
          have st : ∀ h : List AObj, storeO h pre.length 32 (K * 32) (.agg (dgC l[j])) (some (fl dgC M)) = some (.junk, h.set pre.length (.cells (fl dgC (M.set K l[j])))) := fun h => storeO_fm len_dgC (by decide) (fun _ => all_dgC) (by omega)
          simp (disch := first | omega | (simp [-List.map_take, -List.map_drop, -List.map_set, -List.map_append, -List.drop_one] <;> omega) | fail) [-List.map_take, -List.map_drop, -List.map_set, -List.map_append, -List.drop_one, hj1, hj1', hj2, hj3, hj4, objV_pre0, objV_zero, hfM, u1, u2, st, e2', set_pre0]
          obtain ⟨q1, q2⟩ := ha.step (by omega) hjl e2
          have hJ' : j + 1 - i = J + 1 := by omega
          simp only [hK] at q1 q2
          exact ⟨⟨j + 1, M.set K l[j]⟩, weak_same (by simp (disch := first | omega | (simp [-List.map_take, -List.map_drop, -List.map_set, -List.map_append, -List.drop_one] <;> omega) | fail) [-List.map_take, -List.map_drop, -List.map_set, -List.map_append, -List.drop_one, S525, a134S1, q2, hK, hJ']) (by simp (disch := first | omega | (simp [-List.map_take, -List.map_drop, -List.map_set, -List.map_append, -List.drop_one] <;> omega) | fail) [-List.map_take, -List.map_drop, -List.map_set, -List.map_append, -List.drop_one, S525, a134S1]), by simp only; omega, q1⟩
      · have hj1 : ¬ (J : Int) < ((n - i : Nat) : Int) := by omega
        have hj1' : ¬ J < n - i := by omega
        obtain rfl : j = n := by omega
        have hfin := ha.fin (by simp only; omega)
        simp only at hfin
        have htl : l.take j = l := List.take_of_length_le (by omega)
        rw [htl] at hK
        rw [hK] at hfin
        have hclr : clrD (pre ++ [.cells (fl dgC M)]) 32 (dgC dg0) (.ms pre.length (j * 32) (K * 32) 32 (j - K) (j * 32)) = some (.tup [], pre ++ [.cells (fl dgC (compO dg0 l))]) := by
          have hov : objV (pre ++ [.cells (fl dgC M)]) pre.length (j * 32) = some (fl dgC M) := by rw [objV_pre0, objV_zero, if_pos hfM]
          rw [clrD_ms (s := 32) (m := j - K) (off := K * 32) (ver := j * 32) (zs := dgC dg0) (len_dgC _) (by decide) all_dgC (by omega), hov, Option.map_some, set_pre0, fm_rep]
          have hs := splice_fm (f := dgC) len_dgC (A := compL l) (B := M.drop K) (C := List.replicate (j - K) dg0) (by simp; omega)
          rw [← hfin, hK] at hs
          rw [hs]
          simp only [compO, hK, hn, List.set_cons_zero]
        have hol : (fl dgC (compO dg0 l)).length = j * 32 := by rw [fl_len len_dgC, compO_len, hn]
        simp (disch := first | omega | (simp [-List.map_take, -List.map_drop, -List.map_set, -List.map_append, -List.drop_one] <;> omega) | fail) [-List.map_take, -List.map_drop, -List.map_set, -List.map_append, -List.drop_one, hj1, hj1', objV_pre0, objV_zero, hfM, set_pre0, hclr, hK, hol]
    · have e' : ¬ l[i] = l[i - 1] := fun q => e q.symm
      simp (disch := first | omega | (simp [-List.map_take, -List.map_drop, -List.map_set, -List.map_append, -List.drop_one] <;> omega) | fail) [-List.map_take, -List.map_drop, -List.map_set, -List.map_append, -List.drop_one, h, h', objV_pre0, objV_zero, hfl, hi1, o1, o2, e']
      refine ⟨i + 1, weak_same (by simp (disch := first | omega | (simp [-List.map_take, -List.map_drop, -List.map_set, -List.map_append, -List.drop_one] <;> omega) | fail) [-List.map_take, -List.map_drop, -List.map_set, -List.map_append, -List.drop_one, S524, a134S0]) (by simp (disch := first | omega | (simp [-List.map_take, -List.map_drop, -List.map_set, -List.map_append, -List.drop_one] <;> omega) | fail) [-List.map_take, -List.map_drop, -List.map_set, -List.map_append, -List.drop_one, S524, a134S0]), by omega, by omega, by omega, ?_⟩
      rw [compL_take (by omega) hil, if_neg e, h5, List.take_succ_eq_append_getElem hil]
  · have h' : ¬ (i : Int) < n := by omega
    have e2 : l.take i = l := List.take_of_length_le (by omega)
    rw [e2] at h5
    have ho := compO_same (z := dg0) h5
    simp (disch := first | omega | (simp [-List.map_take, -List.map_drop, -List.map_set, -List.map_append, -List.drop_one] <;> omega) | fail) [-List.map_take, -List.map_drop, -List.map_set, -List.map_append, -List.drop_one, h, h', ho, h5, hn, objV_pre0, objV_zero, hfl]
theorem runs_comp0D (pre : List AObj) (x : Sl Dg) (e : x.l = []) : RunsH tbl0 a134 [x.clone.dv 32 dgC] pre (x.clone.dv 32 dgC) pre := by
  refine ⟨?_⟩
  have hl : lenD pre (x.clone.dv 32 dgC) = some (.int .i64 0) := by rw [lenD_dv, show x.clone.l = x.l from rfl, e]; rfl
  simp (disch := first | omega | (simp [-List.map_take, -List.map_drop, -List.map_set, -List.map_append, -List.drop_one] <;> omega) | fail) [-List.map_take, -List.map_drop, -List.map_set, -List.map_append, -List.drop_one, a134, hl]
theorem runs_compGD {a : SD} (h : cBD a) : RunsH tbl0 a134 (fOneD a) (a.1 ++ mo dgC a.2.l) (cmD 32 a.1.length dgC a.2) (a.1 ++ mo dgC (compO dg0 a.2.l)) := by
  obtain ⟨pre, x⟩ := a
  by_cases e : x.l = []
  · have h1 : cmD 32 pre.length dgC x = x.clone.dv 32 dgC := if_pos e
    simp only [fOneD, mutD_nil e, h1, e, compO_nil, mo_nil, List.append_nil]
    exact runs_comp0D pre x e
  · have h1 : cmD 32 pre.length dgC x = .ms pre.length (x.l.length * 32) 0 32 (compL x.l).length (x.l.length * 32) := if_neg e
    simp only [fOneD, mutD_ne e, h1, mo_ne e, mo_ne (compO_ne' e)]
    exact runs_compD pre x.l h e
theorem compD_sound : (Con.heap (cMuD cBD fOneD sCmpD)).Sound P 134 := conH_sound fun a h => calls_runs mix tbl0_sound Tryz.func134 a134_ok (runs_compGD h)
end Go.Proofs.YtdnhbfmlklaldaaGreat
set_option linter.unusedSimpArgs false
set_option linter.unusedVariables false
namespace Go.Proofs.YtdnhbfmlklaldaaGreat
open Go Go.Am
theorem fl_take {α : Type} {f : α → List DV} {K : Nat} (hu : ∀ a, (f a).length = K) (l : List α) (i : Nat) : (fl f l).take (i * K) = (l.take i).flatMap f := fm_take hu l i
theorem compO_take {α : Type} [DecidableEq α] {z : α} {l : List α} : (compO z l).take (compL l).length = compL l := by rw [compO]; simp
theorem runs_cloneD (x : Sl Dg) : RunsH tbl0 a114 [x.dv 32 dgC] [] (mutD 0 32 x dgC) (mo dgC x.l) := by
  refine ⟨?_⟩
  obtain ⟨k, l, h, hb⟩ := x
  cases k with
  | none =>
    have hl : l = [] := h rfl
    subst hl
    simp (disch := first | omega | (simp [-List.map_take, -List.map_drop, -List.map_set, -List.map_append, -List.drop_one] <;> omega) | fail) [-List.map_take, -List.map_drop, -List.map_set, -List.map_append, -List.drop_one, a114, dv_none]
    exact ⟨by rw [mutD_nil rfl]; rfl, mo_nil⟩
  | some b =>
    have hb : l.length ≤ 4294967296 := hb
    by_cases hl : l = []
    · subst hl; simp (disch := first | omega | (simp [-List.map_take, -List.map_drop, -List.map_set, -List.map_append, -List.drop_one] <;> omega) | fail) [-List.map_take, -List.map_drop, -List.map_set, -List.map_append, -List.drop_one, a114, dv_some, mutD, mo, Sl.clone]
    · have h1 := fm_len len_dgC l
      have h2 := fm_all (f := dgC) (fun _ => all_dgC) l
      have h3 : 0 < l.length := List.length_pos_iff.2 hl
      simp (disch := first | omega | (simp [-List.map_take, -List.map_drop, -List.map_set, -List.map_append, -List.drop_one] <;> omega) | fail) [-List.map_take, -List.map_drop, -List.map_set, -List.map_append, -List.drop_one, a114, dv_some, mutD, mo, fl, hl, h1, h2, h3]
theorem shD_mut {α : Type} {n s : Nat} {x : Sl α} {f : α → List DV} (hp : ∀ a, pureL (f a) = true) : shD n (mutD 0 s x f) = mutD n s x f := by
  by_cases h : x.l = []
  · rw [mutD_nil h, mutD_nil h]; exact shD_pure n _ (dv_pure hp _)
  · rw [mutD_ne h, mutD_ne h]; rfl
theorem shO_mo {α : Type} {n : Nat} {l : List α} {f : α → List DV} (hp : ∀ a, pureL (f a) = true) : (mo f l).map (shO n) = mo f l := by
  by_cases h : l = []
  · rw [h]; rfl
  · rw [mo_ne h]; simp only [List.map_cons, List.map_nil, shO_cells, fl, shL_pure n _ (fm_pure hp _)]
noncomputable def cND : List DV → Nat → Option (DV × List AObj) := conN (fun _ => True) (fun x : Sl Dg => [x.dv 32 dgC]) (fun x => (mutD 0 32 x dgC, mo dgC x.l))
theorem cND_eq {x : Sl Dg} {n : Nat} : cND [x.dv 32 dgC] n = some (mutD n 32 x dgC, mo dgC x.l) := by
  have := conN_eq (A := fun _ => True) (f := fun x : Sl Dg => [x.dv 32 dgC]) (g := fun x => (mutD 0 32 x dgC, mo dgC x.l)) (fun a b e => by
    simp only [List.cons.injEq, and_true] at e
    rw [dgs_inj e]) x trivial n
  rw [shD_mut pure_dgC, shO_mo pure_dgC] at this
  exact this
theorem cloneD_sound : (Con.new cND).Sound P 114 := conN_sound (fun x _ => by simp [pureL, dv_pure pure_dgC]) fun x _ => calls_runs mix tbl0_sound Tryz.func114 a114_ok (runs_cloneD x)
theorem snap_mo {α : Type} {f : α → List DV} {K : Nat} (hu : ∀ a, (f a).length = K) (hp : ∀ a, pureL (f a) = true) {pre : List AObj} {l : List α} {m : Nat} : snap (pre ++ [.cells (fl f l)]) 3 (.ms pre.length (l.length * K) 0 K m (l.length * K)) = some (.sl false K m ((l.take m).flatMap f)) := by
  rw [snap_ms, objV_pre0, objV_zero, if_pos (fl_len hu l), Option.bind_some, List.drop_zero, fl_take hu, snapL_clean (fm_pure hp _)]
  rfl
def Sl.wl {α : Type} (x : Sl α) (l : List α) (h : l.length = x.l.length) : Sl α := ⟨x.k, l, fun e => List.eq_nil_of_length_eq_zero (by rw [h, x.h e]; rfl), by rw [h]; exact x.b⟩
theorem mutD_wl {α : Type} {x : Sl α} {l : List α} {h : l.length = x.l.length} {p s : Nat} {f : α → List DV} : mutD p s (x.wl l h) f = mutD p s x f := by
  by_cases e : x.l = []
  · have e' : l = [] := List.eq_nil_of_length_eq_zero (by rw [h, e]; rfl)
    subst e'
    obtain ⟨k, m, hh, hb⟩ := x
    simp only at e; subst e; rfl
  · have e' : (x.wl l h).l ≠ [] := fun q => e (List.eq_nil_of_length_eq_zero (by rw [← h]; exact congrArg List.length q))
    rw [mutD_ne e, mutD_ne e', show (x.wl l h).l = l from rfl, h]
noncomputable def T530 : Tbl := addT 114 (.new cND) (addT 132 (.heap (cMuD sBD fSrtD sSrtD)) (addT 134 (.heap (cMuD cBD fOneD sCmpD)) tbl0))
theorem T530_n : T530 114 = .new cND := by simp [T530]
theorem T530_s : T530 132 = .heap (cMuD sBD fSrtD sSrtD) := by simp [T530]
theorem T530_c : T530 134 = .heap (cMuD cBD fOneD sCmpD) := by simp [T530]
theorem T530_sound : T530.Sound P := addT_sound cloneD_sound (addT_sound sortD_sound (addT_sound compD_sound tbl0_sound))
theorem sortedS_nil {x : Sl Dg} (h : x.l = []) : sortedS x = x.clone := if_pos h
theorem sortedS_ne {x : Sl Dg} (h : x.l ≠ []) : sortedS x = own (dgsU x.l) := if_neg h
theorem runs_sorted (x : Sl Dg) (hb : x.l.length ≤ 12) : Runs T530 a110 [x.dv 32 dgC] ((sortedS x).dv 32 dgC) := by
  refine ⟨?_⟩
  have h1 := cND_eq (x := x) (n := 0)
  have h2 := cSrtD_eq (a := (([] : List AObj), x)) hb
  simp only [fSrtD, List.nil_append, List.length_nil] at h2
  have hl : (sortR dgLt x.l).length = x.l.length := sortR_len _
  have h3 := cCmpD_q (a := (([] : List AObj), x.wl (sortR dgLt x.l) hl)) (by show (sortR dgLt x.l).length ≤ _; omega)
  simp only [fOneD, List.nil_append, List.length_nil, mutD_wl, sCmpD, show (x.wl (sortR dgLt x.l) hl).l = sortR dgLt x.l from rfl] at h3
  obtain ⟨V, hV⟩ : ∃ V, mutD 0 32 x dgC = V := ⟨_, rfl⟩
  rw [hV] at h1 h2 h3
  simp (disch := first | omega | (simp [-List.map_take, -List.map_drop, -List.map_set, -List.map_append, -List.drop_one] <;> omega) | fail) [-List.map_take, -List.map_drop, -List.map_set, -List.map_append, -List.drop_one, a110, T530_n, T530_s, T530_c, h1, h2, h3]
  by_cases e : x.l = []
  · have e1 : sortR dgLt x.l = [] := by rw [e]; rfl
    have hw : x.wl (sortR dgLt x.l) hl = x := by
      obtain ⟨k, m, hh, hb⟩ := x
      simp only at e; subst e; rfl
    rw [hw, sortedS_nil e, cmD, if_pos e]
    exact snap_dv pure_dgC
  · have e1 : sortR dgLt x.l ≠ [] := sortR_neg e
    have hc := compL_sortR tot_dg x.l
    have hlen := uSort_len (lt := dgLt) x.l
    have hxb := x.b
    have hwl : (x.wl (sortR dgLt x.l) hl).l = sortR dgLt x.l := rfl
    rw [sortedS_ne e, cmD, hwl, if_neg e1, mo_ne (compO_ne' e1)]
    have hs := snap_mo (f := dgC) len_dgC pure_dgC (pre := []) (l := compO dg0 (sortR dgLt x.l)) (m := (compL (sortR dgLt x.l)).length)
    rw [compO_len, compO_take, hc] at hs
    rw [own_dv (by unfold dgsU; omega), hc]
    exact hs
noncomputable def cSrtd : List DV → Option DV := con (fun x : Sl Dg => x.l.length ≤ 12) (fun x => [x.dv 32 dgC]) (fun x => (sortedS x).dv 32 dgC)
theorem cSrtd_eq {x : Sl Dg} (h : x.l.length ≤ 12) : cSrtd [x.dv 32 dgC] = some ((sortedS x).dv 32 dgC) :=
  con_eq (f := fun x : Sl Dg => [x.dv 32 dgC]) (g := fun x => (sortedS x).dv 32 dgC) (fun a b e => by simp only [List.cons.injEq, and_true] at e; rw [dgs_inj e]) x h
theorem sorted_sound : (Con.pure cSrtd).Sound P 110 := con_sound fun x h => sem_runs mix T530_sound Tryz.func110 a110_ok (runs_sorted x h)
end Go.Proofs.YtdnhbfmlklaldaaGreat
set_option linter.unusedSimpArgs false
set_option linter.unusedVariables false
namespace Go.Proofs.YtdnhbfmlklaldaaGreat
open Go Go.RowKit Go.Am
def zDg : Value := .agg (List.replicate 32 (Value.int .u8 0)).toArray
theorem infoDg : (P.info? 23).map (fun i => (i.zero, i.size, i.bytes)) = some (some zDg, 32, 32) := by kernel_rfl
set_option maxHeartbeats 2000000 in
set_option maxRecDepth 100000 in
theorem grow_zero (w : World) : Calls Tryz.prog 135 #[.slice none 0 0, .int .i64 0] w fun e w' => e = .returned (.slice none 0 0) ∧ w' = w := by
  go_enter Tryz.func135, Tryz.ntmps135
  go_wp2
  go_ret
  exact ⟨rfl, rfl⟩
set_option maxHeartbeats 2000000 in
set_option maxRecDepth 100000 in
theorem grow_pos (n : Nat) (w : World) (hn : 1 ≤ n) (hb : n ≤ 1000000) : Calls Tryz.prog 135 #[.slice none 0 0, .int .i64 n] w fun e w' =>
    ∃ cap, n ≤ cap ∧ e = .returned (.slice (some ⟨w.heap.size, 0, none⟩) 0 cap) ∧ w' = w.drew.alloc (.cells (Builtin.zeroCells zDg.cells n ++ Builtin.zeroCells zDg.cells (cap - n)) 23) := by
  obtain ⟨i0, hi, hz0, hz1, hz2⟩ := info_parts infoDg
  have happ := Lib.run_append_nil_zeros (P := P) w 33 3 33 23 i0 zDg .i64 .i64 Tryz.underlying33 Tryz.underlying3 hi hz0 n (by omega) (by omega) (by omega) (by rw [hz2]; omega)
  generalize hcap : grownCap w n 0 23 = cap2 at happ
  have hcapge : n ≤ cap2 := by rw [← hcap]; exact grownCap_ge w _ 0 23
  generalize hZ : (Builtin.zeroCells zDg.cells n ++ Builtin.zeroCells zDg.cells (cap2 - n)) = Z at happ
  go_enter Tryz.func135, Tryz.ntmps135
  go_wp2_with (at_builtin; refine Lib.wpList_append_run _ rfl _ _ _ _ rfl _ _ rfl rfl _ _ happ ?_)
  go_wp2
  go_ret
  exact ⟨cap2, hcapge, rfl, by rw [hZ]; rfl⟩
def growV (p n : Nat) : DV := if n = 0 then .nils else .ms p (n * 32) 0 32 0 (n * 32)
def growO (n : Nat) : List AObj := if n = 0 then [] else [.cells (fl dgC (List.replicate n dg0))]
theorem zDg_rep (E : Env) (X : Forb) (w : World) : RepA E X w zDg.cells.toList (dgC dg0) := by
  have e : zDg.cells.toList = List.replicate 32 (Value.int .u8 0) := rfl
  have e2 : dgC dg0 = List.replicate 32 (w8 0#8) := rfl
  rw [e, e2]
  refine ⟨by simp, fun i h1 h2 => ?_⟩
  rw [List.getElem_replicate, List.getElem_replicate]
  exact .int _ _
theorem calls_grow (n : Nat) (hb : n ≤ 1000000) : CallsA P 135 [.nils, .int .i64 n] [] (fun d h => d = growV 0 n ∧ h = growO n) := by
  refine fun X0 base w E vs hh hr => ?_
  obtain ⟨v1, v2, hv⟩ : ∃ v1 v2, vs = #[v1, v2] := by
    have h1 : vs.toList.length = 2 := hr.1
    match hq : vs.toList, h1 with
    | [v1, v2], _ => exact ⟨v1, v2, Array.ext' (by simpa using hq)⟩
  subst hv
  have r1 : Rep E (FX X0 E) w v1 .nils := hr.2 0 (by simp) (by simp)
  have r2 : Rep E (FX X0 E) w v2 (.int .i64 n) := hr.2 1 (by simp) (by simp)
  cases r1
  cases r2
  refine Does.of_ent (ent_of Tryz.func135 (by kernel_rfl) rfl) ?_
  by_cases h0 : n = 0
  · subst h0
    refine (grow_zero w).mono ?_
    rintro e w' ⟨rfl, rfl⟩
    exact ⟨_, .nils, [], E, rfl, ⟨rfl, rfl⟩, hh, .nils, .refl _ _ _ _⟩
  · refine (grow_pos n w (by omega) hb).mono ?_
    rintro e w' ⟨cap, hc, rfl, rfl⟩
    have hR := zeroCells_rep (zDg_rep E (FX X0 E) w.drew) (s := 32) (len_dgC _) (by decide) n
    rw [fm_rep (f := dgC)] at hR
    have hn := obj_new hh.drew hR (Builtin.zeroCells zDg.cells (cap - n)).toList 23
    have he : ((Builtin.zeroCells zDg.cells n).toList ++ (Builtin.zeroCells zDg.cells (cap - n)).toList).toArray = Builtin.zeroCells zDg.cells n ++ Builtin.zeroCells zDg.cells (cap - n) := by apply Array.ext'; simp
    rw [he] at hn
    have hE : E = [] := List.eq_nil_of_length_eq_zero (by simpa using hh.len)
    subst hE
    have hl : (fl dgC (List.replicate n dg0)).length = n * 32 := by rw [fl_len len_dgC, List.length_replicate]
    refine ⟨_, .ms 0 (n * 32) 0 32 0 (n * 32), [.cells (fl dgC (List.replicate n dg0))], _, rfl, ⟨by simp [growV, h0], by simp [growO, h0]⟩, hn.1, ?_, (trans_drew X0 base [] w).trans hn.2⟩
    have hzs : zDg.cells.size = 32 := by decide
    have hs : (Builtin.zeroCells zDg.cells n ++ Builtin.zeroCells zDg.cells (cap - n)).size = cap * 32 := by
      rw [Array.size_append, size_zeros, size_zeros, hzs, ← Nat.add_mul]; congr 1; omega
    exact ms_mk (b := w.drew.heap.size) (L := (fl dgC (List.replicate n dg0)).length) (arr := Builtin.zeroCells zDg.cells n ++ Builtin.zeroCells zDg.cells (cap - n)) (t := 23) (by simp) hl.symm (heap_alloc_new w.drew _) (by omega) (by omega) (fun _ => rfl) (by omega) (by rw [hs]; omega)
noncomputable def cGrow : List DV → Nat → Option (DV × List AObj) := conN (fun n : Nat => n ≤ 1000000) (fun n => [.nils, .int .i64 n]) (fun n => (growV 0 n, growO n))
theorem growV_sh {k n : Nat} : shD k (growV 0 n) = growV k n := by unfold growV; split <;> rfl
theorem growO_sh {k n : Nat} : (growO n).map (shO k) = growO n := by
  unfold growO; split
  · rfl
  · simp only [List.map_cons, List.map_nil, shO_cells, fl, shL_pure k _ (fm_pure pure_dgC _)]
theorem cGrow_eq {n k : Nat} (h : n ≤ 1000000) : cGrow [.nils, .int .i64 n] k = some (growV k n, growO n) := by
  have := conN_eq (A := fun n : Nat => n ≤ 1000000) (f := fun n => [.nils, .int .i64 n]) (g := fun n => (growV 0 n, growO n)) (fun a b e => by
    simp only [List.cons.injEq, DV.int.injEq, and_true, true_and, Int.natCast_inj] at e
    rw [e]) n h k
  rw [growV_sh, growO_sh] at this
  exact this
theorem grow_sound : (Con.new cGrow).Sound P 135 := conN_sound (fun n _ => rfl) fun n h => calls_grow n h
end Go.Proofs.YtdnhbfmlklaldaaGreat
set_option linter.unusedSimpArgs false
set_option linter.unusedVariables false
namespace Go.Proofs.YtdnhbfmlklaldaaGreat
open Go Go.Am
def newV (p n k : Nat) : DV := if n = 0 then .nils else .ms p (n * 32) 0 32 k (n * 32)
def newH (n : Nat) (u : List Dg) : List AObj := if n = 0 then [] else [.cells (fl dgC (u ++ List.replicate (n - u.length) dg0))]
theorem splice_mid {u v : List Dg} {m : Nat} (hm : v.length ≤ m) : splice (fl dgC (u ++ List.replicate m dg0)) (u.length * 32) (fl dgC v) = fl dgC (u ++ v ++ List.replicate (m - v.length) dg0) := by
  unfold splice
  have h1 : (fl dgC v).length = v.length * 32 := fl_len len_dgC v
  rw [h1, ← Nat.add_mul]
  unfold fl
  rw [fm_take len_dgC, fm_drop len_dgC, List.take_left' rfl, ← List.drop_drop, List.drop_left' rfl, List.drop_replicate, ← List.flatMap_append, ← List.flatMap_append]
theorem appX_new {n : Nat} {u v : List Dg} (h : u.length + v.length ≤ n) (hn : n ≤ 1000000) : appX (newH n u) 32 32 (newV 0 n u.length) v.length (v.flatMap dgC) = some (newV 0 n (u.length + v.length), newH n (u ++ v)) := by
  by_cases h0 : n = 0
  · subst h0
    have hu : u = [] := List.eq_nil_of_length_eq_zero (by omega)
    have hv : v = [] := List.eq_nil_of_length_eq_zero (by omega)
    subst hu hv
    exact appX_nils0 (by decide) (by decide)
  · simp only [newV, newH, if_neg h0]
    have hl : (fl dgC (u ++ List.replicate (n - u.length) dg0)).length = n * 32 := by rw [fl_len len_dgC]; simp; omega
    have ho : objAt [.cells (fl dgC (u ++ List.replicate (n - u.length) dg0))] 0 = some (fl dgC (u ++ List.replicate (n - u.length) dg0)) := by simp [objAt]
    have hs := splice_mid (u := u) (v := v) (m := n - u.length) (by omega)
    have ha : (v.flatMap dgC).all DV.one = true := fm_all (fun _ => all_dgC) v
    have hvl : (v.flatMap dgC).length = v.length * 32 := fm_len len_dgC v
    unfold appX
    rw [if_neg (by rw [hvl]; omega)]
    simp only [ho, Option.bind_some, hl, ha, and_true, if_true]
    by_cases hv : v.length = 0
    · have hv' : v = [] := List.eq_nil_of_length_eq_zero hv
      subst hv'
      simp
    · rw [if_neg hv, if_pos (by constructor <;> omega)]
      have hs' : splice (fl dgC (u ++ List.replicate (n - u.length) dg0)) (u.length * 32) (v.flatMap dgC) = fl dgC (u ++ v ++ List.replicate (n - (u ++ v).length) dg0) := by
        rw [show v.flatMap dgC = fl dgC v from rfl, hs, List.length_append, Nat.sub_sub]
      simp only [Nat.zero_add, hs', List.set_cons_zero]
noncomputable def T540 : Tbl := addT 135 (.new cGrow) tbl0
theorem T540_g : T540 135 = .new cGrow := by simp [T540]
theorem T540_sound : T540.Sound P := addT_sound grow_sound tbl0_sound
def sumTo (a b : Nat) : Nat → Nat
  | 0 => 0
  | 1 => a
  | _ => a + b
def catTo (a b : List Dg) : Nat → List Dg
  | 0 => []
  | 1 => a
  | _ => a ++ b
def catA (x y : Sl Dg) : DV := .sl true 1 2 [x.dv 32 dgC, y.dv 32 dgC]
def S540 (x y : Sl Dg) (i : Nat) : St := a112S0 (catA x y) (.int .i64 (sumTo x.l.length y.l.length i)) (catA x y) (.int .i64 2) (.int .i64 i) []
def S541 (x y : Sl Dg) (n : Nat) (i : Nat) : St := a112S1 (newV 0 n (catTo x.l y.l i).length) (catA x y) (.int .i64 2) (.int .i64 i) (newH n (catTo x.l y.l i))
set_option maxHeartbeats 1000000 in
theorem runs_concat (x y : Sl Dg) (h : x.l.length + y.l.length ≤ 1000000) : Runs T540 a112 [catA x y] ((ownN (x.l ++ y.l)).dv 32 dgC) := by
  refine ⟨?_⟩
  obtain ⟨n, hn⟩ : ∃ n, x.l.length + y.l.length = n := ⟨_, rfl⟩
  rw [hn] at h
  have n1 : ¬ (x.l.length : Int) < 0 := by omega
  have n2 : ¬ (x.l.length : Int) + (y.l.length : Int) < 0 := by omega
  simp (disch := first | omega | (simp [-List.map_take, -List.map_drop, -List.map_set, -List.map_append, -List.drop_one] <;> omega) | fail) [-List.map_take, -List.map_drop, -List.map_set, -List.map_append, -List.drop_one, a112, catA]
  refine W_loop (S540 x y) (fun i => 2 - i) (fun i => i ≤ 2) 0 (weak_same (by simp (disch := first | omega | (simp [-List.map_take, -List.map_drop, -List.map_set, -List.map_append, -List.drop_one] <;> omega) | fail) [-List.map_take, -List.map_drop, -List.map_set, -List.map_append, -List.drop_one, S540, a112S0, sumTo, catA]) (by simp (disch := first | omega | (simp [-List.map_take, -List.map_drop, -List.map_set, -List.map_append, -List.drop_one] <;> omega) | fail) [-List.map_take, -List.map_drop, -List.map_set, -List.map_append, -List.drop_one, S540, a112S0])) (by omega) (fun i hi => ?_)
  simp (disch := first | omega | (simp [-List.map_take, -List.map_drop, -List.map_set, -List.map_append, -List.drop_one] <;> omega) | fail) [-List.map_take, -List.map_drop, -List.map_set, -List.map_append, -List.drop_one, a112L0, a112S0, S540, catA]
  rcases (show i = 0 ∨ i = 1 ∨ i = 2 by omega) with rfl | rfl | rfl
  · simp (disch := first | omega | (simp [-List.map_take, -List.map_drop, -List.map_set, -List.map_append, -List.drop_one] <;> omega) | fail) [-List.map_take, -List.map_drop, -List.map_set, -List.map_append, -List.drop_one, sumTo, n1]
    exact ⟨1, weak_same (by simp (disch := first | omega | (simp [-List.map_take, -List.map_drop, -List.map_set, -List.map_append, -List.drop_one] <;> omega) | fail) [-List.map_take, -List.map_drop, -List.map_set, -List.map_append, -List.drop_one, S540, a112S0, sumTo, catA]) (by simp (disch := first | omega | (simp [-List.map_take, -List.map_drop, -List.map_set, -List.map_append, -List.drop_one] <;> omega) | fail) [-List.map_take, -List.map_drop, -List.map_set, -List.map_append, -List.drop_one, S540, a112S0]), by simp⟩
  · simp (disch := first | omega | (simp [-List.map_take, -List.map_drop, -List.map_set, -List.map_append, -List.drop_one] <;> omega) | fail) [-List.map_take, -List.map_drop, -List.map_set, -List.map_append, -List.drop_one, sumTo, n2]
    exact ⟨2, weak_same (by simp (disch := first | omega | (simp [-List.map_take, -List.map_drop, -List.map_set, -List.map_append, -List.drop_one] <;> omega) | fail) [-List.map_take, -List.map_drop, -List.map_set, -List.map_append, -List.drop_one, S540, a112S0, sumTo, catA]) (by simp (disch := first | omega | (simp [-List.map_take, -List.map_drop, -List.map_set, -List.map_append, -List.drop_one] <;> omega) | fail) [-List.map_take, -List.map_drop, -List.map_set, -List.map_append, -List.drop_one, S540, a112S0]), by simp⟩
  · have hg := cGrow_eq (n := n) (k := 0) h
    have e1 : growV 0 n = newV 0 n 0 := rfl
    have e2 : growO n = newH n [] := by unfold growO newH; rfl
    rw [e1, e2] at hg
    have hn' : ((x.l.length : Int) + (y.l.length : Int)) = (n : Int) := by omega
    simp (disch := first | omega | (simp [-List.map_take, -List.map_drop, -List.map_set, -List.map_append, -List.drop_one] <;> omega) | fail) [-List.map_take, -List.map_drop, -List.map_set, -List.map_append, -List.drop_one, sumTo, hn, hn', T540_g, hg]
    refine W_loop (S541 x y n) (fun i => 2 - i) (fun i => i ≤ 2) 0 (weak_same (by simp (disch := first | omega | (simp [-List.map_take, -List.map_drop, -List.map_set, -List.map_append, -List.drop_one] <;> omega) | fail) [-List.map_take, -List.map_drop, -List.map_set, -List.map_append, -List.drop_one, S541, a112S1, catTo, catA]) (by simp (disch := first | omega | (simp [-List.map_take, -List.map_drop, -List.map_set, -List.map_append, -List.drop_one] <;> omega) | fail) [-List.map_take, -List.map_drop, -List.map_set, -List.map_append, -List.drop_one, S541, a112S1, catTo])) (by omega) (fun i hi => ?_)
    simp (disch := first | omega | (simp [-List.map_take, -List.map_drop, -List.map_set, -List.map_append, -List.drop_one] <;> omega) | fail) [-List.map_take, -List.map_drop, -List.map_set, -List.map_append, -List.drop_one, a112L1, a112S1, S541, catA]
    have vx : ∀ H, visY H (x.dv 32 dgC) = some (x.l.length, x.l.flatMap dgC) := fun H => visY_dv len_dgC
    have vy : ∀ H, visY H (y.dv 32 dgC) = some (y.l.length, y.l.flatMap dgC) := fun H => visY_dv len_dgC
    rcases (show i = 0 ∨ i = 1 ∨ i = 2 by omega) with rfl | rfl | rfl
    · have ha := appX_new (n := n) (u := []) (v := x.l) (by simp; omega) h
      simp only [List.nil_append, List.length_nil, Nat.zero_add] at ha
      simp (disch := first | omega | (simp [-List.map_take, -List.map_drop, -List.map_set, -List.map_append, -List.drop_one] <;> omega) | fail) [-List.map_take, -List.map_drop, -List.map_set, -List.map_append, -List.drop_one, catTo, vx, ha]
      exact ⟨1, weak_same (by simp (disch := first | omega | (simp [-List.map_take, -List.map_drop, -List.map_set, -List.map_append, -List.drop_one] <;> omega) | fail) [-List.map_take, -List.map_drop, -List.map_set, -List.map_append, -List.drop_one, S541, a112S1, catTo, catA]) (by simp (disch := first | omega | (simp [-List.map_take, -List.map_drop, -List.map_set, -List.map_append, -List.drop_one] <;> omega) | fail) [-List.map_take, -List.map_drop, -List.map_set, -List.map_append, -List.drop_one, S541, a112S1, catTo]), by simp⟩
    · have ha := appX_new (n := n) (u := x.l) (v := y.l) (by omega) h
      simp (disch := first | omega | (simp [-List.map_take, -List.map_drop, -List.map_set, -List.map_append, -List.drop_one] <;> omega) | fail) [-List.map_take, -List.map_drop, -List.map_set, -List.map_append, -List.drop_one, catTo, vy, ha]
      exact ⟨2, weak_same (by simp (disch := first | omega | (simp [-List.map_take, -List.map_drop, -List.map_set, -List.map_append, -List.drop_one] <;> omega) | fail) [-List.map_take, -List.map_drop, -List.map_set, -List.map_append, -List.drop_one, S541, a112S1, catTo, catA]) (by simp (disch := first | omega | (simp [-List.map_take, -List.map_drop, -List.map_set, -List.map_append, -List.drop_one] <;> omega) | fail) [-List.map_take, -List.map_drop, -List.map_set, -List.map_append, -List.drop_one, S541, a112S1, catTo]), by simp⟩
    · have hl : (x.l ++ y.l).length = n := by rw [List.length_append, hn]
      simp (disch := first | omega | (simp [-List.map_take, -List.map_drop, -List.map_set, -List.map_append, -List.drop_one] <;> omega) | fail) [-List.map_take, -List.map_drop, -List.map_set, -List.map_append, -List.drop_one, catTo]
      by_cases e : n = 0
      · have e3 : x.l ++ y.l = [] := List.eq_nil_of_length_eq_zero (by omega)
        simp only [newV, newH, if_pos e, e3, ownN_nil_dv]
        rfl
      · have e3 : x.l ++ y.l ≠ [] := fun q => e (by rw [← hl, q]; rfl)
        rw [ownN_dv e3 (by omega)]
        simp only [newV, newH, if_neg e]
        have hs := snap_mo (f := dgC) len_dgC pure_dgC (pre := []) (l := x.l ++ y.l) (m := n)
        rw [hl, List.take_of_length_le (by omega)] at hs
        simp only [hl, Nat.sub_self, List.replicate_zero, List.append_nil, hn]
        exact hs
noncomputable def cCat : List DV → Option DV := con (fun a : Sl Dg × Sl Dg => a.1.l.length + a.2.l.length ≤ 1000000) (fun a => [catA a.1 a.2]) (fun a => (ownN (a.1.l ++ a.2.l)).dv 32 dgC)
theorem cCat_eq {x y : Sl Dg} (h : x.l.length + y.l.length ≤ 1000000) : cCat [.sl true 1 2 [x.dv 32 dgC, y.dv 32 dgC]] = some ((ownN (x.l ++ y.l)).dv 32 dgC) :=
  con_eq (f := fun a : Sl Dg × Sl Dg => [catA a.1 a.2]) (g := fun a => (ownN (a.1.l ++ a.2.l)).dv 32 dgC) (by
    rintro ⟨a, b⟩ ⟨c, d⟩ e
    simp only [catA, List.cons.injEq, DV.sl.injEq, and_true, true_and] at e
    rw [dgs_inj e.1, dgs_inj e.2]) (x, y) h
theorem cat_sound : (Con.pure cCat).Sound P 112 := con_sound fun a h => sem_runs mix T540_sound Tryz.func112 a112_ok (runs_concat a.1 a.2 h)
end Go.Proofs.YtdnhbfmlklaldaaGreat
