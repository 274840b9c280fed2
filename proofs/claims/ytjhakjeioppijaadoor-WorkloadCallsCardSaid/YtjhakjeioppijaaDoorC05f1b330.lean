/-
  14 texts of mine in one.
-/
import Derived.Lib.IndexLaws
import Derived.Test.YtjhakjeioppijaaDoorProg
import Derived.Test.YtjhakjeioppijaaDoorC5f0ea989
import Derived.Test.YtjhakjeioppijaaDoorC950dc02d
import Derived.Test.YtjhakjeioppijaaDoorC0aefe577
set_option linter.unusedSimpArgs false
set_option linter.unusedVariables false
namespace Go.Proofs.YtjhakjeioppijaaDoor
open Go Go.Am
abbrev B8 := BitVec 8
inductive Pt where
  | one (c : B8) | dot | some | whole
deriving DecidableEq
def Pt.long : Pt → Bool
  | .some => true | .whole => true | _ => false
def Pt.takes : Pt → B8 → Bool
  | .one c, b => b == c | .whole, _ => true | _, b => b != 47#8
def bAt (s : List UInt8) (i : Nat) : B8 := (s.getD i 0).toBitVec
def row (x : Pt) (s : List UInt8) (prev : Nat → Bool) : Nat → Bool
  | 0 => x.long && prev 0
  | i + 1 => if x.long then prev (i + 1) || (row x s prev i && x.takes (bAt s i)) else prev i && x.takes (bAt s i)
def M (l : List Pt) (s : List UInt8) : Nat → Nat → Bool
  | 0 => fun i => i == 0
  | k + 1 => row (l.getD k .dot) s (M l s k)
def noZ (s : List UInt8) : Bool := s.all fun c => c != 0
def comps : List UInt8 → List (List UInt8)
  | [] => [[]]
  | c :: r => if c = 47 then [] :: comps r else
    match comps r with
    | [] => [[c]]
    | h :: t => (c :: h) :: t
def okC (x : List UInt8) : Bool := x != [] && x != [46] && x != [46, 46]
def pathD (s : List UInt8) : Bool := decide (1 ≤ s.length) && decide (s.length ≤ 200) && noZ s && (comps s).all okC
theorem u8_nat (c : UInt8) : c.toBitVec.toNat.toUInt8 = c := by simp
theorem comps_ne : ∀ (s : List UInt8), comps s ≠ []
  | [] => by simp [comps]
  | c :: r => by
    rw [comps]
    split
    · simp
    · split <;> simp
theorem comps_sl (r : List UInt8) : comps (47 :: r) = [] :: comps r := by simp [comps]
theorem comps_other {c : UInt8} {r h : List UInt8} {t : List (List UInt8)} (hc : c ≠ 47) (hr : comps r = h :: t) : comps (c :: r) = (c :: h) :: t := by simp [comps, hc, hr]
theorem comps_cons (r : List UInt8) : ∃ h t, comps r = h :: t := by
  cases e : comps r with
  | nil => exact absurd e (comps_ne r)
  | cons h t => exact ⟨h, t, rfl⟩
theorem ixb_cons (b : UInt8) (l : List UInt8) (c : UInt8) : Lib.indexByte (b :: l) c = if b = c then 0 else if Lib.indexByte l c = -1 then -1 else Lib.indexByte l c + 1 := by
  simp [Lib.indexByte]
theorem comps_none : ∀ {s : List UInt8}, Lib.indexByte s 47 = -1 → comps s = [s]
  | [], _ => rfl
  | c :: r, h => by
    rw [ixb_cons] at h
    split at h
    · simp at h
    · rename_i hc
      split at h
      · rename_i hr; exact comps_other hc (comps_none hr)
      · have := Lib.indexByte_ge r 47; omega
theorem comps_some : ∀ {s : List UInt8} {o : Nat}, Lib.indexByte s 47 = o → comps s = s.take o :: comps (s.drop (o + 1))
  | [], o, h => by simp [Lib.indexByte] at h
  | c :: r, o, h => by
    rw [ixb_cons] at h
    split at h
    · rename_i hc
      have : o = 0 := by omega
      subst this; subst hc
      simp [comps_sl]
    · rename_i hc
      split at h
      · omega
      · obtain ⟨o', rfl⟩ : ∃ o', o = o' + 1 := ⟨o - 1, by have := Lib.indexByte_ge r 47; omega⟩
        have := comps_some (s := r) (o := o') (by omega)
        rw [comps_other hc this]
        simp
theorem len_comps : ∀ (s : List UInt8), (comps s).length = Lib.countByte s 47 + 1
  | [] => rfl
  | c :: r => by
    have ih := len_comps r
    obtain ⟨h, t, e⟩ := comps_cons r
    by_cases hc : c = 47
    · subst hc; rw [comps_sl]; simp [ih, Lib.countByte]
    · rw [comps_other hc e]
      rw [e] at ih
      simp [Lib.countByte, List.count_cons, hc] at ih ⊢
      exact ih
theorem noZ_ixb : ∀ (s : List UInt8), noZ s = decide (Lib.indexByte s 0 = -1)
  | [] => rfl
  | c :: r => by
    have ih := noZ_ixb r
    have hg := Lib.indexByte_ge r 0
    have e : noZ (c :: r) = (c != 0 && noZ r) := by simp [noZ]
    rw [e, ih, ixb_cons]
    by_cases hc : c = 0
    · simp [hc]
    · by_cases hr : Lib.indexByte r 0 = -1
      · simp [hc, hr]
      · simp [hc, hr]; omega
theorem ixb_lt {s : List UInt8} {c : UInt8} {o : Nat} (h : Lib.indexByte s c = o) : o < s.length := by
  have := (Lib.indexByte_some h).1
  exact (List.getElem?_eq_some_iff.1 this).1
end Go.Proofs.YtjhakjeioppijaaDoor
set_option linter.unusedSimpArgs false
set_option linter.unusedVariables false
namespace Go.Proofs.YtjhakjeioppijaaDoor
open Go Go.Am
abbrev Dg := { a : List B8 // a.length = 32 }
def dgC (d : Dg) : List DV := d.1.map w8
def dg0 : Dg := ⟨rep 32 0#8, by simp [rep]⟩
theorem len_dgC (d : Dg) : (dgC d).length = 32 := by simp [dgC, d.2]
theorem pure_dgC (d : Dg) : pureL (dgC d) = true := pureL_w8
theorem dgC_inj {a b : Dg} (h : dgC a = dgC b) : a = b := Subtype.ext (by rw [dgC, dgC, map_inj_w8] at h; exact h)
structure Sl (α : Type) where
  k : Option Bool
  l : List α
  h : k = none → l = []
  b : l.length ≤ 4294967296
def Sl.dv {α : Type} (x : Sl α) (s : Nat) (f : α → List DV) : DV := slD x.k s x.l.length (x.l.flatMap f)
section
variable {α : Type} {f : α → List DV} {s : Nat} {h : List AObj} {x : Sl α} {n k : Nat}
theorem dv_some {b : Bool} {l : List α} {h : some b = none → l = []} {hb : l.length ≤ 4294967296} : (⟨some b, l, h, hb⟩ : Sl α).dv s f = .sl b s l.length (l.flatMap f) := rfl
theorem dv_none {h : none = none → ([] : List α) = []} {hb : ([] : List α).length ≤ 4294967296} : (⟨none, [], h, hb⟩ : Sl α).dv s f = .nils := rfl
theorem fm_len (hu : ∀ a, (f a).length = s) : ∀ (l : List α), (l.flatMap f).length = l.length * s
  | [] => by simp
  | a :: l => by rw [List.flatMap_cons, List.length_append, hu, fm_len hu l, List.length_cons, Nat.add_mul]; omega
theorem fm_take (hu : ∀ a, (f a).length = s) : ∀ (l : List α) (i : Nat), (l.flatMap f).take (i * s) = (l.take i).flatMap f
  | [], i => by simp
  | a :: l, 0 => by simp
  | a :: l, i + 1 => by
    have ha := hu a
    rw [List.flatMap_cons, List.take_append, List.take_of_length_le (by rw [ha, Nat.add_mul]; omega), ha, show (i + 1) * s - s = i * s from by rw [Nat.add_mul]; omega, fm_take hu l, List.take_succ_cons, List.flatMap_cons]
theorem fm_drop (hu : ∀ a, (f a).length = s) : ∀ (l : List α) (i : Nat), (l.flatMap f).drop (i * s) = (l.drop i).flatMap f
  | [], i => by simp
  | a :: l, 0 => by simp
  | a :: l, i + 1 => by
    have ha := hu a
    rw [List.flatMap_cons, List.drop_append, List.drop_of_length_le (by rw [ha, Nat.add_mul]; omega), ha, show (i + 1) * s - s = i * s from by rw [Nat.add_mul]; omega, fm_drop hu l, List.nil_append, List.drop_succ_cons]
theorem fm_get (hu : ∀ a, (f a).length = s) {l : List α} {i : Nat} (hi : i < l.length) : ((l.flatMap f).drop (i * s)).take s = f l[i] := by
  rw [fm_drop hu, List.drop_eq_getElem_cons hi, List.flatMap_cons, List.take_left' (hu _)]
theorem pureL_append : ∀ {a b : List DV}, pureL a = true → pureL b = true → pureL (a ++ b) = true
  | [], _, _, h => h
  | d :: r, b, h1, h2 => by simp only [List.cons_append, pureL, Bool.and_eq_true] at *; exact ⟨h1.1, pureL_append h1.2 h2⟩
theorem fm_pure (hp : ∀ a, pureL (f a) = true) : ∀ (l : List α), pureL (l.flatMap f) = true
  | [] => rfl
  | a :: l => by rw [List.flatMap_cons]; exact pureL_append (hp a) (fm_pure hp l)
theorem fm_set (hu : ∀ a, (f a).length = s) {l : List α} {i : Nat} (hi : i < l.length) (b : α) : splice (l.flatMap f) (i * s) (f b) = (l.set i b).flatMap f := by
  unfold splice
  rw [fm_take hu, hu b, show i * s + s = (i + 1) * s by rw [Nat.add_mul, Nat.one_mul], fm_drop hu, List.set_eq_take_append_cons_drop, if_pos hi]
  simp
theorem dv_pure (hp : ∀ a, pureL (f a) = true) (x : Sl α) : pureD (x.dv s f) = true := by
  obtain ⟨k, l, h, hb1⟩ := x
  cases k with
  | none => rfl
  | some b => show pureL _ = true; exact fm_pure hp l
theorem dv_one (x : Sl α) : (x.dv s f).one = true := by obtain ⟨k, l, h, hb1⟩ := x; cases k <;> rfl
theorem dv_known (x : Sl α) : (x.dv s f).known = true := by obtain ⟨k, l, h, hb1⟩ := x; cases k <;> rfl
theorem dv_cells (x : Sl α) : (x.dv s f).cells = [x.dv s f] := by obtain ⟨k, l, h, hb1⟩ := x; cases k <;> rfl
theorem lenD_dv : lenD h (x.dv s f) = some (.int .i64 x.l.length) := by
  obtain ⟨k, l, h, hb1⟩ := x
  cases k with
  | none => cases h rfl; rfl
  | some b => rfl
theorem idxSD_dv (hu : ∀ a, (f a).length = s) {i : Nat} (hi : i < x.l.length) : idxSD h s (x.dv s f) i = some (.ref (f x.l[i])) := by
  obtain ⟨k, l, h, hb1⟩ := x
  cases k with
  | none => cases h rfl; simp at hi
  | some b =>
    simp only [Sl.dv, slD_some]
    rw [idxSD_sl (by omega) (by simp only at hi; omega), Int.toNat_natCast, fm_get hu hi]
theorem visS_dv (hu : ∀ a, (f a).length = s) : visS h (x.dv s f) = some (x.l.length, x.l.flatMap f) := visS_slD (fun e => by simp [x.h e]) (fm_len hu _)
theorem visY_dv (hu : ∀ a, (f a).length = s) : visY h (x.dv s f) = some (x.l.length, x.l.flatMap f) := by
  rw [← visS_dv (h := h) hu]
  obtain ⟨k, l, h, hb1⟩ := x; cases k <;> rfl
def Sl.part (x : Sl α) (i j : Nat) (b : Bool) : Sl α := ⟨x.k.map fun c => c && b, (x.l.drop i).take (j - i), fun e => by simp at e; simp [x.h e], by have := x.b; simp; omega⟩
theorem slcSD_dv (hu : ∀ a, (f a).length = s) {lo hi : Option DV} {i j : Nat} (hb : boundsD x.l.length lo hi = some (i, j)) (hij : j ≤ x.l.length) : slcSD h s (x.dv s f) lo hi none = some ((x.part i j (j == x.l.length)).dv s f) := by
  obtain ⟨k, l, h, hb1⟩ := x
  cases k with
  | none => cases h rfl; simp at hb hij; simp only [Sl.dv, slD_none, Sl.part, Option.map_none]; rw [slcSD_nils hb]
  | some b =>
    simp only at hb hij
    simp only [Sl.dv, slD_some, Sl.part, Option.map_some]
    rw [slcSD_sl hb, fm_drop hu, fm_take hu]
    simp only [List.length_take, List.length_drop]
    congr 2
    omega
theorem nilKind_dv : nilKind h (x.dv s f) = some (0, x.k.isNone) := by obtain ⟨k, l, h, hb1⟩ := x; cases k <;> rfl
end
structure Grp where
  ns : List UInt8
  im : List UInt8
  want : Int
  least : Int
  down : Int
  ch : Sl Dg
def grC (g : Grp) : List DV := [.str g.ns, .str g.im, .int .i64 g.want, .int .i64 g.least, .int .i64 g.down, g.ch.dv 32 dgC]
structure Ins where
  id : Int
  grp : Int
  art : Dg
  state : Int
  since : Int
  den : Int
  deriving DecidableEq
def inC (x : Ins) : List DV := .int .i64 x.id :: .int .i64 x.grp :: (dgC x.art ++ [.int .i64 x.state, .int .i64 x.since, .int .i64 x.den])
structure Clu where
  g : Sl Grp
  i : Sl Ins
  next : Int
def clC (c : Clu) : List DV := [c.g.dv 6 grC, c.i.dv 37 inC, .int .i64 c.next]
theorem len_grC (g : Grp) : (grC g).length = 6 := by simp [grC]
theorem len_inC (x : Ins) : (inC x).length = 37 := by simp [inC, len_dgC]
theorem len_clC (c : Clu) : (clC c).length = 3 := by simp [clC]
theorem pure_dv32 (x : Sl Dg) : pureD (x.dv 32 dgC) = true := dv_pure pure_dgC x
theorem pure_grC (g : Grp) : pureL (grC g) = true := by simp [grC, pureL, pureD, pure_dv32]
theorem pure_inC (x : Ins) : pureL (inC x) = true := by
  simp only [inC, pureL, pureD, Bool.true_and]
  exact pureL_append (pure_dgC _) (by simp [pureL, pureD])
theorem pure_dv6 (x : Sl Grp) : pureD (x.dv 6 grC) = true := dv_pure pure_grC x
theorem pure_dv37 (x : Sl Ins) : pureD (x.dv 37 inC) = true := dv_pure pure_inC x
theorem pure_clC (c : Clu) : pureL (clC c) = true := by simp [clC, pureL, pureD, pure_dv6, pure_dv37]
theorem inC_drop2 (x : Ins) : (inC x).drop 2 = dgC x.art ++ [.int .i64 x.state, .int .i64 x.since, .int .i64 x.den] := rfl
theorem inC_drop34 (x : Ins) : (inC x).drop 34 = [.int .i64 x.state, .int .i64 x.since, .int .i64 x.den] := by
  rw [show (34 : Nat) = 2 + 32 from rfl, ← List.drop_drop, inC_drop2, List.drop_left' (len_dgC _)]
theorem inC_drop35 (x : Ins) : (inC x).drop 35 = [.int .i64 x.since, .int .i64 x.den] := by
  rw [show (35 : Nat) = 34 + 1 from rfl, ← List.drop_drop, inC_drop34]; rfl
theorem inC_drop36 (x : Ins) : (inC x).drop 36 = [.int .i64 x.den] := by
  rw [show (36 : Nat) = 34 + 2 from rfl, ← List.drop_drop, inC_drop34]; rfl
section
variable {x : Ins} {g : Grp} {c : Clu} {d : Dg} {r : List DV}
theorem one_in0 : one 1 false (inC x) = some (.int .i64 x.id) := rfl
theorem one_in1 : one 1 false ((inC x).drop 1) = some (.int .i64 x.grp) := rfl
theorem one_in2 : one 32 true ((inC x).drop 2) = some (.agg (dgC x.art)) := by
  rw [inC_drop2]; simp only [one, if_true]; rw [if_pos (by simp [len_dgC]), List.take_left' (len_dgC _)]
theorem one_in34 : one 1 false ((inC x).drop 34) = some (.int .i64 x.state) := by rw [inC_drop34]; rfl
theorem one_in35 : one 1 false ((inC x).drop 35) = some (.int .i64 x.since) := by rw [inC_drop35]; rfl
theorem one_in36 : one 1 false ((inC x).drop 36) = some (.int .i64 x.den) := by rw [inC_drop36]; rfl
theorem one_in : one 37 true (inC x) = some (.agg (inC x)) := by simp [one, len_inC, List.take_of_length_le]
theorem one_gr : one 6 true (grC g) = some (.agg (grC g)) := rfl
theorem one_gr0 : one 1 false (grC g) = some (.str g.ns) := rfl
theorem one_gr1 : one 1 false ((grC g).drop 1) = some (.str g.im) := rfl
theorem one_gr2 : one 1 false ((grC g).drop 2) = some (.int .i64 g.want) := rfl
theorem one_gr3 : one 1 false ((grC g).drop 3) = some (.int .i64 g.least) := rfl
theorem one_gr4 : one 1 false ((grC g).drop 4) = some (.int .i64 g.down) := rfl
theorem one_gr5 : one 1 false ((grC g).drop 5) = some (g.ch.dv 32 dgC) := rfl
theorem one_cl : one 3 true (clC c) = some (.agg (clC c)) := rfl
theorem one_cl0 : one 1 false (clC c) = some (c.g.dv 6 grC) := rfl
theorem one_cl1 : one 1 false ((clC c).drop 1) = some (c.i.dv 37 inC) := rfl
theorem one_cl2 : one 1 false ((clC c).drop 2) = some (.int .i64 c.next) := rfl
theorem one_dg : one 32 true (dgC d) = some (.agg (dgC d)) := by simp [one, len_dgC, List.take_of_length_le]
theorem getf_in {off n : Nat} {a : Bool} (hl : off + n ≤ 37) : getfD off n a (.agg (inC x)) = one n a ((inC x).drop off) := by simp [getfD, len_inC, hl]
theorem getf_gr {off n : Nat} {a : Bool} (hl : off + n ≤ 6) : getfD off n a (.agg (grC g)) = one n a ((grC g).drop off) := by simp [getfD, len_grC, hl]
theorem getf_cl {off n : Nat} {a : Bool} (hl : off + n ≤ 3) : getfD off n a (.agg (clC c)) = one n a ((clC c).drop off) := by simp [getfD, len_clC, hl]
end
attribute [simp] len_dgC len_grC len_inC len_clC lenD_dv nilKind_dv dv_one dv_known dv_cells one_in0 one_in1 one_in2 one_in34 one_in35 one_in36 one_in one_gr one_gr0 one_gr1 one_gr2 one_gr3 one_gr4 one_gr5 one_cl one_cl0 one_cl1 one_cl2 one_dg getf_in getf_gr getf_cl pure_dgC pure_grC pure_inC pure_clC pure_dv32 pure_dv6 pure_dv37
theorem cellsEq_append : ∀ {ks1 ks2 : List Nat} {a1 a2 b1 b2 : List DV}, a1.length = ks1.length → b1.length = ks1.length → cellsEq (ks1 ++ ks2) (a1 ++ a2) (b1 ++ b2) = (cellsEq ks1 a1 b1).bind fun p => (cellsEq ks2 a2 b2).map fun q => p && q
  | [], ks2, [], a2, [], b2, _, _ => by simp [cellsEq]
  | k :: ks1, ks2, x :: a1, a2, y :: b1, b2, h1, h2 => by
    simp only [List.cons_append, cellsEq, cellsEq_append (ks1 := ks1) (a1 := a1) (b1 := b1) (by simpa using h1) (by simpa using h2)]
    cases cellEq k x y <;> simp only [Option.bind_none, Option.bind_some]
    cases cellsEq ks1 a1 b1 <;> simp only [Option.bind_none, Option.bind_some, Option.map_none, Option.map_some]
    cases cellsEq ks2 a2 b2 <;> simp only [Option.map_none, Option.map_some, Bool.and_assoc]
theorem cellsEq_dg {a b : Dg} : cellsEq (kindsOf [(32, 0)]) (dgC a) (dgC b) = some (decide (a = b)) := by
  rw [dgC, dgC, cellsEq_w8 a.2 b.2]
  simp only [Subtype.ext_iff]
theorem cellsEq_i3 {a b c a' b' c' : Int} : cellsEq [0, 0, 0] [.int .i64 a, .int .i64 b, .int .i64 c] [.int .i64 a', .int .i64 b', .int .i64 c'] = some (decide (a = a' ∧ b = b' ∧ c = c')) := by
  simp [cellsEq, cellEq]; rfl
theorem cellsEq_i2 {a b a' b' : Int} : cellsEq [0, 0] [.int .i64 a, .int .i64 b] [.int .i64 a', .int .i64 b'] = some (decide (a = a' ∧ b = b')) := by
  simp [cellsEq, cellEq]; rfl
theorem cellsEq_in {x y : Ins} : cellsEq (kindsOf [(37, 0)]) (inC x) (inC y) = some (decide (x = y)) := by
  have e : kindsOf [(37, 0)] = [0, 0] ++ (kindsOf [(32, 0)] ++ [0, 0, 0]) := by decide
  have e1 : ∀ x : Ins, inC x = [.int .i64 x.id, .int .i64 x.grp] ++ (dgC x.art ++ [.int .i64 x.state, .int .i64 x.since, .int .i64 x.den]) := fun _ => rfl
  rw [e, e1, e1, cellsEq_append rfl rfl, cellsEq_append (by simp [len_dgC, kindsOf]) (by simp [len_dgC, kindsOf]), cellsEq_dg, cellsEq_i2, cellsEq_i3]
  obtain ⟨a, b, c, d, e, f⟩ := x
  obtain ⟨a', b', c', d', e', f'⟩ := y
  simp only [Option.bind_some, Option.map_some, Ins.mk.injEq, Option.some.injEq, Bool.decide_and, Bool.and_assoc]
theorem map_dg0 : List.map w8 (rep 32 0#8) = dgC dg0 := rfl
attribute [simp] cellsEq_dg cellsEq_in map_dg0
def ixI {α : Type} (p : α → Bool) : List α → Int
  | [] => -1
  | a :: l => if p a = true then 0 else if ixI p l < 0 then -1 else ixI p l + 1
theorem ixI_ge {α : Type} (p : α → Bool) : ∀ l : List α, -1 ≤ ixI p l
  | [] => by simp [ixI]
  | a :: l => by have := ixI_ge p l; simp only [ixI]; split <;> (try split) <;> omega
theorem ixI_at {α : Type} {p : α → Bool} : ∀ {l : List α} {i : Nat} (hi : i < l.length), p l[i] = true → (∀ j (hj : j < l.length), j < i → p l[j] = false) → ixI p l = i
  | a :: l, 0, hi, h1, h2 => by simp at h1; simp [ixI, h1]
  | a :: l, i + 1, hi, h1, h2 => by
    have h0 : p a = false := h2 0 (by simp) (by omega)
    have ih := ixI_at (p := p) (l := l) (i := i) (by simpa using hi) (by simpa using h1) (fun j hj hji => h2 (j + 1) (by simpa using hj) (by omega))
    simp only [ixI, h0, Bool.false_eq_true, if_false, ih]
    rw [if_neg (by omega)]; omega
theorem ixI_none {α : Type} {p : α → Bool} : ∀ {l : List α}, (∀ j (hj : j < l.length), p l[j] = false) → ixI p l = -1
  | [], _ => rfl
  | a :: l, h => by
    have h0 : p a = false := h 0 (by simp)
    have ih := ixI_none (p := p) (l := l) (fun j hj => h (j + 1) (by simpa using hj))
    simp [ixI, h0, ih]
theorem ixI_neg {α : Type} {p : α → Bool} : ∀ {l : List α}, ixI p l < 0 → ∀ j (hj : j < l.length), p l[j] = false
  | [], _, j, hj => by simp at hj
  | a :: l, h, j, hj => by
    simp only [ixI] at h
    split at h
    · omega
    · rename_i h0
      split at h
      · rename_i h1
        cases j with
        | zero => simpa using h0
        | succ j => simpa using ixI_neg h1 j (by simpa using hj)
      · omega
theorem ixI_pos {α : Type} {p : α → Bool} : ∀ {l : List α}, 0 ≤ ixI p l → ∃ (i : Nat) (hi : i < l.length), ixI p l = i ∧ p l[i] = true ∧ ∀ j (hj : j < l.length), j < i → p l[j] = false
  | [], h => by simp [ixI] at h
  | a :: l, h => by
    by_cases h0 : p a = true
    · exact ⟨0, by simp, by simp [ixI, h0], by simpa using h0, fun j _ hj => by omega⟩
    · have hh := h
      simp only [ixI] at hh
      rw [if_neg h0] at hh
      split at hh
      · omega
      · rename_i h1
        obtain ⟨i, hi, e1, e2, e3⟩ := ixI_pos (p := p) (l := l) (by omega)
        refine ⟨i + 1, by simpa using hi, ?_, by simpa using e2, fun j hj hji => ?_⟩
        · simp only [ixI, h0, if_false, if_neg h1, e1, Bool.false_eq_true]; omega
        · cases j with
          | zero => simpa using h0
          | succ j => simpa using e3 j (by simpa using hj) (by omega)
end Go.Proofs.YtjhakjeioppijaaDoor
set_option linter.unusedSimpArgs false
set_option linter.unusedVariables false
namespace Go.Proofs.YtjhakjeioppijaaDoor
open Go Go.Am
noncomputable abbrev P : Program := Tryd.prog
theorem mix : P.follows .mixedOrders = true := by kernel_rfl
def a113 : AFn where
  code := (.seq (.region false [⟨none, (some 4), .mov (.k (.int .i64 0))⟩])
  (.seq (.region false [⟨none, (some 5), .mov (.t 0)⟩,
    ⟨none, (some 6), .mov (.t 1)⟩,
    ⟨none, (some 7), .call (.k (.fn (.func 118) [] [])) [(.t 5), (.t 6)]⟩,
    ⟨none, (some 4), .mov (.t 7)⟩])
  .ret))
  ntmps := 8
  res := [.tmp 4]
theorem a113_ok : compileFn P Tryd.f113 = some a113 := by kernel_rfl
def a101 : AFn where
  code := (.seq (.region false [⟨none, (some 4), .mov (.k (.int .i64 0))⟩])
  (.seq (.region false [⟨none, (some 5), .mov (.t 0)⟩,
    ⟨none, (some 6), .mov (.t 1)⟩,
    ⟨none, (some 7), .call (.k (.fn (.func 113) [] [])) [(.t 5), (.t 6)]⟩,
    ⟨none, (some 4), .mov (.t 7)⟩])
  .ret))
  ntmps := 8
  res := [.tmp 4]
theorem a101_ok : compileFn P Tryd.f101 = some a101 := by kernel_rfl
def a119L0 : ACode :=
  (.seq (.seq (.region false [⟨none, (some 57), .mov (.t 8)⟩,
    ⟨none, (some 58), .mov (.t 9)⟩,
    ⟨none, (some 59), .bin .lss (.t 57) (.t 58)⟩])
  (.cond (.t 59) .skip
  (.exit 1)))
  (.block 2 (.seq (.seq (.region false [⟨none, (some 60), .mov (.t 0)⟩,
    ⟨none, (some 61), .mov (.t 8)⟩,
    ⟨none, (some 62), .idxStr (.t 60) (.t 61)⟩,
    ⟨none, (some 63), .mov (.t 6)⟩,
    ⟨none, (some 64), .bin .neq (.t 62) (.t 63)⟩])
  (.cond (.t 64) (.seq (.region false [⟨none, (some 65), .mov (.t 0)⟩,
    ⟨none, (some 66), .mov (.t 8)⟩,
    ⟨none, (some 67), .bin .add (.t 66) (.k (.int .i64 1))⟩,
    ⟨none, (some 68), .mov (.t 9)⟩,
    ⟨none, (some 69), .slcStr (.t 65) (some (.t 67)) (some (.t 68))⟩,
    ⟨none, (some 70), .mov (.t 6)⟩,
    ⟨none, (some 71), .call (.k (.fn (.func 113) [] [])) [(.t 69), (.t 70)]⟩,
    ⟨none, (some 11), .mov (.t 71)⟩])
  (.seq (.seq (.region false [⟨none, (some 72), .mov (.t 11)⟩,
    ⟨none, (some 73), .bin .lss (.t 72) (.k (.int .i64 0))⟩])
  (.cond (.t 73) (.seq (.region false [⟨none, (some 4), .mov (.k (.int .i64 (-1)))⟩])
  .ret)
  .skip))
  (.region false [⟨none, (some 74), .mov (.t 8)⟩,
    ⟨none, (some 75), .mov (.t 11)⟩,
    ⟨none, (some 76), .bin .add (.t 75) (.k (.int .i64 1))⟩,
    ⟨none, (some 77), .bin .add (.t 74) (.t 76)⟩,
    ⟨none, (some 8), .mov (.t 77)⟩])))
  .skip))
  (.seq (.seq (.region false [⟨none, (some 78), .mov (.t 0)⟩,
    ⟨none, (some 79), .mov (.t 8)⟩,
    ⟨none, (some 80), .bin .add (.t 79) (.k (.int .i64 1))⟩,
    ⟨none, (some 81), .idxStr (.t 78) (.t 80)⟩,
    ⟨none, (some 82), .mov (.t 7)⟩,
    ⟨none, (some 83), .bin .eql (.t 81) (.t 82)⟩,
    ⟨none, (some 84), .mov (.t 83)⟩,
    ⟨(some (84, true)), (some 85), .mov (.t 0)⟩,
    ⟨(some (84, true)), (some 86), .mov (.t 8)⟩,
    ⟨(some (84, true)), (some 87), .mov (.t 8)⟩,
    ⟨(some (84, true)), (some 88), .mov (.t 5)⟩,
    ⟨(some (84, true)), (some 89), .bin .add (.t 87) (.t 88)⟩,
    ⟨(some (84, true)), (some 90), .slcStr (.t 85) (some (.t 86)) (some (.t 89))⟩,
    ⟨(some (84, true)), (some 91), .mov (.t 1)⟩,
    ⟨(some (84, true)), (some 92), .bin .eql (.t 90) (.t 91)⟩,
    ⟨none, (some 93), .pick (.t 84) (.t 92) (.k (.bool false))⟩])
  (.cond (.t 93) (.seq (.region false [⟨none, (some 94), .mov (.t 8)⟩,
    ⟨none, (some 4), .mov (.t 94)⟩])
  .ret)
  .skip))
  (.seq (.region false [⟨none, (some 95), .mov (.t 8)⟩,
    ⟨none, (some 96), .bin .add (.t 95) (.k (.int .i64 1))⟩,
    ⟨none, (some 8), .mov (.t 96)⟩])
  (.seq (.region false [⟨none, (some 97), .mov (.t 10)⟩,
    ⟨none, (some 98), .bin .add (.t 97) (.k (.int .i64 1))⟩,
    ⟨none, (some 10), .mov (.t 98)⟩])
  (.seq (.region false [⟨none, (some 99), .mov (.t 5)⟩,
    ⟨none, (some 100), .ext (.k .junk) 0⟩,
    ⟨none, (some 101), .bin .leq (.t 99) (.t 100)⟩,
    ⟨none, (some 102), .mov (.t 101)⟩,
    ⟨(some (102, true)), (some 103), .mov (.t 10)⟩,
    ⟨(some (102, true)), (some 104), .mov (.t 8)⟩,
    ⟨(some (102, true)), (some 105), .call (.k (.fn (.func 125) [] [])) [(.t 104)]⟩,
    ⟨(some (102, true)), (some 106), .bin .gtr (.t 103) (.t 105)⟩,
    ⟨none, (some 107), .pick (.t 102) (.t 106) (.k (.bool false))⟩])
  (.cond (.t 107) (.seq (.region false [⟨none, (some 108), .mov (.t 0)⟩,
    ⟨none, (some 109), .mov (.t 8)⟩,
    ⟨none, (some 110), .slcStr (.t 108) (some (.t 109)) none⟩,
    ⟨none, (some 111), .mov (.t 1)⟩,
    ⟨none, (some 112), .call (.k (.fn (.func 124) [] [])) [(.t 110), (.t 111)]⟩,
    ⟨none, (some 12), .mov (.t 112)⟩])
  (.seq (.seq (.region false [⟨none, (some 113), .mov (.t 12)⟩,
    ⟨none, (some 114), .bin .geq (.t 113) (.k (.int .i64 0))⟩])
  (.cond (.t 114) (.seq (.region false [⟨none, (some 115), .mov (.t 12)⟩,
    ⟨none, (some 116), .mov (.t 8)⟩,
    ⟨none, (some 117), .bin .add (.t 115) (.t 116)⟩,
    ⟨none, (some 4), .mov (.t 117)⟩])
  .ret)
  .skip))
  (.seq (.region false [⟨none, (some 4), .mov (.k (.int .i64 (-1)))⟩])
  .ret)))
  (.seq (.region false [⟨none, (some 118), .mov (.t 5)⟩,
    ⟨none, (some 119), .ext (.k .junk) 0⟩,
    ⟨none, (some 120), .bin .gtr (.t 118) (.t 119)⟩,
    ⟨none, (some 121), .mov (.t 120)⟩,
    ⟨(some (121, true)), (some 122), .mov (.t 10)⟩,
    ⟨(some (121, true)), (some 123), .mov (.t 8)⟩,
    ⟨(some (121, true)), (some 124), .bin .shr (.t 123) (.k (w64 4#64))⟩,
    ⟨(some (121, true)), (some 125), .bin .add (.k (.int .i64 4)) (.t 124)⟩,
    ⟨(some (121, true)), (some 126), .bin .geq (.t 122) (.t 125)⟩,
    ⟨none, (some 127), .pick (.t 121) (.t 126) (.k (.bool false))⟩,
    ⟨none, (some 128), .mov (.t 127)⟩,
    ⟨(some (128, true)), (some 129), .mov (.t 8)⟩,
    ⟨(some (128, true)), (some 130), .mov (.t 9)⟩,
    ⟨(some (128, true)), (some 131), .bin .lss (.t 129) (.t 130)⟩,
    ⟨none, (some 132), .pick (.t 128) (.t 131) (.k (.bool false))⟩])
  (.cond (.t 132) (.seq (.region false [⟨none, (some 133), .mov (.t 0)⟩,
    ⟨none, (some 134), .mov (.t 8)⟩,
    ⟨none, (some 135), .slcStr (.t 133) (some (.t 134)) none⟩,
    ⟨none, (some 136), .mov (.t 1)⟩,
    ⟨none, (some 137), .call (.k (.fn (.func 126) [] [])) [(.t 135), (.t 136)]⟩,
    ⟨none, (some 13), .mov (.t 137)⟩])
  (.seq (.seq (.region false [⟨none, (some 138), .mov (.t 13)⟩,
    ⟨none, (some 139), .bin .lss (.t 138) (.k (.int .i64 0))⟩])
  (.cond (.t 139) (.seq (.region false [⟨none, (some 4), .mov (.k (.int .i64 (-1)))⟩])
  .ret)
  .skip))
  (.seq (.region false [⟨none, (some 140), .mov (.t 8)⟩,
    ⟨none, (some 141), .mov (.t 13)⟩,
    ⟨none, (some 142), .bin .add (.t 140) (.t 141)⟩,
    ⟨none, (some 4), .mov (.t 142)⟩])
  .ret)))
  .skip))))))))))
def a119 : AFn where
  code := (.seq (.region false [⟨none, (some 4), .mov (.k (.int .i64 0))⟩])
  (.seq (.region false [⟨none, (some 14), .mov (.t 1)⟩,
    ⟨none, (some 15), .lenStr (.t 14)⟩,
    ⟨none, (some 5), .mov (.t 15)⟩])
  (.seq (.block 0 (.seq (.region false [⟨none, (some 17), .mov (.t 5)⟩,
    ⟨none, (some 18), .bin .eql (.t 17) (.k (.int .i64 0))⟩,
    ⟨none, (some 19), .mov (.t 18)⟩,
    ⟨(some (19, false)), (some 20), .mov (.t 1)⟩,
    ⟨(some (19, false)), (some 21), .mov (.t 0)⟩,
    ⟨(some (19, false)), (some 22), .bin .eql (.t 20) (.t 21)⟩,
    ⟨none, (some 23), .pick (.t 19) (.k (.bool true)) (.t 22)⟩,
    ⟨none, (some 16), .mov (.t 23)⟩])
  (.cond (.t 16) (.seq (.region false [⟨none, (some 4), .mov (.k (.int .i64 0))⟩])
  .ret)
  (.seq (.region false [⟨none, (some 25), .mov (.t 5)⟩,
    ⟨none, (some 26), .bin .eql (.t 25) (.k (.int .i64 1))⟩,
    ⟨none, (some 24), .mov (.t 26)⟩])
  (.cond (.t 24) (.seq (.region false [⟨none, (some 27), .mov (.t 0)⟩,
    ⟨none, (some 28), .mov (.t 1)⟩,
    ⟨none, (some 29), .idxStr (.t 28) (.k (.int .i64 0))⟩,
    ⟨none, (some 30), .call (.k (.fn (.func 113) [] [])) [(.t 27), (.t 29)]⟩,
    ⟨none, (some 4), .mov (.t 30)⟩])
  .ret)
  (.seq (.region false [⟨none, (some 32), .mov (.t 5)⟩,
    ⟨none, (some 33), .mov (.t 0)⟩,
    ⟨none, (some 34), .lenStr (.t 33)⟩,
    ⟨none, (some 35), .bin .geq (.t 32) (.t 34)⟩,
    ⟨none, (some 31), .mov (.t 35)⟩])
  (.cond (.t 31) (.seq (.region false [⟨none, (some 4), .mov (.k (.int .i64 (-1)))⟩])
  .ret)
  (.seq (.region false [⟨none, (some 37), .mov (.t 5)⟩,
    ⟨none, (some 38), .ext (.k .junk) 0⟩,
    ⟨none, (some 39), .bin .leq (.t 37) (.t 38)⟩,
    ⟨none, (some 40), .mov (.t 39)⟩,
    ⟨(some (40, true)), (some 41), .mov (.t 0)⟩,
    ⟨(some (40, true)), (some 42), .lenStr (.t 41)⟩,
    ⟨(some (40, true)), (some 43), .bin .leq (.t 42) (.k (.int .i64 64))⟩,
    ⟨none, (some 44), .pick (.t 40) (.t 43) (.k (.bool false))⟩,
    ⟨none, (some 36), .mov (.t 44)⟩])
  (.cond (.t 36) (.seq (.region false [⟨none, (some 45), .mov (.t 0)⟩,
    ⟨none, (some 46), .mov (.t 1)⟩,
    ⟨none, (some 47), .call (.k (.fn (.func 124) [] [])) [(.t 45), (.t 46)]⟩,
    ⟨none, (some 4), .mov (.t 47)⟩])
  .ret)
  .skip)))))))))
  (.seq (.region false [⟨none, (some 48), .mov (.t 1)⟩,
    ⟨none, (some 49), .idxStr (.t 48) (.k (.int .i64 0))⟩,
    ⟨none, (some 6), .mov (.t 49)⟩])
  (.seq (.region false [⟨none, (some 50), .mov (.t 1)⟩,
    ⟨none, (some 51), .idxStr (.t 50) (.k (.int .i64 1))⟩,
    ⟨none, (some 7), .mov (.t 51)⟩])
  (.seq (.region false [⟨none, (some 8), .mov (.k (.int .i64 0))⟩])
  (.seq (.region false [⟨none, (some 52), .mov (.t 0)⟩,
    ⟨none, (some 53), .lenStr (.t 52)⟩,
    ⟨none, (some 54), .mov (.t 5)⟩,
    ⟨none, (some 55), .bin .sub (.t 53) (.t 54)⟩,
    ⟨none, (some 56), .bin .add (.t 55) (.k (.int .i64 1))⟩,
    ⟨none, (some 9), .mov (.t 56)⟩])
  (.seq (.region false [⟨none, (some 10), .mov (.k (.int .i64 0))⟩])
  (.seq (.block 1 (.loop a119L0))
  (.seq (.region false [⟨none, (some 4), .mov (.k (.int .i64 (-1)))⟩])
  .ret))))))))))
  ntmps := 143
  res := [.tmp 4]
theorem a119_ok : compileFn P Tryd.f119 = some a119 := by kernel_rfl
def a114 : AFn where
  code := (.seq (.region false [⟨none, (some 4), .mov (.k (.str []))⟩,
    ⟨none, (some 5), .mov (.k (.str []))⟩,
    ⟨none, (some 6), .mov (.k (.bool false))⟩])
  (.seq (.seq (.region false [⟨none, (some 8), .mov (.t 0)⟩,
    ⟨none, (some 9), .mov (.t 1)⟩,
    ⟨none, (some 10), .call (.k (.fn (.func 119) [] [])) [(.t 8), (.t 9)]⟩,
    ⟨none, (some 7), .mov (.t 10)⟩])
  (.seq (.region false [⟨none, (some 11), .mov (.t 7)⟩,
    ⟨none, (some 12), .bin .geq (.t 11) (.k (.int .i64 0))⟩])
  (.cond (.t 12) (.seq (.region true [⟨none, (some 13), .mov (.t 0)⟩,
    ⟨none, (some 14), .mov (.t 7)⟩,
    ⟨none, (some 15), .slcStr (.t 13) none (some (.t 14))⟩,
    ⟨none, (some 16), .mov (.t 0)⟩,
    ⟨none, (some 17), .mov (.t 7)⟩,
    ⟨none, (some 18), .mov (.t 1)⟩,
    ⟨none, (some 19), .lenStr (.t 18)⟩,
    ⟨none, (some 20), .bin .add (.t 17) (.t 19)⟩,
    ⟨none, (some 21), .slcStr (.t 16) (some (.t 20)) none⟩,
    ⟨none, (some 4), .mov (.t 15)⟩,
    ⟨none, (some 5), .mov (.t 21)⟩,
    ⟨none, (some 6), .mov (.k (.bool true))⟩])
  .ret)
  .skip)))
  (.seq (.region false [⟨none, (some 22), .mov (.t 0)⟩,
    ⟨none, (some 4), .mov (.t 22)⟩,
    ⟨none, (some 5), .mov (.k (.str []))⟩,
    ⟨none, (some 6), .mov (.k (.bool false))⟩])
  .ret)))
  ntmps := 23
  res := [.tmp 4, .tmp 5, .tmp 6]
theorem a114_ok : compileFn P Tryd.f114 = some a114 := by kernel_rfl
def a102 : AFn where
  code := (.seq (.region false [⟨none, (some 4), .mov (.k (.str []))⟩,
    ⟨none, (some 5), .mov (.k (.str []))⟩,
    ⟨none, (some 6), .mov (.k (.bool false))⟩])
  (.seq (.region false [⟨none, (some 7), .mov (.t 0)⟩,
    ⟨none, (some 8), .mov (.t 1)⟩,
    ⟨none, (some 9), .call (.k (.fn (.func 114) [] [])) [(.t 7), (.t 8)]⟩,
    ⟨none, (some 10), .ext (.t 9) 0⟩,
    ⟨none, (some 11), .ext (.t 9) 1⟩,
    ⟨none, (some 12), .ext (.t 9) 2⟩,
    ⟨none, (some 4), .mov (.t 10)⟩,
    ⟨none, (some 5), .mov (.t 11)⟩,
    ⟨none, (some 6), .mov (.t 12)⟩])
  .ret))
  ntmps := 13
  res := [.tmp 4, .tmp 5, .tmp 6]
theorem a102_ok : compileFn P Tryd.f102 = some a102 := by kernel_rfl
def a60L0 : ACode :=
  (.seq (.seq (.region false [⟨none, (some 18), .mov (.t 3)⟩])
  (.cond (.t 18) .skip
  (.exit 0)))
  (.block 1 (.seq (.region false [⟨none, (some 4), .mov (.k (.str []))⟩])
  (.seq (.region false [⟨none, (some 20), .mov (.t 0)⟩,
    ⟨none, (some 21), .call (.k (.fn (.func 102) [] [])) [(.t 20), (.k (.str [47]))]⟩,
    ⟨none, (some 19), .mov (.t 21)⟩,
    ⟨none, (some 22), .ext (.t 19) 0⟩,
    ⟨none, (some 23), .ext (.t 19) 1⟩,
    ⟨none, (some 24), .ext (.t 19) 2⟩,
    ⟨none, (some 4), .mov (.t 22)⟩,
    ⟨none, (some 0), .mov (.t 23)⟩,
    ⟨none, (some 3), .mov (.t 24)⟩])
  (.seq (.region false [⟨none, (some 25), .mov (.t 4)⟩,
    ⟨none, (some 26), .bin .eql (.t 25) (.k (.str []))⟩,
    ⟨none, (some 27), .mov (.t 26)⟩,
    ⟨(some (27, false)), (some 28), .mov (.t 4)⟩,
    ⟨(some (27, false)), (some 29), .bin .eql (.t 28) (.k (.str [46]))⟩,
    ⟨none, (some 30), .pick (.t 27) (.k (.bool true)) (.t 29)⟩,
    ⟨none, (some 31), .mov (.t 30)⟩,
    ⟨(some (31, false)), (some 32), .mov (.t 4)⟩,
    ⟨(some (31, false)), (some 33), .bin .eql (.t 32) (.k (.str [46, 46]))⟩,
    ⟨none, (some 34), .pick (.t 31) (.k (.bool true)) (.t 33)⟩])
  (.cond (.t 34) (.seq (.region false [⟨none, (some 2), .mov (.k (.bool false))⟩])
  .ret)
  .skip))))))
def a60S0 (x0 x3 : DV) (h : List AObj) : St := ⟨[x0, .junk, .junk, x3] ++ js 31, h⟩
def a60 : AFn where
  code := (.seq (.region false [⟨none, (some 2), .mov (.k (.bool false))⟩])
  (.seq (.seq (.region false [⟨none, (some 5), .mov (.t 0)⟩,
    ⟨none, (some 6), .lenStr (.t 5)⟩,
    ⟨none, (some 7), .bin .lss (.t 6) (.k (.int .i64 1))⟩,
    ⟨none, (some 8), .mov (.t 7)⟩,
    ⟨(some (8, false)), (some 9), .mov (.t 0)⟩,
    ⟨(some (8, false)), (some 10), .lenStr (.t 9)⟩,
    ⟨(some (8, false)), (some 11), .bin .gtr (.t 10) (.k (.int .i64 200))⟩,
    ⟨none, (some 12), .pick (.t 8) (.k (.bool true)) (.t 11)⟩,
    ⟨none, (some 13), .mov (.t 12)⟩,
    ⟨(some (13, false)), (some 14), .mov (.t 0)⟩,
    ⟨(some (13, false)), (some 15), .call (.k (.fn (.func 101) [] [])) [(.t 14), (.k (w8 0#8))]⟩,
    ⟨(some (13, false)), (some 16), .bin .geq (.t 15) (.k (.int .i64 0))⟩,
    ⟨none, (some 17), .pick (.t 13) (.k (.bool true)) (.t 16)⟩])
  (.cond (.t 17) (.seq (.region false [⟨none, (some 2), .mov (.k (.bool false))⟩])
  .ret)
  .skip))
  (.seq (.seq (.region false [⟨none, (some 3), .mov (.k (.bool true))⟩])
  (.block 0 (.loop a60L0)))
  (.seq (.region false [⟨none, (some 2), .mov (.k (.bool true))⟩])
  .ret))))
  ntmps := 35
  res := [.tmp 2]
theorem a60_ok : compileFn P Tryd.f60 = some a60 := by kernel_rfl
end Go.Proofs.YtjhakjeioppijaaDoor
set_option linter.unusedSimpArgs false
set_option linter.unusedVariables false
namespace Go.Proofs.YtjhakjeioppijaaDoor
open Go Go.Am
theorem take_snoc {α : Type} {d : List α} {i : Nat} (h : i < d.length) : d.take (i + 1) = d.take i ++ [d[i]] := by rw [List.take_add_one, List.getElem?_eq_getElem h]; rfl
theorem tb_eq {c : UInt8} {n : UInt8} : c.toBitVec = n.toBitVec ↔ c = n := UInt8.toBitVec_inj
theorem noZ_app (a b : List UInt8) : noZ (a ++ b) = (noZ a && noZ b) := by simp [noZ]
theorem outD_three {a b c : ARes} {t : List DV} {h : List AObj} : outD [a, b, c] t h = (resD t h a).bind fun x => (resD t h b).bind fun y => (resD t h c).bind fun z => snap h 3 (.tup [x, y, z]) := by
  simp only [outD, resAll, mapAll, resOf_eq]
  cases resD t h a <;> cases resD t h b <;> cases resD t h c <;> rfl
attribute [simp] outD_three
def cS (g : List UInt8 → DV) : List DV → Option DV
  | [.str s] => some (g s) | _ => none
def cS1 (g : List UInt8 → UInt8 → DV) : List DV → Option DV
  | [.str s, .str [c]] => some (g s c) | _ => none
def cS1b (g : List UInt8 → UInt8 → DV) : List DV → Option DV
  | [.str s, .str [c]] => if s.length ≤ 100000 then some (g s c) else none | _ => none
def cSB (g : List UInt8 → B8 → DV) : List DV → Option DV
  | [.str s, .int .u8 n] => if 0 ≤ n ∧ n < 256 then some (g s (BitVec.ofInt 8 n)) else none | _ => none
theorem cS_eq {g s} : cS g [.str s] = some (g s) := rfl
theorem cS1_eq {g s c} : cS1 g [.str s, .str [c]] = some (g s c) := rfl
theorem cS1b_eq {g s c} (h : s.length ≤ 100000) : cS1b g [.str s, .str [c]] = some (g s c) := if_pos h
theorem ofInt_nat (c : B8) : BitVec.ofInt 8 (c.toNat : Int) = c := by simp
theorem cSB_eq {g s c} : cSB g [.str s, w8 c] = some (g s c) := by
  have := c.isLt
  show (if 0 ≤ (c.toNat : Int) ∧ (c.toNat : Int) < 256 then some (g s (BitVec.ofInt 8 (c.toNat : Int))) else none) = _
  rw [if_pos (by omega), ofInt_nat]
theorem cS_sound {f : Nat} {g : List UInt8 → DV} (h : ∀ s, Am.Sem P f [.str s] (g s)) : (Con.pure (cS g)).Sound P f := by
  intro args v e
  unfold cS at e
  split at e
  · simp at e; subst e; exact h _
  · simp at e
theorem cS1_sound {f : Nat} {g : List UInt8 → UInt8 → DV} (h : ∀ s c, Am.Sem P f [.str s, .str [c]] (g s c)) : (Con.pure (cS1 g)).Sound P f := by
  intro args v e
  unfold cS1 at e
  split at e
  · simp at e; subst e; exact h _ _
  · simp at e
theorem cS1b_sound {f : Nat} {g : List UInt8 → UInt8 → DV} (h : ∀ s c, s.length ≤ 100000 → Am.Sem P f [.str s, .str [c]] (g s c)) : (Con.pure (cS1b g)).Sound P f := by
  intro args v e
  unfold cS1b at e
  split at e
  · split at e
    · rename_i hl; simp at e; subst e; exact h _ _ hl
    · simp at e
  · simp at e
theorem cSB_sound {f : Nat} {g : List UInt8 → B8 → DV} (h : ∀ s c, Am.Sem P f [.str s, w8 c] (g s c)) : (Con.pure (cSB g)).Sound P f := by
  intro args v e
  unfold cSB at e
  split at e
  · rename_i s n
    split at e
    · rename_i hn
      simp at e; subst e
      have := h s (BitVec.ofInt 8 n)
      have e2 : w8 (BitVec.ofInt 8 n) = .int .u8 n := by
        unfold w8
        have : ((BitVec.ofInt 8 n).toNat : Int) = n := by rw [BitVec.toNat_ofInt]; simp; omega
        rw [this]
      rwa [e2] at this
    · simp at e
  · simp at e
def ixD (s : List UInt8) (c : B8) : DV := .int .i64 (Lib.indexByte s c.toNat.toUInt8)
def ix1 (s : List UInt8) (c : UInt8) : DV := .int .i64 (Lib.indexByte s c)
def T50 : Tbl := addT 118 (.pure (cSB ixD)) tbl0
theorem T50_ixb : T50 118 = .pure (cSB ixD) := by simp [T50]
theorem T50_sound : T50.Sound P := addT_sound (cSB_sound fun s c => sem_ixb Tryd.func118 (by kernel_rfl) (by kernel_rfl) (by kernel_rfl) (by kernel_rfl) s c) tbl0_sound
theorem runs_slixb (s : List UInt8) (c : B8) : Runs T50 a113 [.str s, w8 c] (ixD s c) := by
  refine ⟨?_⟩
  simp (disch := first | omega | (simp [-List.map_take, -List.map_drop, -List.map_set, -List.map_append, -List.drop_one] <;> omega) | fail) [-List.map_take, -List.map_drop, -List.map_set, -List.map_append, -List.drop_one, a113, T50_ixb, cSB_eq, ixD]
def T51 : Tbl := addT 113 (.pure (cSB ixD)) T50
theorem T51_ixb : T51 113 = .pure (cSB ixD) := by simp [T51]
theorem T51_sound : T51.Sound P := addT_sound (cSB_sound fun s c => sem_runs mix T50_sound Tryd.func113 a113_ok (runs_slixb s c)) T50_sound
theorem runs_ixb (s : List UInt8) (c : B8) : Runs T51 a101 [.str s, w8 c] (ixD s c) := by
  refine ⟨?_⟩
  simp (disch := first | omega | (simp [-List.map_take, -List.map_drop, -List.map_set, -List.map_append, -List.drop_one] <;> omega) | fail) [-List.map_take, -List.map_drop, -List.map_set, -List.map_append, -List.drop_one, a101, T51_ixb, cSB_eq, ixD]
theorem runs_slindex (s : List UInt8) (c : UInt8) : Runs T51 a119 [.str s, .str [c]] (ix1 s c) := by
  refine ⟨?_⟩
  by_cases h : [c] = s
  · subst h
    simp (disch := first | omega | (simp [-List.map_take, -List.map_drop, -List.map_set, -List.map_append, -List.drop_one] <;> omega) | fail) [-List.map_take, -List.map_drop, -List.map_set, -List.map_append, -List.drop_one, a119, ix1, Lib.indexByte]
  · simp (disch := first | omega | (simp [-List.map_take, -List.map_drop, -List.map_set, -List.map_append, -List.drop_one] <;> omega) | fail) [-List.map_take, -List.map_drop, -List.map_set, -List.map_append, -List.drop_one, a119, h, T51_ixb, cSB_eq, ixD, ix1, u8_nat]
def T52 : Tbl := addT 119 (.pure (cS1 ix1)) T51
theorem T52_ix : T52 119 = .pure (cS1 ix1) := by simp [T52]
theorem T52_sound : T52.Sound P := addT_sound (cS1_sound fun s c => sem_runs mix T51_sound Tryd.func119 a119_ok (runs_slindex s c)) T51_sound
def cutR (s : List UInt8) (c : UInt8) : DV :=
  if Lib.indexByte s c = -1 then .tup [.str s, .str [], .bool false] else .tup [.str (s.take (Lib.indexByte s c).toNat), .str (s.drop ((Lib.indexByte s c).toNat + 1)), .bool true]
theorem ixb_lt' {s : List UInt8} {c : UInt8} : Lib.indexByte s c < s.length := by
  have hg := Lib.indexByte_ge s c
  by_cases h : Lib.indexByte s c = -1
  · omega
  · have := ixb_lt (s := s) (c := c) (o := (Lib.indexByte s c).toNat) (by omega)
    omega
theorem runs_slcutb (s : List UInt8) (c : UInt8) (hs : s.length ≤ 100000) : Runs T52 a114 [.str s, .str [c]] (cutR s c) := by
  refine ⟨?_⟩
  have hg := Lib.indexByte_ge s c
  have hlt := ixb_lt' (s := s) (c := c)
  by_cases h : Lib.indexByte s c = -1
  · simp (disch := first | omega | (simp [-List.map_take, -List.map_drop, -List.map_set, -List.map_append, -List.drop_one] <;> omega) | fail) [-List.map_take, -List.map_drop, -List.map_set, -List.map_append, -List.drop_one, a114, T52_ix, cS1_eq, ix1, h, cutR]
  · obtain ⟨o, ho⟩ : ∃ o : Nat, Lib.indexByte s c = o := ⟨(Lib.indexByte s c).toNat, by omega⟩
    rw [ho] at hlt
    have h0 : (0 : Int) ≤ o := by omega
    have hn : ¬ (o : Int) = -1 := by omega
    have ho1 : o ≤ s.length := by omega
    have ho2 : o + 1 ≤ s.length := by omega
    have ho3 : (o : Int) + 1 ≤ s.length := by omega
    have e1 : ((o : Int) + 1).toNat = o + 1 := by omega
    have ht : (s.drop (o + 1)).take (s.length - (o + 1)) = s.drop (o + 1) := List.take_of_length_le (by simp)
    simp (disch := first | omega | (simp [-List.map_take, -List.map_drop, -List.map_set, -List.map_append, -List.drop_one] <;> omega) | fail) [-List.map_take, -List.map_drop, -List.map_set, -List.map_append, -List.drop_one, a114, T52_ix, cS1_eq, ix1, ho, h0, hn, ho1, ho2, ho3, e1, ht, cutR]
def T54 : Tbl := addT 114 (.pure (cS1b cutR)) tbl0
theorem T54_cut : T54 114 = .pure (cS1b cutR) := by simp [T54]
theorem T54_sound : T54.Sound P := addT_sound (cS1b_sound fun s c h => sem_runs mix T52_sound Tryd.func114 a114_ok (runs_slcutb s c h)) tbl0_sound
theorem runs_cutb (s : List UInt8) (c : UInt8) (hs : s.length ≤ 100000) : Runs T54 a102 [.str s, .str [c]] (cutR s c) := by
  refine ⟨?_⟩
  by_cases h : Lib.indexByte s c = -1
  · simp (disch := first | omega | (simp [-List.map_take, -List.map_drop, -List.map_set, -List.map_append, -List.drop_one] <;> omega) | fail) [-List.map_take, -List.map_drop, -List.map_set, -List.map_append, -List.drop_one, a102, T54_cut, cS1b_eq hs, cutR, h]
  · simp (disch := first | omega | (simp [-List.map_take, -List.map_drop, -List.map_set, -List.map_append, -List.drop_one] <;> omega) | fail) [-List.map_take, -List.map_drop, -List.map_set, -List.map_append, -List.drop_one, a102, T54_cut, cS1b_eq hs, cutR, h]
end Go.Proofs.YtjhakjeioppijaaDoor
set_option linter.unusedSimpArgs false
set_option linter.unusedVariables false
namespace Go.Proofs.YtjhakjeioppijaaDoor
open Go Go.Am
def pathB (s : List UInt8) : DV := .bool (pathD s)
def T57 : Tbl := addT 101 (.pure (cSB ixD)) (addT 102 (.pure (cS1b cutR)) tbl0)
theorem T57_ixb : T57 101 = .pure (cSB ixD) := by simp [T57]
theorem T57_cut : T57 102 = .pure (cS1b cutR) := by simp [T57]
theorem T57_sound : T57.Sound P := addT_sound (cSB_sound fun s c => sem_runs mix T51_sound Tryd.func101 a101_ok (runs_ixb s c)) (addT_sound (cS1b_sound fun s c h => sem_runs mix T54_sound Tryd.func102 a102_ok (runs_cutb s c h)) tbl0_sound)
theorem ixD0 (s : List UInt8) : cSB ixD [.str s, w8 0#8] = some (.int .i64 (Lib.indexByte s 0)) := cSB_eq
theorem ix0_ge {s : List UInt8} (h : Lib.indexByte s 0 ≠ -1) : 0 ≤ Lib.indexByte s 0 := by have := Lib.indexByte_ge s 0; omega
theorem noZ_of {s : List UInt8} (h : Lib.indexByte s 0 = -1) : noZ s = true := by rw [noZ_ixb, h]; rfl
theorem noZ_not {s : List UInt8} (h : Lib.indexByte s 0 ≠ -1) : noZ s = false := by rw [noZ_ixb]; simp [h]
def S9 (x : List UInt8 × Bool) : St := a60S0 (.str x.1) (.bool x.2) []
def m9 (x : List UInt8 × Bool) : Nat := x.1.length + (if x.2 = true then 1 else 0)
def R9 (s : List UInt8) (x : List UInt8 × Bool) : Prop := x.1.length ≤ 200 ∧ (x.2 = true → pathD s = (comps x.1).all okC) ∧ (x.2 = false → pathD s = true)
set_option maxRecDepth 20000 in
theorem runs_path (s : List UInt8) : Runs T57 a60 [.str s] (pathB s) := by
  refine ⟨?_⟩
  by_cases h1 : s.length < 1
  · have h1' : (s.length : Int) < 1 := by omega
    have hp : pathD s = false := by simp [pathD]; omega
    simp (disch := first | omega | (simp [-List.map_take, -List.map_drop, -List.map_set, -List.map_append, -List.drop_one] <;> omega) | fail) [-List.map_take, -List.map_drop, -List.map_set, -List.map_append, -List.drop_one, a60, h1', pathB, hp]
  have h1' : ¬ (s.length : Int) < 1 := by omega
  by_cases h2 : 200 < s.length
  · have h2' : (200 : Int) < s.length := by omega
    have hp : pathD s = false := by simp [pathD]; omega
    simp (disch := first | omega | (simp [-List.map_take, -List.map_drop, -List.map_set, -List.map_append, -List.drop_one] <;> omega) | fail) [-List.map_take, -List.map_drop, -List.map_set, -List.map_append, -List.drop_one, a60, h1', h2', pathB, hp]
  have h2' : ¬ (200 : Int) < s.length := by omega
  by_cases h3 : Lib.indexByte s 0 = -1
  case neg =>
    have h3' := ix0_ge h3
    have hp : pathD s = false := by simp [pathD, noZ_not h3]
    simp (disch := first | omega | (simp [-List.map_take, -List.map_drop, -List.map_set, -List.map_append, -List.drop_one] <;> omega) | fail) [-List.map_take, -List.map_drop, -List.map_set, -List.map_append, -List.drop_one, a60, h1', h2', T57_ixb, ixD0, h3', pathB, hp]
  have hp : pathD s = (comps s).all okC := by
    have g1 : 1 ≤ s.length := by omega
    have g2 : s.length ≤ 200 := by omega
    simp only [pathD, g1, g2, noZ_of h3, decide_true, Bool.true_and]
  simp (disch := first | omega | (simp [-List.map_take, -List.map_drop, -List.map_set, -List.map_append, -List.drop_one] <;> omega) | fail) [-List.map_take, -List.map_drop, -List.map_set, -List.map_append, -List.drop_one, a60, h1', h2', T57_ixb, ixD0, h3]
  refine W_loop S9 m9 (R9 s) (s, true) (weak_same (by simp (disch := first | omega | (simp [-List.map_take, -List.map_drop, -List.map_set, -List.map_append, -List.drop_one] <;> omega) | fail) [-List.map_take, -List.map_drop, -List.map_set, -List.map_append, -List.drop_one]) (by simp (disch := first | omega | (simp [-List.map_take, -List.map_drop, -List.map_set, -List.map_append, -List.drop_one] <;> omega) | fail) [-List.map_take, -List.map_drop, -List.map_set, -List.map_append, -List.drop_one])) ⟨by show s.length ≤ 200; omega, fun _ => hp, by simp⟩ (fun x hx => ?_)
  obtain ⟨r, more⟩ := x
  obtain ⟨hr, ha, hb⟩ := hx
  simp only at hr ha hb
  simp (disch := first | omega | (simp [-List.map_take, -List.map_drop, -List.map_set, -List.map_append, -List.drop_one] <;> omega) | fail) [-List.map_take, -List.map_drop, -List.map_set, -List.map_append, -List.drop_one, a60L0, a60S0, S9]
  cases more with
  | false =>
    have hb := hb rfl
    simp (disch := first | omega | (simp [-List.map_take, -List.map_drop, -List.map_set, -List.map_append, -List.drop_one] <;> omega) | fail) [-List.map_take, -List.map_drop, -List.map_set, -List.map_append, -List.drop_one, pathB, hb]
  | true =>
    have ha := ha rfl
    have hc := cS1b_eq (g := cutR) (s := r) (c := 47) (by omega)
    by_cases hi : Lib.indexByte r 47 = -1
    · rw [cutR, if_pos hi] at hc
      rw [comps_none hi] at ha
      by_cases e1 : r = []
      · have hq : pathD s = false := by rw [ha, e1]; rfl
        subst e1
        simp (disch := first | omega | (simp [-List.map_take, -List.map_drop, -List.map_set, -List.map_append, -List.drop_one] <;> omega) | fail) [-List.map_take, -List.map_drop, -List.map_set, -List.map_append, -List.drop_one, T57_cut, hc, pathB, hq]
      · by_cases e2 : r = [46]
        · have hq : pathD s = false := by rw [ha, e2]; rfl
          subst e2
          simp (disch := first | omega | (simp [-List.map_take, -List.map_drop, -List.map_set, -List.map_append, -List.drop_one] <;> omega) | fail) [-List.map_take, -List.map_drop, -List.map_set, -List.map_append, -List.drop_one, T57_cut, hc, pathB, hq]
        · by_cases e3 : r = [46, 46]
          · have hq : pathD s = false := by rw [ha, e3]; rfl
            subst e3
            simp (disch := first | omega | (simp [-List.map_take, -List.map_drop, -List.map_set, -List.map_append, -List.drop_one] <;> omega) | fail) [-List.map_take, -List.map_drop, -List.map_set, -List.map_append, -List.drop_one, T57_cut, hc, pathB, hq]
          · have hq : pathD s = true := by rw [ha]; simp [okC, e1, e2, e3]
            simp (disch := first | omega | (simp [-List.map_take, -List.map_drop, -List.map_set, -List.map_append, -List.drop_one] <;> omega) | fail) [-List.map_take, -List.map_drop, -List.map_set, -List.map_append, -List.drop_one, T57_cut, hc, e1, e2, e3]
            exact ⟨[], .inl ⟨weak_same (by simp (disch := first | omega | (simp [-List.map_take, -List.map_drop, -List.map_set, -List.map_append, -List.drop_one] <;> omega) | fail) [-List.map_take, -List.map_drop, -List.map_set, -List.map_append, -List.drop_one]) (by simp (disch := first | omega | (simp [-List.map_take, -List.map_drop, -List.map_set, -List.map_append, -List.drop_one] <;> omega) | fail) [-List.map_take, -List.map_drop, -List.map_set, -List.map_append, -List.drop_one]), by simp [m9], by simp [R9, hq]⟩⟩
    · obtain ⟨o, ho⟩ : ∃ o : Nat, Lib.indexByte r 47 = o := ⟨(Lib.indexByte r 47).toNat, by have := Lib.indexByte_ge r 47; omega⟩
      have hlt := ixb_lt ho
      rw [cutR, if_neg hi, ho] at hc
      rw [comps_some ho] at ha
      simp only [Int.toNat_natCast] at hc
      obtain ⟨y, hy⟩ : ∃ y, r.take o = y := ⟨_, rfl⟩
      rw [hy] at hc ha
      by_cases e1 : y = []
      · have hq : pathD s = false := by rw [ha, e1]; rfl
        subst e1
        simp (disch := first | omega | (simp [-List.map_take, -List.map_drop, -List.map_set, -List.map_append, -List.drop_one] <;> omega) | fail) [-List.map_take, -List.map_drop, -List.map_set, -List.map_append, -List.drop_one, T57_cut, hc, pathB, hq]
      · by_cases e2 : y = [46]
        · have hq : pathD s = false := by rw [ha, e2]; rfl
          subst e2
          simp (disch := first | omega | (simp [-List.map_take, -List.map_drop, -List.map_set, -List.map_append, -List.drop_one] <;> omega) | fail) [-List.map_take, -List.map_drop, -List.map_set, -List.map_append, -List.drop_one, T57_cut, hc, pathB, hq]
        · by_cases e3 : y = [46, 46]
          · have hq : pathD s = false := by rw [ha, e3]; rfl
            subst e3
            simp (disch := first | omega | (simp [-List.map_take, -List.map_drop, -List.map_set, -List.map_append, -List.drop_one] <;> omega) | fail) [-List.map_take, -List.map_drop, -List.map_set, -List.map_append, -List.drop_one, T57_cut, hc, pathB, hq]
          · have hq : pathD s = (comps (r.drop (o + 1))).all okC := by rw [ha]; simp [okC, e1, e2, e3]
            simp (disch := first | omega | (simp [-List.map_take, -List.map_drop, -List.map_set, -List.map_append, -List.drop_one] <;> omega) | fail) [-List.map_take, -List.map_drop, -List.map_set, -List.map_append, -List.drop_one, T57_cut, hc, e1, e2, e3]
            exact ⟨r.drop (o + 1), .inr ⟨weak_same (by simp (disch := first | omega | (simp [-List.map_take, -List.map_drop, -List.map_set, -List.map_append, -List.drop_one] <;> omega) | fail) [-List.map_take, -List.map_drop, -List.map_set, -List.map_append, -List.drop_one]) (by simp (disch := first | omega | (simp [-List.map_take, -List.map_drop, -List.map_set, -List.map_append, -List.drop_one] <;> omega) | fail) [-List.map_take, -List.map_drop, -List.map_set, -List.map_append, -List.drop_one]), by simp [m9]; omega, by simp only [List.length_drop]; omega, fun _ => hq, by simp⟩⟩
end Go.Proofs.YtjhakjeioppijaaDoor
set_option linter.unusedSimpArgs false
set_option linter.unusedVariables false
namespace Go.Proofs.YtjhakjeioppijaaDoor
open Go Go.Am
def a122 : AFn where
  code := (.seq (.region false [⟨none, (some 4), .mov (.k (.int .i64 0))⟩])
  (.seq (.region false [⟨none, (some 5), .mov (.t 0)⟩,
    ⟨none, (some 6), .mov (.t 1)⟩,
    ⟨none, (some 7), .call (.k (.fn (.func 119) [] [])) [(.t 5), (.t 6)]⟩,
    ⟨none, (some 4), .mov (.t 7)⟩])
  .ret))
  ntmps := 8
  res := [.tmp 4]
theorem a122_ok : compileFn P Tryd.f122 = some a122 := by kernel_rfl
def a121L0 : ACode :=
  (.block 1 (.seq (.region false [⟨none, (some 20), .mov (.t 0)⟩,
    ⟨none, (some 21), .mov (.t 1)⟩,
    ⟨none, (some 22), .call (.k (.fn (.func 122) [] [])) [(.t 20), (.t 21)]⟩,
    ⟨none, (some 6), .mov (.t 22)⟩])
  (.seq (.seq (.region false [⟨none, (some 23), .mov (.t 6)⟩,
    ⟨none, (some 24), .bin .eql (.t 23) (.k (.int .i64 (-1)))⟩])
  (.cond (.t 24) (.seq (.region false [⟨none, (some 25), .mov (.t 5)⟩,
    ⟨none, (some 4), .mov (.t 25)⟩])
  .ret)
  .skip))
  (.seq (.region false [⟨none, (some 26), .mov (.t 5)⟩,
    ⟨none, (some 27), .bin .add (.t 26) (.k (.int .i64 1))⟩,
    ⟨none, (some 5), .mov (.t 27)⟩])
  (.region false [⟨none, (some 28), .mov (.t 0)⟩,
    ⟨none, (some 29), .mov (.t 6)⟩,
    ⟨none, (some 30), .mov (.t 1)⟩,
    ⟨none, (some 31), .lenStr (.t 30)⟩,
    ⟨none, (some 32), .bin .add (.t 29) (.t 31)⟩,
    ⟨none, (some 33), .slcStr (.t 28) (some (.t 32)) none⟩,
    ⟨none, (some 0), .mov (.t 33)⟩])))))
def a121 : AFn where
  code := (.seq (.region false [⟨none, (some 4), .mov (.k (.int .i64 0))⟩])
  (.seq (.seq (.region false [⟨none, (some 7), .mov (.t 1)⟩,
    ⟨none, (some 8), .lenStr (.t 7)⟩,
    ⟨none, (some 9), .bin .eql (.t 8) (.k (.int .i64 0))⟩])
  (.cond (.t 9) (.seq (.region false [⟨none, (some 10), .mov (.t 0)⟩,
    ⟨none, (some 11), .call (.k (.fn (.func 127) [] [])) [(.t 10)]⟩,
    ⟨none, (some 12), .bin .add (.t 11) (.k (.int .i64 1))⟩,
    ⟨none, (some 4), .mov (.t 12)⟩])
  .ret)
  .skip))
  (.seq (.seq (.region false [⟨none, (some 13), .mov (.t 1)⟩,
    ⟨none, (some 14), .lenStr (.t 13)⟩,
    ⟨none, (some 15), .bin .eql (.t 14) (.k (.int .i64 1))⟩])
  (.cond (.t 15) (.seq (.region false [⟨none, (some 16), .mov (.t 0)⟩,
    ⟨none, (some 17), .mov (.t 1)⟩,
    ⟨none, (some 18), .idxStr (.t 17) (.k (.int .i64 0))⟩,
    ⟨none, (some 19), .call (.k (.fn (.func 129) [] [])) [(.t 16), (.t 18)]⟩,
    ⟨none, (some 4), .mov (.t 19)⟩])
  .ret)
  .skip))
  (.seq (.region false [⟨none, (some 5), .mov (.k (.int .i64 0))⟩])
  (.block 0 (.loop a121L0))))))
  ntmps := 34
  res := [.tmp 4]
theorem a121_ok : compileFn P Tryd.f121 = some a121 := by kernel_rfl
def a115L0 : ACode :=
  (.seq (.seq (.region false [⟨none, (some 34), .mov (.t 10)⟩,
    ⟨none, (some 35), .mov (.t 3)⟩,
    ⟨none, (some 36), .bin .lss (.t 34) (.t 35)⟩])
  (.cond (.t 36) .skip
  (.exit 0)))
  (.block 1 (.seq (.region false [⟨none, (some 37), .mov (.t 0)⟩,
    ⟨none, (some 38), .mov (.t 1)⟩,
    ⟨none, (some 39), .call (.k (.fn (.func 122) [] [])) [(.t 37), (.t 38)]⟩,
    ⟨none, (some 11), .mov (.t 39)⟩])
  (.seq (.seq (.region false [⟨none, (some 40), .mov (.t 11)⟩,
    ⟨none, (some 41), .bin .lss (.t 40) (.k (.int .i64 0))⟩])
  (.cond (.t 41) (.exit 0)
  .skip))
  (.seq (.region false [⟨none, (some 42), .mov (.t 9)⟩,
    ⟨none, (some 43), .mov (.t 10)⟩,
    ⟨none, (some 44), .mov (.t 0)⟩,
    ⟨none, (some 45), .mov (.t 11)⟩,
    ⟨none, (some 46), .mov (.t 2)⟩,
    ⟨none, (some 47), .bin .add (.t 45) (.t 46)⟩,
    ⟨none, (some 48), .slcStr (.t 44) none (some (.t 47))⟩,
    ⟨none, (some 49), .idxS 1 (.t 42) (.t 43)⟩,
    ⟨none, none, .store 1 (.t 49) (.t 48)⟩])
  (.seq (.region false [⟨none, (some 50), .mov (.t 0)⟩,
    ⟨none, (some 51), .mov (.t 11)⟩,
    ⟨none, (some 52), .mov (.t 1)⟩,
    ⟨none, (some 53), .lenStr (.t 52)⟩,
    ⟨none, (some 54), .bin .add (.t 51) (.t 53)⟩,
    ⟨none, (some 55), .slcStr (.t 50) (some (.t 54)) none⟩,
    ⟨none, (some 0), .mov (.t 55)⟩])
  (.region false [⟨none, (some 56), .mov (.t 10)⟩,
    ⟨none, (some 57), .bin .add (.t 56) (.k (.int .i64 1))⟩,
    ⟨none, (some 10), .mov (.t 57)⟩])))))))
def a115S0 (x0 x1 x2 x3 x9 x10 : DV) (h : List AObj) : St := ⟨[x0, x1, x2, x3] ++ js 5 ++ [x9, x10] ++ js 55, h⟩
def a115 : AFn where
  code := (.seq (.region false [⟨none, (some 8), .mov (.k .nils)⟩])
  (.seq (.seq (.region false [⟨none, (some 12), .mov (.t 3)⟩,
    ⟨none, (some 13), .bin .eql (.t 12) (.k (.int .i64 0))⟩])
  (.cond (.t 13) (.seq (.region false [⟨none, (some 8), .mov (.k .nils)⟩])
  .ret)
  .skip))
  (.seq (.seq (.region false [⟨none, (some 14), .mov (.t 1)⟩,
    ⟨none, (some 15), .bin .eql (.t 14) (.k (.str []))⟩])
  (.cond (.t 15) (.seq (.region false [⟨none, (some 16), .mov (.t 0)⟩,
    ⟨none, (some 17), .mov (.t 3)⟩,
    ⟨none, (some 18), .call (.k (.fn (.func 120) [] [])) [(.t 16), (.t 17)]⟩,
    ⟨none, (some 8), .mov (.t 18)⟩])
  .ret)
  .skip))
  (.seq (.seq (.region false [⟨none, (some 19), .mov (.t 3)⟩,
    ⟨none, (some 20), .bin .lss (.t 19) (.k (.int .i64 0))⟩])
  (.cond (.t 20) (.region false [⟨none, (some 21), .mov (.t 0)⟩,
    ⟨none, (some 22), .mov (.t 1)⟩,
    ⟨none, (some 23), .call (.k (.fn (.func 121) [] [])) [(.t 21), (.t 22)]⟩,
    ⟨none, (some 24), .bin .add (.t 23) (.k (.int .i64 1))⟩,
    ⟨none, (some 3), .mov (.t 24)⟩])
  .skip))
  (.seq (.region false [⟨none, (some 25), .mov (.t 3)⟩,
    ⟨none, (some 26), .mov (.t 0)⟩,
    ⟨none, (some 27), .lenStr (.t 26)⟩,
    ⟨none, (some 28), .bin .add (.t 27) (.k (.int .i64 1))⟩,
    ⟨none, (some 29), .mm false [(.t 25), (.t 28)]⟩,
    ⟨none, (some 3), .mov (.t 29)⟩])
  (.seq (.region false [⟨none, (some 30), .mov (.t 3)⟩,
    ⟨none, (some 31), .mks 1 16 [(.str [])] (.t 30) (.t 30)⟩,
    ⟨none, (some 9), .mov (.t 31)⟩])
  (.seq (.region false [⟨none, (some 32), .mov (.t 3)⟩,
    ⟨none, (some 33), .bin .sub (.t 32) (.k (.int .i64 1))⟩,
    ⟨none, (some 3), .mov (.t 33)⟩])
  (.seq (.region false [⟨none, (some 10), .mov (.k (.int .i64 0))⟩])
  (.seq (.block 0 (.loop a115L0))
  (.seq (.region false [⟨none, (some 58), .mov (.t 9)⟩,
    ⟨none, (some 59), .mov (.t 10)⟩,
    ⟨none, (some 60), .mov (.t 0)⟩,
    ⟨none, (some 61), .idxS 1 (.t 58) (.t 59)⟩,
    ⟨none, none, .store 1 (.t 61) (.t 60)⟩])
  (.seq (.region false [⟨none, (some 62), .mov (.t 9)⟩,
    ⟨none, (some 63), .mov (.t 10)⟩,
    ⟨none, (some 64), .bin .add (.t 63) (.k (.int .i64 1))⟩,
    ⟨none, (some 65), .slcS 1 (.t 62) none (some (.t 64)) none⟩,
    ⟨none, (some 8), .mov (.t 65)⟩])
  .ret)))))))))))
  ntmps := 66
  res := [.tmp 8]
theorem a115_ok : compileFn P Tryd.f115 = some a115 := by kernel_rfl
def a104 : AFn where
  code := (.seq (.region false [⟨none, (some 4), .mov (.k .nils)⟩])
  (.seq (.region false [⟨none, (some 5), .mov (.t 0)⟩,
    ⟨none, (some 6), .mov (.t 1)⟩,
    ⟨none, (some 7), .call (.k (.fn (.func 115) [] [])) [(.t 5), (.t 6), (.k (.int .i64 0)), (.k (.int .i64 (-1)))]⟩,
    ⟨none, (some 4), .mov (.t 7)⟩])
  .ret))
  ntmps := 8
  res := [.tmp 4]
theorem a104_ok : compileFn P Tryd.f104 = some a104 := by kernel_rfl
def a62L0 : ACode :=
  (.seq (.seq (.region false [⟨none, (some 13), .mov (.t 3)⟩,
    ⟨none, (some 14), .mov (.t 0)⟩,
    ⟨none, (some 15), .lenStr (.t 14)⟩,
    ⟨none, (some 16), .bin .lss (.t 13) (.t 15)⟩])
  (.cond (.t 16) .skip
  (.exit 0)))
  (.seq (.block 1 (.seq (.region false [⟨none, (some 19), .mov (.t 0)⟩,
    ⟨none, (some 20), .mov (.t 3)⟩,
    ⟨none, (some 21), .idxStr (.t 19) (.t 20)⟩,
    ⟨none, (some 22), .bin .eql (.t 21) (.k (w8 0#8))⟩])
  (.cond (.t 22) (.seq (.region false [⟨none, (some 2), .mov (.k (.bool false))⟩])
  .ret)
  .skip)))
  (.region false [⟨none, (some 17), .mov (.t 3)⟩,
    ⟨none, (some 18), .bin .add (.t 17) (.k (.int .i64 1))⟩,
    ⟨none, (some 3), .mov (.t 18)⟩])))
def a62S0 (x0 x3 : DV) (h : List AObj) : St := ⟨[x0, .junk, .junk, x3] ++ js 46, h⟩
def a62L1 : ACode :=
  (.seq (.seq (.region false [⟨none, (some 25), .mov (.t 5)⟩,
    ⟨none, (some 26), .mov (.t 4)⟩,
    ⟨none, (some 27), .len (.t 26)⟩,
    ⟨none, (some 28), .bin .lss (.t 25) (.t 27)⟩])
  (.cond (.t 28) .skip
  (.exit 2)))
  (.seq (.block 3 (.seq (.region false [⟨none, (some 31), .mov (.t 4)⟩,
    ⟨none, (some 32), .mov (.t 5)⟩,
    ⟨none, (some 33), .idxS 1 (.t 31) (.t 32)⟩,
    ⟨none, (some 34), .load 1 false (.t 33)⟩,
    ⟨none, (some 35), .bin .eql (.t 34) (.k (.str []))⟩,
    ⟨none, (some 36), .mov (.t 35)⟩,
    ⟨(some (36, false)), (some 37), .mov (.t 4)⟩,
    ⟨(some (36, false)), (some 38), .mov (.t 5)⟩,
    ⟨(some (36, false)), (some 39), .idxS 1 (.t 37) (.t 38)⟩,
    ⟨(some (36, false)), (some 40), .load 1 false (.t 39)⟩,
    ⟨(some (36, false)), (some 41), .bin .eql (.t 40) (.k (.str [46]))⟩,
    ⟨none, (some 42), .pick (.t 36) (.k (.bool true)) (.t 41)⟩,
    ⟨none, (some 43), .mov (.t 42)⟩,
    ⟨(some (43, false)), (some 44), .mov (.t 4)⟩,
    ⟨(some (43, false)), (some 45), .mov (.t 5)⟩,
    ⟨(some (43, false)), (some 46), .idxS 1 (.t 44) (.t 45)⟩,
    ⟨(some (43, false)), (some 47), .load 1 false (.t 46)⟩,
    ⟨(some (43, false)), (some 48), .bin .eql (.t 47) (.k (.str [46, 46]))⟩,
    ⟨none, (some 49), .pick (.t 43) (.k (.bool true)) (.t 48)⟩])
  (.cond (.t 49) (.seq (.region false [⟨none, (some 2), .mov (.k (.bool false))⟩])
  .ret)
  .skip)))
  (.region false [⟨none, (some 29), .mov (.t 5)⟩,
    ⟨none, (some 30), .bin .add (.t 29) (.k (.int .i64 1))⟩,
    ⟨none, (some 5), .mov (.t 30)⟩])))
def a62S1 (x4 x5 : DV) (h : List AObj) : St := ⟨js 4 ++ [x4, x5] ++ js 44, h⟩
def a62 : AFn where
  code := (.seq (.region false [⟨none, (some 2), .mov (.k (.bool false))⟩])
  (.seq (.seq (.region false [⟨none, (some 6), .mov (.t 0)⟩,
    ⟨none, (some 7), .bin .eql (.t 6) (.k (.str []))⟩,
    ⟨none, (some 8), .mov (.t 7)⟩,
    ⟨(some (8, false)), (some 9), .mov (.t 0)⟩,
    ⟨(some (8, false)), (some 10), .lenStr (.t 9)⟩,
    ⟨(some (8, false)), (some 11), .bin .gtr (.t 10) (.k (.int .i64 200))⟩,
    ⟨none, (some 12), .pick (.t 8) (.k (.bool true)) (.t 11)⟩])
  (.cond (.t 12) (.seq (.region false [⟨none, (some 2), .mov (.k (.bool false))⟩])
  .ret)
  .skip))
  (.seq (.seq (.region false [⟨none, (some 3), .mov (.k (.int .i64 0))⟩])
  (.block 0 (.loop a62L0)))
  (.seq (.region false [⟨none, (some 23), .mov (.t 0)⟩,
    ⟨none, (some 24), .call (.k (.fn (.func 104) [] [])) [(.t 23), (.k (.str [47]))]⟩,
    ⟨none, (some 4), .mov (.t 24)⟩])
  (.seq (.seq (.region false [⟨none, (some 5), .mov (.k (.int .i64 0))⟩])
  (.block 2 (.loop a62L1)))
  (.seq (.region false [⟨none, (some 2), .mov (.k (.bool true))⟩])
  .ret))))))
  ntmps := 50
  res := [.tmp 2]
theorem a62_ok : compileFn P Tryd.f62 = some a62 := by kernel_rfl
end Go.Proofs.YtjhakjeioppijaaDoor
set_option linter.unusedSimpArgs false
set_option linter.unusedVariables false
namespace Go.Proofs.YtjhakjeioppijaaDoor
open Go Go.Am
theorem runs_index (s : List UInt8) (c : UInt8) : Runs T52 a122 [.str s, .str [c]] (ix1 s c) := by
  refine ⟨?_⟩
  simp (disch := first | omega | (simp [-List.map_take, -List.map_drop, -List.map_set, -List.map_append, -List.drop_one] <;> omega) | fail) [-List.map_take, -List.map_drop, -List.map_set, -List.map_append, -List.drop_one, a122, T52_ix, cS1_eq, ix1]
def iV : DV → Option Int
  | .int .i64 n => some n
  | _ => none
def mm2 (m : Bool) (x y : DV) : Option DV := (iV x).bind fun a => (iV y).bind fun b => some (.int .i64 (if m then max a b else min a b))
theorem mm2_min {a b : Int} : mm2 false (.int .i64 a) (.int .i64 b) = some (.int .i64 (min a b)) := rfl
theorem E_mm2 {T : Tbl} {dr m : Bool} {x y : Opd} {t : List DV} {h : List AObj} : evAll T dr (.mm m [x, y]) t h = pr (mm2 m (ev t x) (ev t y)) h := by
  simp only [evAll, evOp]
  refine (congrArg (fun q => Option.bind q _) (mapAll_congr (g := fun z => iV (ev t z)) fun z _ => ?_)).trans ?_
  · generalize ev t z = d
    cases d with
    | int k n => cases k <;> rfl
    | _ => rfl
  · simp only [mapAll, mm2]
    cases iV (ev t x) <;> cases iV (ev t y) <;> rfl
def cnD (s : List UInt8) (c : B8) : DV := .int .i64 (Lib.countByte s c.toNat.toUInt8)
def cn1 (s : List UInt8) (c : UInt8) : DV := .int .i64 (Lib.countByte s c)
def T70 : Tbl := addT 129 (.pure (cSB cnD)) tbl0
theorem T70_cn : T70 129 = .pure (cSB cnD) := by simp [T70]
theorem T70_sound : T70.Sound P := addT_sound (cSB_sound fun s c => sem_count Tryd.func129 (by kernel_rfl) (by kernel_rfl) (by kernel_rfl) (by kernel_rfl) s c) tbl0_sound
theorem runs_count (s : List UInt8) (c : UInt8) : Runs T70 a121 [.str s, .str [c]] (cn1 s c) := by
  refine ⟨?_⟩
  simp (disch := first | omega | (simp [-List.map_take, -List.map_drop, -List.map_set, -List.map_append, -List.drop_one] <;> omega) | fail) [-List.map_take, -List.map_drop, -List.map_set, -List.map_append, -List.drop_one, a121, T70_cn, cSB_eq, cnD, cn1, u8_nat]
def T71 : Tbl := addT 121 (.pure (cS1 cn1)) (addT 122 (.pure (cS1 ix1)) tbl0)
theorem T71_cn : T71 121 = .pure (cS1 cn1) := by simp [T71]
theorem T71_ix : T71 122 = .pure (cS1 ix1) := by simp [T71]
theorem T71_sound : T71.Sound P := addT_sound (cS1_sound fun s c => sem_runs mix T70_sound Tryd.func121 a121_ok (runs_count s c)) (addT_sound (cS1_sound fun s c => sem_runs mix T52_sound Tryd.func122 a122_ok (runs_index s c)) tbl0_sound)
def strs (l : List (List UInt8)) : List DV := l.map DV.str
def splitD (s : List UInt8) : DV := .sl false 1 (comps s).length (strs (comps s))
def fillS (l : List (List UInt8)) (i : Nat) : List (List UInt8) := l.take i ++ List.replicate (l.length - i) []
theorem len_fillS {l : List (List UInt8)} {i : Nat} (h : i ≤ l.length) : (fillS l i).length = l.length := by simp [fillS]; omega
theorem fillS_set {l : List (List UInt8)} {i : Nat} (h : i < l.length) : (fillS l i).set i l[i] = fillS l (i + 1) := by
  unfold fillS
  have hl : (l.take i).length = i := List.length_take_of_le (by omega)
  rw [List.set_append_right _ _ (by omega), hl, Nat.sub_self, take_snoc h]
  obtain ⟨m, hm⟩ : ∃ m, l.length - i = m + 1 := ⟨l.length - i - 1, by omega⟩
  rw [hm, show l.length - (i + 1) = m by omega, List.replicate_succ, List.set_cons_zero, List.append_assoc]
  rfl
theorem fillS_all (l : List (List UInt8)) : fillS l l.length = l := by simp [fillS]
theorem rep_fillS (l : List (List UInt8)) : rep l.length (DV.str []) = strs (fillS l 0) := by simp [rep, fillS, strs]
theorem strs_set {l : List (List UInt8)} {i : Nat} {x : List UInt8} : (strs l).set i (.str x) = strs (l.set i x) := by simp [strs, List.map_set]
theorem len_strs (l : List (List UInt8)) : (strs l).length = l.length := by simp [strs]
theorem pure_strs : ∀ (l : List (List UInt8)), pureL (strs l) = true
  | [] => rfl
  | x :: l => by
    have := pure_strs l
    simp only [strs, List.map_cons] at this ⊢
    simp [pureL, pureD, this]
theorem snap_strs (h : List AObj) (k : Nat) (l : List (List UInt8)) : snapL h k (strs l) = some (strs l) := snapL_clean (pure_strs l)
structure X94 where
  i : Nat
  r : List UInt8
def S94 (s : List UInt8) (x : X94) : St := a115S0 (.str x.r) (.str [47]) (.int .i64 0) (.int .i64 ((comps s).length - 1 : Int)) (.ms 0 (comps s).length 0 1 (comps s).length (comps s).length) (.int .i64 x.i) [.cells (strs (fillS (comps s) x.i))]
def R94 (s : List UInt8) (x : X94) : Prop := x.r.length ≤ s.length ∧ x.i < (comps s).length ∧ (comps s).drop x.i = comps x.r
theorem count_le (s : List UInt8) (c : UInt8) : Lib.countByte s c ≤ s.length := List.count_le_length
set_option maxRecDepth 20000 in
theorem runs_gensplit (s : List UInt8) (hs : s.length ≤ 100000) : Runs T71 a115 [.str s, .str [47], .int .i64 0, .int .i64 (-1)] (splitD s) := by
  refine ⟨?_⟩
  have hlc := len_comps s
  have hcl := count_le s 47
  obtain ⟨n, hn⟩ : ∃ n, (comps s).length = n := ⟨_, rfl⟩
  have hmin : min ((Lib.countByte s 47 : Int) + 1) ((s.length : Int) + 1) = n := by omega
  have hn1 : (Lib.countByte s 47 : Int) + 1 = n := by omega
  have hn2 : min (n : Int) ((s.length : Int) + 1) = n := by omega
  simp (disch := first | omega | (simp [-List.map_take, -List.map_drop, -List.map_set, -List.map_append, -List.drop_one] <;> omega) | fail) [-List.map_take, -List.map_drop, -List.map_set, -List.map_append, -List.drop_one, E_mm2, mm2_min, a115, T71_cn, cS1_eq, cn1, hn1, hn2]
  have hr0 := rep_fillS (comps s)
  rw [hn] at hr0
  refine W_loop (S94 s) (fun x => x.r.length) (R94 s) ⟨0, s⟩ (weak_same (by simp (disch := first | omega | (simp [-List.map_take, -List.map_drop, -List.map_set, -List.map_append, -List.drop_one] <;> omega) | fail) [-List.map_take, -List.map_drop, -List.map_set, -List.map_append, -List.drop_one, hn]) (by simp (disch := first | omega | (simp [-List.map_take, -List.map_drop, -List.map_set, -List.map_append, -List.drop_one] <;> omega) | fail) [-List.map_take, -List.map_drop, -List.map_set, -List.map_append, -List.drop_one, hr0])) ⟨Nat.le_refl _, by show 0 < (comps s).length; omega, rfl⟩ (fun x hx => ?_)
  obtain ⟨i, r⟩ := x
  have hx' := hx
  obtain ⟨hrl, hi, hd⟩ := hx'
  simp only at hrl hi hd
  have hle := len_fillS (l := comps s) (i := i) (by omega)
  have hls := len_strs (fillS (comps s) i)
  simp (disch := first | omega | (simp [-List.map_take, -List.map_drop, -List.map_set, -List.map_append, -List.drop_one] <;> omega) | fail) [-List.map_take, -List.map_drop, -List.map_set, -List.map_append, -List.drop_one, a115L0, a115S0, S94, hn]
  by_cases h : i + 1 < n
  · have h1 : (i : Int) < (n : Int) - 1 := by omega
    have hin : i < n := by omega
    have hlr : (comps r).length = n - i := by rw [← hd, List.length_drop, hn]
    by_cases hix : Lib.indexByte r 47 = -1
    · rw [comps_none hix] at hlr
      simp at hlr; omega
    · obtain ⟨o, ho⟩ : ∃ o : Nat, Lib.indexByte r 47 = o := ⟨(Lib.indexByte r 47).toNat, by have := Lib.indexByte_ge r 47; omega⟩
      have hlt := ixb_lt ho
      have hneg : ¬ (o : Int) < 0 := by omega
      have hol : (o : Int) ≤ r.length := by omega
      have hol1 : o ≤ r.length := by omega
      have hol2 : o + 1 ≤ r.length := by omega
      have hol3 : (o : Int) + 1 ≤ r.length := by omega
      have e1 : ((o : Int) + 1).toNat = o + 1 := by omega
      have ht : (r.drop (o + 1)).take (r.length - (o + 1)) = r.drop (o + 1) := List.take_of_length_le (by simp)
      have hcs := comps_some ho
      have hget : (comps s)[i]'(by omega) = r.take o := by
        have : (comps s)[i]? = some (r.take o) := by
          have := congrArg (·[0]?) hd
          simp only [List.getElem?_drop, Nat.add_zero, hcs] at this
          simpa using this
        exact (List.getElem?_eq_some_iff.1 this).2
      have hset : (strs (fillS (comps s) i)).set i (.str (r.take o)) = strs (fillS (comps s) (i + 1)) := by
        rw [strs_set, ← hget, fillS_set (by omega)]
      have hd2 : (comps s).drop (i + 1) = comps (r.drop (o + 1)) := by
        rw [← List.drop_drop, hd, hcs]; rfl
      simp (disch := first | omega | (simp [-List.map_take, -List.map_drop, -List.map_set, -List.map_append, -List.drop_one] <;> omega) | fail) [-List.map_take, -List.map_drop, -List.map_set, -List.map_append, -List.drop_one, h1, hin, T71_ix, cS1_eq, ix1, ho, hneg, hol, hol1, hol2, hol3, e1, ht, hls, hle, hn]
      exact ⟨⟨i + 1, r.drop (o + 1)⟩, weak_same (by simp (disch := first | omega | (simp [-List.map_take, -List.map_drop, -List.map_set, -List.map_append, -List.drop_one] <;> omega) | fail) [-List.map_take, -List.map_drop, -List.map_set, -List.map_append, -List.drop_one, hn]) (by simp (disch := first | omega | (simp [-List.map_take, -List.map_drop, -List.map_set, -List.map_append, -List.drop_one] <;> omega) | fail) [-List.map_take, -List.map_drop, -List.map_set, -List.map_append, -List.drop_one, hset]), by simp; omega, by simp only [List.length_drop]; omega, by show i + 1 < (comps s).length; omega, hd2⟩
  · have h1 : ¬ (i : Int) < (n : Int) - 1 := by omega
    have hin : i < n := by omega
    have hi1 : i + 1 = n := by omega
    have hi2 : (i : Int) + 1 = n := by omega
    have hlr : (comps r).length = 1 := by rw [← hd, List.length_drop]; omega
    have hcr : comps r = [r] := by
      by_cases hix : Lib.indexByte r 47 = -1
      · exact comps_none hix
      · obtain ⟨o, ho⟩ : ∃ o : Nat, Lib.indexByte r 47 = o := ⟨(Lib.indexByte r 47).toNat, by have := Lib.indexByte_ge r 47; omega⟩
        rw [comps_some ho] at hlr
        have := comps_ne (r.drop (o + 1))
        simp at hlr
        exact absurd hlr this
    have hget : (comps s)[i]'(by omega) = r := by
      have : (comps s)[i]? = some r := by
        have := congrArg (·[0]?) hd
        simp only [List.getElem?_drop, Nat.add_zero, hcr] at this
        simpa using this
      exact (List.getElem?_eq_some_iff.1 this).2
    have hset : (strs (fillS (comps s) i)).set i (.str r) = strs (comps s) := by
      rw [strs_set]
      conv => lhs; rw [← hget]
      rw [fillS_set (by omega), show i + 1 = (comps s).length by omega, fillS_all]
    have hlc2 := len_strs (comps s)
    have htk : (strs (comps s)).take n = strs (comps s) := List.take_of_length_le (by omega)
    simp (disch := first | omega | (simp [-List.map_take, -List.map_drop, -List.map_set, -List.map_append, -List.drop_one] <;> omega) | fail) [-List.map_take, -List.map_drop, -List.map_set, -List.map_append, -List.drop_one, h1, hin, hi2, hls, hle, hn, hset, splitD, hlc2, htk, snap_strs]
def cGS : List DV → Option DV
  | [.str s, .str [47], .int .i64 0, .int .i64 (-1)] => if s.length ≤ 100000 then some (splitD s) else none | _ => none
theorem cGS_eq {s : List UInt8} (h : s.length ≤ 100000) : cGS [.str s, .str [47], .int .i64 0, .int .i64 (-1)] = some (splitD s) := if_pos h
def T72 : Tbl := addT 115 (.pure cGS) tbl0
theorem T72_gs : T72 115 = .pure cGS := by simp [T72]
theorem T72_sound : T72.Sound P := by
  refine addT_sound (fun args v e => ?_) tbl0_sound
  unfold cGS at e
  split at e
  · split at e
    · rename_i hl; simp at e; subst e; exact sem_runs mix T71_sound Tryd.func115 a115_ok (runs_gensplit _ hl)
    · simp at e
  · simp at e
theorem runs_split (s : List UInt8) (hs : s.length ≤ 100000) : Runs T72 a104 [.str s, .str [47]] (splitD s) := by
  refine ⟨?_⟩
  simp (disch := first | omega | (simp [-List.map_take, -List.map_drop, -List.map_set, -List.map_append, -List.drop_one] <;> omega) | fail) [-List.map_take, -List.map_drop, -List.map_set, -List.map_append, -List.drop_one, a104, T72_gs, cGS_eq, hs, splitD, snap_strs]
def cSpl : List DV → Option DV
  | [.str s, .str [47]] => if s.length ≤ 100000 then some (splitD s) else none | _ => none
theorem cSpl_eq {s : List UInt8} (h : s.length ≤ 100000) : cSpl [.str s, .str [47]] = some (splitD s) := if_pos h
def T73 : Tbl := addT 104 (.pure cSpl) tbl0
theorem T73_spl : T73 104 = .pure cSpl := by simp [T73]
theorem T73_sound : T73.Sound P := by
  refine addT_sound (fun args v e => ?_) tbl0_sound
  unfold cSpl at e
  split at e
  · split at e
    · rename_i hl; simp at e; subst e; exact sem_runs mix T72_sound Tryd.func104 a104_ok (runs_split _ hl)
    · simp at e
  · simp at e
def S17a (s : List UInt8) (i : Nat) : St := a62S0 (.str s) (.int .i64 i) []
def S17b (s : List UInt8) (i : Nat) : St := a62S1 (splitD s) (.int .i64 i) []
def R17a (s : List UInt8) (i : Nat) : Prop := i ≤ s.length ∧ noZ (s.take i) = true
def R17b (s : List UInt8) (i : Nat) : Prop := i ≤ (comps s).length ∧ ((comps s).take i).all okC = true
theorem strs_get {l : List (List UInt8)} {i : Nat} (h : i < l.length) : one 1 false (((strs l).drop i).take 1) = some (.str l[i]) := one_take h (by decide)
theorem noZ_take {s : List UInt8} {i : Nat} (h : i < s.length) : noZ (s.take (i + 1)) = (noZ (s.take i) && s[i] != 0) := by
  rw [take_snoc h, noZ_app]; simp [noZ]
set_option maxRecDepth 20000 in
theorem runs_refpath (s : List UInt8) : Runs T73 a62 [.str s] (pathB s) := by
  refine ⟨?_⟩
  by_cases h1 : s = []
  · subst h1
    simp (disch := first | omega | (simp [-List.map_take, -List.map_drop, -List.map_set, -List.map_append, -List.drop_one] <;> omega) | fail) [-List.map_take, -List.map_drop, -List.map_set, -List.map_append, -List.drop_one, a62, pathB, show pathD [] = false from rfl]
  by_cases h2 : 200 < s.length
  · have h2' : (200 : Int) < s.length := by omega
    have hp : pathD s = false := by simp [pathD]; omega
    simp (disch := first | omega | (simp [-List.map_take, -List.map_drop, -List.map_set, -List.map_append, -List.drop_one] <;> omega) | fail) [-List.map_take, -List.map_drop, -List.map_set, -List.map_append, -List.drop_one, a62, h1, h2', pathB, hp]
  have h2' : ¬ (200 : Int) < s.length := by omega
  have h3 : 1 ≤ s.length := by have := List.length_pos_iff.2 h1; omega
  simp (disch := first | omega | (simp [-List.map_take, -List.map_drop, -List.map_set, -List.map_append, -List.drop_one] <;> omega) | fail) [-List.map_take, -List.map_drop, -List.map_set, -List.map_append, -List.drop_one, a62, h1, h2']
  refine W_loop (S17a s) (fun i => s.length - i) (R17a s) 0 (weak_same (by simp (disch := first | omega | (simp [-List.map_take, -List.map_drop, -List.map_set, -List.map_append, -List.drop_one] <;> omega) | fail) [-List.map_take, -List.map_drop, -List.map_set, -List.map_append, -List.drop_one]) (by simp (disch := first | omega | (simp [-List.map_take, -List.map_drop, -List.map_set, -List.map_append, -List.drop_one] <;> omega) | fail) [-List.map_take, -List.map_drop, -List.map_set, -List.map_append, -List.drop_one])) ⟨by omega, rfl⟩ (fun i hi => ?_)
  obtain ⟨hi1, hi2⟩ := hi
  simp (disch := first | omega | (simp [-List.map_take, -List.map_drop, -List.map_set, -List.map_append, -List.drop_one] <;> omega) | fail) [-List.map_take, -List.map_drop, -List.map_set, -List.map_append, -List.drop_one, a62L0, a62S0, S17a]
  by_cases h : i < s.length
  · have h4 : (i : Int) < s.length := by omega
    by_cases hz : s[i] = 0
    · have b1 : s[i].toBitVec = 0#8 := tb_eq.2 hz
      have hnz : noZ s = false := by
        rw [noZ, List.all_eq_false]
        exact ⟨s[i], List.getElem_mem h, by simp [hz]⟩
      have hp : pathD s = false := by simp [pathD, hnz]
      simp (disch := first | omega | (simp [-List.map_take, -List.map_drop, -List.map_set, -List.map_append, -List.drop_one] <;> omega) | fail) [-List.map_take, -List.map_drop, -List.map_set, -List.map_append, -List.drop_one, h, h4, b1, pathB, hp]
    · have b1 : ¬ s[i].toBitVec = 0#8 := fun e => hz (tb_eq.1 e)
      have b1q : (s[i].toBitVec == 0#8) = false := by simp [b1]
      simp (disch := first | omega | (simp [-List.map_take, -List.map_drop, -List.map_set, -List.map_append, -List.drop_one] <;> omega) | fail) [-List.map_take, -List.map_drop, -List.map_set, -List.map_append, -List.drop_one, h, h4, b1, b1q]
      exact ⟨i + 1, weak_same (by simp (disch := first | omega | (simp [-List.map_take, -List.map_drop, -List.map_set, -List.map_append, -List.drop_one] <;> omega) | fail) [-List.map_take, -List.map_drop, -List.map_set, -List.map_append, -List.drop_one]) (by simp (disch := first | omega | (simp [-List.map_take, -List.map_drop, -List.map_set, -List.map_append, -List.drop_one] <;> omega) | fail) [-List.map_take, -List.map_drop, -List.map_set, -List.map_append, -List.drop_one]), by omega, by omega, by rw [noZ_take h, hi2]; simp [hz]⟩
  · have h4 : ¬ (i : Int) < s.length := by omega
    obtain rfl : i = s.length := by omega
    rw [List.take_length] at hi2
    have hp : pathD s = (comps s).all okC := by
      simp only [pathD, h3, show s.length ≤ 200 by omega, hi2, decide_true, Bool.true_and]
    have hsp := cSpl_eq (s := s) (by omega)
    have hcl : (comps s).length ≤ 1000 := by have := len_comps s; have := count_le s 47; omega
    simp (disch := first | omega | (simp [-List.map_take, -List.map_drop, -List.map_set, -List.map_append, -List.drop_one] <;> omega) | fail) [-List.map_take, -List.map_drop, -List.map_set, -List.map_append, -List.drop_one, h4, T73_spl, hsp]
    refine W_loop (S17b s) (fun i => (comps s).length - i) (R17b s) 0 (weak_same (by simp (disch := first | omega | (simp [-List.map_take, -List.map_drop, -List.map_set, -List.map_append, -List.drop_one] <;> omega) | fail) [-List.map_take, -List.map_drop, -List.map_set, -List.map_append, -List.drop_one, splitD]) (by simp (disch := first | omega | (simp [-List.map_take, -List.map_drop, -List.map_set, -List.map_append, -List.drop_one] <;> omega) | fail) [-List.map_take, -List.map_drop, -List.map_set, -List.map_append, -List.drop_one])) ⟨by omega, rfl⟩ (fun i hi => ?_)
    obtain ⟨hj1, hj2⟩ := hi
    simp (disch := first | omega | (simp [-List.map_take, -List.map_drop, -List.map_set, -List.map_append, -List.drop_one] <;> omega) | fail) [-List.map_take, -List.map_drop, -List.map_set, -List.map_append, -List.drop_one, a62L1, a62S1, S17b, splitD]
    by_cases h5 : i < (comps s).length
    · have h6 : (i : Int) < (comps s).length := by omega
      have hg := strs_get h5
      obtain ⟨y, hy⟩ : ∃ y, (comps s)[i] = y := ⟨_, rfl⟩
      rw [hy] at hg
      have bad : okC y = false → pathD s = false := fun e => by
        rw [hp, List.all_eq_false]
        exact ⟨(comps s)[i], List.getElem_mem h5, by rw [hy, e]; simp⟩
      by_cases e1 : y = []
      · subst e1
        simp (disch := first | omega | (simp [-List.map_take, -List.map_drop, -List.map_set, -List.map_append, -List.drop_one] <;> omega) | fail) [-List.map_take, -List.map_drop, -List.map_set, -List.map_append, -List.drop_one, h5, h6, hg, pathB, bad rfl]
      · by_cases e2 : y = [46]
        · subst e2
          simp (disch := first | omega | (simp [-List.map_take, -List.map_drop, -List.map_set, -List.map_append, -List.drop_one] <;> omega) | fail) [-List.map_take, -List.map_drop, -List.map_set, -List.map_append, -List.drop_one, h5, h6, hg, pathB, bad rfl]
        · by_cases e3 : y = [46, 46]
          · subst e3
            simp (disch := first | omega | (simp [-List.map_take, -List.map_drop, -List.map_set, -List.map_append, -List.drop_one] <;> omega) | fail) [-List.map_take, -List.map_drop, -List.map_set, -List.map_append, -List.drop_one, h5, h6, hg, pathB, bad rfl]
          · simp (disch := first | omega | (simp [-List.map_take, -List.map_drop, -List.map_set, -List.map_append, -List.drop_one] <;> omega) | fail) [-List.map_take, -List.map_drop, -List.map_set, -List.map_append, -List.drop_one, h5, h6, hg, e1, e2, e3]
            refine ⟨i + 1, weak_same (by simp (disch := first | omega | (simp [-List.map_take, -List.map_drop, -List.map_set, -List.map_append, -List.drop_one] <;> omega) | fail) [-List.map_take, -List.map_drop, -List.map_set, -List.map_append, -List.drop_one, splitD]) (by simp (disch := first | omega | (simp [-List.map_take, -List.map_drop, -List.map_set, -List.map_append, -List.drop_one] <;> omega) | fail) [-List.map_take, -List.map_drop, -List.map_set, -List.map_append, -List.drop_one]), by omega, by omega, ?_⟩
            rw [take_snoc h5, List.all_append, hj2, hy]
            simp [okC, e1, e2, e3]
    · have h6 : ¬ (i : Int) < (comps s).length := by omega
      have : (comps s).take i = comps s := List.take_of_length_le (by omega)
      rw [this] at hj2
      have hq : pathD s = true := by rw [hp, hj2]
      simp (disch := first | omega | (simp [-List.map_take, -List.map_drop, -List.map_set, -List.map_append, -List.drop_one] <;> omega) | fail) [-List.map_take, -List.map_drop, -List.map_set, -List.map_append, -List.drop_one, h5, h6, pathB, hq]
end Go.Proofs.YtjhakjeioppijaaDoor
set_option linter.unusedSimpArgs false
set_option linter.unusedVariables false
namespace Go.Proofs.YtjhakjeioppijaaDoor
open Go Go.Am
open Classical in
noncomputable def tv (p : Prop) : Bool := decide p
theorem tv_true {p : Prop} (h : p) : tv p = true := by simp [tv, h]
theorem tv_false {p : Prop} (h : ¬ p) : tv p = false := by simp [tv, h]
theorem tv_iff {p q : Prop} (h : p ↔ q) : tv p = tv q := by rw [propext h]
def okCh (l : List Dg) : Prop := ∀ i (h : i < l.length), l[i] ≠ dg0 ∧ l[i] ∉ l.take i
structure ValidG (g : Grp) : Prop where
  ns : pathD g.ns = true
  im : pathD g.im = true
  w0 : 0 ≤ g.want
  w1 : g.want ≤ 8
  l0 : 0 ≤ g.least
  l1 : g.least ≤ g.want
  d0 : 0 ≤ g.down
  d1 : g.down ≤ g.want
  n : g.ch.l.length ≤ 6
  ch : okCh g.ch.l
def fitG (ns im : List UInt8) (g : Grp) : Bool := decide (g.ns = ns) && decide (g.im = im)
def grpIx (l : List Grp) (ns im : List UInt8) : Int := ixI (fitG ns im) l
def findIx (l : List Ins) (id : Int) : Int := ixI (fun x => decide (x.id = id)) l
abbrev timeOK (t : Int) : Prop := 0 ≤ t ∧ t ≤ 1099511627776
structure SoundI (n : Nat) (next : Int) (x : Ins) : Prop where
  id0 : 1 ≤ x.id
  id1 : x.id < next
  g0 : 0 ≤ x.grp
  g1 : x.grp < n
  art : x.art ≠ dg0
  s0 : 1 ≤ x.state
  s1 : x.state ≤ 3
  si : timeOK x.since
  de : x.den = -1 ∨ timeOK x.den
structure ValidC (c : Clu) : Prop where
  ng : c.g.l.length ≤ 16
  ni : c.i.l.length ≤ 200
  n0 : 1 ≤ c.next
  n1 : c.next ≤ 1099511627776
  g : ∀ i (h : i < c.g.l.length), ValidG c.g.l[i] ∧ grpIx c.g.l c.g.l[i].ns c.g.l[i].im = i
  i : ∀ i (h : i < c.i.l.length), SoundI c.g.l.length c.next c.i.l[i] ∧ (∀ h0 : 0 < i, c.i.l[i - 1].id < c.i.l[i].id)
def Sl.clone {α : Type} (x : Sl α) : Sl α := ⟨if x.l = [] then x.k.map fun _ => true else some false, x.l, fun e => by
  by_cases h : x.l = []
  · exact h
  · simp [h] at e, x.b⟩
def Sl.copy {α : Type} (x : Sl α) : Sl α := ⟨if x.l = [] then none else some false, x.l, fun e => by
  by_cases h : x.l = []
  · exact h
  · simp [h] at e, x.b⟩
def own {α : Type} (l : List α) : Sl α := if h : l.length ≤ 4294967296 then ⟨some false, l, by simp, h⟩ else ⟨none, [], fun _ => rfl, by simp⟩
theorem own_l {α : Type} {l : List α} (h : l.length ≤ 4294967296) : (own l).l = l := by rw [own, dif_pos h]
theorem own_dv {α : Type} {l : List α} {s : Nat} {f : α → List DV} (h : l.length ≤ 4294967296) : (own l).dv s f = .sl false s l.length (l.flatMap f) := by rw [own, dif_pos h]; rfl
def Grp.clone (g : Grp) : Grp := { g with ch := g.ch.clone }
def clu0 : Clu := ⟨⟨none, [], fun _ => rfl, by simp⟩, ⟨none, [], fun _ => rfl, by simp⟩, 0⟩
def Clu.clone (c : Clu) : Clu := ⟨⟨c.g.clone.k, c.g.l.map Grp.clone, fun e => by simp [show c.g.l = [] from c.g.clone.h e], by have := c.g.b; simpa using this⟩, c.i.clone, c.next⟩
def gl (g : Grp) : List UInt8 × List UInt8 × Int × Int × Int × List Dg := (g.ns, g.im, g.want, g.least, g.down, g.ch.l)
structure SameC (a b : Clu) : Prop where
  g : a.g.l.map gl = b.g.l.map gl
  i : a.i.l = b.i.l
  n : a.next = b.next
theorem SameC.refl (a : Clu) : SameC a a := ⟨rfl, rfl, rfl⟩
open Classical in
noncomputable def deployP (c : Clu) (g : Grp) : Clu × Int :=
  if ¬ ValidC c ∨ ¬ ValidG g then (clu0, 1)
  else if grpIx c.g.l g.ns g.im < 0 then
    (if 16 ≤ c.g.l.length then (clu0, 3) else (⟨own (c.g.l.map Grp.clone ++ [g.clone]), c.i.clone, c.next⟩, 0))
  else (⟨own ((c.g.l.map Grp.clone).set (grpIx c.g.l g.ns g.im).toNat g.clone), c.i.clone, c.next⟩, 0)
open Classical in
noncomputable def deployR (c : Clu) (g : Grp) : Clu × Int :=
  if ¬ ValidC c ∨ ¬ ValidG g then (clu0, 1)
  else if grpIx c.g.l g.ns g.im < 0 then
    (if 16 ≤ c.g.l.length then (clu0, 3) else (⟨own (c.g.l ++ [g]), c.i.copy, c.next⟩, 0))
  else (⟨own (c.g.l.set (grpIx c.g.l g.ns g.im).toNat g), c.i.copy, c.next⟩, 0)
def newI (c : Clu) (group : Int) (d : Dg) (t : Int) : Ins := ⟨c.next, group, d, 1, t, -1⟩
open Classical in
noncomputable def startP (c : Clu) (group : Int) (d : Dg) (t : Int) : Clu × Int × Int :=
  if ¬ ValidC c ∨ d = dg0 ∨ ¬ timeOK t then (clu0, 0, 1)
  else if group < 0 ∨ c.g.l.length ≤ group then (clu0, 0, 4)
  else if 200 ≤ c.i.l.length ∨ 1099511627776 ≤ c.next then (clu0, 0, 3)
  else (⟨c.clone.g, own (c.i.l ++ [newI c group d t]), c.next + 1⟩, c.next, 0)
open Classical in
noncomputable def startR (c : Clu) (group : Int) (d : Dg) (t : Int) : Clu × Int × Int :=
  if ¬ ValidC c ∨ d = dg0 ∨ ¬ timeOK t then (clu0, 0, 1)
  else if group < 0 ∨ c.g.l.length ≤ group then (clu0, 0, 4)
  else if 200 ≤ c.i.l.length ∨ 1099511627776 ≤ c.next then (clu0, 0, 3)
  else (⟨c.g.copy, own (c.i.l ++ [newI c group d t]), c.next + 1⟩, c.next, 0)
def may (to s : Int) : Bool := if to = 2 then decide (s = 1) else decide (s ≠ 3)
def Ins.st (x : Ins) (v : Int) : Ins := ⟨x.id, x.grp, x.art, v, x.since, x.den⟩
def Ins.si (x : Ins) (v : Int) : Ins := ⟨x.id, x.grp, x.art, x.state, v, x.den⟩
def Ins.de (x : Ins) (v : Int) : Ins := ⟨x.id, x.grp, x.art, x.state, x.since, v⟩
def setI (l : List Ins) (i : Nat) (to t : Int) : List Ins := match l[i]? with
  | some x => l.set i ((x.st to).si t)
  | none => l
open Classical in
noncomputable def changeP (c : Clu) (id t to : Int) : Clu × Int :=
  if ¬ ValidC c ∨ ¬ timeOK t then (clu0, 1)
  else if findIx c.i.l id < 0 then (clu0, 4)
  else if ((c.i.l[(findIx c.i.l id).toNat]?).map fun x => may to x.state) = some true then (⟨c.clone.g, own (setI c.i.l (findIx c.i.l id).toNat to t), c.next⟩, 0)
  else (clu0, 30)
end Go.Proofs.YtjhakjeioppijaaDoor
set_option linter.unusedSimpArgs false
set_option linter.unusedVariables false
namespace Go.Proofs.YtjhakjeioppijaaDoor
open Go Go.Am
def a103L0 : ACode :=
  (.seq (.region false [⟨none, (some 9), .bin .lss (.t 8) (.t 7)⟩])
  (.seq (.cond (.t 9) .skip
  (.exit 0))
  (.seq (.block 1 (.seq (.region false [⟨none, (some 10), .mov (.t 8)⟩,
    ⟨none, (some 5), .mov (.t 10)⟩])
  (.seq (.region true [⟨none, (some 11), .load 32 true (.t 3)⟩,
    ⟨none, (some 12), .mov (.t 0)⟩,
    ⟨none, (some 13), .mov (.t 5)⟩,
    ⟨none, (some 14), .idxS 32 (.t 12) (.t 13)⟩,
    ⟨none, (some 15), .load 32 true (.t 14)⟩,
    ⟨none, (some 16), .eqa false [(32, 0)] (.t 11) (.t 15)⟩])
  (.cond (.t 16) (.seq (.region false [⟨none, (some 17), .mov (.t 5)⟩,
    ⟨none, (some 4), .mov (.t 17)⟩])
  .ret)
  .skip))))
  (.region false [⟨none, (some 18), .bin .add (.t 8) (.k (.int .i64 1))⟩,
    ⟨none, (some 8), .mov (.t 18)⟩]))))
def a103S0 (x0 x3 x7 x8 : DV) (h : List AObj) : St := ⟨[x0, .junk, .junk, x3, .junk, .junk, .junk, x7, x8] ++ js 10, h⟩
def a103 : AFn where
  code := (.seq (.region false [⟨none, (some 3), .box (.t 1)⟩,
    ⟨none, (some 4), .mov (.k (.int .i64 0))⟩])
  (.seq (.seq (.region false [⟨none, (some 6), .mov (.t 0)⟩,
    ⟨none, (some 7), .len (.t 6)⟩,
    ⟨none, (some 8), .mov (.k (.int .i64 0))⟩])
  (.block 0 (.loop a103L0)))
  (.seq (.region false [⟨none, (some 4), .mov (.k (.int .i64 (-1)))⟩])
  .ret)))
  ntmps := 19
  res := [.tmp 4]
theorem a103_ok : compileFn P Tryd.f103 = some a103 := by kernel_rfl
def a61 : AFn where
  code := (.seq (.region false [⟨none, (some 3), .box (.t 1)⟩,
    ⟨none, (some 4), .mov (.k (.bool false))⟩])
  (.seq (.region false [⟨none, (some 5), .mov (.t 0)⟩,
    ⟨none, (some 6), .load 32 true (.t 3)⟩,
    ⟨none, (some 7), .call (.k (.fn (.func 103) [] [])) [(.t 5), (.t 6)]⟩,
    ⟨none, (some 8), .bin .geq (.t 7) (.k (.int .i64 0))⟩,
    ⟨none, (some 4), .mov (.t 8)⟩])
  .ret))
  ntmps := 9
  res := [.tmp 4]
theorem a61_ok : compileFn P Tryd.f61 = some a61 := by kernel_rfl
def a66L0 : ACode :=
  (.seq (.region false [⟨none, (some 9), .bin .lss (.t 8) (.t 7)⟩])
  (.seq (.cond (.t 9) .skip
  (.exit 0))
  (.seq (.block 1 (.seq (.region false [⟨none, (some 10), .mov (.t 8)⟩,
    ⟨none, (some 5), .mov (.t 10)⟩])
  (.seq (.region false [⟨none, (some 11), .mov (.t 1)⟩,
    ⟨none, (some 12), .mov (.t 0)⟩,
    ⟨none, (some 13), .mov (.t 5)⟩,
    ⟨none, (some 14), .idxS 6 (.t 12) (.t 13)⟩,
    ⟨none, (some 15), .load 6 true (.t 14)⟩,
    ⟨none, (some 16), .call (.t 11) [(.t 15)]⟩])
  (.cond (.t 16) (.seq (.region false [⟨none, (some 17), .mov (.t 5)⟩,
    ⟨none, (some 4), .mov (.t 17)⟩])
  .ret)
  .skip))))
  (.region false [⟨none, (some 18), .bin .add (.t 8) (.k (.int .i64 1))⟩,
    ⟨none, (some 8), .mov (.t 18)⟩]))))
def a66S0 (x0 x1 x7 x8 : DV) (h : List AObj) : St := ⟨[x0, x1] ++ js 5 ++ [x7, x8] ++ js 10, h⟩
def a66 : AFn where
  code := (.seq (.region false [⟨none, (some 4), .mov (.k (.int .i64 0))⟩])
  (.seq (.seq (.region false [⟨none, (some 6), .mov (.t 0)⟩,
    ⟨none, (some 7), .len (.t 6)⟩,
    ⟨none, (some 8), .mov (.k (.int .i64 0))⟩])
  (.block 0 (.loop a66L0)))
  (.seq (.region false [⟨none, (some 4), .mov (.k (.int .i64 (-1)))⟩])
  .ret)))
  ntmps := 19
  res := [.tmp 4]
theorem a66_ok : compileFn P Tryd.f66 = some a66 := by kernel_rfl
def a68L0 : ACode :=
  (.seq (.region false [⟨none, (some 9), .bin .lss (.t 8) (.t 7)⟩])
  (.seq (.cond (.t 9) .skip
  (.exit 0))
  (.seq (.block 1 (.seq (.region false [⟨none, (some 10), .mov (.t 8)⟩,
    ⟨none, (some 5), .mov (.t 10)⟩])
  (.seq (.region false [⟨none, (some 11), .mov (.t 1)⟩,
    ⟨none, (some 12), .mov (.t 0)⟩,
    ⟨none, (some 13), .mov (.t 5)⟩,
    ⟨none, (some 14), .idxS 37 (.t 12) (.t 13)⟩,
    ⟨none, (some 15), .load 37 true (.t 14)⟩,
    ⟨none, (some 16), .call (.t 11) [(.t 15)]⟩])
  (.cond (.t 16) (.seq (.region false [⟨none, (some 17), .mov (.t 5)⟩,
    ⟨none, (some 4), .mov (.t 17)⟩])
  .ret)
  .skip))))
  (.region false [⟨none, (some 18), .bin .add (.t 8) (.k (.int .i64 1))⟩,
    ⟨none, (some 8), .mov (.t 18)⟩]))))
def a68S0 (x0 x1 x7 x8 : DV) (h : List AObj) : St := ⟨[x0, x1] ++ js 5 ++ [x7, x8] ++ js 10, h⟩
def a68 : AFn where
  code := (.seq (.region false [⟨none, (some 4), .mov (.k (.int .i64 0))⟩])
  (.seq (.seq (.region false [⟨none, (some 6), .mov (.t 0)⟩,
    ⟨none, (some 7), .len (.t 6)⟩,
    ⟨none, (some 8), .mov (.k (.int .i64 0))⟩])
  (.block 0 (.loop a68L0)))
  (.seq (.region false [⟨none, (some 4), .mov (.k (.int .i64 (-1)))⟩])
  .ret)))
  ntmps := 19
  res := [.tmp 4]
theorem a68_ok : compileFn P Tryd.f68 = some a68 := by kernel_rfl
def a67 : AFn where
  code := (.seq (.region false [⟨none, (some 3), .box (.t 0)⟩,
    ⟨none, (some 4), .mov (.k (.bool false))⟩])
  (.seq (.region false [⟨none, (some 5), .fld 0 (.t 3)⟩,
    ⟨none, (some 6), .load 1 false (.t 5)⟩,
    ⟨none, (some 7), .load 1 false (.t 1)⟩,
    ⟨none, (some 8), .bin .eql (.t 6) (.t 7)⟩,
    ⟨none, (some 9), .mov (.t 8)⟩,
    ⟨(some (9, true)), (some 10), .fld 1 (.t 3)⟩,
    ⟨(some (9, true)), (some 11), .load 1 false (.t 10)⟩,
    ⟨(some (9, true)), (some 12), .load 1 false (.t 2)⟩,
    ⟨(some (9, true)), (some 13), .bin .eql (.t 11) (.t 12)⟩,
    ⟨none, (some 14), .pick (.t 9) (.t 13) (.k (.bool false))⟩,
    ⟨none, (some 4), .mov (.t 14)⟩])
  .ret))
  ntmps := 15
  res := [.tmp 4]
theorem a67_ok : compileFn P Tryd.f67 = some a67 := by kernel_rfl
def a69 : AFn where
  code := (.seq (.region false [⟨none, (some 2), .box (.t 0)⟩,
    ⟨none, (some 3), .mov (.k (.bool false))⟩])
  (.seq (.region false [⟨none, (some 4), .fld 0 (.t 2)⟩,
    ⟨none, (some 5), .load 1 false (.t 4)⟩,
    ⟨none, (some 6), .load 1 false (.t 1)⟩,
    ⟨none, (some 7), .bin .eql (.t 5) (.t 6)⟩,
    ⟨none, (some 3), .mov (.t 7)⟩])
  .ret))
  ntmps := 8
  res := [.tmp 3]
theorem a69_ok : compileFn P Tryd.f69 = some a69 := by kernel_rfl
def a22 : AFn where
  code := (.seq (.region false [⟨none, (some 3), .box (.t 0)⟩,
    ⟨none, (some 4), .box (.t 1)⟩,
    ⟨none, (some 5), .box (.t 2)⟩,
    ⟨none, (some 6), .mov (.k (.int .i64 0))⟩])
  (.seq (.region false [⟨none, (some 7), .fld 0 (.t 3)⟩,
    ⟨none, (some 8), .load 1 false (.t 7)⟩,
    ⟨none, (some 9), .mkf (.func 67) [] [(.t 4), (.t 5)]⟩,
    ⟨none, (some 10), .call (.k (.fn (.func 66) [] [])) [(.t 8), (.t 9)]⟩,
    ⟨none, (some 6), .mov (.t 10)⟩])
  .ret))
  ntmps := 11
  res := [.tmp 6]
theorem a22_ok : compileFn P Tryd.f22 = some a22 := by kernel_rfl
def a24 : AFn where
  code := (.seq (.region false [⟨none, (some 2), .box (.t 0)⟩,
    ⟨none, (some 3), .box (.t 1)⟩,
    ⟨none, (some 4), .mov (.k (.int .i64 0))⟩])
  (.seq (.region false [⟨none, (some 5), .fld 1 (.t 2)⟩,
    ⟨none, (some 6), .load 1 false (.t 5)⟩,
    ⟨none, (some 7), .mkf (.func 69) [] [(.t 3)]⟩,
    ⟨none, (some 8), .call (.k (.fn (.func 68) [] [])) [(.t 6), (.t 7)]⟩,
    ⟨none, (some 4), .mov (.t 8)⟩])
  .ret))
  ntmps := 9
  res := [.tmp 4]
theorem a24_ok : compileFn P Tryd.f24 = some a24 := by kernel_rfl
def a70 : AFn where
  code := (.seq (.region false [⟨none, (some 2), .mov (.k (.bool false))⟩])
  (.seq (.region false [⟨none, (some 3), .mov (.t 0)⟩,
    ⟨none, (some 4), .bin .geq (.t 3) (.k (.int .i64 0))⟩,
    ⟨none, (some 5), .mov (.t 4)⟩,
    ⟨(some (5, true)), (some 6), .mov (.t 0)⟩,
    ⟨(some (5, true)), (some 7), .bin .leq (.t 6) (.k (.int .i64 1099511627776))⟩,
    ⟨none, (some 8), .pick (.t 5) (.t 7) (.k (.bool false))⟩,
    ⟨none, (some 2), .mov (.t 8)⟩])
  .ret))
  ntmps := 9
  res := [.tmp 2]
theorem a70_ok : compileFn P Tryd.f70 = some a70 := by kernel_rfl
def a64 : AFn where
  code := (.seq (.region false [⟨none, (some 2), .box (.t 0)⟩,
    ⟨none, (some 3), .box (.t 1)⟩,
    ⟨none, (some 4), .mov (.k (.bool false))⟩])
  (.seq (.region false [⟨none, (some 5), .fld 0 (.t 3)⟩,
    ⟨none, (some 6), .load 1 false (.t 5)⟩,
    ⟨none, (some 7), .bin .geq (.t 6) (.k (.int .i64 1))⟩,
    ⟨none, (some 8), .mov (.t 7)⟩,
    ⟨(some (8, true)), (some 9), .fld 0 (.t 3)⟩,
    ⟨(some (8, true)), (some 10), .load 1 false (.t 9)⟩,
    ⟨(some (8, true)), (some 11), .fld 2 (.t 2)⟩,
    ⟨(some (8, true)), (some 12), .load 1 false (.t 11)⟩,
    ⟨(some (8, true)), (some 13), .bin .lss (.t 10) (.t 12)⟩,
    ⟨none, (some 14), .pick (.t 8) (.t 13) (.k (.bool false))⟩,
    ⟨none, (some 15), .mov (.t 14)⟩,
    ⟨(some (15, true)), (some 16), .fld 1 (.t 3)⟩,
    ⟨(some (15, true)), (some 17), .load 1 false (.t 16)⟩,
    ⟨(some (15, true)), (some 18), .bin .geq (.t 17) (.k (.int .i64 0))⟩,
    ⟨none, (some 19), .pick (.t 15) (.t 18) (.k (.bool false))⟩,
    ⟨none, (some 20), .mov (.t 19)⟩,
    ⟨(some (20, true)), (some 21), .fld 1 (.t 3)⟩,
    ⟨(some (20, true)), (some 22), .load 1 false (.t 21)⟩,
    ⟨(some (20, true)), (some 23), .fld 0 (.t 2)⟩,
    ⟨(some (20, true)), (some 24), .load 1 false (.t 23)⟩,
    ⟨(some (20, true)), (some 25), .len (.t 24)⟩,
    ⟨(some (20, true)), (some 26), .bin .lss (.t 22) (.t 25)⟩,
    ⟨none, (some 27), .pick (.t 20) (.t 26) (.k (.bool false))⟩,
    ⟨none, (some 28), .mov (.t 27)⟩,
    ⟨(some (28, true)), (some 29), .fld 2 (.t 3)⟩,
    ⟨(some (28, true)), (some 30), .load 32 true (.t 29)⟩,
    ⟨(some (28, true)), (some 31), .build (rep 32 (w8 0#8)) []⟩,
    ⟨(some (28, true)), (some 32), .eqa true [(32, 0)] (.t 30) (.t 31)⟩,
    ⟨none, (some 33), .pick (.t 28) (.t 32) (.k (.bool false))⟩,
    ⟨none, (some 34), .mov (.t 33)⟩,
    ⟨(some (34, true)), (some 35), .fld 34 (.t 3)⟩,
    ⟨(some (34, true)), (some 36), .load 1 false (.t 35)⟩,
    ⟨(some (34, true)), (some 37), .bin .geq (.t 36) (.k (.int .i64 1))⟩,
    ⟨none, (some 38), .pick (.t 34) (.t 37) (.k (.bool false))⟩,
    ⟨none, (some 39), .mov (.t 38)⟩,
    ⟨(some (39, true)), (some 40), .fld 34 (.t 3)⟩,
    ⟨(some (39, true)), (some 41), .load 1 false (.t 40)⟩,
    ⟨(some (39, true)), (some 42), .bin .leq (.t 41) (.k (.int .i64 3))⟩,
    ⟨none, (some 43), .pick (.t 39) (.t 42) (.k (.bool false))⟩,
    ⟨none, (some 44), .mov (.t 43)⟩,
    ⟨(some (44, true)), (some 45), .fld 35 (.t 3)⟩,
    ⟨(some (44, true)), (some 46), .load 1 false (.t 45)⟩,
    ⟨(some (44, true)), (some 47), .call (.k (.fn (.func 70) [] [])) [(.t 46)]⟩,
    ⟨none, (some 48), .pick (.t 44) (.t 47) (.k (.bool false))⟩,
    ⟨none, (some 49), .mov (.t 48)⟩,
    ⟨(some (49, true)), (some 50), .fld 36 (.t 3)⟩,
    ⟨(some (49, true)), (some 51), .load 1 false (.t 50)⟩,
    ⟨(some (49, true)), (some 52), .bin .eql (.t 51) (.k (.int .i64 (-1)))⟩,
    ⟨(some (49, true)), (some 53), .mov (.t 52)⟩,
    ⟨(some (53, false)), (some 54), .fld 36 (.t 3)⟩,
    ⟨(some (53, false)), (some 55), .load 1 false (.t 54)⟩,
    ⟨(some (53, false)), (some 56), .call (.k (.fn (.func 70) [] [])) [(.t 55)]⟩,
    ⟨(some (49, true)), (some 57), .pick (.t 53) (.k (.bool true)) (.t 56)⟩,
    ⟨none, (some 58), .pick (.t 49) (.t 57) (.k (.bool false))⟩,
    ⟨none, (some 4), .mov (.t 58)⟩])
  .ret))
  ntmps := 59
  res := [.tmp 4]
theorem a64_ok : compileFn P Tryd.f64 = some a64 := by kernel_rfl
def a18L0 : ACode :=
  (.seq (.region false [⟨none, (some 59), .bin .lss (.t 58) (.t 57)⟩])
  (.seq (.cond (.t 59) .skip
  (.exit 0))
  (.seq (.block 1 (.seq (.region false [⟨none, (some 60), .mov (.t 58)⟩,
    ⟨none, (some 61), .idxS 32 (.t 56) (.t 58)⟩,
    ⟨none, (some 62), .load 32 true (.t 61)⟩,
    ⟨none, (some 4), .alloc (rep 32 (w8 0#8))⟩,
    ⟨none, (some 3), .mov (.t 60)⟩,
    ⟨none, none, .store 32 (.t 4) (.t 62)⟩])
  (.seq (.region true [⟨none, (some 63), .load 32 true (.t 4)⟩,
    ⟨none, (some 64), .build (rep 32 (w8 0#8)) []⟩,
    ⟨none, (some 65), .eqa false [(32, 0)] (.t 63) (.t 64)⟩,
    ⟨none, (some 66), .mov (.t 65)⟩,
    ⟨(some (66, false)), (some 67), .fld 5 (.t 1)⟩,
    ⟨(some (66, false)), (some 68), .load 1 false (.t 67)⟩,
    ⟨(some (66, false)), (some 69), .mov (.t 3)⟩,
    ⟨(some (66, false)), (some 70), .slcS 32 (.t 68) none (some (.t 69)) none⟩,
    ⟨(some (66, false)), (some 71), .load 32 true (.t 4)⟩,
    ⟨(some (66, false)), (some 72), .callN (.k (.fn (.func 61) [] [])) [(.t 70), (.t 71)]⟩,
    ⟨none, (some 73), .pick (.t 66) (.k (.bool true)) (.t 72)⟩])
  (.cond (.t 73) (.seq (.region false [⟨none, (some 2), .mov (.k (.bool false))⟩])
  .ret)
  .skip))))
  (.region false [⟨none, (some 74), .bin .add (.t 58) (.k (.int .i64 1))⟩,
    ⟨none, (some 58), .mov (.t 74)⟩]))))
def a18S0 (x1 x56 x57 x58 : DV) (h : List AObj) : St := ⟨[.junk, x1] ++ js 54 ++ [x56, x57, x58] ++ js 16, h⟩
def a18 : AFn where
  code := (.seq (.region false [⟨none, (some 1), .box (.t 0)⟩,
    ⟨none, (some 2), .mov (.k (.bool false))⟩])
  (.seq (.seq (.region false [⟨none, (some 5), .fld 0 (.t 1)⟩,
    ⟨none, (some 6), .load 1 false (.t 5)⟩,
    ⟨none, (some 7), .call (.k (.fn (.func 60) [] [])) [(.t 6)]⟩,
    ⟨none, (some 8), .un .not (.t 7)⟩,
    ⟨none, (some 9), .mov (.t 8)⟩,
    ⟨(some (9, false)), (some 10), .fld 1 (.t 1)⟩,
    ⟨(some (9, false)), (some 11), .load 1 false (.t 10)⟩,
    ⟨(some (9, false)), (some 12), .call (.k (.fn (.func 60) [] [])) [(.t 11)]⟩,
    ⟨(some (9, false)), (some 13), .un .not (.t 12)⟩,
    ⟨none, (some 14), .pick (.t 9) (.k (.bool true)) (.t 13)⟩,
    ⟨none, (some 15), .mov (.t 14)⟩,
    ⟨(some (15, false)), (some 16), .fld 2 (.t 1)⟩,
    ⟨(some (15, false)), (some 17), .load 1 false (.t 16)⟩,
    ⟨(some (15, false)), (some 18), .bin .lss (.t 17) (.k (.int .i64 0))⟩,
    ⟨none, (some 19), .pick (.t 15) (.k (.bool true)) (.t 18)⟩,
    ⟨none, (some 20), .mov (.t 19)⟩,
    ⟨(some (20, false)), (some 21), .fld 2 (.t 1)⟩,
    ⟨(some (20, false)), (some 22), .load 1 false (.t 21)⟩,
    ⟨(some (20, false)), (some 23), .bin .gtr (.t 22) (.k (.int .i64 8))⟩,
    ⟨none, (some 24), .pick (.t 20) (.k (.bool true)) (.t 23)⟩,
    ⟨none, (some 25), .mov (.t 24)⟩,
    ⟨(some (25, false)), (some 26), .fld 3 (.t 1)⟩,
    ⟨(some (25, false)), (some 27), .load 1 false (.t 26)⟩,
    ⟨(some (25, false)), (some 28), .bin .lss (.t 27) (.k (.int .i64 0))⟩,
    ⟨none, (some 29), .pick (.t 25) (.k (.bool true)) (.t 28)⟩,
    ⟨none, (some 30), .mov (.t 29)⟩,
    ⟨(some (30, false)), (some 31), .fld 3 (.t 1)⟩,
    ⟨(some (30, false)), (some 32), .load 1 false (.t 31)⟩,
    ⟨(some (30, false)), (some 33), .fld 2 (.t 1)⟩,
    ⟨(some (30, false)), (some 34), .load 1 false (.t 33)⟩,
    ⟨(some (30, false)), (some 35), .bin .gtr (.t 32) (.t 34)⟩,
    ⟨none, (some 36), .pick (.t 30) (.k (.bool true)) (.t 35)⟩,
    ⟨none, (some 37), .mov (.t 36)⟩,
    ⟨(some (37, false)), (some 38), .fld 4 (.t 1)⟩,
    ⟨(some (37, false)), (some 39), .load 1 false (.t 38)⟩,
    ⟨(some (37, false)), (some 40), .bin .lss (.t 39) (.k (.int .i64 0))⟩,
    ⟨none, (some 41), .pick (.t 37) (.k (.bool true)) (.t 40)⟩,
    ⟨none, (some 42), .mov (.t 41)⟩,
    ⟨(some (42, false)), (some 43), .fld 4 (.t 1)⟩,
    ⟨(some (42, false)), (some 44), .load 1 false (.t 43)⟩,
    ⟨(some (42, false)), (some 45), .fld 2 (.t 1)⟩,
    ⟨(some (42, false)), (some 46), .load 1 false (.t 45)⟩,
    ⟨(some (42, false)), (some 47), .bin .gtr (.t 44) (.t 46)⟩,
    ⟨none, (some 48), .pick (.t 42) (.k (.bool true)) (.t 47)⟩,
    ⟨none, (some 49), .mov (.t 48)⟩,
    ⟨(some (49, false)), (some 50), .fld 5 (.t 1)⟩,
    ⟨(some (49, false)), (some 51), .load 1 false (.t 50)⟩,
    ⟨(some (49, false)), (some 52), .len (.t 51)⟩,
    ⟨(some (49, false)), (some 53), .bin .gtr (.t 52) (.k (.int .i64 6))⟩,
    ⟨none, (some 54), .pick (.t 49) (.k (.bool true)) (.t 53)⟩])
  (.cond (.t 54) (.seq (.region false [⟨none, (some 2), .mov (.k (.bool false))⟩])
  .ret)
  .skip))
  (.seq (.seq (.region false [⟨none, (some 55), .fld 5 (.t 1)⟩,
    ⟨none, (some 56), .load 1 false (.t 55)⟩,
    ⟨none, (some 57), .len (.t 56)⟩,
    ⟨none, (some 58), .mov (.k (.int .i64 0))⟩])
  (.block 0 (.loop a18L0)))
  (.seq (.region false [⟨none, (some 2), .mov (.k (.bool true))⟩])
  .ret))))
  ntmps := 75
  res := [.tmp 2]
theorem a18_ok : compileFn P Tryd.f18 = some a18 := by kernel_rfl
def a20L0 : ACode :=
  (.seq (.region false [⟨none, (some 31), .bin .lss (.t 30) (.t 29)⟩])
  (.seq (.cond (.t 31) .skip
  (.exit 0))
  (.seq (.block 1 (.seq (.region false [⟨none, (some 32), .mov (.t 30)⟩,
    ⟨none, (some 33), .idxS 6 (.t 28) (.t 30)⟩,
    ⟨none, (some 34), .load 6 true (.t 33)⟩,
    ⟨none, (some 4), .alloc [(.str []), (.str []), (.int .i64 0), (.int .i64 0), (.int .i64 0), .nils]⟩,
    ⟨none, (some 3), .mov (.t 32)⟩,
    ⟨none, none, .store 6 (.t 4) (.t 34)⟩])
  (.seq (.region false [⟨none, (some 35), .load 6 true (.t 4)⟩,
    ⟨none, (some 36), .call (.k (.fn (.func 18) [] [])) [(.t 35)]⟩,
    ⟨none, (some 37), .un .not (.t 36)⟩,
    ⟨none, (some 38), .mov (.t 37)⟩,
    ⟨(some (38, false)), (some 39), .load 3 true (.t 1)⟩,
    ⟨(some (38, false)), (some 40), .fld 0 (.t 4)⟩,
    ⟨(some (38, false)), (some 41), .load 1 false (.t 40)⟩,
    ⟨(some (38, false)), (some 42), .fld 1 (.t 4)⟩,
    ⟨(some (38, false)), (some 43), .load 1 false (.t 42)⟩,
    ⟨(some (38, false)), (some 44), .call (.k (.fn (.func 22) [] [])) [(.t 39), (.t 41), (.t 43)]⟩,
    ⟨(some (38, false)), (some 45), .mov (.t 3)⟩,
    ⟨(some (38, false)), (some 46), .bin .neq (.t 44) (.t 45)⟩,
    ⟨none, (some 47), .pick (.t 38) (.k (.bool true)) (.t 46)⟩])
  (.cond (.t 47) (.seq (.region false [⟨none, (some 2), .mov (.k (.bool false))⟩])
  .ret)
  .skip))))
  (.region false [⟨none, (some 48), .bin .add (.t 30) (.k (.int .i64 1))⟩,
    ⟨none, (some 30), .mov (.t 48)⟩]))))
def a20S0 (x1 x28 x29 x30 : DV) (h : List AObj) : St := ⟨[.junk, x1] ++ js 26 ++ [x28, x29, x30] ++ js 47, h⟩
def a20L1 : ACode :=
  (.seq (.region false [⟨none, (some 53), .bin .lss (.t 52) (.t 51)⟩])
  (.seq (.cond (.t 53) .skip
  (.exit 2))
  (.seq (.block 3 (.seq (.region false [⟨none, (some 54), .mov (.t 52)⟩,
    ⟨none, (some 55), .idxS 37 (.t 50) (.t 52)⟩,
    ⟨none, (some 56), .load 37 true (.t 55)⟩,
    ⟨none, (some 6), .alloc [(.int .i64 0), (.int .i64 0), (w8 0#8), (w8 0#8), (w8 0#8), (w8 0#8), (w8 0#8), (w8 0#8), (w8 0#8), (w8 0#8), (w8 0#8), (w8 0#8), (w8 0#8), (w8 0#8), (w8 0#8), (w8 0#8), (w8 0#8), (w8 0#8), (w8 0#8), (w8 0#8), (w8 0#8), (w8 0#8), (w8 0#8), (w8 0#8), (w8 0#8), (w8 0#8), (w8 0#8), (w8 0#8), (w8 0#8), (w8 0#8), (w8 0#8), (w8 0#8), (w8 0#8), (w8 0#8), (.int .i64 0), (.int .i64 0), (.int .i64 0)]⟩,
    ⟨none, (some 5), .mov (.t 54)⟩,
    ⟨none, none, .store 37 (.t 6) (.t 56)⟩])
  (.seq (.region true [⟨none, (some 57), .load 3 true (.t 1)⟩,
    ⟨none, (some 58), .load 37 true (.t 6)⟩,
    ⟨none, (some 59), .callN (.k (.fn (.func 64) [] [])) [(.t 57), (.t 58)]⟩,
    ⟨none, (some 60), .un .not (.t 59)⟩,
    ⟨none, (some 61), .mov (.t 60)⟩,
    ⟨(some (61, false)), (some 62), .mov (.t 5)⟩,
    ⟨(some (61, false)), (some 63), .bin .gtr (.t 62) (.k (.int .i64 0))⟩,
    ⟨(some (61, false)), (some 64), .mov (.t 63)⟩,
    ⟨(some (64, true)), (some 65), .fld 0 (.t 6)⟩,
    ⟨(some (64, true)), (some 66), .load 1 false (.t 65)⟩,
    ⟨(some (64, true)), (some 67), .fld 1 (.t 1)⟩,
    ⟨(some (64, true)), (some 68), .load 1 false (.t 67)⟩,
    ⟨(some (64, true)), (some 69), .mov (.t 5)⟩,
    ⟨(some (64, true)), (some 70), .bin .sub (.t 69) (.k (.int .i64 1))⟩,
    ⟨(some (64, true)), (some 71), .idxS 37 (.t 68) (.t 70)⟩,
    ⟨(some (64, true)), (some 72), .fld 0 (.t 71)⟩,
    ⟨(some (64, true)), (some 73), .load 1 false (.t 72)⟩,
    ⟨(some (64, true)), (some 74), .bin .leq (.t 66) (.t 73)⟩,
    ⟨(some (61, false)), (some 75), .pick (.t 64) (.t 74) (.k (.bool false))⟩,
    ⟨none, (some 76), .pick (.t 61) (.k (.bool true)) (.t 75)⟩])
  (.cond (.t 76) (.seq (.region false [⟨none, (some 2), .mov (.k (.bool false))⟩])
  .ret)
  .skip))))
  (.region false [⟨none, (some 77), .bin .add (.t 52) (.k (.int .i64 1))⟩,
    ⟨none, (some 52), .mov (.t 77)⟩]))))
def a20S1 (x1 x50 x51 x52 : DV) (h : List AObj) : St := ⟨[.junk, x1] ++ js 48 ++ [x50, x51, x52] ++ js 25, h⟩
def a20 : AFn where
  code := (.seq (.region false [⟨none, (some 1), .box (.t 0)⟩,
    ⟨none, (some 2), .mov (.k (.bool false))⟩])
  (.seq (.seq (.region false [⟨none, (some 7), .fld 0 (.t 1)⟩,
    ⟨none, (some 8), .load 1 false (.t 7)⟩,
    ⟨none, (some 9), .len (.t 8)⟩,
    ⟨none, (some 10), .bin .gtr (.t 9) (.k (.int .i64 16))⟩,
    ⟨none, (some 11), .mov (.t 10)⟩,
    ⟨(some (11, false)), (some 12), .fld 1 (.t 1)⟩,
    ⟨(some (11, false)), (some 13), .load 1 false (.t 12)⟩,
    ⟨(some (11, false)), (some 14), .len (.t 13)⟩,
    ⟨(some (11, false)), (some 15), .bin .gtr (.t 14) (.k (.int .i64 200))⟩,
    ⟨none, (some 16), .pick (.t 11) (.k (.bool true)) (.t 15)⟩,
    ⟨none, (some 17), .mov (.t 16)⟩,
    ⟨(some (17, false)), (some 18), .fld 2 (.t 1)⟩,
    ⟨(some (17, false)), (some 19), .load 1 false (.t 18)⟩,
    ⟨(some (17, false)), (some 20), .bin .lss (.t 19) (.k (.int .i64 1))⟩,
    ⟨none, (some 21), .pick (.t 17) (.k (.bool true)) (.t 20)⟩,
    ⟨none, (some 22), .mov (.t 21)⟩,
    ⟨(some (22, false)), (some 23), .fld 2 (.t 1)⟩,
    ⟨(some (22, false)), (some 24), .load 1 false (.t 23)⟩,
    ⟨(some (22, false)), (some 25), .bin .gtr (.t 24) (.k (.int .i64 1099511627776))⟩,
    ⟨none, (some 26), .pick (.t 22) (.k (.bool true)) (.t 25)⟩])
  (.cond (.t 26) (.seq (.region false [⟨none, (some 2), .mov (.k (.bool false))⟩])
  .ret)
  .skip))
  (.seq (.seq (.region false [⟨none, (some 27), .fld 0 (.t 1)⟩,
    ⟨none, (some 28), .load 1 false (.t 27)⟩,
    ⟨none, (some 29), .len (.t 28)⟩,
    ⟨none, (some 30), .mov (.k (.int .i64 0))⟩])
  (.block 0 (.loop a20L0)))
  (.seq (.seq (.region false [⟨none, (some 49), .fld 1 (.t 1)⟩,
    ⟨none, (some 50), .load 1 false (.t 49)⟩,
    ⟨none, (some 51), .len (.t 50)⟩,
    ⟨none, (some 52), .mov (.k (.int .i64 0))⟩])
  (.block 2 (.loop a20L1)))
  (.seq (.region false [⟨none, (some 2), .mov (.k (.bool true))⟩])
  .ret)))))
  ntmps := 78
  res := [.tmp 2]
theorem a20_ok : compileFn P Tryd.f20 = some a20 := by kernel_rfl
def a75 : AFn where
  code := (.seq (.region false [⟨none, (some 2), .mov (.k .nils)⟩])
  (.seq (.seq (.region false [⟨none, (some 3), .mov (.t 0)⟩,
    ⟨none, (some 4), .eqn 0 false (.t 3) (.k .nils)⟩])
  (.cond (.t 4) (.seq (.region false [⟨none, (some 2), .mov (.k .nils)⟩])
  .ret)
  .skip))
  (.seq (.region false [⟨none, (some 5), .bsl 32 0 (rep 32 (w8 0#8)) []⟩,
    ⟨none, (some 6), .mov (.t 0)⟩,
    ⟨none, (some 7), .app 32 32 (.t 5) (.t 6)⟩,
    ⟨none, (some 2), .mov (.t 7)⟩])
  .ret)))
  ntmps := 8
  res := [.tmp 2]
theorem a75_ok : compileFn P Tryd.f75 = some a75 := by kernel_rfl
def a105 : AFn where
  code := (.seq (.region false [⟨none, (some 2), .mov (.k .nils)⟩])
  (.seq (.seq (.region false [⟨none, (some 3), .mov (.t 0)⟩,
    ⟨none, (some 4), .eqn 0 false (.t 3) (.k .nils)⟩])
  (.cond (.t 4) (.seq (.region false [⟨none, (some 2), .mov (.k .nils)⟩])
  .ret)
  .skip))
  (.seq (.region false [⟨none, (some 5), .bsl 6 0 [(.str []), (.str []), (.int .i64 0), (.int .i64 0), (.int .i64 0), .nils] []⟩,
    ⟨none, (some 6), .mov (.t 0)⟩,
    ⟨none, (some 7), .app 6 80 (.t 5) (.t 6)⟩,
    ⟨none, (some 2), .mov (.t 7)⟩])
  .ret)))
  ntmps := 8
  res := [.tmp 2]
theorem a105_ok : compileFn P Tryd.f105 = some a105 := by kernel_rfl
def a106 : AFn where
  code := (.seq (.region false [⟨none, (some 2), .mov (.k .nils)⟩])
  (.seq (.seq (.region false [⟨none, (some 3), .mov (.t 0)⟩,
    ⟨none, (some 4), .eqn 0 false (.t 3) (.k .nils)⟩])
  (.cond (.t 4) (.seq (.region false [⟨none, (some 2), .mov (.k .nils)⟩])
  .ret)
  .skip))
  (.seq (.region false [⟨none, (some 5), .bsl 37 0 [(.int .i64 0), (.int .i64 0), (w8 0#8), (w8 0#8), (w8 0#8), (w8 0#8), (w8 0#8), (w8 0#8), (w8 0#8), (w8 0#8), (w8 0#8), (w8 0#8), (w8 0#8), (w8 0#8), (w8 0#8), (w8 0#8), (w8 0#8), (w8 0#8), (w8 0#8), (w8 0#8), (w8 0#8), (w8 0#8), (w8 0#8), (w8 0#8), (w8 0#8), (w8 0#8), (w8 0#8), (w8 0#8), (w8 0#8), (w8 0#8), (w8 0#8), (w8 0#8), (w8 0#8), (w8 0#8), (.int .i64 0), (.int .i64 0), (.int .i64 0)] []⟩,
    ⟨none, (some 6), .mov (.t 0)⟩,
    ⟨none, (some 7), .app 37 72 (.t 5) (.t 6)⟩,
    ⟨none, (some 2), .mov (.t 7)⟩])
  .ret)))
  ntmps := 8
  res := [.tmp 2]
theorem a106_ok : compileFn P Tryd.f106 = some a106 := by kernel_rfl
def a71L0 : ACode :=
  (.seq (.region false [⟨none, (some 16), .bin .lss (.t 15) (.t 14)⟩])
  (.seq (.cond (.t 16) .skip
  (.exit 0))
  (.seq (.block 1 (.seq (.region false [⟨none, (some 17), .mov (.t 15)⟩,
    ⟨none, (some 3), .mov (.t 17)⟩])
  (.region true [⟨none, (some 18), .fld 0 (.t 1)⟩,
    ⟨none, (some 19), .load 1 false (.t 18)⟩,
    ⟨none, (some 20), .mov (.t 3)⟩,
    ⟨none, (some 21), .fld 0 (.t 1)⟩,
    ⟨none, (some 22), .load 1 false (.t 21)⟩,
    ⟨none, (some 23), .mov (.t 3)⟩,
    ⟨none, (some 24), .idxS 6 (.t 22) (.t 23)⟩,
    ⟨none, (some 25), .fld 5 (.t 24)⟩,
    ⟨none, (some 26), .load 1 false (.t 25)⟩,
    ⟨none, (some 27), .callN (.k (.fn (.func 75) [] [])) [(.t 26)]⟩,
    ⟨none, (some 28), .idxS 6 (.t 19) (.t 20)⟩,
    ⟨none, (some 29), .fld 5 (.t 28)⟩,
    ⟨none, none, .store 1 (.t 29) (.t 27)⟩])))
  (.region false [⟨none, (some 30), .bin .add (.t 15) (.k (.int .i64 1))⟩,
    ⟨none, (some 15), .mov (.t 30)⟩]))))
def a71S0 (x1 x2 x14 x15 : DV) (h : List AObj) : St := ⟨[.junk, x1, x2] ++ js 11 ++ [x14, x15] ++ js 16, h⟩
def a71 : AFn where
  code := (.seq (.region false [⟨none, (some 1), .box (.t 0)⟩,
    ⟨none, (some 2), .alloc [.nils, .nils, (.int .i64 0)]⟩])
  (.seq (.region true [⟨none, (some 4), .fld 0 (.t 1)⟩,
    ⟨none, (some 5), .load 1 false (.t 4)⟩,
    ⟨none, (some 7), .fld 1 (.t 1)⟩,
    ⟨none, (some 8), .load 1 false (.t 7)⟩,
    ⟨none, (some 6), .callN (.k (.fn (.func 105) [] [])) [(.t 5)]⟩,
    ⟨none, (some 10), .fld 0 (.t 1)⟩,
    ⟨none, (some 9), .callN (.k (.fn (.func 106) [] [])) [(.t 8)]⟩,
    ⟨none, none, .store 1 (.t 10) (.t 6)⟩,
    ⟨none, (some 11), .fld 1 (.t 1)⟩,
    ⟨none, none, .store 1 (.t 11) (.t 9)⟩])
  (.seq (.seq (.region false [⟨none, (some 12), .fld 0 (.t 1)⟩,
    ⟨none, (some 13), .load 1 false (.t 12)⟩,
    ⟨none, (some 14), .len (.t 13)⟩,
    ⟨none, (some 15), .mov (.k (.int .i64 0))⟩])
  (.block 0 (.loop a71L0)))
  (.seq (.region false [⟨none, (some 31), .load 3 true (.t 1)⟩,
    ⟨none, none, .store 3 (.t 2) (.t 31)⟩])
  .ret))))
  ntmps := 32
  res := [.cell 2 3 true]
theorem a71_ok : compileFn P Tryd.f71 = some a71 := by kernel_rfl
def a35 : AFn where
  code := (.seq (.region false [⟨none, (some 2), .box (.t 0)⟩,
    ⟨none, (some 3), .box (.t 1)⟩,
    ⟨none, (some 4), .alloc [.nils, .nils, (.int .i64 0)]⟩,
    ⟨none, (some 5), .mov (.k (.int .i64 0))⟩])
  (.seq (.seq (.region false [⟨none, (some 7), .load 3 true (.t 2)⟩,
    ⟨none, (some 8), .call (.k (.fn (.func 20) [] [])) [(.t 7)]⟩,
    ⟨none, (some 9), .un .not (.t 8)⟩,
    ⟨none, (some 10), .mov (.t 9)⟩,
    ⟨(some (10, false)), (some 11), .load 6 true (.t 3)⟩,
    ⟨(some (10, false)), (some 12), .call (.k (.fn (.func 18) [] [])) [(.t 11)]⟩,
    ⟨(some (10, false)), (some 13), .un .not (.t 12)⟩,
    ⟨none, (some 14), .pick (.t 10) (.k (.bool true)) (.t 13)⟩])
  (.cond (.t 14) (.seq (.region false [⟨none, (some 15), .build [.nils, .nils, (.int .i64 0)] []⟩,
    ⟨none, none, .store 3 (.t 4) (.t 15)⟩,
    ⟨none, (some 5), .mov (.k (.int .i64 1))⟩])
  .ret)
  .skip))
  (.seq (.region false [⟨none, (some 16), .load 3 true (.t 2)⟩,
    ⟨none, (some 17), .fld 0 (.t 3)⟩,
    ⟨none, (some 18), .load 1 false (.t 17)⟩,
    ⟨none, (some 19), .fld 1 (.t 3)⟩,
    ⟨none, (some 20), .load 1 false (.t 19)⟩,
    ⟨none, (some 21), .call (.k (.fn (.func 22) [] [])) [(.t 16), (.t 18), (.t 20)]⟩,
    ⟨none, (some 6), .mov (.t 21)⟩])
  (.seq (.seq (.region false [⟨none, (some 22), .mov (.t 6)⟩,
    ⟨none, (some 23), .bin .lss (.t 22) (.k (.int .i64 0))⟩,
    ⟨none, (some 24), .mov (.t 23)⟩,
    ⟨(some (24, true)), (some 25), .fld 0 (.t 2)⟩,
    ⟨(some (24, true)), (some 26), .load 1 false (.t 25)⟩,
    ⟨(some (24, true)), (some 27), .len (.t 26)⟩,
    ⟨(some (24, true)), (some 28), .bin .geq (.t 27) (.k (.int .i64 16))⟩,
    ⟨none, (some 29), .pick (.t 24) (.t 28) (.k (.bool false))⟩])
  (.cond (.t 29) (.seq (.region false [⟨none, (some 30), .build [.nils, .nils, (.int .i64 0)] []⟩,
    ⟨none, none, .store 3 (.t 4) (.t 30)⟩,
    ⟨none, (some 5), .mov (.k (.int .i64 3))⟩])
  .ret)
  .skip))
  (.seq (.region false [⟨none, (some 31), .load 3 true (.t 2)⟩,
    ⟨none, (some 32), .call (.k (.fn (.func 71) [] [])) [(.t 31)]⟩,
    ⟨none, none, .store 3 (.t 2) (.t 32)⟩])
  (.seq (.region false [⟨none, (some 33), .fld 5 (.t 3)⟩,
    ⟨none, (some 34), .load 1 false (.t 33)⟩,
    ⟨none, (some 35), .call (.k (.fn (.func 75) [] [])) [(.t 34)]⟩,
    ⟨none, (some 36), .fld 5 (.t 3)⟩,
    ⟨none, none, .store 1 (.t 36) (.t 35)⟩])
  (.seq (.seq (.region false [⟨none, (some 37), .mov (.t 6)⟩,
    ⟨none, (some 38), .bin .lss (.t 37) (.k (.int .i64 0))⟩])
  (.cond (.t 38) (.region false [⟨none, (some 39), .fld 0 (.t 2)⟩,
    ⟨none, (some 40), .load 1 false (.t 39)⟩,
    ⟨none, (some 41), .load 6 true (.t 3)⟩,
    ⟨none, (some 42), .bsl 6 1 [(.str []), (.str []), (.int .i64 0), (.int .i64 0), (.int .i64 0), .nils] [(0, 6, (.t 41))]⟩,
    ⟨none, (some 43), .app 6 80 (.t 40) (.t 42)⟩,
    ⟨none, (some 44), .fld 0 (.t 2)⟩,
    ⟨none, none, .store 1 (.t 44) (.t 43)⟩])
  (.region false [⟨none, (some 45), .fld 0 (.t 2)⟩,
    ⟨none, (some 46), .load 1 false (.t 45)⟩,
    ⟨none, (some 47), .mov (.t 6)⟩,
    ⟨none, (some 48), .load 6 true (.t 3)⟩,
    ⟨none, (some 49), .idxS 6 (.t 46) (.t 47)⟩,
    ⟨none, none, .store 6 (.t 49) (.t 48)⟩])))
  (.seq (.region false [⟨none, (some 50), .load 3 true (.t 2)⟩,
    ⟨none, none, .store 3 (.t 4) (.t 50)⟩,
    ⟨none, (some 5), .mov (.k (.int .i64 0))⟩])
  .ret))))))))
  ntmps := 51
  res := [.cell 4 3 true, .tmp 5]
theorem a35_ok : compileFn P Tryd.f35 = some a35 := by kernel_rfl
def a32 : AFn where
  code := (.seq (.region false [⟨none, (some 4), .box (.t 0)⟩,
    ⟨none, (some 6), .box (.t 2)⟩,
    ⟨none, (some 8), .alloc [.nils, .nils, (.int .i64 0)]⟩,
    ⟨none, (some 9), .mov (.k (.int .i64 0))⟩,
    ⟨none, (some 10), .mov (.k (.int .i64 0))⟩])
  (.seq (.block 0 (.seq (.region false [⟨none, (some 13), .load 3 true (.t 4)⟩,
    ⟨none, (some 14), .call (.k (.fn (.func 20) [] [])) [(.t 13)]⟩,
    ⟨none, (some 15), .un .not (.t 14)⟩,
    ⟨none, (some 16), .mov (.t 15)⟩,
    ⟨(some (16, false)), (some 17), .load 32 true (.t 6)⟩,
    ⟨(some (16, false)), (some 18), .build (rep 32 (w8 0#8)) []⟩,
    ⟨(some (16, false)), (some 19), .eqa false [(32, 0)] (.t 17) (.t 18)⟩,
    ⟨none, (some 20), .pick (.t 16) (.k (.bool true)) (.t 19)⟩,
    ⟨none, (some 21), .mov (.t 20)⟩,
    ⟨(some (21, false)), (some 22), .mov (.t 3)⟩,
    ⟨(some (21, false)), (some 23), .call (.k (.fn (.func 70) [] [])) [(.t 22)]⟩,
    ⟨(some (21, false)), (some 24), .un .not (.t 23)⟩,
    ⟨none, (some 25), .pick (.t 21) (.k (.bool true)) (.t 24)⟩,
    ⟨none, (some 12), .mov (.t 25)⟩])
  (.cond (.t 12) (.seq (.region false [⟨none, (some 26), .build [.nils, .nils, (.int .i64 0)] []⟩,
    ⟨none, none, .store 3 (.t 8) (.t 26)⟩,
    ⟨none, (some 9), .mov (.k (.int .i64 0))⟩,
    ⟨none, (some 10), .mov (.k (.int .i64 1))⟩])
  .ret)
  (.seq (.region false [⟨none, (some 28), .mov (.t 1)⟩,
    ⟨none, (some 29), .bin .lss (.t 28) (.k (.int .i64 0))⟩,
    ⟨none, (some 30), .mov (.t 29)⟩,
    ⟨(some (30, false)), (some 31), .mov (.t 1)⟩,
    ⟨(some (30, false)), (some 32), .fld 0 (.t 4)⟩,
    ⟨(some (30, false)), (some 33), .load 1 false (.t 32)⟩,
    ⟨(some (30, false)), (some 34), .len (.t 33)⟩,
    ⟨(some (30, false)), (some 35), .bin .geq (.t 31) (.t 34)⟩,
    ⟨none, (some 36), .pick (.t 30) (.k (.bool true)) (.t 35)⟩,
    ⟨none, (some 27), .mov (.t 36)⟩])
  (.cond (.t 27) (.seq (.region false [⟨none, (some 37), .build [.nils, .nils, (.int .i64 0)] []⟩,
    ⟨none, none, .store 3 (.t 8) (.t 37)⟩,
    ⟨none, (some 9), .mov (.k (.int .i64 0))⟩,
    ⟨none, (some 10), .mov (.k (.int .i64 4))⟩])
  .ret)
  (.seq (.region false [⟨none, (some 39), .fld 1 (.t 4)⟩,
    ⟨none, (some 40), .load 1 false (.t 39)⟩,
    ⟨none, (some 41), .len (.t 40)⟩,
    ⟨none, (some 42), .bin .geq (.t 41) (.k (.int .i64 200))⟩,
    ⟨none, (some 43), .mov (.t 42)⟩,
    ⟨(some (43, false)), (some 44), .fld 2 (.t 4)⟩,
    ⟨(some (43, false)), (some 45), .load 1 false (.t 44)⟩,
    ⟨(some (43, false)), (some 46), .bin .geq (.t 45) (.k (.int .i64 1099511627776))⟩,
    ⟨none, (some 47), .pick (.t 43) (.k (.bool true)) (.t 46)⟩,
    ⟨none, (some 38), .mov (.t 47)⟩])
  (.cond (.t 38) (.seq (.region false [⟨none, (some 48), .build [.nils, .nils, (.int .i64 0)] []⟩,
    ⟨none, none, .store 3 (.t 8) (.t 48)⟩,
    ⟨none, (some 9), .mov (.k (.int .i64 0))⟩,
    ⟨none, (some 10), .mov (.k (.int .i64 3))⟩])
  .ret)
  .skip)))))))
  (.seq (.region false [⟨none, (some 49), .load 3 true (.t 4)⟩,
    ⟨none, (some 50), .call (.k (.fn (.func 71) [] [])) [(.t 49)]⟩,
    ⟨none, none, .store 3 (.t 4) (.t 50)⟩])
  (.seq (.region false [⟨none, (some 51), .fld 2 (.t 4)⟩,
    ⟨none, (some 52), .load 1 false (.t 51)⟩,
    ⟨none, (some 11), .mov (.t 52)⟩])
  (.seq (.region false [⟨none, (some 53), .fld 1 (.t 4)⟩,
    ⟨none, (some 54), .load 1 false (.t 53)⟩,
    ⟨none, (some 55), .mov (.t 11)⟩,
    ⟨none, (some 56), .mov (.t 1)⟩,
    ⟨none, (some 57), .load 32 true (.t 6)⟩,
    ⟨none, (some 58), .mov (.t 3)⟩,
    ⟨none, (some 59), .build [(.int .i64 0), (.int .i64 0), (w8 0#8), (w8 0#8), (w8 0#8), (w8 0#8), (w8 0#8), (w8 0#8), (w8 0#8), (w8 0#8), (w8 0#8), (w8 0#8), (w8 0#8), (w8 0#8), (w8 0#8), (w8 0#8), (w8 0#8), (w8 0#8), (w8 0#8), (w8 0#8), (w8 0#8), (w8 0#8), (w8 0#8), (w8 0#8), (w8 0#8), (w8 0#8), (w8 0#8), (w8 0#8), (w8 0#8), (w8 0#8), (w8 0#8), (w8 0#8), (w8 0#8), (w8 0#8), (.int .i64 0), (.int .i64 0), (.int .i64 0)] [(0, 1, (.t 55)), (1, 1, (.t 56)), (2, 32, (.t 57)), (34, 1, (.k (.int .i64 1))), (35, 1, (.t 58)), (36, 1, (.k (.int .i64 (-1))))]⟩,
    ⟨none, (some 60), .bsl 37 1 [(.int .i64 0), (.int .i64 0), (w8 0#8), (w8 0#8), (w8 0#8), (w8 0#8), (w8 0#8), (w8 0#8), (w8 0#8), (w8 0#8), (w8 0#8), (w8 0#8), (w8 0#8), (w8 0#8), (w8 0#8), (w8 0#8), (w8 0#8), (w8 0#8), (w8 0#8), (w8 0#8), (w8 0#8), (w8 0#8), (w8 0#8), (w8 0#8), (w8 0#8), (w8 0#8), (w8 0#8), (w8 0#8), (w8 0#8), (w8 0#8), (w8 0#8), (w8 0#8), (w8 0#8), (w8 0#8), (.int .i64 0), (.int .i64 0), (.int .i64 0)] [(0, 37, (.t 59))]⟩,
    ⟨none, (some 61), .app 37 72 (.t 54) (.t 60)⟩,
    ⟨none, (some 62), .fld 1 (.t 4)⟩,
    ⟨none, none, .store 1 (.t 62) (.t 61)⟩])
  (.seq (.region false [⟨none, (some 63), .fld 2 (.t 4)⟩,
    ⟨none, (some 64), .load 1 false (.t 63)⟩,
    ⟨none, (some 65), .bin .add (.t 64) (.k (.int .i64 1))⟩,
    ⟨none, (some 66), .fld 2 (.t 4)⟩,
    ⟨none, none, .store 1 (.t 66) (.t 65)⟩])
  (.seq (.region false [⟨none, (some 67), .load 3 true (.t 4)⟩,
    ⟨none, (some 68), .mov (.t 11)⟩,
    ⟨none, none, .store 3 (.t 8) (.t 67)⟩,
    ⟨none, (some 9), .mov (.t 68)⟩,
    ⟨none, (some 10), .mov (.k (.int .i64 0))⟩])
  .ret)))))))
  ntmps := 69
  res := [.cell 8 3 true, .tmp 9, .tmp 10]
theorem a32_ok : compileFn P Tryd.f32 = some a32 := by kernel_rfl
def a78 : AFn where
  code := (.seq (.region false [⟨none, (some 5), .box (.t 0)⟩,
    ⟨none, (some 10), .alloc [.nils, .nils, (.int .i64 0)]⟩,
    ⟨none, (some 11), .mov (.k (.int .i64 0))⟩])
  (.seq (.seq (.region false [⟨none, (some 13), .load 3 true (.t 5)⟩,
    ⟨none, (some 14), .call (.k (.fn (.func 20) [] [])) [(.t 13)]⟩,
    ⟨none, (some 15), .un .not (.t 14)⟩,
    ⟨none, (some 16), .mov (.t 15)⟩,
    ⟨(some (16, false)), (some 17), .mov (.t 2)⟩,
    ⟨(some (16, false)), (some 18), .call (.k (.fn (.func 70) [] [])) [(.t 17)]⟩,
    ⟨(some (16, false)), (some 19), .un .not (.t 18)⟩,
    ⟨none, (some 20), .pick (.t 16) (.k (.bool true)) (.t 19)⟩])
  (.cond (.t 20) (.seq (.region false [⟨none, (some 21), .build [.nils, .nils, (.int .i64 0)] []⟩,
    ⟨none, none, .store 3 (.t 10) (.t 21)⟩,
    ⟨none, (some 11), .mov (.k (.int .i64 1))⟩])
  .ret)
  .skip))
  (.seq (.region false [⟨none, (some 22), .load 3 true (.t 5)⟩,
    ⟨none, (some 23), .mov (.t 1)⟩,
    ⟨none, (some 24), .call (.k (.fn (.func 24) [] [])) [(.t 22), (.t 23)]⟩,
    ⟨none, (some 12), .mov (.t 24)⟩])
  (.seq (.seq (.region false [⟨none, (some 25), .mov (.t 12)⟩,
    ⟨none, (some 26), .bin .lss (.t 25) (.k (.int .i64 0))⟩])
  (.cond (.t 26) (.seq (.region false [⟨none, (some 27), .build [.nils, .nils, (.int .i64 0)] []⟩,
    ⟨none, none, .store 3 (.t 10) (.t 27)⟩,
    ⟨none, (some 11), .mov (.k (.int .i64 4))⟩])
  .ret)
  .skip))
  (.seq (.seq (.region false [⟨none, (some 28), .mov (.t 4)⟩,
    ⟨none, (some 29), .fld 1 (.t 5)⟩,
    ⟨none, (some 30), .load 1 false (.t 29)⟩,
    ⟨none, (some 31), .mov (.t 12)⟩,
    ⟨none, (some 32), .idxS 37 (.t 30) (.t 31)⟩,
    ⟨none, (some 33), .fld 34 (.t 32)⟩,
    ⟨none, (some 34), .load 1 false (.t 33)⟩,
    ⟨none, (some 35), .call (.t 28) [(.t 34)]⟩,
    ⟨none, (some 36), .un .not (.t 35)⟩])
  (.cond (.t 36) (.seq (.region false [⟨none, (some 37), .build [.nils, .nils, (.int .i64 0)] []⟩,
    ⟨none, none, .store 3 (.t 10) (.t 37)⟩,
    ⟨none, (some 11), .mov (.k (.int .i64 30))⟩])
  .ret)
  .skip))
  (.seq (.region false [⟨none, (some 38), .load 3 true (.t 5)⟩,
    ⟨none, (some 39), .call (.k (.fn (.func 71) [] [])) [(.t 38)]⟩,
    ⟨none, none, .store 3 (.t 5) (.t 39)⟩])
  (.seq (.region true [⟨none, (some 40), .fld 1 (.t 5)⟩,
    ⟨none, (some 41), .load 1 false (.t 40)⟩,
    ⟨none, (some 42), .mov (.t 12)⟩,
    ⟨none, (some 43), .fld 1 (.t 5)⟩,
    ⟨none, (some 44), .load 1 false (.t 43)⟩,
    ⟨none, (some 45), .mov (.t 12)⟩,
    ⟨none, (some 46), .mov (.t 3)⟩,
    ⟨none, (some 47), .mov (.t 2)⟩,
    ⟨none, (some 48), .idxS 37 (.t 41) (.t 42)⟩,
    ⟨none, (some 49), .fld 34 (.t 48)⟩,
    ⟨none, none, .store 1 (.t 49) (.t 46)⟩,
    ⟨none, (some 50), .idxS 37 (.t 44) (.t 45)⟩,
    ⟨none, (some 51), .fld 35 (.t 50)⟩,
    ⟨none, none, .store 1 (.t 51) (.t 47)⟩,
    ⟨none, none, .apart (.t 5) (.t 49)⟩,
    ⟨none, none, .apart (.t 43) (.t 49)⟩])
  (.seq (.region false [⟨none, (some 52), .load 3 true (.t 5)⟩,
    ⟨none, none, .store 3 (.t 10) (.t 52)⟩,
    ⟨none, (some 11), .mov (.k (.int .i64 0))⟩])
  .ret))))))))
  ntmps := 53
  res := [.cell 10 3 true, .tmp 11]
theorem a78_ok : compileFn P Tryd.f78 = some a78 := by kernel_rfl
def a79 : AFn where
  code := (.seq (.region false [⟨none, (some 2), .mov (.k (.bool false))⟩])
  (.seq (.region false [⟨none, (some 3), .mov (.t 0)⟩,
    ⟨none, (some 4), .bin .eql (.t 3) (.k (.int .i64 1))⟩,
    ⟨none, (some 2), .mov (.t 4)⟩])
  .ret))
  ntmps := 5
  res := [.tmp 2]
theorem a79_ok : compileFn P Tryd.f79 = some a79 := by kernel_rfl
def a81 : AFn where
  code := (.seq (.region false [⟨none, (some 2), .mov (.k (.bool false))⟩])
  (.seq (.region false [⟨none, (some 3), .mov (.t 0)⟩,
    ⟨none, (some 4), .bin .neq (.t 3) (.k (.int .i64 3))⟩,
    ⟨none, (some 2), .mov (.t 4)⟩])
  .ret))
  ntmps := 5
  res := [.tmp 2]
theorem a81_ok : compileFn P Tryd.f81 = some a81 := by kernel_rfl
def a38 : AFn where
  code := (.seq (.region false [⟨none, (some 3), .box (.t 0)⟩,
    ⟨none, (some 6), .alloc [.nils, .nils, (.int .i64 0)]⟩,
    ⟨none, (some 7), .mov (.k (.int .i64 0))⟩])
  (.seq (.region false [⟨none, (some 8), .load 3 true (.t 3)⟩,
    ⟨none, (some 9), .mov (.t 1)⟩,
    ⟨none, (some 10), .mov (.t 2)⟩,
    ⟨none, (some 11), .call (.k (.fn (.func 78) [] [])) [(.t 8), (.t 9), (.t 10), (.k (.int .i64 2)), (.k (.fn (.func 79) [] []))]⟩,
    ⟨none, (some 12), .ext (.t 11) 0⟩,
    ⟨none, (some 13), .ext (.t 11) 1⟩,
    ⟨none, none, .store 3 (.t 6) (.t 12)⟩,
    ⟨none, (some 7), .mov (.t 13)⟩])
  .ret))
  ntmps := 14
  res := [.cell 6 3 true, .tmp 7]
theorem a38_ok : compileFn P Tryd.f38 = some a38 := by kernel_rfl
def a40 : AFn where
  code := (.seq (.region false [⟨none, (some 3), .box (.t 0)⟩,
    ⟨none, (some 6), .alloc [.nils, .nils, (.int .i64 0)]⟩,
    ⟨none, (some 7), .mov (.k (.int .i64 0))⟩])
  (.seq (.region false [⟨none, (some 8), .load 3 true (.t 3)⟩,
    ⟨none, (some 9), .mov (.t 1)⟩,
    ⟨none, (some 10), .mov (.t 2)⟩,
    ⟨none, (some 11), .call (.k (.fn (.func 78) [] [])) [(.t 8), (.t 9), (.t 10), (.k (.int .i64 3)), (.k (.fn (.func 81) [] []))]⟩,
    ⟨none, (some 12), .ext (.t 11) 0⟩,
    ⟨none, (some 13), .ext (.t 11) 1⟩,
    ⟨none, none, .store 3 (.t 6) (.t 12)⟩,
    ⟨none, (some 7), .mov (.t 13)⟩])
  .ret))
  ntmps := 14
  res := [.cell 6 3 true, .tmp 7]
theorem a40_ok : compileFn P Tryd.f40 = some a40 := by kernel_rfl
end Go.Proofs.YtjhakjeioppijaaDoor
set_option linter.unusedSimpArgs false
set_option linter.unusedVariables false
namespace Go.Proofs.YtjhakjeioppijaaDoor
open Go Go.Am
def a63L0 : ACode :=
  (.seq (.seq (.region false [⟨none, (some 6), .mov (.t 5)⟩,
    ⟨none, (some 7), .mov (.t 0)⟩,
    ⟨none, (some 8), .len (.t 7)⟩,
    ⟨none, (some 9), .bin .lss (.t 6) (.t 8)⟩])
  (.cond (.t 9) .skip
  (.exit 0)))
  (.seq (.block 1 (.seq (.region true [⟨none, (some 12), .mov (.t 0)⟩,
    ⟨none, (some 13), .mov (.t 5)⟩,
    ⟨none, (some 14), .idxS 32 (.t 12) (.t 13)⟩,
    ⟨none, (some 15), .load 32 true (.t 14)⟩,
    ⟨none, (some 16), .load 32 true (.t 3)⟩,
    ⟨none, (some 17), .eqa false [(32, 0)] (.t 15) (.t 16)⟩])
  (.cond (.t 17) (.seq (.region false [⟨none, (some 4), .mov (.k (.bool true))⟩])
  .ret)
  .skip)))
  (.region false [⟨none, (some 10), .mov (.t 5)⟩,
    ⟨none, (some 11), .bin .add (.t 10) (.k (.int .i64 1))⟩,
    ⟨none, (some 5), .mov (.t 11)⟩])))
def a63S0 (x0 x3 x5 : DV) (h : List AObj) : St := ⟨[x0, .junk, .junk, x3, .junk, x5] ++ js 12, h⟩
def a63 : AFn where
  code := (.seq (.region false [⟨none, (some 3), .box (.t 1)⟩,
    ⟨none, (some 4), .mov (.k (.bool false))⟩])
  (.seq (.seq (.region false [⟨none, (some 5), .mov (.k (.int .i64 0))⟩])
  (.block 0 (.loop a63L0)))
  (.seq (.region false [⟨none, (some 4), .mov (.k (.bool false))⟩])
  .ret)))
  ntmps := 18
  res := [.tmp 4]
theorem a63_ok : compileFn P Tryd.f63 = some a63 := by kernel_rfl
def a107L0 : ACode :=
  (.seq (.seq (.region false [⟨none, (some 11), .mov (.t 5)⟩,
    ⟨none, (some 12), .mov (.t 0)⟩,
    ⟨none, (some 13), .len (.t 12)⟩,
    ⟨none, (some 14), .bin .lss (.t 11) (.t 13)⟩])
  (.cond (.t 14) .skip
  (.exit 0)))
  (.seq (.block 1 (.seq (.region true [⟨none, (some 17), .mov (.t 0)⟩,
    ⟨none, (some 18), .mov (.t 5)⟩,
    ⟨none, (some 19), .idxS 32 (.t 17) (.t 18)⟩,
    ⟨none, (some 20), .load 32 true (.t 19)⟩,
    ⟨none, (some 21), .mov (.t 1)⟩,
    ⟨none, (some 22), .mov (.t 5)⟩,
    ⟨none, (some 23), .idxS 32 (.t 21) (.t 22)⟩,
    ⟨none, (some 24), .load 32 true (.t 23)⟩,
    ⟨none, (some 25), .eqa true [(32, 0)] (.t 20) (.t 24)⟩])
  (.cond (.t 25) (.seq (.region false [⟨none, (some 4), .mov (.k (.bool false))⟩])
  .ret)
  .skip)))
  (.region false [⟨none, (some 15), .mov (.t 5)⟩,
    ⟨none, (some 16), .bin .add (.t 15) (.k (.int .i64 1))⟩,
    ⟨none, (some 5), .mov (.t 16)⟩])))
def a107S0 (x0 x1 x5 : DV) (h : List AObj) : St := ⟨[x0, x1, .junk, .junk, .junk, x5] ++ js 20, h⟩
def a107 : AFn where
  code := (.seq (.region false [⟨none, (some 4), .mov (.k (.bool false))⟩])
  (.seq (.seq (.region false [⟨none, (some 6), .mov (.t 0)⟩,
    ⟨none, (some 7), .len (.t 6)⟩,
    ⟨none, (some 8), .mov (.t 1)⟩,
    ⟨none, (some 9), .len (.t 8)⟩,
    ⟨none, (some 10), .bin .neq (.t 7) (.t 9)⟩])
  (.cond (.t 10) (.seq (.region false [⟨none, (some 4), .mov (.k (.bool false))⟩])
  .ret)
  .skip))
  (.seq (.seq (.region false [⟨none, (some 5), .mov (.k (.int .i64 0))⟩])
  (.block 0 (.loop a107L0)))
  (.seq (.region false [⟨none, (some 4), .mov (.k (.bool true))⟩])
  .ret))))
  ntmps := 26
  res := [.tmp 4]
theorem a107_ok : compileFn P Tryd.f107 = some a107 := by kernel_rfl
def a77 : AFn where
  code := (.seq (.region false [⟨none, (some 2), .mov (.k (.bool false))⟩])
  (.seq (.region false [⟨none, (some 3), .mov (.t 0)⟩,
    ⟨none, (some 4), .bin .geq (.t 3) (.k (.int .i64 0))⟩,
    ⟨none, (some 5), .mov (.t 4)⟩,
    ⟨(some (5, true)), (some 6), .mov (.t 0)⟩,
    ⟨(some (5, true)), (some 7), .bin .leq (.t 6) (.k (.int .i64 1099511627776))⟩,
    ⟨none, (some 8), .pick (.t 5) (.t 7) (.k (.bool false))⟩,
    ⟨none, (some 2), .mov (.t 8)⟩])
  .ret))
  ntmps := 9
  res := [.tmp 2]
theorem a77_ok : compileFn P Tryd.f77 = some a77 := by kernel_rfl
def a19L0 : ACode :=
  (.seq (.seq (.region false [⟨none, (some 54), .mov (.t 3)⟩,
    ⟨none, (some 55), .fld 5 (.t 1)⟩,
    ⟨none, (some 56), .load 1 false (.t 55)⟩,
    ⟨none, (some 57), .len (.t 56)⟩,
    ⟨none, (some 58), .bin .lss (.t 54) (.t 57)⟩])
  (.cond (.t 58) .skip
  (.exit 0)))
  (.seq (.block 1 (.seq (.region true [⟨none, (some 61), .fld 5 (.t 1)⟩,
    ⟨none, (some 62), .load 1 false (.t 61)⟩,
    ⟨none, (some 63), .mov (.t 3)⟩,
    ⟨none, (some 64), .idxS 32 (.t 62) (.t 63)⟩,
    ⟨none, (some 65), .load 32 true (.t 64)⟩,
    ⟨none, (some 66), .build (rep 32 (w8 0#8)) []⟩,
    ⟨none, (some 67), .eqa false [(32, 0)] (.t 65) (.t 66)⟩,
    ⟨none, (some 68), .mov (.t 67)⟩,
    ⟨(some (68, false)), (some 69), .fld 5 (.t 1)⟩,
    ⟨(some (68, false)), (some 70), .load 1 false (.t 69)⟩,
    ⟨(some (68, false)), (some 71), .mov (.t 3)⟩,
    ⟨(some (68, false)), (some 72), .slcS 32 (.t 70) none (some (.t 71)) none⟩,
    ⟨(some (68, false)), (some 73), .fld 5 (.t 1)⟩,
    ⟨(some (68, false)), (some 74), .load 1 false (.t 73)⟩,
    ⟨(some (68, false)), (some 75), .mov (.t 3)⟩,
    ⟨(some (68, false)), (some 76), .idxS 32 (.t 74) (.t 75)⟩,
    ⟨(some (68, false)), (some 77), .load 32 true (.t 76)⟩,
    ⟨(some (68, false)), (some 78), .callN (.k (.fn (.func 63) [] [])) [(.t 72), (.t 77)]⟩,
    ⟨none, (some 79), .pick (.t 68) (.k (.bool true)) (.t 78)⟩])
  (.cond (.t 79) (.seq (.region false [⟨none, (some 2), .mov (.k (.bool false))⟩])
  .ret)
  .skip)))
  (.region false [⟨none, (some 59), .mov (.t 3)⟩,
    ⟨none, (some 60), .bin .add (.t 59) (.k (.int .i64 1))⟩,
    ⟨none, (some 3), .mov (.t 60)⟩])))
def a19S0 (x1 x3 : DV) (h : List AObj) : St := ⟨[.junk, x1, .junk, x3] ++ js 76, h⟩
def a19 : AFn where
  code := (.seq (.region false [⟨none, (some 1), .box (.t 0)⟩,
    ⟨none, (some 2), .mov (.k (.bool false))⟩])
  (.seq (.seq (.region false [⟨none, (some 4), .fld 0 (.t 1)⟩,
    ⟨none, (some 5), .load 1 false (.t 4)⟩,
    ⟨none, (some 6), .call (.k (.fn (.func 62) [] [])) [(.t 5)]⟩,
    ⟨none, (some 7), .un .not (.t 6)⟩,
    ⟨none, (some 8), .mov (.t 7)⟩,
    ⟨(some (8, false)), (some 9), .fld 1 (.t 1)⟩,
    ⟨(some (8, false)), (some 10), .load 1 false (.t 9)⟩,
    ⟨(some (8, false)), (some 11), .call (.k (.fn (.func 62) [] [])) [(.t 10)]⟩,
    ⟨(some (8, false)), (some 12), .un .not (.t 11)⟩,
    ⟨none, (some 13), .pick (.t 8) (.k (.bool true)) (.t 12)⟩,
    ⟨none, (some 14), .mov (.t 13)⟩,
    ⟨(some (14, false)), (some 15), .fld 2 (.t 1)⟩,
    ⟨(some (14, false)), (some 16), .load 1 false (.t 15)⟩,
    ⟨(some (14, false)), (some 17), .bin .lss (.t 16) (.k (.int .i64 0))⟩,
    ⟨none, (some 18), .pick (.t 14) (.k (.bool true)) (.t 17)⟩,
    ⟨none, (some 19), .mov (.t 18)⟩,
    ⟨(some (19, false)), (some 20), .fld 2 (.t 1)⟩,
    ⟨(some (19, false)), (some 21), .load 1 false (.t 20)⟩,
    ⟨(some (19, false)), (some 22), .bin .gtr (.t 21) (.k (.int .i64 8))⟩,
    ⟨none, (some 23), .pick (.t 19) (.k (.bool true)) (.t 22)⟩,
    ⟨none, (some 24), .mov (.t 23)⟩,
    ⟨(some (24, false)), (some 25), .fld 3 (.t 1)⟩,
    ⟨(some (24, false)), (some 26), .load 1 false (.t 25)⟩,
    ⟨(some (24, false)), (some 27), .bin .lss (.t 26) (.k (.int .i64 0))⟩,
    ⟨none, (some 28), .pick (.t 24) (.k (.bool true)) (.t 27)⟩,
    ⟨none, (some 29), .mov (.t 28)⟩,
    ⟨(some (29, false)), (some 30), .fld 3 (.t 1)⟩,
    ⟨(some (29, false)), (some 31), .load 1 false (.t 30)⟩,
    ⟨(some (29, false)), (some 32), .fld 2 (.t 1)⟩,
    ⟨(some (29, false)), (some 33), .load 1 false (.t 32)⟩,
    ⟨(some (29, false)), (some 34), .bin .gtr (.t 31) (.t 33)⟩,
    ⟨none, (some 35), .pick (.t 29) (.k (.bool true)) (.t 34)⟩,
    ⟨none, (some 36), .mov (.t 35)⟩,
    ⟨(some (36, false)), (some 37), .fld 4 (.t 1)⟩,
    ⟨(some (36, false)), (some 38), .load 1 false (.t 37)⟩,
    ⟨(some (36, false)), (some 39), .bin .lss (.t 38) (.k (.int .i64 0))⟩,
    ⟨none, (some 40), .pick (.t 36) (.k (.bool true)) (.t 39)⟩,
    ⟨none, (some 41), .mov (.t 40)⟩,
    ⟨(some (41, false)), (some 42), .fld 4 (.t 1)⟩,
    ⟨(some (41, false)), (some 43), .load 1 false (.t 42)⟩,
    ⟨(some (41, false)), (some 44), .fld 2 (.t 1)⟩,
    ⟨(some (41, false)), (some 45), .load 1 false (.t 44)⟩,
    ⟨(some (41, false)), (some 46), .bin .gtr (.t 43) (.t 45)⟩,
    ⟨none, (some 47), .pick (.t 41) (.k (.bool true)) (.t 46)⟩,
    ⟨none, (some 48), .mov (.t 47)⟩,
    ⟨(some (48, false)), (some 49), .fld 5 (.t 1)⟩,
    ⟨(some (48, false)), (some 50), .load 1 false (.t 49)⟩,
    ⟨(some (48, false)), (some 51), .len (.t 50)⟩,
    ⟨(some (48, false)), (some 52), .bin .gtr (.t 51) (.k (.int .i64 6))⟩,
    ⟨none, (some 53), .pick (.t 48) (.k (.bool true)) (.t 52)⟩])
  (.cond (.t 53) (.seq (.region false [⟨none, (some 2), .mov (.k (.bool false))⟩])
  .ret)
  .skip))
  (.seq (.seq (.region false [⟨none, (some 3), .mov (.k (.int .i64 0))⟩])
  (.block 0 (.loop a19L0)))
  (.seq (.region false [⟨none, (some 2), .mov (.k (.bool true))⟩])
  .ret))))
  ntmps := 80
  res := [.tmp 2]
theorem a19_ok : compileFn P Tryd.f19 = some a19 := by kernel_rfl
def a65 : AFn where
  code := (.seq (.region false [⟨none, (some 2), .box (.t 0)⟩,
    ⟨none, (some 3), .box (.t 1)⟩,
    ⟨none, (some 4), .mov (.k (.bool false))⟩])
  (.seq (.region false [⟨none, (some 5), .fld 0 (.t 3)⟩,
    ⟨none, (some 6), .load 1 false (.t 5)⟩,
    ⟨none, (some 7), .bin .geq (.t 6) (.k (.int .i64 1))⟩,
    ⟨none, (some 8), .mov (.t 7)⟩,
    ⟨(some (8, true)), (some 9), .fld 0 (.t 3)⟩,
    ⟨(some (8, true)), (some 10), .load 1 false (.t 9)⟩,
    ⟨(some (8, true)), (some 11), .fld 2 (.t 2)⟩,
    ⟨(some (8, true)), (some 12), .load 1 false (.t 11)⟩,
    ⟨(some (8, true)), (some 13), .bin .lss (.t 10) (.t 12)⟩,
    ⟨none, (some 14), .pick (.t 8) (.t 13) (.k (.bool false))⟩,
    ⟨none, (some 15), .mov (.t 14)⟩,
    ⟨(some (15, true)), (some 16), .fld 1 (.t 3)⟩,
    ⟨(some (15, true)), (some 17), .load 1 false (.t 16)⟩,
    ⟨(some (15, true)), (some 18), .bin .geq (.t 17) (.k (.int .i64 0))⟩,
    ⟨none, (some 19), .pick (.t 15) (.t 18) (.k (.bool false))⟩,
    ⟨none, (some 20), .mov (.t 19)⟩,
    ⟨(some (20, true)), (some 21), .fld 1 (.t 3)⟩,
    ⟨(some (20, true)), (some 22), .load 1 false (.t 21)⟩,
    ⟨(some (20, true)), (some 23), .fld 0 (.t 2)⟩,
    ⟨(some (20, true)), (some 24), .load 1 false (.t 23)⟩,
    ⟨(some (20, true)), (some 25), .len (.t 24)⟩,
    ⟨(some (20, true)), (some 26), .bin .lss (.t 22) (.t 25)⟩,
    ⟨none, (some 27), .pick (.t 20) (.t 26) (.k (.bool false))⟩,
    ⟨none, (some 28), .mov (.t 27)⟩,
    ⟨(some (28, true)), (some 29), .fld 2 (.t 3)⟩,
    ⟨(some (28, true)), (some 30), .load 32 true (.t 29)⟩,
    ⟨(some (28, true)), (some 31), .build (rep 32 (w8 0#8)) []⟩,
    ⟨(some (28, true)), (some 32), .eqa true [(32, 0)] (.t 30) (.t 31)⟩,
    ⟨none, (some 33), .pick (.t 28) (.t 32) (.k (.bool false))⟩,
    ⟨none, (some 34), .mov (.t 33)⟩,
    ⟨(some (34, true)), (some 35), .fld 34 (.t 3)⟩,
    ⟨(some (34, true)), (some 36), .load 1 false (.t 35)⟩,
    ⟨(some (34, true)), (some 37), .bin .geq (.t 36) (.k (.int .i64 1))⟩,
    ⟨none, (some 38), .pick (.t 34) (.t 37) (.k (.bool false))⟩,
    ⟨none, (some 39), .mov (.t 38)⟩,
    ⟨(some (39, true)), (some 40), .fld 34 (.t 3)⟩,
    ⟨(some (39, true)), (some 41), .load 1 false (.t 40)⟩,
    ⟨(some (39, true)), (some 42), .bin .leq (.t 41) (.k (.int .i64 3))⟩,
    ⟨none, (some 43), .pick (.t 39) (.t 42) (.k (.bool false))⟩,
    ⟨none, (some 44), .mov (.t 43)⟩,
    ⟨(some (44, true)), (some 45), .fld 35 (.t 3)⟩,
    ⟨(some (44, true)), (some 46), .load 1 false (.t 45)⟩,
    ⟨(some (44, true)), (some 47), .call (.k (.fn (.func 77) [] [])) [(.t 46)]⟩,
    ⟨none, (some 48), .pick (.t 44) (.t 47) (.k (.bool false))⟩,
    ⟨none, (some 49), .mov (.t 48)⟩,
    ⟨(some (49, true)), (some 50), .fld 36 (.t 3)⟩,
    ⟨(some (49, true)), (some 51), .load 1 false (.t 50)⟩,
    ⟨(some (49, true)), (some 52), .bin .geq (.t 51) (.k (.int .i64 (-1)))⟩,
    ⟨none, (some 53), .pick (.t 49) (.t 52) (.k (.bool false))⟩,
    ⟨none, (some 54), .mov (.t 53)⟩,
    ⟨(some (54, true)), (some 55), .fld 36 (.t 3)⟩,
    ⟨(some (54, true)), (some 56), .load 1 false (.t 55)⟩,
    ⟨(some (54, true)), (some 57), .bin .leq (.t 56) (.k (.int .i64 1099511627776))⟩,
    ⟨none, (some 58), .pick (.t 54) (.t 57) (.k (.bool false))⟩,
    ⟨none, (some 4), .mov (.t 58)⟩])
  .ret))
  ntmps := 59
  res := [.tmp 4]
theorem a65_ok : compileFn P Tryd.f65 = some a65 := by kernel_rfl
def a21L0 : ACode :=
  (.seq (.seq (.region false [⟨none, (some 25), .mov (.t 3)⟩,
    ⟨none, (some 26), .fld 0 (.t 1)⟩,
    ⟨none, (some 27), .load 1 false (.t 26)⟩,
    ⟨none, (some 28), .len (.t 27)⟩,
    ⟨none, (some 29), .bin .lss (.t 25) (.t 28)⟩])
  (.cond (.t 29) .skip
  (.exit 0)))
  (.seq (.block 1 (.seq (.region true [⟨none, (some 32), .fld 0 (.t 1)⟩,
    ⟨none, (some 33), .load 1 false (.t 32)⟩,
    ⟨none, (some 34), .mov (.t 3)⟩,
    ⟨none, (some 35), .idxS 6 (.t 33) (.t 34)⟩,
    ⟨none, (some 36), .load 6 true (.t 35)⟩,
    ⟨none, (some 37), .callN (.k (.fn (.func 19) [] [])) [(.t 36)]⟩,
    ⟨none, (some 38), .un .not (.t 37)⟩,
    ⟨none, (some 39), .mov (.t 38)⟩,
    ⟨(some (39, false)), (some 40), .load 3 true (.t 1)⟩,
    ⟨(some (39, false)), (some 41), .fld 0 (.t 1)⟩,
    ⟨(some (39, false)), (some 42), .load 1 false (.t 41)⟩,
    ⟨(some (39, false)), (some 43), .mov (.t 3)⟩,
    ⟨(some (39, false)), (some 44), .idxS 6 (.t 42) (.t 43)⟩,
    ⟨(some (39, false)), (some 45), .fld 0 (.t 44)⟩,
    ⟨(some (39, false)), (some 46), .load 1 false (.t 45)⟩,
    ⟨(some (39, false)), (some 47), .fld 0 (.t 1)⟩,
    ⟨(some (39, false)), (some 48), .load 1 false (.t 47)⟩,
    ⟨(some (39, false)), (some 49), .mov (.t 3)⟩,
    ⟨(some (39, false)), (some 50), .idxS 6 (.t 48) (.t 49)⟩,
    ⟨(some (39, false)), (some 51), .fld 1 (.t 50)⟩,
    ⟨(some (39, false)), (some 52), .load 1 false (.t 51)⟩,
    ⟨(some (39, false)), (some 54), .mov (.t 3)⟩,
    ⟨(some (39, false)), (some 53), .callN (.k (.fn (.func 23) [] [])) [(.t 40), (.t 46), (.t 52)]⟩,
    ⟨(some (39, false)), (some 55), .bin .neq (.t 53) (.t 54)⟩,
    ⟨none, (some 56), .pick (.t 39) (.k (.bool true)) (.t 55)⟩])
  (.cond (.t 56) (.seq (.region false [⟨none, (some 2), .mov (.k (.bool false))⟩])
  .ret)
  .skip)))
  (.region false [⟨none, (some 30), .mov (.t 3)⟩,
    ⟨none, (some 31), .bin .add (.t 30) (.k (.int .i64 1))⟩,
    ⟨none, (some 3), .mov (.t 31)⟩])))
def a21S0 (x1 x3 : DV) (h : List AObj) : St := ⟨[.junk, x1, .junk, x3] ++ js 88, h⟩
def a21L1 : ACode :=
  (.seq (.seq (.region false [⟨none, (some 57), .mov (.t 4)⟩,
    ⟨none, (some 58), .fld 1 (.t 1)⟩,
    ⟨none, (some 59), .load 1 false (.t 58)⟩,
    ⟨none, (some 60), .len (.t 59)⟩,
    ⟨none, (some 61), .bin .lss (.t 57) (.t 60)⟩])
  (.cond (.t 61) .skip
  (.exit 2)))
  (.seq (.block 3 (.seq (.region true [⟨none, (some 64), .load 3 true (.t 1)⟩,
    ⟨none, (some 65), .fld 1 (.t 1)⟩,
    ⟨none, (some 66), .load 1 false (.t 65)⟩,
    ⟨none, (some 67), .mov (.t 4)⟩,
    ⟨none, (some 68), .idxS 37 (.t 66) (.t 67)⟩,
    ⟨none, (some 69), .load 37 true (.t 68)⟩,
    ⟨none, (some 70), .callN (.k (.fn (.func 65) [] [])) [(.t 64), (.t 69)]⟩,
    ⟨none, (some 71), .un .not (.t 70)⟩,
    ⟨none, (some 72), .mov (.t 71)⟩,
    ⟨(some (72, false)), (some 73), .mov (.t 4)⟩,
    ⟨(some (72, false)), (some 74), .bin .gtr (.t 73) (.k (.int .i64 0))⟩,
    ⟨(some (72, false)), (some 75), .mov (.t 74)⟩,
    ⟨(some (75, true)), (some 76), .fld 1 (.t 1)⟩,
    ⟨(some (75, true)), (some 77), .load 1 false (.t 76)⟩,
    ⟨(some (75, true)), (some 78), .mov (.t 4)⟩,
    ⟨(some (75, true)), (some 79), .bin .sub (.t 78) (.k (.int .i64 1))⟩,
    ⟨(some (75, true)), (some 80), .idxS 37 (.t 77) (.t 79)⟩,
    ⟨(some (75, true)), (some 81), .fld 0 (.t 80)⟩,
    ⟨(some (75, true)), (some 82), .load 1 false (.t 81)⟩,
    ⟨(some (75, true)), (some 83), .fld 1 (.t 1)⟩,
    ⟨(some (75, true)), (some 84), .load 1 false (.t 83)⟩,
    ⟨(some (75, true)), (some 85), .mov (.t 4)⟩,
    ⟨(some (75, true)), (some 86), .idxS 37 (.t 84) (.t 85)⟩,
    ⟨(some (75, true)), (some 87), .fld 0 (.t 86)⟩,
    ⟨(some (75, true)), (some 88), .load 1 false (.t 87)⟩,
    ⟨(some (75, true)), (some 89), .bin .geq (.t 82) (.t 88)⟩,
    ⟨(some (72, false)), (some 90), .pick (.t 75) (.t 89) (.k (.bool false))⟩,
    ⟨none, (some 91), .pick (.t 72) (.k (.bool true)) (.t 90)⟩])
  (.cond (.t 91) (.seq (.region false [⟨none, (some 2), .mov (.k (.bool false))⟩])
  .ret)
  .skip)))
  (.region false [⟨none, (some 62), .mov (.t 4)⟩,
    ⟨none, (some 63), .bin .add (.t 62) (.k (.int .i64 1))⟩,
    ⟨none, (some 4), .mov (.t 63)⟩])))
def a21S1 (x1 x4 : DV) (h : List AObj) : St := ⟨[.junk, x1, .junk, .junk, x4] ++ js 87, h⟩
def a21 : AFn where
  code := (.seq (.region false [⟨none, (some 1), .box (.t 0)⟩,
    ⟨none, (some 2), .mov (.k (.bool false))⟩])
  (.seq (.seq (.region false [⟨none, (some 5), .fld 0 (.t 1)⟩,
    ⟨none, (some 6), .load 1 false (.t 5)⟩,
    ⟨none, (some 7), .len (.t 6)⟩,
    ⟨none, (some 8), .bin .gtr (.t 7) (.k (.int .i64 16))⟩,
    ⟨none, (some 9), .mov (.t 8)⟩,
    ⟨(some (9, false)), (some 10), .fld 1 (.t 1)⟩,
    ⟨(some (9, false)), (some 11), .load 1 false (.t 10)⟩,
    ⟨(some (9, false)), (some 12), .len (.t 11)⟩,
    ⟨(some (9, false)), (some 13), .bin .gtr (.t 12) (.k (.int .i64 200))⟩,
    ⟨none, (some 14), .pick (.t 9) (.k (.bool true)) (.t 13)⟩,
    ⟨none, (some 15), .mov (.t 14)⟩,
    ⟨(some (15, false)), (some 16), .fld 2 (.t 1)⟩,
    ⟨(some (15, false)), (some 17), .load 1 false (.t 16)⟩,
    ⟨(some (15, false)), (some 18), .bin .lss (.t 17) (.k (.int .i64 1))⟩,
    ⟨none, (some 19), .pick (.t 15) (.k (.bool true)) (.t 18)⟩,
    ⟨none, (some 20), .mov (.t 19)⟩,
    ⟨(some (20, false)), (some 21), .fld 2 (.t 1)⟩,
    ⟨(some (20, false)), (some 22), .load 1 false (.t 21)⟩,
    ⟨(some (20, false)), (some 23), .bin .gtr (.t 22) (.k (.int .i64 1099511627776))⟩,
    ⟨none, (some 24), .pick (.t 20) (.k (.bool true)) (.t 23)⟩])
  (.cond (.t 24) (.seq (.region false [⟨none, (some 2), .mov (.k (.bool false))⟩])
  .ret)
  .skip))
  (.seq (.seq (.region false [⟨none, (some 3), .mov (.k (.int .i64 0))⟩])
  (.block 0 (.loop a21L0)))
  (.seq (.seq (.region false [⟨none, (some 4), .mov (.k (.int .i64 0))⟩])
  (.block 2 (.loop a21L1)))
  (.seq (.region false [⟨none, (some 2), .mov (.k (.bool true))⟩])
  .ret)))))
  ntmps := 92
  res := [.tmp 2]
theorem a21_ok : compileFn P Tryd.f21 = some a21 := by kernel_rfl
def a23L0 : ACode :=
  (.seq (.seq (.region false [⟨none, (some 8), .mov (.t 7)⟩,
    ⟨none, (some 9), .fld 0 (.t 3)⟩,
    ⟨none, (some 10), .load 1 false (.t 9)⟩,
    ⟨none, (some 11), .len (.t 10)⟩,
    ⟨none, (some 12), .bin .lss (.t 8) (.t 11)⟩])
  (.cond (.t 12) .skip
  (.exit 0)))
  (.seq (.block 1 (.seq (.region false [⟨none, (some 15), .fld 0 (.t 3)⟩,
    ⟨none, (some 16), .load 1 false (.t 15)⟩,
    ⟨none, (some 17), .mov (.t 7)⟩,
    ⟨none, (some 18), .idxS 6 (.t 16) (.t 17)⟩,
    ⟨none, (some 19), .fld 0 (.t 18)⟩,
    ⟨none, (some 20), .load 1 false (.t 19)⟩,
    ⟨none, (some 21), .mov (.t 1)⟩,
    ⟨none, (some 22), .bin .eql (.t 20) (.t 21)⟩,
    ⟨none, (some 23), .mov (.t 22)⟩,
    ⟨(some (23, true)), (some 24), .fld 0 (.t 3)⟩,
    ⟨(some (23, true)), (some 25), .load 1 false (.t 24)⟩,
    ⟨(some (23, true)), (some 26), .mov (.t 7)⟩,
    ⟨(some (23, true)), (some 27), .idxS 6 (.t 25) (.t 26)⟩,
    ⟨(some (23, true)), (some 28), .fld 1 (.t 27)⟩,
    ⟨(some (23, true)), (some 29), .load 1 false (.t 28)⟩,
    ⟨(some (23, true)), (some 30), .mov (.t 2)⟩,
    ⟨(some (23, true)), (some 31), .bin .eql (.t 29) (.t 30)⟩,
    ⟨none, (some 32), .pick (.t 23) (.t 31) (.k (.bool false))⟩])
  (.cond (.t 32) (.seq (.region false [⟨none, (some 33), .mov (.t 7)⟩,
    ⟨none, (some 6), .mov (.t 33)⟩])
  .ret)
  .skip)))
  (.region false [⟨none, (some 13), .mov (.t 7)⟩,
    ⟨none, (some 14), .bin .add (.t 13) (.k (.int .i64 1))⟩,
    ⟨none, (some 7), .mov (.t 14)⟩])))
def a23S0 (x1 x2 x3 x7 : DV) (h : List AObj) : St := ⟨[.junk, x1, x2, x3, .junk, .junk, .junk, x7] ++ js 26, h⟩
def a23 : AFn where
  code := (.seq (.region false [⟨none, (some 3), .box (.t 0)⟩,
    ⟨none, (some 6), .mov (.k (.int .i64 0))⟩])
  (.seq (.seq (.region false [⟨none, (some 7), .mov (.k (.int .i64 0))⟩])
  (.block 0 (.loop a23L0)))
  (.seq (.region false [⟨none, (some 6), .mov (.k (.int .i64 (-1)))⟩])
  .ret)))
  ntmps := 34
  res := [.tmp 6]
theorem a23_ok : compileFn P Tryd.f23 = some a23 := by kernel_rfl
def a25L0 : ACode :=
  (.seq (.seq (.region false [⟨none, (some 6), .mov (.t 5)⟩,
    ⟨none, (some 7), .fld 1 (.t 2)⟩,
    ⟨none, (some 8), .load 1 false (.t 7)⟩,
    ⟨none, (some 9), .len (.t 8)⟩,
    ⟨none, (some 10), .bin .lss (.t 6) (.t 9)⟩])
  (.cond (.t 10) .skip
  (.exit 0)))
  (.seq (.block 1 (.seq (.region false [⟨none, (some 13), .fld 1 (.t 2)⟩,
    ⟨none, (some 14), .load 1 false (.t 13)⟩,
    ⟨none, (some 15), .mov (.t 5)⟩,
    ⟨none, (some 16), .idxS 37 (.t 14) (.t 15)⟩,
    ⟨none, (some 17), .fld 0 (.t 16)⟩,
    ⟨none, (some 18), .load 1 false (.t 17)⟩,
    ⟨none, (some 19), .mov (.t 1)⟩,
    ⟨none, (some 20), .bin .eql (.t 18) (.t 19)⟩])
  (.cond (.t 20) (.seq (.region false [⟨none, (some 21), .mov (.t 5)⟩,
    ⟨none, (some 4), .mov (.t 21)⟩])
  .ret)
  .skip)))
  (.region false [⟨none, (some 11), .mov (.t 5)⟩,
    ⟨none, (some 12), .bin .add (.t 11) (.k (.int .i64 1))⟩,
    ⟨none, (some 5), .mov (.t 12)⟩])))
def a25S0 (x1 x2 x5 : DV) (h : List AObj) : St := ⟨[.junk, x1, x2, .junk, .junk, x5] ++ js 16, h⟩
def a25 : AFn where
  code := (.seq (.region false [⟨none, (some 2), .box (.t 0)⟩,
    ⟨none, (some 4), .mov (.k (.int .i64 0))⟩])
  (.seq (.seq (.region false [⟨none, (some 5), .mov (.k (.int .i64 0))⟩])
  (.block 0 (.loop a25L0)))
  (.seq (.region false [⟨none, (some 4), .mov (.k (.int .i64 (-1)))⟩])
  .ret)))
  ntmps := 22
  res := [.tmp 4]
theorem a25_ok : compileFn P Tryd.f25 = some a25 := by kernel_rfl
def a76 : AFn where
  code := (.seq (.region false [⟨none, (some 1), .box (.t 0)⟩,
    ⟨none, (some 2), .alloc [.nils, .nils, (.int .i64 0)]⟩])
  (.seq (.region true [⟨none, (some 3), .fld 0 (.t 1)⟩,
    ⟨none, (some 4), .load 1 false (.t 3)⟩,
    ⟨none, (some 5), .app 6 80 (.k .nils) (.t 4)⟩,
    ⟨none, (some 6), .fld 1 (.t 1)⟩,
    ⟨none, (some 7), .load 1 false (.t 6)⟩,
    ⟨none, (some 8), .app 37 72 (.k .nils) (.t 7)⟩,
    ⟨none, (some 9), .fld 2 (.t 1)⟩,
    ⟨none, (some 10), .load 1 false (.t 9)⟩,
    ⟨none, (some 11), .build [.nils, .nils, (.int .i64 0)] [(0, 1, (.t 5)), (1, 1, (.t 8)), (2, 1, (.t 10))]⟩,
    ⟨none, none, .store 3 (.t 2) (.t 11)⟩,
    ⟨none, none, .apart (.t 1) (.t 5)⟩,
    ⟨none, none, .apart (.t 6) (.t 5)⟩,
    ⟨none, none, .apart (.t 1) (.t 5)⟩,
    ⟨none, none, .apart (.t 9) (.t 5)⟩,
    ⟨none, none, .apart (.t 1) (.t 8)⟩,
    ⟨none, none, .apart (.t 9) (.t 8)⟩])
  .ret))
  ntmps := 12
  res := [.cell 2 3 true]
theorem a76_ok : compileFn P Tryd.f76 = some a76 := by kernel_rfl
def a36 : AFn where
  code := (.seq (.region false [⟨none, (some 2), .box (.t 0)⟩,
    ⟨none, (some 3), .box (.t 1)⟩,
    ⟨none, (some 4), .alloc [.nils, .nils, (.int .i64 0)]⟩,
    ⟨none, (some 5), .mov (.k (.int .i64 0))⟩])
  (.seq (.seq (.region false [⟨none, (some 8), .load 3 true (.t 2)⟩,
    ⟨none, (some 9), .call (.k (.fn (.func 21) [] [])) [(.t 8)]⟩,
    ⟨none, (some 10), .un .not (.t 9)⟩,
    ⟨none, (some 11), .mov (.t 10)⟩,
    ⟨(some (11, false)), (some 12), .load 6 true (.t 3)⟩,
    ⟨(some (11, false)), (some 13), .call (.k (.fn (.func 19) [] [])) [(.t 12)]⟩,
    ⟨(some (11, false)), (some 14), .un .not (.t 13)⟩,
    ⟨none, (some 15), .pick (.t 11) (.k (.bool true)) (.t 14)⟩])
  (.cond (.t 15) (.seq (.region false [⟨none, (some 16), .build [.nils, .nils, (.int .i64 0)] []⟩,
    ⟨none, none, .store 3 (.t 4) (.t 16)⟩,
    ⟨none, (some 5), .mov (.k (.int .i64 1))⟩])
  .ret)
  .skip))
  (.seq (.region true [⟨none, (some 17), .load 3 true (.t 2)⟩,
    ⟨none, (some 19), .load 3 true (.t 2)⟩,
    ⟨none, (some 20), .fld 0 (.t 3)⟩,
    ⟨none, (some 21), .load 1 false (.t 20)⟩,
    ⟨none, (some 22), .fld 1 (.t 3)⟩,
    ⟨none, (some 23), .load 1 false (.t 22)⟩,
    ⟨none, (some 18), .callN (.k (.fn (.func 76) [] [])) [(.t 17)]⟩,
    ⟨none, (some 24), .callN (.k (.fn (.func 23) [] [])) [(.t 19), (.t 21), (.t 23)]⟩,
    ⟨none, (some 6), .alloc [.nils, .nils, (.int .i64 0)]⟩,
    ⟨none, none, .store 3 (.t 6) (.t 18)⟩,
    ⟨none, (some 7), .mov (.t 24)⟩])
  (.seq (.seq (.region false [⟨none, (some 25), .mov (.t 7)⟩,
    ⟨none, (some 26), .bin .geq (.t 25) (.k (.int .i64 0))⟩])
  (.cond (.t 26) (.seq (.region false [⟨none, (some 27), .fld 0 (.t 6)⟩,
    ⟨none, (some 28), .load 1 false (.t 27)⟩,
    ⟨none, (some 29), .mov (.t 7)⟩,
    ⟨none, (some 30), .load 6 true (.t 3)⟩,
    ⟨none, (some 31), .idxS 6 (.t 28) (.t 29)⟩,
    ⟨none, none, .store 6 (.t 31) (.t 30)⟩])
  (.seq (.region false [⟨none, (some 32), .load 3 true (.t 6)⟩,
    ⟨none, none, .store 3 (.t 4) (.t 32)⟩,
    ⟨none, (some 5), .mov (.k (.int .i64 0))⟩])
  .ret))
  .skip))
  (.seq (.seq (.region false [⟨none, (some 33), .fld 0 (.t 2)⟩,
    ⟨none, (some 34), .load 1 false (.t 33)⟩,
    ⟨none, (some 35), .len (.t 34)⟩,
    ⟨none, (some 36), .bin .geq (.t 35) (.k (.int .i64 16))⟩])
  (.cond (.t 36) (.seq (.region false [⟨none, (some 37), .build [.nils, .nils, (.int .i64 0)] []⟩,
    ⟨none, none, .store 3 (.t 4) (.t 37)⟩,
    ⟨none, (some 5), .mov (.k (.int .i64 3))⟩])
  .ret)
  .skip))
  (.seq (.region false [⟨none, (some 38), .fld 0 (.t 6)⟩,
    ⟨none, (some 39), .load 1 false (.t 38)⟩,
    ⟨none, (some 40), .load 6 true (.t 3)⟩,
    ⟨none, (some 41), .bsl 6 1 [(.str []), (.str []), (.int .i64 0), (.int .i64 0), (.int .i64 0), .nils] [(0, 6, (.t 40))]⟩,
    ⟨none, (some 42), .app 6 80 (.t 39) (.t 41)⟩,
    ⟨none, (some 43), .fld 0 (.t 6)⟩,
    ⟨none, none, .store 1 (.t 43) (.t 42)⟩])
  (.seq (.region false [⟨none, (some 44), .load 3 true (.t 6)⟩,
    ⟨none, none, .store 3 (.t 4) (.t 44)⟩,
    ⟨none, (some 5), .mov (.k (.int .i64 0))⟩])
  .ret)))))))
  ntmps := 45
  res := [.cell 4 3 true, .tmp 5]
theorem a36_ok : compileFn P Tryd.f36 = some a36 := by kernel_rfl
end Go.Proofs.YtjhakjeioppijaaDoor
set_option linter.unusedSimpArgs false
set_option linter.unusedVariables false
namespace Go.Proofs.YtjhakjeioppijaaDoor
open Go Go.Am
theorem fmap_inj {α : Type} {f : α → List DV} {s : Nat} (hu : ∀ a, (f a).length = s) (h0 : 0 < s) (hi : ∀ a b, f a = f b → a = b) : ∀ {l l' : List α}, l.flatMap f = l'.flatMap f → l = l'
  | [], [], _ => rfl
  | [], b :: l', e => by have := congrArg List.length e; simp [hu] at this; omega
  | a :: l, [], e => by have := congrArg List.length e; simp [hu] at this; omega
  | a :: l, b :: l', e => by
    rw [List.flatMap_cons, List.flatMap_cons] at e
    have := List.append_inj e (by rw [hu, hu])
    rw [hi _ _ this.1, fmap_inj hu h0 hi this.2]
theorem dv_inj {α : Type} {f : α → List DV} {s : Nat} (hu : ∀ a, (f a).length = s) (h0 : 0 < s) (hi : ∀ a b, f a = f b → a = b) {x y : Sl α} (e : x.dv s f = y.dv s f) : x = y := by
  obtain ⟨k, l, h, hb⟩ := x
  obtain ⟨k', l', h', hb'⟩ := y
  cases k with
  | none =>
    cases k' with
    | none => cases h rfl; cases h' rfl; rfl
    | some b => simp [Sl.dv, slD] at e
  | some b =>
    cases k' with
    | none => simp [Sl.dv, slD] at e
    | some b' =>
      simp only [Sl.dv, slD, DV.sl.injEq] at e
      obtain ⟨rfl, _, _, e⟩ := e
      cases fmap_inj hu h0 hi e
      rfl
theorem dgs_inj {x y : Sl Dg} (e : x.dv 32 dgC = y.dv 32 dgC) : x = y := dv_inj len_dgC (by decide) (fun _ _ => dgC_inj) e
theorem grC_inj {a b : Grp} (e : grC a = grC b) : a = b := by
  obtain ⟨a1, a2, a3, a4, a5, a6⟩ := a
  obtain ⟨b1, b2, b3, b4, b5, b6⟩ := b
  simp only [grC, List.cons.injEq, DV.str.injEq, DV.int.injEq, true_and, and_true] at e
  obtain ⟨rfl, rfl, rfl, rfl, rfl, e⟩ := e
  rw [dgs_inj e]
theorem inC_inj {a b : Ins} (e : inC a = inC b) : a = b := by
  have h := cellsEq_in (x := a) (y := b)
  rw [← e, cellsEq_in] at h
  simpa using h
theorem clC_inj {a b : Clu} (e : clC a = clC b) : a = b := by
  obtain ⟨a1, a2, a3⟩ := a
  obtain ⟨b1, b2, b3⟩ := b
  simp only [clC, List.cons.injEq, DV.int.injEq, true_and, and_true] at e
  obtain ⟨e1, e2, rfl⟩ := e
  rw [dv_inj len_grC (by decide) (fun _ _ => grC_inj) e1, dv_inj len_inC (by decide) (fun _ _ => inC_inj) e2]
theorem con_inj {α : Type} {f : α → List DV} {g : α → DV} (hi : ∀ a b, f a = f b → a = b) (a : α) : con (fun _ => True) f g (f a) = some (g a) := con_eq (fun a b e => by rw [hi a b e]) a trivial
def ixDg (x : Sl Dg) (d : Dg) : Int := ixI (fun e => decide (d = e)) x.l
def S100 (x : Sl Dg) (d : Dg) (i : Nat) : St := a103S0 (x.dv 32 dgC) (.mp 0 32 0) (.int .i64 x.l.length) (.int .i64 i) [.cells (dgC d)]
theorem runs_ixdg (x : Sl Dg) (d : Dg) : Runs tbl0 a103 [x.dv 32 dgC, .agg (dgC d)] (.int .i64 (ixDg x d)) := by
  refine ⟨?_⟩
  have hb := x.b
  simp (disch := first | omega | (simp [-List.map_take, -List.map_drop, -List.map_set, -List.map_append, -List.drop_one] <;> omega) | fail) [-List.map_take, -List.map_drop, -List.map_set, -List.map_append, -List.drop_one, a103]
  refine W_loop (S100 x d) (fun i => x.l.length - i) (fun i => i ≤ x.l.length ∧ ∀ j (hj : j < x.l.length), j < i → decide (d = x.l[j]) = false) 0 (weak_same (by simp (disch := first | omega | (simp [-List.map_take, -List.map_drop, -List.map_set, -List.map_append, -List.drop_one] <;> omega) | fail) [-List.map_take, -List.map_drop, -List.map_set, -List.map_append, -List.drop_one]) (by simp (disch := first | omega | (simp [-List.map_take, -List.map_drop, -List.map_set, -List.map_append, -List.drop_one] <;> omega) | fail) [-List.map_take, -List.map_drop, -List.map_set, -List.map_append, -List.drop_one])) ⟨by omega, fun j _ hj => by omega⟩ (fun i hi => ?_)
  obtain ⟨h1, h2⟩ := hi
  simp (disch := first | omega | (simp [-List.map_take, -List.map_drop, -List.map_set, -List.map_append, -List.drop_one] <;> omega) | fail) [-List.map_take, -List.map_drop, -List.map_set, -List.map_append, -List.drop_one, a103L0, a103S0, S100]
  by_cases h : i < x.l.length
  · have h' : (i : Int) < x.l.length := by omega
    have hg := idxSD_dv (x := x) (h := [AObj.cells (dgC d)]) len_dgC h
    by_cases e : d = x.l[i]
    · have hr : ixDg x d = i := ixI_at h (by simp [← e]) h2
      simp (disch := first | omega | (simp [-List.map_take, -List.map_drop, -List.map_set, -List.map_append, -List.drop_one] <;> omega) | fail) [-List.map_take, -List.map_drop, -List.map_set, -List.map_append, -List.drop_one, h', h, hg, ← e, hr]
    · simp (disch := first | omega | (simp [-List.map_take, -List.map_drop, -List.map_set, -List.map_append, -List.drop_one] <;> omega) | fail) [-List.map_take, -List.map_drop, -List.map_set, -List.map_append, -List.drop_one, h', h, hg, e]
      refine ⟨i + 1, weak_same (by simp (disch := first | omega | (simp [-List.map_take, -List.map_drop, -List.map_set, -List.map_append, -List.drop_one] <;> omega) | fail) [-List.map_take, -List.map_drop, -List.map_set, -List.map_append, -List.drop_one]) (by simp (disch := first | omega | (simp [-List.map_take, -List.map_drop, -List.map_set, -List.map_append, -List.drop_one] <;> omega) | fail) [-List.map_take, -List.map_drop, -List.map_set, -List.map_append, -List.drop_one]), by omega, by omega, fun j hj hji => ?_⟩
      by_cases ej : j = i
      · subst ej; exact e
      · simpa using h2 j hj (by omega)
  · have h' : ¬ (i : Int) < x.l.length := by omega
    have hr : ixDg x d = -1 := ixI_none (fun j hj => h2 j hj (by omega))
    simp (disch := first | omega | (simp [-List.map_take, -List.map_drop, -List.map_set, -List.map_append, -List.drop_one] <;> omega) | fail) [-List.map_take, -List.map_drop, -List.map_set, -List.map_append, -List.drop_one, h, h', hr]
noncomputable def cDgs (g : Sl Dg → Dg → DV) : List DV → Option DV := con (fun _ => True) (fun p : Sl Dg × Dg => [p.1.dv 32 dgC, .agg (dgC p.2)]) (fun p => g p.1 p.2)
theorem cDgs_eq {g : Sl Dg → Dg → DV} {x : Sl Dg} {d : Dg} : cDgs g [x.dv 32 dgC, .agg (dgC d)] = some (g x d) :=
  con_inj (f := fun p : Sl Dg × Dg => [p.1.dv 32 dgC, .agg (dgC p.2)]) (by
    rintro ⟨a, b⟩ ⟨c, d⟩ e
    simp only [List.cons.injEq, DV.agg.injEq, and_true] at e
    rw [dgs_inj e.1, dgC_inj e.2]) (x, d)
noncomputable def T100 : Tbl := addT 103 (.pure (cDgs fun x d => .int .i64 (ixDg x d))) tbl0
theorem T100_ix : T100 103 = .pure (cDgs fun x d => .int .i64 (ixDg x d)) := by simp [T100]
theorem T100_sound : T100.Sound P := addT_sound (con_sound fun p _ => sem_runs mix tbl0_sound Tryd.func103 a103_ok (runs_ixdg p.1 p.2)) tbl0_sound
theorem ixDg_mem {x : Sl Dg} {d : Dg} : 0 ≤ ixDg x d ↔ d ∈ x.l := by
  constructor
  · intro h
    obtain ⟨i, hi, _, e, _⟩ := ixI_pos h
    simp at e
    rw [e]; exact List.getElem_mem hi
  · intro h
    obtain ⟨i, hi, e⟩ := List.getElem_of_mem h
    have := ixI_ge (fun e => decide (d = e)) x.l
    by_cases hn : ixDg x d < 0
    · have := ixI_neg hn i hi
      simp [e] at this
    · omega
def hasB (x : Sl Dg) (d : Dg) : DV := .bool (decide (d ∈ x.l))
theorem runs_contdg (x : Sl Dg) (d : Dg) : Runs T100 a61 [x.dv 32 dgC, .agg (dgC d)] (hasB x d) := by
  refine ⟨?_⟩
  simp (disch := first | omega | (simp [-List.map_take, -List.map_drop, -List.map_set, -List.map_append, -List.drop_one] <;> omega) | fail) [-List.map_take, -List.map_drop, -List.map_set, -List.map_append, -List.drop_one, a61, T100_ix, cDgs_eq, hasB, ixDg_mem]
theorem runs_group1 (g : Grp) (ns im : List UInt8) : Runs tbl0 a67 [.agg (grC g), .ref [.str ns], .ref [.str im]] (.bool (fitG ns im g)) := by
  refine ⟨?_⟩
  by_cases e : g.ns = ns
  · simp (disch := first | omega | (simp [-List.map_take, -List.map_drop, -List.map_set, -List.map_append, -List.drop_one] <;> omega) | fail) [-List.map_take, -List.map_drop, -List.map_set, -List.map_append, -List.drop_one, a67, fitG, e]
  · simp (disch := first | omega | (simp [-List.map_take, -List.map_drop, -List.map_set, -List.map_append, -List.drop_one] <;> omega) | fail) [-List.map_take, -List.map_drop, -List.map_set, -List.map_append, -List.drop_one, a67, fitG, e]
noncomputable def cGr1 : List DV → Option DV := con (fun _ => True) (fun p : Grp × List UInt8 × List UInt8 => [.agg (grC p.1), .ref [.str p.2.1], .ref [.str p.2.2]]) (fun p => .bool (fitG p.2.1 p.2.2 p.1))
theorem cGr1_eq {g : Grp} {ns im : List UInt8} : cGr1 [.agg (grC g), .ref [.str ns], .ref [.str im]] = some (.bool (fitG ns im g)) :=
  con_inj (f := fun p : Grp × List UInt8 × List UInt8 => [.agg (grC p.1), .ref [.str p.2.1], .ref [.str p.2.2]]) (by
    rintro ⟨a, b, c⟩ ⟨a', b', c'⟩ e
    simp only [List.cons.injEq, DV.agg.injEq, DV.ref.injEq, DV.str.injEq, and_true] at e
    rw [grC_inj e.1, e.2.1, e.2.2]) (g, ns, im)
noncomputable def T101 : Tbl := addT 67 (.pure cGr1) tbl0
theorem T101_g : T101 67 = .pure cGr1 := by simp [T101]
theorem T101_sound : T101.Sound P := addT_sound (con_sound fun p _ => sem_runs mix tbl0_sound Tryd.func67 a67_ok (runs_group1 p.1 p.2.1 p.2.2)) tbl0_sound
abbrev fG (ns im : List UInt8) : DV := .fn (.func 67) [] [.ref [.str ns], .ref [.str im]]
def S101 (x : Sl Grp) (ns im : List UInt8) (i : Nat) : St := a66S0 (x.dv 6 grC) (fG ns im) (.int .i64 x.l.length) (.int .i64 i) []
theorem runs_ixgr (x : Sl Grp) (ns im : List UInt8) : Runs T101 a66 [x.dv 6 grC, fG ns im] (.int .i64 (grpIx x.l ns im)) := by
  refine ⟨?_⟩
  have hb := x.b
  simp (disch := first | omega | (simp [-List.map_take, -List.map_drop, -List.map_set, -List.map_append, -List.drop_one] <;> omega) | fail) [-List.map_take, -List.map_drop, -List.map_set, -List.map_append, -List.drop_one, a66]
  refine W_loop (S101 x ns im) (fun i => x.l.length - i) (fun i => i ≤ x.l.length ∧ ∀ j (hj : j < x.l.length), j < i → fitG ns im x.l[j] = false) 0 (weak_same (by simp (disch := first | omega | (simp [-List.map_take, -List.map_drop, -List.map_set, -List.map_append, -List.drop_one] <;> omega) | fail) [-List.map_take, -List.map_drop, -List.map_set, -List.map_append, -List.drop_one]) (by simp (disch := first | omega | (simp [-List.map_take, -List.map_drop, -List.map_set, -List.map_append, -List.drop_one] <;> omega) | fail) [-List.map_take, -List.map_drop, -List.map_set, -List.map_append, -List.drop_one])) ⟨by omega, fun j _ hj => by omega⟩ (fun i hi => ?_)
  obtain ⟨h1, h2⟩ := hi
  simp (disch := first | omega | (simp [-List.map_take, -List.map_drop, -List.map_set, -List.map_append, -List.drop_one] <;> omega) | fail) [-List.map_take, -List.map_drop, -List.map_set, -List.map_append, -List.drop_one, a66L0, a66S0, S101]
  by_cases h : i < x.l.length
  · have h' : (i : Int) < x.l.length := by omega
    have hg := idxSD_dv (x := x) (h := []) len_grC h
    cases e : fitG ns im x.l[i] with
    | true =>
      have hr : grpIx x.l ns im = i := ixI_at h e h2
      simp (disch := first | omega | (simp [-List.map_take, -List.map_drop, -List.map_set, -List.map_append, -List.drop_one] <;> omega) | fail) [-List.map_take, -List.map_drop, -List.map_set, -List.map_append, -List.drop_one, h', h, hg, T101_g, cGr1_eq, e, hr]
    | false =>
      simp (disch := first | omega | (simp [-List.map_take, -List.map_drop, -List.map_set, -List.map_append, -List.drop_one] <;> omega) | fail) [-List.map_take, -List.map_drop, -List.map_set, -List.map_append, -List.drop_one, h', h, hg, T101_g, cGr1_eq, e]
      refine ⟨i + 1, weak_same (by simp (disch := first | omega | (simp [-List.map_take, -List.map_drop, -List.map_set, -List.map_append, -List.drop_one] <;> omega) | fail) [-List.map_take, -List.map_drop, -List.map_set, -List.map_append, -List.drop_one]) (by simp (disch := first | omega | (simp [-List.map_take, -List.map_drop, -List.map_set, -List.map_append, -List.drop_one] <;> omega) | fail) [-List.map_take, -List.map_drop, -List.map_set, -List.map_append, -List.drop_one]), by omega, by omega, fun j hj hji => ?_⟩
      by_cases ej : j = i
      · subst ej; exact e
      · exact h2 j hj (by omega)
  · have h' : ¬ (i : Int) < x.l.length := by omega
    have hr : grpIx x.l ns im = -1 := ixI_none (fun j hj => h2 j hj (by omega))
    simp (disch := first | omega | (simp [-List.map_take, -List.map_drop, -List.map_set, -List.map_append, -List.drop_one] <;> omega) | fail) [-List.map_take, -List.map_drop, -List.map_set, -List.map_append, -List.drop_one, h, h', hr]
noncomputable def cIxG : List DV → Option DV := con (fun _ => True) (fun p : Sl Grp × List UInt8 × List UInt8 => [p.1.dv 6 grC, fG p.2.1 p.2.2]) (fun p => .int .i64 (grpIx p.1.l p.2.1 p.2.2))
theorem cIxG_eq {x : Sl Grp} {ns im : List UInt8} : cIxG [x.dv 6 grC, fG ns im] = some (.int .i64 (grpIx x.l ns im)) :=
  con_inj (f := fun p : Sl Grp × List UInt8 × List UInt8 => [p.1.dv 6 grC, fG p.2.1 p.2.2]) (by
    rintro ⟨a, b, c⟩ ⟨a', b', c'⟩ e
    simp only [List.cons.injEq, DV.fn.injEq, DV.ref.injEq, DV.str.injEq, and_true, true_and] at e
    rw [dv_inj len_grC (by decide) (fun _ _ => grC_inj) e.1, e.2.1, e.2.2]) (x, ns, im)
noncomputable def T102 : Tbl := addT 66 (.pure cIxG) tbl0
theorem T102_g : T102 66 = .pure cIxG := by simp [T102]
theorem T102_sound : T102.Sound P := addT_sound (con_sound fun p _ => sem_runs mix T101_sound Tryd.func66 a66_ok (runs_ixgr p.1 p.2.1 p.2.2)) tbl0_sound
theorem snap_fn2 {h : List AObj} {k : Nat} {f : Fn} {x y : DV} : snap h (k + 1) (.fn f [] [x, y]) = (snap h (k + 1) x).bind fun a => (snap h (k + 1) y).map fun b => .fn f [] [a, b] := by
  simp only [snap, snapW, snapWL]
  cases snapW _ x <;> simp only [Option.bind_some, Option.bind_none]
  · rfl
  · cases snapW _ y <;> rfl
theorem snap_fn1' {h : List AObj} {k : Nat} {f : Fn} {x : DV} : snap h (k + 1) (.fn f [] [x]) = (snap h (k + 1) x).map fun y => .fn f [] [y] := by
  simp only [snap, snapW, snapWL]
  cases snapW _ x <;> rfl
theorem snap_dv {α : Type} {h : List AObj} {k s : Nat} {f : α → List DV} {x : Sl α} (hp : ∀ a, pureL (f a) = true) : snap h k (x.dv s f) = some (x.dv s f) := snap_clean (dv_pure hp x)
theorem snap_dv32 {h : List AObj} {k : Nat} {x : Sl Dg} : snap h k (x.dv 32 dgC) = some (x.dv 32 dgC) := snap_dv pure_dgC
theorem snap_dv6 {h : List AObj} {k : Nat} {x : Sl Grp} : snap h k (x.dv 6 grC) = some (x.dv 6 grC) := snap_dv pure_grC
theorem snap_dv37 {h : List AObj} {k : Nat} {x : Sl Ins} : snap h k (x.dv 37 inC) = some (x.dv 37 inC) := snap_dv pure_inC
theorem snapL_clC {h : List AObj} {k : Nat} {c : Clu} : snapL h k (clC c) = some (clC c) := snapL_clean (pure_clC c)
theorem snapL_grC {h : List AObj} {k : Nat} {c : Grp} : snapL h k (grC c) = some (grC c) := snapL_clean (pure_grC c)
theorem snapL_inC {h : List AObj} {k : Nat} {c : Ins} : snapL h k (inC c) = some (inC c) := snapL_clean (pure_inC c)
theorem snapL_dgC {h : List AObj} {k : Nat} {c : Dg} : snapL h k (dgC c) = some (dgC c) := snapL_clean (pure_dgC c)
attribute [simp] snap_fn2 snap_fn1' snap_dv32 snap_dv6 snap_dv37 snapL_clC snapL_grC snapL_inC snapL_dgC
theorem runs_group (c : Clu) (ns im : List UInt8) : Runs T102 a22 [.agg (clC c), .str ns, .str im] (.int .i64 (grpIx c.g.l ns im)) := by
  refine ⟨?_⟩
  simp (disch := first | omega | (simp [-List.map_take, -List.map_drop, -List.map_set, -List.map_append, -List.drop_one] <;> omega) | fail) [-List.map_take, -List.map_drop, -List.map_set, -List.map_append, -List.drop_one, a22, T102_g, cIxG_eq]
theorem runs_find1 (x : Ins) (id : Int) : Runs tbl0 a69 [.agg (inC x), .ref [.int .i64 id]] (.bool (decide (x.id = id))) := by
  refine ⟨?_⟩
  simp (disch := first | omega | (simp [-List.map_take, -List.map_drop, -List.map_set, -List.map_append, -List.drop_one] <;> omega) | fail) [-List.map_take, -List.map_drop, -List.map_set, -List.map_append, -List.drop_one, a69]
noncomputable def cFi1 : List DV → Option DV := con (fun _ => True) (fun p : Ins × Int => [.agg (inC p.1), .ref [.int .i64 p.2]]) (fun p => .bool (decide (p.1.id = p.2)))
theorem cFi1_eq {x : Ins} {id : Int} : cFi1 [.agg (inC x), .ref [.int .i64 id]] = some (.bool (decide (x.id = id))) :=
  con_inj (f := fun p : Ins × Int => [.agg (inC p.1), .ref [.int .i64 p.2]]) (by
    rintro ⟨a, b⟩ ⟨a', b'⟩ e
    simp only [List.cons.injEq, DV.agg.injEq, DV.ref.injEq, DV.int.injEq, and_true, true_and] at e
    rw [inC_inj e.1, e.2]) (x, id)
noncomputable def T103 : Tbl := addT 69 (.pure cFi1) tbl0
theorem T103_g : T103 69 = .pure cFi1 := by simp [T103]
theorem T103_sound : T103.Sound P := addT_sound (con_sound fun p _ => sem_runs mix tbl0_sound Tryd.func69 a69_ok (runs_find1 p.1 p.2)) tbl0_sound
abbrev fI (id : Int) : DV := .fn (.func 69) [] [.ref [.int .i64 id]]
def S103 (x : Sl Ins) (id : Int) (i : Nat) : St := a68S0 (x.dv 37 inC) (fI id) (.int .i64 x.l.length) (.int .i64 i) []
theorem runs_ixin (x : Sl Ins) (id : Int) : Runs T103 a68 [x.dv 37 inC, fI id] (.int .i64 (findIx x.l id)) := by
  refine ⟨?_⟩
  have hb := x.b
  simp (disch := first | omega | (simp [-List.map_take, -List.map_drop, -List.map_set, -List.map_append, -List.drop_one] <;> omega) | fail) [-List.map_take, -List.map_drop, -List.map_set, -List.map_append, -List.drop_one, a68]
  refine W_loop (S103 x id) (fun i => x.l.length - i) (fun i => i ≤ x.l.length ∧ ∀ j (hj : j < x.l.length), j < i → decide (x.l[j].id = id) = false) 0 (weak_same (by simp (disch := first | omega | (simp [-List.map_take, -List.map_drop, -List.map_set, -List.map_append, -List.drop_one] <;> omega) | fail) [-List.map_take, -List.map_drop, -List.map_set, -List.map_append, -List.drop_one]) (by simp (disch := first | omega | (simp [-List.map_take, -List.map_drop, -List.map_set, -List.map_append, -List.drop_one] <;> omega) | fail) [-List.map_take, -List.map_drop, -List.map_set, -List.map_append, -List.drop_one])) ⟨by omega, fun j _ hj => by omega⟩ (fun i hi => ?_)
  obtain ⟨h1, h2⟩ := hi
  simp (disch := first | omega | (simp [-List.map_take, -List.map_drop, -List.map_set, -List.map_append, -List.drop_one] <;> omega) | fail) [-List.map_take, -List.map_drop, -List.map_set, -List.map_append, -List.drop_one, a68L0, a68S0, S103]
  by_cases h : i < x.l.length
  · have h' : (i : Int) < x.l.length := by omega
    have hg := idxSD_dv (x := x) (h := []) len_inC h
    by_cases e : x.l[i].id = id
    · have hr : findIx x.l id = i := ixI_at h (by simp [e]) h2
      simp (disch := first | omega | (simp [-List.map_take, -List.map_drop, -List.map_set, -List.map_append, -List.drop_one] <;> omega) | fail) [-List.map_take, -List.map_drop, -List.map_set, -List.map_append, -List.drop_one, h', h, hg, T103_g, cFi1_eq, e, hr]
    · simp (disch := first | omega | (simp [-List.map_take, -List.map_drop, -List.map_set, -List.map_append, -List.drop_one] <;> omega) | fail) [-List.map_take, -List.map_drop, -List.map_set, -List.map_append, -List.drop_one, h', h, hg, T103_g, cFi1_eq, e]
      refine ⟨i + 1, weak_same (by simp (disch := first | omega | (simp [-List.map_take, -List.map_drop, -List.map_set, -List.map_append, -List.drop_one] <;> omega) | fail) [-List.map_take, -List.map_drop, -List.map_set, -List.map_append, -List.drop_one]) (by simp (disch := first | omega | (simp [-List.map_take, -List.map_drop, -List.map_set, -List.map_append, -List.drop_one] <;> omega) | fail) [-List.map_take, -List.map_drop, -List.map_set, -List.map_append, -List.drop_one]), by omega, by omega, fun j hj hji => ?_⟩
      by_cases ej : j = i
      · subst ej; exact e
      · simpa using h2 j hj (by omega)
  · have h' : ¬ (i : Int) < x.l.length := by omega
    have hr : findIx x.l id = -1 := ixI_none (fun j hj => h2 j hj (by omega))
    simp (disch := first | omega | (simp [-List.map_take, -List.map_drop, -List.map_set, -List.map_append, -List.drop_one] <;> omega) | fail) [-List.map_take, -List.map_drop, -List.map_set, -List.map_append, -List.drop_one, h, h', hr]
noncomputable def cIxI : List DV → Option DV := con (fun _ => True) (fun p : Sl Ins × Int => [p.1.dv 37 inC, fI p.2]) (fun p => .int .i64 (findIx p.1.l p.2))
theorem cIxI_eq {x : Sl Ins} {id : Int} : cIxI [x.dv 37 inC, fI id] = some (.int .i64 (findIx x.l id)) :=
  con_inj (f := fun p : Sl Ins × Int => [p.1.dv 37 inC, fI p.2]) (by
    rintro ⟨a, b⟩ ⟨a', b'⟩ e
    simp only [List.cons.injEq, DV.fn.injEq, DV.ref.injEq, DV.int.injEq, and_true, true_and] at e
    rw [dv_inj len_inC (by decide) (fun _ _ => inC_inj) e.1, e.2]) (x, id)
noncomputable def T104 : Tbl := addT 68 (.pure cIxI) tbl0
theorem T104_g : T104 68 = .pure cIxI := by simp [T104]
theorem T104_sound : T104.Sound P := addT_sound (con_sound fun p _ => sem_runs mix T103_sound Tryd.func68 a68_ok (runs_ixin p.1 p.2)) tbl0_sound
theorem runs_find (c : Clu) (id : Int) : Runs T104 a24 [.agg (clC c), .int .i64 id] (.int .i64 (findIx c.i.l id)) := by
  refine ⟨?_⟩
  simp (disch := first | omega | (simp [-List.map_take, -List.map_drop, -List.map_set, -List.map_append, -List.drop_one] <;> omega) | fail) [-List.map_take, -List.map_drop, -List.map_set, -List.map_append, -List.drop_one, a24, T104_g, cIxI_eq]
end Go.Proofs.YtjhakjeioppijaaDoor
set_option linter.unusedSimpArgs false
set_option linter.unusedVariables false
namespace Go.Proofs.YtjhakjeioppijaaDoor
open Go Go.Am
theorem runs_timed (t : Int) : Runs tbl0 a70 [.int .i64 t] (.bool (tv (timeOK t))) := by
  refine ⟨?_⟩
  by_cases h0 : 0 ≤ t
  · by_cases h1 : t ≤ 1099511627776
    · simp (disch := first | omega | (simp [-List.map_take, -List.map_drop, -List.map_set, -List.map_append, -List.drop_one] <;> omega) | fail) [-List.map_take, -List.map_drop, -List.map_set, -List.map_append, -List.drop_one, a70, h0, h1, tv_true (show timeOK t from ⟨h0, h1⟩)]
    · simp (disch := first | omega | (simp [-List.map_take, -List.map_drop, -List.map_set, -List.map_append, -List.drop_one] <;> omega) | fail) [-List.map_take, -List.map_drop, -List.map_set, -List.map_append, -List.drop_one, a70, h0, h1, tv_false (show ¬ timeOK t from fun h => h1 h.2)]
  · simp (disch := first | omega | (simp [-List.map_take, -List.map_drop, -List.map_set, -List.map_append, -List.drop_one] <;> omega) | fail) [-List.map_take, -List.map_drop, -List.map_set, -List.map_append, -List.drop_one, a70, h0, tv_false (show ¬ timeOK t from fun h => h0 h.1)]
noncomputable def cTm : List DV → Option DV
  | [.int .i64 t] => some (.bool (tv (timeOK t))) | _ => none
theorem cTm_eq {t : Int} : cTm [.int .i64 t] = some (.bool (tv (timeOK t))) := rfl
theorem cTm_sound {f : Nat} (h : ∀ t, Am.Sem P f [.int .i64 t] (.bool (tv (timeOK t)))) : (Con.pure cTm).Sound P f := by
  intro args v e
  unfold cTm at e
  split at e
  · simp at e; subst e; exact h _
  · simp at e
noncomputable def T105 : Tbl := addT 70 (.pure cTm) tbl0
theorem T105_t : T105 70 = .pure cTm := by simp [T105]
theorem T105_sound : T105.Sound P := addT_sound (cTm_sound fun t => sem_runs mix tbl0_sound Tryd.func70 a70_ok (runs_timed t)) tbl0_sound
theorem all_dgC {d : Dg} : (dgC d).all DV.one = true := all_w8
theorem storeO_dg {h : List AObj} {id : Nat} {d : Dg} {l : List DV} (hl : l.length = 32) : storeO h id 32 0 (.agg (dgC d)) (some l) = some (.junk, h.set id (.cells (dgC d))) := storeO_agg (len_dgC d) hl all_w8
theorem storeO_in {h : List AObj} {id : Nat} {x : Ins} {l : List DV} (hl : l.length = 37) : storeO h id 37 0 (.agg (inC x)) (some l) = some (.junk, h.set id (.cells (inC x))) := storeO_agg (len_inC x) hl (by simp only [inC, List.all_cons, List.all_append, all_dgC, one_int, List.all_nil, Bool.and_self])
theorem storeO_gr {h : List AObj} {id : Nat} {x : Grp} {l : List DV} (hl : l.length = 6) : storeO h id 6 0 (.agg (grC x)) (some l) = some (.junk, h.set id (.cells (grC x))) := storeO_agg (len_grC x) hl (by simp only [grC, List.all_cons, one_int, one_str, dv_one, List.all_nil, Bool.and_self])
theorem storeO_cl {h : List AObj} {id : Nat} {x : Clu} {l : List DV} (hl : l.length = 3) : storeO h id 3 0 (.agg (clC x)) (some l) = some (.junk, h.set id (.cells (clC x))) := storeO_agg (len_clC x) hl (by simp only [clC, List.all_cons, one_int, dv_one, List.all_nil, Bool.and_self])
mutual
theorem below_pure (n : Nat) : ∀ (d : DV), pureD d = true → Am.below n d = true
  | .agg cs, h => by simp only [pureD] at h; simp only [Am.below]; exact belowL_pure n cs h
  | .tup cs, h => by simp only [pureD] at h; simp only [Am.below]; exact belowL_pure n cs h
  | .sl _ _ _ cs, h => by simp only [pureD] at h; simp only [Am.below]; exact belowL_pure n cs h
  | .ref cs, h => by simp only [pureD] at h; simp only [Am.below]; exact belowL_pure n cs h
  | .fn _ a b, h => by simp only [pureD, Bool.and_eq_true] at h; simp only [Am.below, Bool.and_eq_true]; exact ⟨belowL_pure n a h.1, belowL_pure n b h.2⟩
  | .iface _ v, h => by simp only [pureD] at h; simp only [Am.below]; exact below_pure n v h
  | .ms .., h => by simp [pureD] at h
  | .mp .., h => by simp [pureD] at h
  | .int .., _ => rfl
  | .bool .., _ => rfl
  | .str .., _ => rfl
  | .nilp, _ => rfl
  | .nilm, _ => rfl
  | .nilf, _ => rfl
  | .nili, _ => rfl
  | .nils, _ => rfl
  | .junk, _ => rfl
theorem belowL_pure (n : Nat) : ∀ (l : List DV), pureL l = true → belowL n l = true
  | [], _ => rfl
  | d :: r, h => by simp only [pureL, Bool.and_eq_true] at h; simp only [belowL, Bool.and_eq_true]; exact ⟨below_pure n d h.1, belowL_pure n r h.2⟩
end
theorem belowL_gr {n : Nat} {g : Grp} : belowL n (grC g) = true := belowL_pure n _ (pure_grC g)
theorem belowL_cl {n : Nat} {g : Clu} : belowL n (clC g) = true := belowL_pure n _ (pure_clC g)
theorem belowL_in {n : Nat} {g : Ins} : belowL n (inC g) = true := belowL_pure n _ (pure_inC g)
theorem belowL_dg {n : Nat} {g : Dg} : belowL n (dgC g) = true := belowL_pure n _ (pure_dgC g)
theorem below_dv32 {n : Nat} {x : Sl Dg} : Am.below n (x.dv 32 dgC) = true := below_pure n _ (pure_dv32 x)
theorem below_dv6 {n : Nat} {x : Sl Grp} : Am.below n (x.dv 6 grC) = true := below_pure n _ (pure_dv6 x)
theorem below_dv37 {n : Nat} {x : Sl Ins} : Am.below n (x.dv 37 inC) = true := below_pure n _ (pure_dv37 x)
attribute [simp] belowL_gr belowL_cl belowL_in belowL_dg below_dv32 below_dv6 below_dv37 storeO_dg storeO_in storeO_gr storeO_cl
noncomputable abbrev soundB (c : Clu) (x : Ins) : DV := .bool (tv (SoundI c.g.l.length c.next x))
set_option maxHeartbeats 1000000 in
theorem runs_sound (c : Clu) (x : Ins) : Runs T105 a64 [.agg (clC c), .agg (inC x)] (soundB c x) := by
  refine ⟨?_⟩
  by_cases k0 : 1 ≤ x.id
  case neg =>
    have hn : ¬ SoundI c.g.l.length c.next x := fun h => k0 h.id0
    simp (disch := first | omega | (simp [-List.map_take, -List.map_drop, -List.map_set, -List.map_append, -List.drop_one] <;> omega) | fail) [-List.map_take, -List.map_drop, -List.map_set, -List.map_append, -List.drop_one, a64, T105_t, cTm_eq, soundB, tv_false hn, k0]
  by_cases k1 : x.id < c.next
  case neg =>
    have hn : ¬ SoundI c.g.l.length c.next x := fun h => k1 h.id1
    simp (disch := first | omega | (simp [-List.map_take, -List.map_drop, -List.map_set, -List.map_append, -List.drop_one] <;> omega) | fail) [-List.map_take, -List.map_drop, -List.map_set, -List.map_append, -List.drop_one, a64, T105_t, cTm_eq, soundB, tv_false hn, k0, k1]
  by_cases k2 : 0 ≤ x.grp
  case neg =>
    have hn : ¬ SoundI c.g.l.length c.next x := fun h => k2 h.g0
    simp (disch := first | omega | (simp [-List.map_take, -List.map_drop, -List.map_set, -List.map_append, -List.drop_one] <;> omega) | fail) [-List.map_take, -List.map_drop, -List.map_set, -List.map_append, -List.drop_one, a64, T105_t, cTm_eq, soundB, tv_false hn, k0, k1, k2]
  by_cases k3 : x.grp < c.g.l.length
  case neg =>
    have hn : ¬ SoundI c.g.l.length c.next x := fun h => k3 h.g1
    simp (disch := first | omega | (simp [-List.map_take, -List.map_drop, -List.map_set, -List.map_append, -List.drop_one] <;> omega) | fail) [-List.map_take, -List.map_drop, -List.map_set, -List.map_append, -List.drop_one, a64, T105_t, cTm_eq, soundB, tv_false hn, k0, k1, k2, k3]
  by_cases k4 : ¬ x.art = dg0
  case neg =>
    have k4 : x.art = dg0 := Classical.not_not.1 k4
    have hn : ¬ SoundI c.g.l.length c.next x := fun h => h.art k4
    simp (disch := first | omega | (simp [-List.map_take, -List.map_drop, -List.map_set, -List.map_append, -List.drop_one] <;> omega) | fail) [-List.map_take, -List.map_drop, -List.map_set, -List.map_append, -List.drop_one, a64, T105_t, cTm_eq, soundB, tv_false hn, k0, k1, k2, k3, k4]
  by_cases k5 : 1 ≤ x.state
  case neg =>
    have hn : ¬ SoundI c.g.l.length c.next x := fun h => k5 h.s0
    simp (disch := first | omega | (simp [-List.map_take, -List.map_drop, -List.map_set, -List.map_append, -List.drop_one] <;> omega) | fail) [-List.map_take, -List.map_drop, -List.map_set, -List.map_append, -List.drop_one, a64, T105_t, cTm_eq, soundB, tv_false hn, k0, k1, k2, k3, k4, k5]
  by_cases k6 : x.state ≤ 3
  case neg =>
    have hn : ¬ SoundI c.g.l.length c.next x := fun h => k6 h.s1
    simp (disch := first | omega | (simp [-List.map_take, -List.map_drop, -List.map_set, -List.map_append, -List.drop_one] <;> omega) | fail) [-List.map_take, -List.map_drop, -List.map_set, -List.map_append, -List.drop_one, a64, T105_t, cTm_eq, soundB, tv_false hn, k0, k1, k2, k3, k4, k5, k6]
  by_cases k7 : timeOK x.since
  case neg =>
    have hn : ¬ SoundI c.g.l.length c.next x := fun h => k7 h.si
    simp (disch := first | omega | (simp [-List.map_take, -List.map_drop, -List.map_set, -List.map_append, -List.drop_one] <;> omega) | fail) [-List.map_take, -List.map_drop, -List.map_set, -List.map_append, -List.drop_one, a64, T105_t, cTm_eq, soundB, tv_false hn, k0, k1, k2, k3, k4, k5, k6, tv_false k7]
  by_cases k8 : x.den = -1
  · have hy : SoundI c.g.l.length c.next x := ⟨k0, k1, k2, k3, k4, k5, k6, k7, .inl k8⟩
    simp (disch := first | omega | (simp [-List.map_take, -List.map_drop, -List.map_set, -List.map_append, -List.drop_one] <;> omega) | fail) [-List.map_take, -List.map_drop, -List.map_set, -List.map_append, -List.drop_one, a64, T105_t, cTm_eq, soundB, tv_true hy, k0, k1, k2, k3, k4, k5, k6, tv_true k7, k8]
  by_cases k9 : timeOK x.den
  · have hy : SoundI c.g.l.length c.next x := ⟨k0, k1, k2, k3, k4, k5, k6, k7, .inr k9⟩
    simp (disch := first | omega | (simp [-List.map_take, -List.map_drop, -List.map_set, -List.map_append, -List.drop_one] <;> omega) | fail) [-List.map_take, -List.map_drop, -List.map_set, -List.map_append, -List.drop_one, a64, T105_t, cTm_eq, soundB, tv_true hy, k0, k1, k2, k3, k4, k5, k6, tv_true k7, k8, tv_true k9]
  · have hn : ¬ SoundI c.g.l.length c.next x := fun h => h.de.elim k8 k9
    simp (disch := first | omega | (simp [-List.map_take, -List.map_drop, -List.map_set, -List.map_append, -List.drop_one] <;> omega) | fail) [-List.map_take, -List.map_drop, -List.map_set, -List.map_append, -List.drop_one, a64, T105_t, cTm_eq, soundB, tv_false hn, k0, k1, k2, k3, k4, k5, k6, tv_true k7, k8, tv_false k9]
noncomputable def T106 : Tbl := addT 60 (.pure (cS pathB)) (addT 61 (.pure (cDgs hasB)) tbl0)
theorem T106_p : T106 60 = .pure (cS pathB) := by simp [T106]
theorem T106_c : T106 61 = .pure (cDgs hasB) := by simp [T106]
theorem T106_sound : T106.Sound P := addT_sound (cS_sound fun s => sem_runs mix T57_sound Tryd.func60 a60_ok (runs_path s)) (addT_sound (con_sound fun p _ => sem_runs mix T100_sound Tryd.func61 a61_ok (runs_contdg p.1 p.2)) tbl0_sound)
noncomputable abbrev validGB (g : Grp) : DV := .bool (tv (ValidG g))
def S106 (g : Grp) (i : Nat) : St := a18S0 (.mp 0 6 0) (g.ch.dv 32 dgC) (.int .i64 g.ch.l.length) (.int .i64 i) [.cells (grC g)]
theorem part_l {α : Type} {x : Sl α} {j : Nat} {b : Bool} : (x.part 0 j b).l = x.l.take j := by simp [Sl.part]
theorem slc_dv {α : Type} {x : Sl α} {s : Nat} {f : α → List DV} {h : List AObj} (hu : ∀ a, (f a).length = s) {j : Nat} (hj : j ≤ x.l.length) : slcSD h s (x.dv s f) none (some (.int .i64 j)) none = some ((x.part 0 j (j == x.l.length)).dv s f) :=
  slcSD_dv hu (by
    have h1 : (j : Int) ≤ x.l.length := by omega
    simp [boundsD, iD, h1]) hj
set_option maxHeartbeats 1000000 in
theorem runs_validgroup (g : Grp) : Runs T106 a18 [.agg (grC g)] (validGB g) := by
  refine ⟨?_⟩
  have hb := g.ch.b
  by_cases k0 : pathD g.ns = true
  case neg =>
    have hn : ¬ ValidG g := fun h => k0 h.ns
    have k0 : pathD g.ns = false := by simpa using k0
    simp (disch := first | omega | (simp [-List.map_take, -List.map_drop, -List.map_set, -List.map_append, -List.drop_one] <;> omega) | fail) [-List.map_take, -List.map_drop, -List.map_set, -List.map_append, -List.drop_one, a18, T106_p, cS_eq, pathB, validGB, tv_false hn, k0]
  by_cases k1 : pathD g.im = true
  case neg =>
    have hn : ¬ ValidG g := fun h => k1 h.im
    have k1 : pathD g.im = false := by simpa using k1
    simp (disch := first | omega | (simp [-List.map_take, -List.map_drop, -List.map_set, -List.map_append, -List.drop_one] <;> omega) | fail) [-List.map_take, -List.map_drop, -List.map_set, -List.map_append, -List.drop_one, a18, T106_p, cS_eq, pathB, validGB, tv_false hn, k0, k1]
  by_cases k2 : 0 ≤ g.want
  case neg =>
    have hn : ¬ ValidG g := fun h => k2 h.w0
    have k2' : g.want < 0 := by omega
    simp (disch := first | omega | (simp [-List.map_take, -List.map_drop, -List.map_set, -List.map_append, -List.drop_one] <;> omega) | fail) [-List.map_take, -List.map_drop, -List.map_set, -List.map_append, -List.drop_one, a18, T106_p, cS_eq, pathB, validGB, tv_false hn, k0, k1, k2, k2']
  have k2' : ¬ g.want < 0 := by omega
  by_cases k3 : g.want ≤ 8
  case neg =>
    have hn : ¬ ValidG g := fun h => k3 h.w1
    have k3' : 8 < g.want := by omega
    simp (disch := first | omega | (simp [-List.map_take, -List.map_drop, -List.map_set, -List.map_append, -List.drop_one] <;> omega) | fail) [-List.map_take, -List.map_drop, -List.map_set, -List.map_append, -List.drop_one, a18, T106_p, cS_eq, pathB, validGB, tv_false hn, k0, k1, k2, k2', k3, k3']
  have k3' : ¬ 8 < g.want := by omega
  by_cases k4 : 0 ≤ g.least
  case neg =>
    have hn : ¬ ValidG g := fun h => k4 h.l0
    have k4' : g.least < 0 := by omega
    simp (disch := first | omega | (simp [-List.map_take, -List.map_drop, -List.map_set, -List.map_append, -List.drop_one] <;> omega) | fail) [-List.map_take, -List.map_drop, -List.map_set, -List.map_append, -List.drop_one, a18, T106_p, cS_eq, pathB, validGB, tv_false hn, k0, k1, k2, k2', k3, k3', k4, k4']
  have k4' : ¬ g.least < 0 := by omega
  by_cases k5 : g.least ≤ g.want
  case neg =>
    have hn : ¬ ValidG g := fun h => k5 h.l1
    have k5' : g.want < g.least := by omega
    simp (disch := first | omega | (simp [-List.map_take, -List.map_drop, -List.map_set, -List.map_append, -List.drop_one] <;> omega) | fail) [-List.map_take, -List.map_drop, -List.map_set, -List.map_append, -List.drop_one, a18, T106_p, cS_eq, pathB, validGB, tv_false hn, k0, k1, k2, k2', k3, k3', k4, k4', k5, k5']
  have k5' : ¬ g.want < g.least := by omega
  by_cases k6 : 0 ≤ g.down
  case neg =>
    have hn : ¬ ValidG g := fun h => k6 h.d0
    have k6' : g.down < 0 := by omega
    simp (disch := first | omega | (simp [-List.map_take, -List.map_drop, -List.map_set, -List.map_append, -List.drop_one] <;> omega) | fail) [-List.map_take, -List.map_drop, -List.map_set, -List.map_append, -List.drop_one, a18, T106_p, cS_eq, pathB, validGB, tv_false hn, k0, k1, k2, k2', k3, k3', k4, k4', k5, k5', k6, k6']
  have k6' : ¬ g.down < 0 := by omega
  by_cases k7 : g.down ≤ g.want
  case neg =>
    have hn : ¬ ValidG g := fun h => k7 h.d1
    have k7' : g.want < g.down := by omega
    simp (disch := first | omega | (simp [-List.map_take, -List.map_drop, -List.map_set, -List.map_append, -List.drop_one] <;> omega) | fail) [-List.map_take, -List.map_drop, -List.map_set, -List.map_append, -List.drop_one, a18, T106_p, cS_eq, pathB, validGB, tv_false hn, k0, k1, k2, k2', k3, k3', k4, k4', k5, k5', k6, k6', k7, k7']
  have k7' : ¬ g.want < g.down := by omega
  by_cases k8 : g.ch.l.length ≤ 6
  case neg =>
    have hn : ¬ ValidG g := fun h => k8 h.n
    have k8' : ¬ (g.ch.l.length : Int) ≤ 6 := by omega
    have k8'' : (6 : Int) < g.ch.l.length := by omega
    simp (disch := first | omega | (simp [-List.map_take, -List.map_drop, -List.map_set, -List.map_append, -List.drop_one] <;> omega) | fail) [-List.map_take, -List.map_drop, -List.map_set, -List.map_append, -List.drop_one, a18, T106_p, cS_eq, pathB, validGB, tv_false hn, k0, k1, k2, k2', k3, k3', k4, k4', k5, k5', k6, k6', k7, k7', k8, k8', k8'']
  have k8' : (g.ch.l.length : Int) ≤ 6 := by omega
  have k8'' : ¬ (6 : Int) < g.ch.l.length := by omega
  simp (disch := first | omega | (simp [-List.map_take, -List.map_drop, -List.map_set, -List.map_append, -List.drop_one] <;> omega) | fail) [-List.map_take, -List.map_drop, -List.map_set, -List.map_append, -List.drop_one, a18, T106_p, cS_eq, pathB, k0, k1, k2, k2', k3, k3', k4, k4', k5, k5', k6, k6', k7, k7', k8, k8', k8'']
  refine W_loop (S106 g) (fun i => g.ch.l.length - i) (fun i => i ≤ g.ch.l.length ∧ ∀ j (hj : j < g.ch.l.length), j < i → g.ch.l[j] ≠ dg0 ∧ g.ch.l[j] ∉ g.ch.l.take j) 0 (weak_same (by simp (disch := first | omega | (simp [-List.map_take, -List.map_drop, -List.map_set, -List.map_append, -List.drop_one] <;> omega) | fail) [-List.map_take, -List.map_drop, -List.map_set, -List.map_append, -List.drop_one]) (by simp (disch := first | omega | (simp [-List.map_take, -List.map_drop, -List.map_set, -List.map_append, -List.drop_one] <;> omega) | fail) [-List.map_take, -List.map_drop, -List.map_set, -List.map_append, -List.drop_one])) ⟨by omega, fun j _ hj => by omega⟩ (fun i hi => ?_)
  obtain ⟨h1, h2⟩ := hi
  simp (disch := first | omega | (simp [-List.map_take, -List.map_drop, -List.map_set, -List.map_append, -List.drop_one] <;> omega) | fail) [-List.map_take, -List.map_drop, -List.map_set, -List.map_append, -List.drop_one, a18L0, a18S0, S106]
  by_cases h : i < g.ch.l.length
  · have h' : (i : Int) < g.ch.l.length := by omega
    have hg : ∀ H, idxSD H 32 (g.ch.dv 32 dgC) i = some (.ref (dgC g.ch.l[i])) := fun H => idxSD_dv len_dgC h
    have hsl : ∀ H, slcSD H 32 (g.ch.dv 32 dgC) none (some (.int .i64 i)) none = some ((g.ch.part 0 i (i == g.ch.l.length)).dv 32 dgC) := fun H => slc_dv len_dgC (by omega)
    by_cases e : g.ch.l[i] = dg0
    · have hn : ¬ ValidG g := fun hv => (hv.ch i h).1 e
      simp (disch := first | omega | (simp [-List.map_take, -List.map_drop, -List.map_set, -List.map_append, -List.drop_one] <;> omega) | fail) [-List.map_take, -List.map_drop, -List.map_set, -List.map_append, -List.drop_one, h', h, hg, e, validGB, tv_false hn]
    · by_cases e2 : g.ch.l[i] ∈ g.ch.l.take i
      · have hn : ¬ ValidG g := fun hv => (hv.ch i h).2 e2
        simp (disch := first | omega | (simp [-List.map_take, -List.map_drop, -List.map_set, -List.map_append, -List.drop_one] <;> omega) | fail) [-List.map_take, -List.map_drop, -List.map_set, -List.map_append, -List.drop_one, h', h, hg, hsl, e, T106_c, cDgs_eq, hasB, part_l, e2, validGB, tv_false hn]
      · simp (disch := first | omega | (simp [-List.map_take, -List.map_drop, -List.map_set, -List.map_append, -List.drop_one] <;> omega) | fail) [-List.map_take, -List.map_drop, -List.map_set, -List.map_append, -List.drop_one, h', h, hg, hsl, e, T106_c, cDgs_eq, hasB, part_l, e2]
        refine ⟨i + 1, weak_drop (tail := [.cells (dgC g.ch.l[i])]) (by simp (disch := first | omega | (simp [-List.map_take, -List.map_drop, -List.map_set, -List.map_append, -List.drop_one] <;> omega) | fail) [-List.map_take, -List.map_drop, -List.map_set, -List.map_append, -List.drop_one]) (by simp (disch := first | omega | (simp [-List.map_take, -List.map_drop, -List.map_set, -List.map_append, -List.drop_one] <;> omega) | fail) [-List.map_take, -List.map_drop, -List.map_set, -List.map_append, -List.drop_one]) (by simp (disch := first | omega | (simp [-List.map_take, -List.map_drop, -List.map_set, -List.map_append, -List.drop_one] <;> omega) | fail) [-List.map_take, -List.map_drop, -List.map_set, -List.map_append, -List.drop_one]) (by simp (disch := first | omega | (simp [-List.map_take, -List.map_drop, -List.map_set, -List.map_append, -List.drop_one] <;> omega) | fail) [-List.map_take, -List.map_drop, -List.map_set, -List.map_append, -List.drop_one, belowL, Am.below]) (by simp (disch := first | omega | (simp [-List.map_take, -List.map_drop, -List.map_set, -List.map_append, -List.drop_one] <;> omega) | fail) [-List.map_take, -List.map_drop, -List.map_set, -List.map_append, -List.drop_one, belowH]), by omega, by omega, fun j hj hji => ?_⟩
        by_cases ej : j = i
        · subst ej; exact ⟨e, e2⟩
        · exact h2 j hj (by omega)
  · have h' : ¬ (i : Int) < g.ch.l.length := by omega
    have hy : ValidG g := ⟨k0, k1, k2, k3, k4, k5, k6, k7, k8, fun j hj => h2 j hj (by omega)⟩
    simp (disch := first | omega | (simp [-List.map_take, -List.map_drop, -List.map_set, -List.map_append, -List.drop_one] <;> omega) | fail) [-List.map_take, -List.map_drop, -List.map_set, -List.map_append, -List.drop_one, h, h', validGB, tv_true hy]
noncomputable def cG1 (g : Grp → DV) : List DV → Option DV := con (fun _ => True) (fun x : Grp => [.agg (grC x)]) g
theorem cG1_eq {g : Grp → DV} {x : Grp} : cG1 g [.agg (grC x)] = some (g x) :=
  con_inj (f := fun x : Grp => [.agg (grC x)]) (fun a b e => by simp only [List.cons.injEq, DV.agg.injEq, and_true] at e; exact grC_inj e) x
noncomputable def cC1 (g : Clu → DV) : List DV → Option DV := con (fun _ => True) (fun x : Clu => [.agg (clC x)]) g
theorem cC1_eq {g : Clu → DV} {x : Clu} : cC1 g [.agg (clC x)] = some (g x) :=
  con_inj (f := fun x : Clu => [.agg (clC x)]) (fun a b e => by simp only [List.cons.injEq, DV.agg.injEq, and_true] at e; exact clC_inj e) x
noncomputable def cCSS (g : Clu → List UInt8 → List UInt8 → DV) : List DV → Option DV := con (fun _ => True) (fun x : Clu × List UInt8 × List UInt8 => [.agg (clC x.1), .str x.2.1, .str x.2.2]) (fun x => g x.1 x.2.1 x.2.2)
theorem cCSS_eq {g : Clu → List UInt8 → List UInt8 → DV} {x : Clu} {a b : List UInt8} : cCSS g [.agg (clC x), .str a, .str b] = some (g x a b) :=
  con_inj (f := fun x : Clu × List UInt8 × List UInt8 => [.agg (clC x.1), .str x.2.1, .str x.2.2]) (by
    rintro ⟨a, b, c⟩ ⟨a', b', c'⟩ e
    simp only [List.cons.injEq, DV.agg.injEq, DV.str.injEq, and_true] at e
    rw [clC_inj e.1, e.2.1, e.2.2]) (x, a, b)
noncomputable def cCI (g : Clu → Ins → DV) : List DV → Option DV := con (fun _ => True) (fun x : Clu × Ins => [.agg (clC x.1), .agg (inC x.2)]) (fun x => g x.1 x.2)
theorem cCI_eq {g : Clu → Ins → DV} {x : Clu} {a : Ins} : cCI g [.agg (clC x), .agg (inC a)] = some (g x a) :=
  con_inj (f := fun x : Clu × Ins => [.agg (clC x.1), .agg (inC x.2)]) (by
    rintro ⟨a, b⟩ ⟨a', b'⟩ e
    simp only [List.cons.injEq, DV.agg.injEq, and_true] at e
    rw [clC_inj e.1, inC_inj e.2]) (x, a)
noncomputable def cCi (g : Clu → Int → DV) : List DV → Option DV := con (fun _ => True) (fun x : Clu × Int => [.agg (clC x.1), .int .i64 x.2]) (fun x => g x.1 x.2)
theorem cCi_eq {g : Clu → Int → DV} {x : Clu} {a : Int} : cCi g [.agg (clC x), .int .i64 a] = some (g x a) :=
  con_inj (f := fun x : Clu × Int => [.agg (clC x.1), .int .i64 x.2]) (by
    rintro ⟨a, b⟩ ⟨a', b'⟩ e
    simp only [List.cons.injEq, DV.agg.injEq, DV.int.injEq, and_true, true_and] at e
    rw [clC_inj e.1, e.2]) (x, a)
abbrev grpD (c : Clu) (ns im : List UInt8) : DV := .int .i64 (grpIx c.g.l ns im)
noncomputable def T107 : Tbl := addT 18 (.pure (cG1 validGB)) (addT 22 (.pure (cCSS grpD)) (addT 64 (.pure (cCI soundB)) tbl0))
theorem T107_v : T107 18 = .pure (cG1 validGB) := by simp [T107]
theorem T107_g : T107 22 = .pure (cCSS grpD) := by simp [T107]
theorem T107_s : T107 64 = .pure (cCI soundB) := by simp [T107]
theorem T107_sound : T107.Sound P := addT_sound (con_sound fun x _ => sem_runs mix T106_sound Tryd.func18 a18_ok (runs_validgroup x)) (addT_sound (con_sound fun x _ => sem_runs mix T102_sound Tryd.func22 a22_ok (runs_group x.1 x.2.1 x.2.2)) (addT_sound (con_sound fun x _ => sem_runs mix T105_sound Tryd.func64 a64_ok (runs_sound x.1 x.2)) tbl0_sound))
noncomputable abbrev validCB (c : Clu) : DV := .bool (tv (ValidC c))
def S107 (c : Clu) (i : Nat) : St := a20S0 (.mp 0 3 0) (c.g.dv 6 grC) (.int .i64 c.g.l.length) (.int .i64 i) [.cells (clC c)]
def S108 (c : Clu) (i : Nat) : St := a20S1 (.mp 0 3 0) (c.i.dv 37 inC) (.int .i64 c.i.l.length) (.int .i64 i) [.cells (clC c)]
set_option maxHeartbeats 2000000 in
theorem runs_valid (c : Clu) : Runs T107 a20 [.agg (clC c)] (validCB c) := by
  refine ⟨?_⟩
  have hbg := c.g.b
  have hbi := c.i.b
  by_cases k0 : (16 : Int) < c.g.l.length
  · have hn : ¬ ValidC c := fun h => by have := h.ng; omega
    simp (disch := first | omega | (simp [-List.map_take, -List.map_drop, -List.map_set, -List.map_append, -List.drop_one] <;> omega) | fail) [-List.map_take, -List.map_drop, -List.map_set, -List.map_append, -List.drop_one, a20, k0, validCB, tv_false hn]
  by_cases k1 : (200 : Int) < c.i.l.length
  · have hn : ¬ ValidC c := fun h => by have := h.ni; omega
    simp (disch := first | omega | (simp [-List.map_take, -List.map_drop, -List.map_set, -List.map_append, -List.drop_one] <;> omega) | fail) [-List.map_take, -List.map_drop, -List.map_set, -List.map_append, -List.drop_one, a20, k0, k1, validCB, tv_false hn]
  by_cases k2 : c.next < 1
  · have hn : ¬ ValidC c := fun h => by have := h.n0; omega
    simp (disch := first | omega | (simp [-List.map_take, -List.map_drop, -List.map_set, -List.map_append, -List.drop_one] <;> omega) | fail) [-List.map_take, -List.map_drop, -List.map_set, -List.map_append, -List.drop_one, a20, k0, k1, k2, validCB, tv_false hn]
  by_cases k3 : 1099511627776 < c.next
  · have hn : ¬ ValidC c := fun h => by have := h.n1; omega
    simp (disch := first | omega | (simp [-List.map_take, -List.map_drop, -List.map_set, -List.map_append, -List.drop_one] <;> omega) | fail) [-List.map_take, -List.map_drop, -List.map_set, -List.map_append, -List.drop_one, a20, k0, k1, k2, k3, validCB, tv_false hn]
  simp (disch := first | omega | (simp [-List.map_take, -List.map_drop, -List.map_set, -List.map_append, -List.drop_one] <;> omega) | fail) [-List.map_take, -List.map_drop, -List.map_set, -List.map_append, -List.drop_one, a20, k0, k1, k2, k3]
  refine W_loop (S107 c) (fun i => c.g.l.length - i) (fun i => i ≤ c.g.l.length ∧ ∀ j (hj : j < c.g.l.length), j < i → ValidG c.g.l[j] ∧ grpIx c.g.l c.g.l[j].ns c.g.l[j].im = j) 0 (weak_same (by simp (disch := first | omega | (simp [-List.map_take, -List.map_drop, -List.map_set, -List.map_append, -List.drop_one] <;> omega) | fail) [-List.map_take, -List.map_drop, -List.map_set, -List.map_append, -List.drop_one]) (by simp (disch := first | omega | (simp [-List.map_take, -List.map_drop, -List.map_set, -List.map_append, -List.drop_one] <;> omega) | fail) [-List.map_take, -List.map_drop, -List.map_set, -List.map_append, -List.drop_one])) ⟨by omega, fun j _ hj => by omega⟩ (fun i hi => ?_)
  obtain ⟨h1, h2⟩ := hi
  simp (disch := first | omega | (simp [-List.map_take, -List.map_drop, -List.map_set, -List.map_append, -List.drop_one] <;> omega) | fail) [-List.map_take, -List.map_drop, -List.map_set, -List.map_append, -List.drop_one, a20L0, a20S0, S107]
  by_cases h : i < c.g.l.length
  · have h' : (i : Int) < c.g.l.length := by omega
    have hg : ∀ H, idxSD H 6 (c.g.dv 6 grC) i = some (.ref (grC c.g.l[i])) := fun H => idxSD_dv len_grC h
    by_cases e : ValidG c.g.l[i]
    · by_cases e2 : grpIx c.g.l c.g.l[i].ns c.g.l[i].im = i
      · simp (disch := first | omega | (simp [-List.map_take, -List.map_drop, -List.map_set, -List.map_append, -List.drop_one] <;> omega) | fail) [-List.map_take, -List.map_drop, -List.map_set, -List.map_append, -List.drop_one, h', h, hg, T107_v, cG1_eq, validGB, tv_true e, T107_g, cCSS_eq, grpD, e2]
        refine ⟨i + 1, weak_drop (tail := [.cells (grC c.g.l[i])]) (by simp (disch := first | omega | (simp [-List.map_take, -List.map_drop, -List.map_set, -List.map_append, -List.drop_one] <;> omega) | fail) [-List.map_take, -List.map_drop, -List.map_set, -List.map_append, -List.drop_one]) (by simp (disch := first | omega | (simp [-List.map_take, -List.map_drop, -List.map_set, -List.map_append, -List.drop_one] <;> omega) | fail) [-List.map_take, -List.map_drop, -List.map_set, -List.map_append, -List.drop_one]) (by simp (disch := first | omega | (simp [-List.map_take, -List.map_drop, -List.map_set, -List.map_append, -List.drop_one] <;> omega) | fail) [-List.map_take, -List.map_drop, -List.map_set, -List.map_append, -List.drop_one]) (by simp (disch := first | omega | (simp [-List.map_take, -List.map_drop, -List.map_set, -List.map_append, -List.drop_one] <;> omega) | fail) [-List.map_take, -List.map_drop, -List.map_set, -List.map_append, -List.drop_one, belowL, Am.below]) (by simp (disch := first | omega | (simp [-List.map_take, -List.map_drop, -List.map_set, -List.map_append, -List.drop_one] <;> omega) | fail) [-List.map_take, -List.map_drop, -List.map_set, -List.map_append, -List.drop_one, belowH]), by omega, by omega, fun j hj hji => ?_⟩
        by_cases ej : j = i
        · subst ej; exact ⟨e, e2⟩
        · exact h2 j hj (by omega)
      · have hn : ¬ ValidC c := fun hv => e2 (hv.g i h).2
        simp (disch := first | omega | (simp [-List.map_take, -List.map_drop, -List.map_set, -List.map_append, -List.drop_one] <;> omega) | fail) [-List.map_take, -List.map_drop, -List.map_set, -List.map_append, -List.drop_one, h', h, hg, T107_v, cG1_eq, validGB, tv_true e, T107_g, cCSS_eq, grpD, e2, validCB, tv_false hn]
    · have hn : ¬ ValidC c := fun hv => e (hv.g i h).1
      simp (disch := first | omega | (simp [-List.map_take, -List.map_drop, -List.map_set, -List.map_append, -List.drop_one] <;> omega) | fail) [-List.map_take, -List.map_drop, -List.map_set, -List.map_append, -List.drop_one, h', h, hg, T107_v, cG1_eq, validGB, tv_false e, validCB, tv_false hn]
  have h' : ¬ (i : Int) < c.g.l.length := by omega
  have hG : ∀ j (hj : j < c.g.l.length), ValidG c.g.l[j] ∧ grpIx c.g.l c.g.l[j].ns c.g.l[j].im = j := fun j hj => h2 j hj (by omega)
  simp (disch := first | omega | (simp [-List.map_take, -List.map_drop, -List.map_set, -List.map_append, -List.drop_one] <;> omega) | fail) [-List.map_take, -List.map_drop, -List.map_set, -List.map_append, -List.drop_one, h, h']
  refine W_loop (S108 c) (fun i => c.i.l.length - i) (fun i => i ≤ c.i.l.length ∧ ∀ j (hj : j < c.i.l.length), j < i → SoundI c.g.l.length c.next c.i.l[j] ∧ (∀ h0 : 0 < j, c.i.l[j - 1].id < c.i.l[j].id)) 0 (weak_same (by simp (disch := first | omega | (simp [-List.map_take, -List.map_drop, -List.map_set, -List.map_append, -List.drop_one] <;> omega) | fail) [-List.map_take, -List.map_drop, -List.map_set, -List.map_append, -List.drop_one]) (by simp (disch := first | omega | (simp [-List.map_take, -List.map_drop, -List.map_set, -List.map_append, -List.drop_one] <;> omega) | fail) [-List.map_take, -List.map_drop, -List.map_set, -List.map_append, -List.drop_one])) ⟨by omega, fun j _ hj => by omega⟩ (fun i hi => ?_)
  obtain ⟨h1, h2⟩ := hi
  simp (disch := first | omega | (simp [-List.map_take, -List.map_drop, -List.map_set, -List.map_append, -List.drop_one] <;> omega) | fail) [-List.map_take, -List.map_drop, -List.map_set, -List.map_append, -List.drop_one, a20L1, a20S1, S108]
  by_cases h : i < c.i.l.length
  · have h' : (i : Int) < c.i.l.length := by omega
    have hg : ∀ H, idxSD H 37 (c.i.dv 37 inC) i = some (.ref (inC c.i.l[i])) := fun H => idxSD_dv len_inC h
    by_cases e : SoundI c.g.l.length c.next c.i.l[i]
    · by_cases e0 : i = 0
      · have e0' : ¬ (0 : Int) < i := by omega
        have e0'' : ¬ 0 < i := by omega
        simp (disch := first | omega | (simp [-List.map_take, -List.map_drop, -List.map_set, -List.map_append, -List.drop_one] <;> omega) | fail) [-List.map_take, -List.map_drop, -List.map_set, -List.map_append, -List.drop_one, h', h, hg, T107_s, cCI_eq, soundB, tv_true e, e0', e0'']
        refine ⟨i + 1, weak_drop (tail := [.cells (inC c.i.l[i])]) (by simp (disch := first | omega | (simp [-List.map_take, -List.map_drop, -List.map_set, -List.map_append, -List.drop_one] <;> omega) | fail) [-List.map_take, -List.map_drop, -List.map_set, -List.map_append, -List.drop_one]) (by simp (disch := first | omega | (simp [-List.map_take, -List.map_drop, -List.map_set, -List.map_append, -List.drop_one] <;> omega) | fail) [-List.map_take, -List.map_drop, -List.map_set, -List.map_append, -List.drop_one]) (by simp (disch := first | omega | (simp [-List.map_take, -List.map_drop, -List.map_set, -List.map_append, -List.drop_one] <;> omega) | fail) [-List.map_take, -List.map_drop, -List.map_set, -List.map_append, -List.drop_one]) (by simp (disch := first | omega | (simp [-List.map_take, -List.map_drop, -List.map_set, -List.map_append, -List.drop_one] <;> omega) | fail) [-List.map_take, -List.map_drop, -List.map_set, -List.map_append, -List.drop_one, belowL, Am.below]) (by simp (disch := first | omega | (simp [-List.map_take, -List.map_drop, -List.map_set, -List.map_append, -List.drop_one] <;> omega) | fail) [-List.map_take, -List.map_drop, -List.map_set, -List.map_append, -List.drop_one, belowH]), by omega, by omega, fun j hj hji => ?_⟩
        obtain rfl : j = i := by omega
        exact ⟨e, fun h0 => by omega⟩
      · have e0' : (0 : Int) < i := by omega
        have e0'' : 0 < i := by omega
        have em : (i : Int) - 1 = (i - 1 : Nat) := by omega
        have hg2 : ∀ H, idxSD H 37 (c.i.dv 37 inC) ((i - 1 : Nat) : Int) = some (.ref (inC c.i.l[i - 1])) := fun H => idxSD_dv len_inC (by omega)
        by_cases e2 : c.i.l[i].id ≤ c.i.l[i - 1].id
        · have hn : ¬ ValidC c := fun hv => by have := (hv.i i h).2 (by omega); omega
          simp (disch := first | omega | (simp [-List.map_take, -List.map_drop, -List.map_set, -List.map_append, -List.drop_one] <;> omega) | fail) [-List.map_take, -List.map_drop, -List.map_set, -List.map_append, -List.drop_one, h', h, hg, T107_s, cCI_eq, soundB, tv_true e, e0', e0'', em, hg2, e2, validCB, tv_false hn]
        · simp (disch := first | omega | (simp [-List.map_take, -List.map_drop, -List.map_set, -List.map_append, -List.drop_one] <;> omega) | fail) [-List.map_take, -List.map_drop, -List.map_set, -List.map_append, -List.drop_one, h', h, hg, T107_s, cCI_eq, soundB, tv_true e, e0', e0'', em, hg2, e2]
          refine ⟨i + 1, weak_drop (tail := [.cells (inC c.i.l[i])]) (by simp (disch := first | omega | (simp [-List.map_take, -List.map_drop, -List.map_set, -List.map_append, -List.drop_one] <;> omega) | fail) [-List.map_take, -List.map_drop, -List.map_set, -List.map_append, -List.drop_one]) (by simp (disch := first | omega | (simp [-List.map_take, -List.map_drop, -List.map_set, -List.map_append, -List.drop_one] <;> omega) | fail) [-List.map_take, -List.map_drop, -List.map_set, -List.map_append, -List.drop_one]) (by simp (disch := first | omega | (simp [-List.map_take, -List.map_drop, -List.map_set, -List.map_append, -List.drop_one] <;> omega) | fail) [-List.map_take, -List.map_drop, -List.map_set, -List.map_append, -List.drop_one]) (by simp (disch := first | omega | (simp [-List.map_take, -List.map_drop, -List.map_set, -List.map_append, -List.drop_one] <;> omega) | fail) [-List.map_take, -List.map_drop, -List.map_set, -List.map_append, -List.drop_one, belowL, Am.below]) (by simp (disch := first | omega | (simp [-List.map_take, -List.map_drop, -List.map_set, -List.map_append, -List.drop_one] <;> omega) | fail) [-List.map_take, -List.map_drop, -List.map_set, -List.map_append, -List.drop_one, belowH]), by omega, by omega, fun j hj hji => ?_⟩
          by_cases ej : j = i
          · subst ej; exact ⟨e, fun _ => by omega⟩
          · exact h2 j hj (by omega)
    · have hn : ¬ ValidC c := fun hv => e (hv.i i h).1
      simp (disch := first | omega | (simp [-List.map_take, -List.map_drop, -List.map_set, -List.map_append, -List.drop_one] <;> omega) | fail) [-List.map_take, -List.map_drop, -List.map_set, -List.map_append, -List.drop_one, h', h, hg, T107_s, cCI_eq, soundB, tv_false e, validCB, tv_false hn]
  · have h' : ¬ (i : Int) < c.i.l.length := by omega
    have hy : ValidC c := ⟨by omega, by omega, by omega, by omega, hG, fun j hj => h2 j hj (by omega)⟩
    simp (disch := first | omega | (simp [-List.map_take, -List.map_drop, -List.map_set, -List.map_append, -List.drop_one] <;> omega) | fail) [-List.map_take, -List.map_drop, -List.map_set, -List.map_append, -List.drop_one, h, h', validCB, tv_true hy]
end Go.Proofs.YtjhakjeioppijaaDoor
set_option linter.unusedSimpArgs false
set_option linter.unusedVariables false
namespace Go.Proofs.YtjhakjeioppijaaDoor
open Go Go.Am
def mutD {α : Type} (id s : Nat) (x : Sl α) (f : α → List DV) : DV := if x.l = [] then x.clone.dv s f else .ms id (x.l.length * s) 0 s x.l.length (x.l.length * s)
def mutO {α : Type} (x : Sl α) (f : α → List DV) : List AObj := if x.l = [] then [] else [.cells (x.l.flatMap f)]
theorem mutD_nil {α : Type} {id s : Nat} {x : Sl α} {f : α → List DV} (h : x.l = []) : mutD id s x f = x.clone.dv s f := if_pos h
theorem mutD_ne {α : Type} {id s : Nat} {x : Sl α} {f : α → List DV} (h : x.l ≠ []) : mutD id s x f = .ms id (x.l.length * s) 0 s x.l.length (x.l.length * s) := if_neg h
theorem mutO_nil {α : Type} {x : Sl α} {f : α → List DV} (h : x.l = []) : mutO x f = [] := if_pos h
theorem mutO_ne {α : Type} {x : Sl α} {f : α → List DV} (h : x.l ≠ []) : mutO x f = [.cells (x.l.flatMap f)] := if_neg h
theorem fm_all {α : Type} {f : α → List DV} (h : ∀ a, (f a).all DV.one = true) : ∀ (l : List α), (l.flatMap f).all DV.one = true
  | [] => rfl
  | a :: l => by rw [List.flatMap_cons, List.all_append, h, fm_all h l]; rfl
theorem all_grC (g : Grp) : (grC g).all DV.one = true := by simp only [grC, List.all_cons, one_int, one_str, dv_one, List.all_nil, Bool.and_self]
theorem all_inC (x : Ins) : (inC x).all DV.one = true := by simp only [inC, List.all_cons, List.all_append, all_dgC, one_int, List.all_nil, Bool.and_self]
theorem runs_cloneD (x : Sl Dg) : RunsH tbl0 a75 [x.dv 32 dgC] [] (mutD 0 32 x dgC) (mutO x dgC) := by
  refine ⟨?_⟩
  obtain ⟨k, l, h, hb⟩ := x
  cases k with
  | none =>
    have hl : l = [] := h rfl
    subst hl
    simp (disch := first | omega | (simp [-List.map_take, -List.map_drop, -List.map_set, -List.map_append, -List.drop_one] <;> omega) | fail) [-List.map_take, -List.map_drop, -List.map_set, -List.map_append, -List.drop_one, a75, dv_none]
    exact ⟨by rw [mutD_nil rfl]; rfl, mutO_nil rfl⟩
  | some b =>
    have hb : l.length ≤ 4294967296 := hb
    by_cases hl : l = []
    · subst hl; simp (disch := first | omega | (simp [-List.map_take, -List.map_drop, -List.map_set, -List.map_append, -List.drop_one] <;> omega) | fail) [-List.map_take, -List.map_drop, -List.map_set, -List.map_append, -List.drop_one, a75, dv_some, mutD, mutO, Sl.clone]
    · have h1 := fm_len len_dgC l
      have h2 := fm_all (f := dgC) (fun _ => all_dgC) l
      have h3 : 0 < l.length := List.length_pos_iff.2 hl
      simp (disch := first | omega | (simp [-List.map_take, -List.map_drop, -List.map_set, -List.map_append, -List.drop_one] <;> omega) | fail) [-List.map_take, -List.map_drop, -List.map_set, -List.map_append, -List.drop_one, a75, dv_some, mutD, mutO, hl, h1, h2, h3]
theorem runs_cloneG (x : Sl Grp) : RunsH tbl0 a105 [x.dv 6 grC] [] (mutD 0 6 x grC) (mutO x grC) := by
  refine ⟨?_⟩
  obtain ⟨k, l, h, hb⟩ := x
  cases k with
  | none =>
    have hl : l = [] := h rfl
    subst hl
    simp (disch := first | omega | (simp [-List.map_take, -List.map_drop, -List.map_set, -List.map_append, -List.drop_one] <;> omega) | fail) [-List.map_take, -List.map_drop, -List.map_set, -List.map_append, -List.drop_one, a105, dv_none]
    exact ⟨by rw [mutD_nil rfl]; rfl, mutO_nil rfl⟩
  | some b =>
    have hb : l.length ≤ 4294967296 := hb
    by_cases hl : l = []
    · subst hl; simp (disch := first | omega | (simp [-List.map_take, -List.map_drop, -List.map_set, -List.map_append, -List.drop_one] <;> omega) | fail) [-List.map_take, -List.map_drop, -List.map_set, -List.map_append, -List.drop_one, a105, dv_some, mutD, mutO, Sl.clone]
    · have h1 := fm_len len_grC l
      have h2 := fm_all (f := grC) (all_grC) l
      have h3 : 0 < l.length := List.length_pos_iff.2 hl
      simp (disch := first | omega | (simp [-List.map_take, -List.map_drop, -List.map_set, -List.map_append, -List.drop_one] <;> omega) | fail) [-List.map_take, -List.map_drop, -List.map_set, -List.map_append, -List.drop_one, a105, dv_some, mutD, mutO, hl, h1, h2, h3]
theorem runs_cloneI (x : Sl Ins) : RunsH tbl0 a106 [x.dv 37 inC] [] (mutD 0 37 x inC) (mutO x inC) := by
  refine ⟨?_⟩
  obtain ⟨k, l, h, hb⟩ := x
  cases k with
  | none =>
    have hl : l = [] := h rfl
    subst hl
    simp (disch := first | omega | (simp [-List.map_take, -List.map_drop, -List.map_set, -List.map_append, -List.drop_one] <;> omega) | fail) [-List.map_take, -List.map_drop, -List.map_set, -List.map_append, -List.drop_one, a106, dv_none]
    exact ⟨by rw [mutD_nil rfl]; rfl, mutO_nil rfl⟩
  | some b =>
    have hb : l.length ≤ 4294967296 := hb
    by_cases hl : l = []
    · subst hl; simp (disch := first | omega | (simp [-List.map_take, -List.map_drop, -List.map_set, -List.map_append, -List.drop_one] <;> omega) | fail) [-List.map_take, -List.map_drop, -List.map_set, -List.map_append, -List.drop_one, a106, dv_some, mutD, mutO, Sl.clone]
    · have h1 := fm_len len_inC l
      have h2 := fm_all (f := inC) (all_inC) l
      have h3 : 0 < l.length := List.length_pos_iff.2 hl
      simp (disch := first | omega | (simp [-List.map_take, -List.map_drop, -List.map_set, -List.map_append, -List.drop_one] <;> omega) | fail) [-List.map_take, -List.map_drop, -List.map_set, -List.map_append, -List.drop_one, a106, dv_some, mutD, mutO, hl, h1, h2, h3]
end Go.Proofs.YtjhakjeioppijaaDoor
set_option linter.unusedSimpArgs false
set_option linter.unusedVariables false
namespace Go.Proofs.YtjhakjeioppijaaDoor
open Go Go.Am
theorem shD_mut {α : Type} {n s : Nat} {x : Sl α} {f : α → List DV} (hp : ∀ a, pureL (f a) = true) : shD n (mutD 0 s x f) = mutD n s x f := by
  by_cases h : x.l = []
  · rw [mutD_nil h, mutD_nil h]; exact shD_pure n _ (dv_pure hp _)
  · rw [mutD_ne h, mutD_ne h]; rfl
theorem shO_mut {α : Type} {n : Nat} {x : Sl α} {f : α → List DV} (hp : ∀ a, pureL (f a) = true) : (mutO x f).map (shO n) = mutO x f := by
  by_cases h : x.l = []
  · rw [mutO_nil h]; rfl
  · rw [mutO_ne h]; simp only [List.map_cons, List.map_nil, shO_cells, shL_pure n _ (fm_pure hp _)]
noncomputable def cNG : List DV → Nat → Option (DV × List AObj) := conN (fun _ => True) (fun x : Sl Grp => [x.dv 6 grC]) (fun x => (mutD 0 6 x grC, mutO x grC))
noncomputable def cNI : List DV → Nat → Option (DV × List AObj) := conN (fun _ => True) (fun x : Sl Ins => [x.dv 37 inC]) (fun x => (mutD 0 37 x inC, mutO x inC))
theorem cNG_eq {x : Sl Grp} {n : Nat} : cNG [x.dv 6 grC] n = some (mutD n 6 x grC, mutO x grC) := by
  have := conN_eq (A := fun _ => True) (f := fun x : Sl Grp => [x.dv 6 grC]) (g := fun x => (mutD 0 6 x grC, mutO x grC)) (fun a b e => by
    simp only [List.cons.injEq, and_true] at e
    rw [dv_inj len_grC (by decide) (fun _ _ => grC_inj) e]) x trivial n
  rw [shD_mut pure_grC, shO_mut pure_grC] at this
  exact this
theorem cNI_eq {x : Sl Ins} {n : Nat} : cNI [x.dv 37 inC] n = some (mutD n 37 x inC, mutO x inC) := by
  have := conN_eq (A := fun _ => True) (f := fun x : Sl Ins => [x.dv 37 inC]) (g := fun x => (mutD 0 37 x inC, mutO x inC)) (fun a b e => by
    simp only [List.cons.injEq, and_true] at e
    rw [dv_inj len_inC (by decide) (fun _ _ => inC_inj) e]) x trivial n
  rw [shD_mut pure_inC, shO_mut pure_inC] at this
  exact this
noncomputable def cCD : List DV → Option DV := con (fun _ => True) (fun x : Sl Dg => [x.dv 32 dgC]) (fun x => x.clone.dv 32 dgC)
theorem cCD_eq {x : Sl Dg} : cCD [x.dv 32 dgC] = some (x.clone.dv 32 dgC) :=
  con_inj (f := fun x : Sl Dg => [x.dv 32 dgC]) (fun a b e => by simp only [List.cons.injEq, and_true] at e; exact dgs_inj e) x
theorem sem_cloneD (x : Sl Dg) : Am.Sem P 75 [x.dv 32 dgC] (x.clone.dv 32 dgC) :=
  sem_of_calls ((calls_runs mix tbl0_sound Tryd.func75 a75_ok (runs_cloneD x)).mono fun d h' e => by
    obtain ⟨rfl, rfl⟩ := e
    by_cases h : x.l = []
    · rw [mutD_nil h]; exact snap_dv32
    · have hl := fm_len len_dgC x.l
      have ht : (x.l.flatMap dgC).take (x.l.length * 32) = x.l.flatMap dgC := List.take_of_length_le (by omega)
      rw [mutD_ne h, mutO_ne h, snap_ms, objV_zero, if_pos hl, Option.bind_some, List.drop_zero, ht, snapL_clean (fm_pure pure_dgC _)]
      simp [Sl.clone, Sl.dv, slD, h])
noncomputable def T110 : Tbl := addT 105 (.new cNG) (addT 106 (.new cNI) (addT 75 (.pure cCD) tbl0))
theorem T110_g : T110 105 = .new cNG := by simp [T110]
theorem T110_i : T110 106 = .new cNI := by simp [T110]
theorem T110_d : T110 75 = .pure cCD := by simp [T110]
theorem T110_sound : T110.Sound P := addT_sound (conN_sound (fun x _ => by simp) fun x _ => calls_runs mix tbl0_sound Tryd.func105 a105_ok (runs_cloneG x)) (addT_sound (conN_sound (fun x _ => by simp) fun x _ => calls_runs mix tbl0_sound Tryd.func106 a106_ok (runs_cloneI x)) (addT_sound (con_sound fun x _ => sem_cloneD x) tbl0_sound))
def gsi (l : List Grp) (i : Nat) : List Grp := (l.take i).map Grp.clone ++ l.drop i
theorem gsi_zero (l : List Grp) : gsi l 0 = l := rfl
theorem gsi_all {l : List Grp} {i : Nat} (h : l.length ≤ i) : gsi l i = l.map Grp.clone := by rw [gsi, List.take_of_length_le h, List.drop_of_length_le h, List.append_nil]
theorem gsi_len {l : List Grp} {i : Nat} : (gsi l i).length = l.length := by simp [gsi]; omega
theorem gsi_get {l : List Grp} {i : Nat} (h : i < l.length) (h' : i < (gsi l i).length) : (gsi l i)[i] = l[i] := by
  simp only [gsi]
  rw [List.getElem_append_right (by simp; omega)]
  simp [Nat.min_eq_left (Nat.le_of_lt h)]
theorem gsi_set {l : List Grp} {i : Nat} (h : i < l.length) : (gsi l i).set i l[i].clone = gsi l (i + 1) := by
  simp only [gsi]
  have hl : ((l.take i).map Grp.clone).length = i := by simp; omega
  rw [List.set_append_right _ _ (by omega), hl, Nat.sub_self, take_snoc h, List.map_append, List.drop_eq_getElem_cons h, List.set_cons_zero, List.append_assoc]
  rfl
theorem one_ch {l : List Grp} {i : Nat} (h : i < l.length) : one 1 false ((l.flatMap grC).drop (i * 6 + 5)) = some (l[i].ch.dv 32 dgC) := by
  rw [← List.drop_drop, fm_drop len_grC, List.drop_eq_getElem_cons h, List.flatMap_cons]
  rfl
def Grp.withCh (g : Grp) (y : Sl Dg) : Grp := ⟨g.ns, g.im, g.want, g.least, g.down, y⟩
theorem splice_ch {l : List Grp} {i : Nat} (h : i < l.length) {y : Sl Dg} : splice (l.flatMap grC) (i * 6 + 5) [y.dv 32 dgC] = (l.set i (l[i].withCh y)).flatMap grC := by
  unfold splice
  rw [List.length_singleton, show i * 6 + 5 + 1 = (i + 1) * 6 by omega, fm_drop len_grC, List.take_add, fm_take len_grC, fm_drop len_grC, List.drop_eq_getElem_cons h, List.flatMap_cons, List.set_eq_take_append_cons_drop, if_pos h, List.flatMap_append, List.flatMap_cons]
  rw [List.take_append_of_le_length (by rw [len_grC]; omega)]
  simp only [List.append_assoc]
  rfl
theorem storeO_one {h : List AObj} {id off : Nat} {v : DV} {l : List DV} (hc : v.cells = [v]) (ho : v.one = true) (hl : off < l.length) : storeO h id 1 off v (some l) = some (.junk, h.set id (.cells (splice l off [v]))) := by
  simp only [storeO, hc, List.length_cons, List.length_nil, List.all_cons, List.all_nil, ho, Bool.and_self]
  first | done | rw [if_pos ⟨trivial, by omega, trivial⟩]
theorem splice3_0 {a b c v : DV} : splice [a, b, c] 0 [v] = [v, b, c] := rfl
theorem splice3_1 {a b c v : DV} : splice [a, b, c] 1 [v] = [a, v, c] := rfl
theorem splice3_2 {a b c v : DV} : splice [a, b, c] 2 [v] = [a, b, v] := rfl
attribute [simp] splice3_0 splice3_1 splice3_2
def I3 (c : Clu) : DV := mutD (2 + (mutO c.g grC).length) 37 c.i inC
def cloneV (c : Clu) : DV := .agg [mutD 2 6 c.clone.g grC, I3 c, .int .i64 c.next]
def cloneK (c : Clu) : List AObj := .cells [mutD 2 6 c.clone.g grC, I3 c, .int .i64 c.next] :: .cells [mutD 2 6 c.clone.g grC, I3 c, .int .i64 c.next] :: (mutO c.clone.g grC ++ mutO c.i inC)
theorem clone_gl (c : Clu) : c.clone.g.l = c.g.l.map Grp.clone := rfl
theorem clone_gne {c : Clu} (h : c.g.l ≠ []) : c.clone.g.l ≠ [] := by simpa [clone_gl] using h
theorem clone_gnil {c : Clu} (h : c.g.l = []) : c.clone.g.l = [] := by simp [clone_gl, h]
theorem clone_dvnil {c : Clu} (h : c.g.l = []) : c.clone.g.clone.dv 6 grC = c.g.clone.dv 6 grC := by
  simp [Sl.clone, Clu.clone, h, Sl.dv]
theorem one_agg3 {a b c : DV} : one 3 true [a, b, c] = some (.agg [a, b, c]) := rfl
theorem storeO_agg3 {h : List AObj} {id : Nat} {a b c : DV} {l : List DV} (hl : l.length = 3) (h1 : a.one = true) (h2 : b.one = true) (h3 : c.one = true) : storeO h id 3 0 (.agg [a, b, c]) (some l) = some (.junk, h.set id (.cells [a, b, c])) := storeO_agg rfl hl (by simp [h1, h2, h3])
attribute [simp] one_agg3 storeO_agg3
def S110 (c : Clu) (oi : List AObj) (i : Nat) : St := a71S0 (.mp 0 3 0) (.mp 1 3 0) (.int .i64 c.g.l.length) (.int .i64 i) (.cells [mutD 2 6 c.g grC, I3 c, .int .i64 c.next] :: .cells [.nils, .nils, .int .i64 0] :: .cells ((gsi c.g.l i).flatMap grC) :: oi)
theorem mut_one {α : Type} {id s : Nat} {x : Sl α} {f : α → List DV} : (mutD id s x f).one = true := by
  by_cases h : x.l = []
  · rw [mutD_nil h]; exact dv_one _
  · rw [mutD_ne h]; rfl
theorem mut_cells {α : Type} {id s : Nat} {x : Sl α} {f : α → List DV} : (mutD id s x f).cells = [mutD id s x f] := by
  by_cases h : x.l = []
  · rw [mutD_nil h]; exact dv_cells _
  · rw [mutD_ne h]; rfl
theorem mut_known {α : Type} {id s : Nat} {x : Sl α} {f : α → List DV} : (mutD id s x f).known = true := by
  by_cases h : x.l = []
  · rw [mutD_nil h]; exact dv_known _
  · rw [mutD_ne h]; rfl
attribute [simp] mut_one mut_cells mut_known
def S111 (c : Clu) : St := a71S0 (.mp 0 3 0) (.mp 1 3 0) (.int .i64 c.g.clone.l.length) (.int .i64 0) (.cells [c.g.clone.dv 6 grC, mutD 2 37 c.i inC, .int .i64 c.next] :: .cells [.nils, .nils, .int .i64 0] :: mutO c.i inC)
set_option maxHeartbeats 2000000 in
theorem runs_clone (c : Clu) : RunsH T110 a71 [.agg (clC c)] [] (cloneV c) (cloneK c) := by
  refine ⟨?_⟩
  have hbg := c.g.b
  by_cases hg : c.g.l = []
  · have e1 := mutD_nil (id := 2) (s := 6) (f := grC) hg
    have e2 := mutO_nil (f := grC) hg
    have e3 := mutD_nil (id := 2) (s := 6) (f := grC) (clone_gnil hg)
    have e4 := mutO_nil (f := grC) (clone_gnil hg)
    have e5 := clone_dvnil hg
    have e6 : c.g.clone.l.length = 0 := by rw [show c.g.clone.l = c.g.l from rfl, hg]; rfl
    simp (disch := first | omega | (simp [-List.map_take, -List.map_drop, -List.map_set, -List.map_append, -List.drop_one] <;> omega) | fail) [-List.map_take, -List.map_drop, -List.map_set, -List.map_append, -List.drop_one, a71, T110_g, T110_i, cNG_eq, cNI_eq, clC, e1, e2, storeO_one]
    refine W_loop (fun _ : Nat => S111 c) (fun _ => 0) (fun _ => True) 0 (weak_same (by simp (disch := first | omega | (simp [-List.map_take, -List.map_drop, -List.map_set, -List.map_append, -List.drop_one] <;> omega) | fail) [-List.map_take, -List.map_drop, -List.map_set, -List.map_append, -List.drop_one, S111]) (by simp (disch := first | omega | (simp [-List.map_take, -List.map_drop, -List.map_set, -List.map_append, -List.drop_one] <;> omega) | fail) [-List.map_take, -List.map_drop, -List.map_set, -List.map_append, -List.drop_one, S111])) trivial (fun _ _ => ?_)
    simp (disch := first | omega | (simp [-List.map_take, -List.map_drop, -List.map_set, -List.map_append, -List.drop_one] <;> omega) | fail) [-List.map_take, -List.map_drop, -List.map_set, -List.map_append, -List.drop_one, a71L0, a71S0, S111, e6, cloneV, cloneK, I3, e2, e3, e4, e5]
  · have e1 := mutD_ne (id := 2) (s := 6) (f := grC) hg
    have e2 := mutO_ne (f := grC) hg
    have e3 := mutD_ne (id := 2) (s := 6) (f := grC) (clone_gne hg)
    have e4 := mutO_ne (f := grC) (clone_gne hg)
    have h1 := fm_len len_grC c.g.l
    simp (disch := first | omega | (simp [-List.map_take, -List.map_drop, -List.map_set, -List.map_append, -List.drop_one] <;> omega) | fail) [-List.map_take, -List.map_drop, -List.map_set, -List.map_append, -List.drop_one, a71, T110_g, T110_i, cNG_eq, cNI_eq, clC, e1, e2, h1, storeO_one]
    refine W_loop (S110 c (mutO c.i inC)) (fun i => c.g.l.length - i) (fun i => i ≤ c.g.l.length) 0 (weak_same (by simp (disch := first | omega | (simp [-List.map_take, -List.map_drop, -List.map_set, -List.map_append, -List.drop_one] <;> omega) | fail) [-List.map_take, -List.map_drop, -List.map_set, -List.map_append, -List.drop_one, I3, e1, e2]) (by simp (disch := first | omega | (simp [-List.map_take, -List.map_drop, -List.map_set, -List.map_append, -List.drop_one] <;> omega) | fail) [-List.map_take, -List.map_drop, -List.map_set, -List.map_append, -List.drop_one, gsi_zero, I3, e1, e2])) (by omega) (fun i hi => ?_)
    have h2 := fm_len len_grC (gsi c.g.l i)
    have h3 := gsi_len (l := c.g.l) (i := i)
    rw [h3] at h2
    simp (disch := first | omega | (simp [-List.map_take, -List.map_drop, -List.map_set, -List.map_append, -List.drop_one] <;> omega) | fail) [-List.map_take, -List.map_drop, -List.map_set, -List.map_append, -List.drop_one, a71L0, a71S0, S110, e1]
    by_cases h : i < c.g.l.length
    · have h' : (i : Int) < c.g.l.length := by omega
      have hi2 : i < (gsi c.g.l i).length := by omega
      have h5 : i * 6 + 5 < c.g.l.length * 6 := by omega
      have hc := one_ch hi2
      rw [gsi_get h hi2] at hc
      have hs := splice_ch hi2 (y := c.g.l[i].ch.clone)
      rw [gsi_get h hi2, show c.g.l[i].withCh c.g.l[i].ch.clone = c.g.l[i].clone from rfl, gsi_set h] at hs
      simp (disch := first | omega | (simp [-List.map_take, -List.map_drop, -List.map_set, -List.map_append, -List.drop_one] <;> omega) | fail) [-List.map_take, -List.map_drop, -List.map_set, -List.map_append, -List.drop_one, h', h, h2, hc, T110_d, cCD_eq, storeO_one, h5, hs]
      exact ⟨i + 1, weak_same (by simp (disch := first | omega | (simp [-List.map_take, -List.map_drop, -List.map_set, -List.map_append, -List.drop_one] <;> omega) | fail) [-List.map_take, -List.map_drop, -List.map_set, -List.map_append, -List.drop_one, e1]) (by simp (disch := first | omega | (simp [-List.map_take, -List.map_drop, -List.map_set, -List.map_append, -List.drop_one] <;> omega) | fail) [-List.map_take, -List.map_drop, -List.map_set, -List.map_append, -List.drop_one, e1]), by omega, by omega⟩
    · have h' : ¬ (i : Int) < c.g.l.length := by omega
      have ha := gsi_all (l := c.g.l) (i := i) (by omega)
      simp (disch := first | omega | (simp [-List.map_take, -List.map_drop, -List.map_set, -List.map_append, -List.drop_one] <;> omega) | fail) [-List.map_take, -List.map_drop, -List.map_set, -List.map_append, -List.drop_one, h, h', ha, cloneV, cloneK, I3, e2, e3, e4, clone_gl]
end Go.Proofs.YtjhakjeioppijaaDoor
