/-
  Clusters as data: digests, slices, groups, instances; how operations see them.
-/
import Derived.Test.YtjhakjeioppijaaDoorAmAB
import Derived.Test.YtjhakjeioppijaaDoorPa
set_option linter.unusedSimpArgs false
set_option linter.unusedVariables false
namespace Go.Proofs.YtjhakjeioppijaaDoor
open Go Go.Am

/-! digests -/
abbrev Dg := { a : List B8 // a.length = 32 }
def dgC (d : Dg) : List DV := d.1.map w8
def dg0 : Dg := ⟨rep 32 0#8, by simp [rep]⟩
theorem len_dgC (d : Dg) : (dgC d).length = 32 := by simp [dgC, d.2]
theorem pure_dgC (d : Dg) : pureL (dgC d) = true := pureL_w8
theorem dgC_inj {a b : Dg} (h : dgC a = dgC b) : a = b := Subtype.ext (by rw [dgC, dgC, map_inj_w8] at h; exact h)

/-! slices -/
structure Sl (α : Type) where
  k : Option Bool
  l : List α
  h : k = none → l = []
  b : l.length ≤ 4294967296
def Sl.dv {α : Type} (x : Sl α) (s : Nat) (f : α → List DV) : DV := slD x.k s x.l.length (x.l.flatMap f)
section
variable {α : Type} {f : α → List DV} {s : Nat} {h : List AObj} {x : Sl α} {n k : Nat}
theorem dv_some {b : Bool} {l : List α} {h : some b = none → l = []} {hb : l.length ≤ 4294967296} : (⟨some b, l, h, hb⟩ : Sl α).dv s f = .sl b s l.length (l.flatMap f) := rfl
theorem dv_none {h : none = none → ([] : List α) = []} {hb : ([] : List α).length ≤ 4294967296} : (⟨none, [], h, hb⟩ : Sl α).dv s f = .nils := rfl
theorem fm_len (hu : ∀ a, (f a).length = s) : ∀ (l : List α), (l.flatMap f).length = l.length * s
  | [] => by simp
  | a :: l => by rw [List.flatMap_cons, List.length_append, hu, fm_len hu l, List.length_cons, Nat.add_mul]; omega
theorem fm_take (hu : ∀ a, (f a).length = s) : ∀ (l : List α) (i : Nat), (l.flatMap f).take (i * s) = (l.take i).flatMap f
  | [], i => by simp
  | a :: l, 0 => by simp
  | a :: l, i + 1 => by
    have ha := hu a
    rw [List.flatMap_cons, List.take_append, List.take_of_length_le (by rw [ha, Nat.add_mul]; omega), ha, show (i + 1) * s - s = i * s from by rw [Nat.add_mul]; omega, fm_take hu l, List.take_succ_cons, List.flatMap_cons]
theorem fm_drop (hu : ∀ a, (f a).length = s) : ∀ (l : List α) (i : Nat), (l.flatMap f).drop (i * s) = (l.drop i).flatMap f
  | [], i => by simp
  | a :: l, 0 => by simp
  | a :: l, i + 1 => by
    have ha := hu a
    rw [List.flatMap_cons, List.drop_append, List.drop_of_length_le (by rw [ha, Nat.add_mul]; omega), ha, show (i + 1) * s - s = i * s from by rw [Nat.add_mul]; omega, fm_drop hu l, List.nil_append, List.drop_succ_cons]
theorem fm_get (hu : ∀ a, (f a).length = s) {l : List α} {i : Nat} (hi : i < l.length) : ((l.flatMap f).drop (i * s)).take s = f l[i] := by
  rw [fm_drop hu, List.drop_eq_getElem_cons hi, List.flatMap_cons, List.take_left' (hu _)]
theorem pureL_append : ∀ {a b : List DV}, pureL a = true → pureL b = true → pureL (a ++ b) = true
  | [], _, _, h => h
  | d :: r, b, h1, h2 => by simp only [List.cons_append, pureL, Bool.and_eq_true] at *; exact ⟨h1.1, pureL_append h1.2 h2⟩
theorem fm_pure (hp : ∀ a, pureL (f a) = true) : ∀ (l : List α), pureL (l.flatMap f) = true
  | [] => rfl
  | a :: l => by rw [List.flatMap_cons]; exact pureL_append (hp a) (fm_pure hp l)
theorem fm_set (hu : ∀ a, (f a).length = s) {l : List α} {i : Nat} (hi : i < l.length) (b : α) : splice (l.flatMap f) (i * s) (f b) = (l.set i b).flatMap f := by
  unfold splice
  rw [fm_take hu, hu b, show i * s + s = (i + 1) * s by rw [Nat.add_mul, Nat.one_mul], fm_drop hu, List.set_eq_take_append_cons_drop, if_pos hi]
  simp
theorem dv_pure (hp : ∀ a, pureL (f a) = true) (x : Sl α) : pureD (x.dv s f) = true := by
  obtain ⟨k, l, h, hb1⟩ := x
  cases k with
  | none => rfl
  | some b => show pureL _ = true; exact fm_pure hp l
theorem dv_one (x : Sl α) : (x.dv s f).one = true := by obtain ⟨k, l, h, hb1⟩ := x; cases k <;> rfl
theorem dv_known (x : Sl α) : (x.dv s f).known = true := by obtain ⟨k, l, h, hb1⟩ := x; cases k <;> rfl
theorem dv_cells (x : Sl α) : (x.dv s f).cells = [x.dv s f] := by obtain ⟨k, l, h, hb1⟩ := x; cases k <;> rfl
theorem lenD_dv : lenD h (x.dv s f) = some (.int .i64 x.l.length) := by
  obtain ⟨k, l, h, hb1⟩ := x
  cases k with
  | none => cases h rfl; rfl
  | some b => rfl
theorem idxSD_dv (hu : ∀ a, (f a).length = s) {i : Nat} (hi : i < x.l.length) : idxSD h s (x.dv s f) i = some (.ref (f x.l[i])) := by
  obtain ⟨k, l, h, hb1⟩ := x
  cases k with
  | none => cases h rfl; simp at hi
  | some b =>
    simp only [Sl.dv, slD_some]
    rw [idxSD_sl (by omega) (by simp only at hi; omega), Int.toNat_natCast, fm_get hu hi]
theorem visS_dv (hu : ∀ a, (f a).length = s) : visS h (x.dv s f) = some (x.l.length, x.l.flatMap f) := visS_slD (fun e => by simp [x.h e]) (fm_len hu _)
theorem visY_dv (hu : ∀ a, (f a).length = s) : visY h (x.dv s f) = some (x.l.length, x.l.flatMap f) := by
  rw [← visS_dv (h := h) hu]
  obtain ⟨k, l, h, hb1⟩ := x; cases k <;> rfl
/-- a part of a slice -/
def Sl.part (x : Sl α) (i j : Nat) (b : Bool) : Sl α := ⟨x.k.map fun c => c && b, (x.l.drop i).take (j - i), fun e => by simp at e; simp [x.h e], by have := x.b; simp; omega⟩
theorem slcSD_dv (hu : ∀ a, (f a).length = s) {lo hi : Option DV} {i j : Nat} (hb : boundsD x.l.length lo hi = some (i, j)) (hij : j ≤ x.l.length) : slcSD h s (x.dv s f) lo hi none = some ((x.part i j (j == x.l.length)).dv s f) := by
  obtain ⟨k, l, h, hb1⟩ := x
  cases k with
  | none => cases h rfl; simp at hb hij; simp only [Sl.dv, slD_none, Sl.part, Option.map_none]; rw [slcSD_nils hb]
  | some b =>
    simp only at hb hij
    simp only [Sl.dv, slD_some, Sl.part, Option.map_some]
    rw [slcSD_sl hb, fm_drop hu, fm_take hu]
    simp only [List.length_take, List.length_drop]
    congr 2
    omega
theorem nilKind_dv : nilKind h (x.dv s f) = some (0, x.k.isNone) := by obtain ⟨k, l, h, hb1⟩ := x; cases k <;> rfl
theorem slcSD_dv00 {a b : IntKind} : slcSD h s (x.dv s f) none (some (.int a 0)) (some (.int b 0)) = some ((⟨x.k.map fun _ => true, [], fun _ => rfl, by simp⟩ : Sl α).dv s f) := by
  obtain ⟨k, l, h, hb1⟩ := x
  cases k with
  | none => simp only [Sl.dv, slD_none, Option.map_none]; exact slcSD_nils00
  | some b => simp only [Sl.dv, slD_some, Option.map_some]; exact slcSD_sl00
end

/-! groups, instances, clusters -/
structure Grp where
  ns : List UInt8
  im : List UInt8
  want : Int
  least : Int
  down : Int
  ch : Sl Dg
def grC (g : Grp) : List DV := [.str g.ns, .str g.im, .int .i64 g.want, .int .i64 g.least, .int .i64 g.down, g.ch.dv 32 dgC]
structure Ins where
  id : Int
  grp : Int
  art : Dg
  state : Int
  since : Int
  den : Int
  deriving DecidableEq
def inC (x : Ins) : List DV := .int .i64 x.id :: .int .i64 x.grp :: (dgC x.art ++ [.int .i64 x.state, .int .i64 x.since, .int .i64 x.den])
structure Clu where
  g : Sl Grp
  i : Sl Ins
  next : Int
def clC (c : Clu) : List DV := [c.g.dv 6 grC, c.i.dv 37 inC, .int .i64 c.next]
theorem len_grC (g : Grp) : (grC g).length = 6 := by simp [grC]
theorem len_inC (x : Ins) : (inC x).length = 37 := by simp [inC, len_dgC]
theorem len_clC (c : Clu) : (clC c).length = 3 := by simp [clC]
theorem pure_dv32 (x : Sl Dg) : pureD (x.dv 32 dgC) = true := dv_pure pure_dgC x
theorem pure_grC (g : Grp) : pureL (grC g) = true := by simp [grC, pureL, pureD, pure_dv32]
theorem pure_inC (x : Ins) : pureL (inC x) = true := by
  simp only [inC, pureL, pureD, Bool.true_and]
  exact pureL_append (pure_dgC _) (by simp [pureL, pureD])
theorem pure_dv6 (x : Sl Grp) : pureD (x.dv 6 grC) = true := dv_pure pure_grC x
theorem pure_dv37 (x : Sl Ins) : pureD (x.dv 37 inC) = true := dv_pure pure_inC x
theorem pure_clC (c : Clu) : pureL (clC c) = true := by simp [clC, pureL, pureD, pure_dv6, pure_dv37]

/-! what is loaded from an instance -/
theorem inC_drop2 (x : Ins) : (inC x).drop 2 = dgC x.art ++ [.int .i64 x.state, .int .i64 x.since, .int .i64 x.den] := rfl
theorem inC_drop34 (x : Ins) : (inC x).drop 34 = [.int .i64 x.state, .int .i64 x.since, .int .i64 x.den] := by
  rw [show (34 : Nat) = 2 + 32 from rfl, ← List.drop_drop, inC_drop2, List.drop_left' (len_dgC _)]
theorem inC_drop35 (x : Ins) : (inC x).drop 35 = [.int .i64 x.since, .int .i64 x.den] := by
  rw [show (35 : Nat) = 34 + 1 from rfl, ← List.drop_drop, inC_drop34]; rfl
theorem inC_drop36 (x : Ins) : (inC x).drop 36 = [.int .i64 x.den] := by
  rw [show (36 : Nat) = 34 + 2 from rfl, ← List.drop_drop, inC_drop34]; rfl
section
variable {x : Ins} {g : Grp} {c : Clu} {d : Dg} {r : List DV}
theorem one_in0 : one 1 false (inC x) = some (.int .i64 x.id) := rfl
theorem one_in1 : one 1 false ((inC x).drop 1) = some (.int .i64 x.grp) := rfl
theorem one_in2 : one 32 true ((inC x).drop 2) = some (.agg (dgC x.art)) := by
  rw [inC_drop2]; simp only [one, if_true]; rw [if_pos (by simp [len_dgC]), List.take_left' (len_dgC _)]
theorem one_in34 : one 1 false ((inC x).drop 34) = some (.int .i64 x.state) := by rw [inC_drop34]; rfl
theorem one_in35 : one 1 false ((inC x).drop 35) = some (.int .i64 x.since) := by rw [inC_drop35]; rfl
theorem one_in36 : one 1 false ((inC x).drop 36) = some (.int .i64 x.den) := by rw [inC_drop36]; rfl
theorem one_in : one 37 true (inC x) = some (.agg (inC x)) := by simp [one, len_inC, List.take_of_length_le]
theorem one_gr : one 6 true (grC g) = some (.agg (grC g)) := rfl
theorem one_gr0 : one 1 false (grC g) = some (.str g.ns) := rfl
theorem one_gr1 : one 1 false ((grC g).drop 1) = some (.str g.im) := rfl
theorem one_gr2 : one 1 false ((grC g).drop 2) = some (.int .i64 g.want) := rfl
theorem one_gr3 : one 1 false ((grC g).drop 3) = some (.int .i64 g.least) := rfl
theorem one_gr4 : one 1 false ((grC g).drop 4) = some (.int .i64 g.down) := rfl
theorem one_gr5 : one 1 false ((grC g).drop 5) = some (g.ch.dv 32 dgC) := rfl
theorem one_cl : one 3 true (clC c) = some (.agg (clC c)) := rfl
theorem one_cl0 : one 1 false (clC c) = some (c.g.dv 6 grC) := rfl
theorem one_cl1 : one 1 false ((clC c).drop 1) = some (c.i.dv 37 inC) := rfl
theorem one_cl2 : one 1 false ((clC c).drop 2) = some (.int .i64 c.next) := rfl
theorem one_dg : one 32 true (dgC d) = some (.agg (dgC d)) := by simp [one, len_dgC, List.take_of_length_le]
theorem getf_in {off n : Nat} {a : Bool} (hl : off + n ≤ 37) : getfD off n a (.agg (inC x)) = one n a ((inC x).drop off) := by simp [getfD, len_inC, hl]
theorem getf_gr {off n : Nat} {a : Bool} (hl : off + n ≤ 6) : getfD off n a (.agg (grC g)) = one n a ((grC g).drop off) := by simp [getfD, len_grC, hl]
theorem getf_cl {off n : Nat} {a : Bool} (hl : off + n ≤ 3) : getfD off n a (.agg (clC c)) = one n a ((clC c).drop off) := by simp [getfD, len_clC, hl]
end

attribute [simp] len_dgC len_grC len_inC len_clC lenD_dv nilKind_dv dv_one dv_known dv_cells one_in0 one_in1 one_in2 one_in34 one_in35 one_in36 one_in one_gr one_gr0 one_gr1 one_gr2 one_gr3 one_gr4 one_gr5 one_cl one_cl0 one_cl1 one_cl2 one_dg getf_in getf_gr getf_cl pure_dgC pure_grC pure_inC pure_clC pure_dv32 pure_dv6 pure_dv37

/-! comparisons -/
theorem cellsEq_append : ∀ {ks1 ks2 : List Nat} {a1 a2 b1 b2 : List DV}, a1.length = ks1.length → b1.length = ks1.length → cellsEq (ks1 ++ ks2) (a1 ++ a2) (b1 ++ b2) = (cellsEq ks1 a1 b1).bind fun p => (cellsEq ks2 a2 b2).map fun q => p && q
  | [], ks2, [], a2, [], b2, _, _ => by simp [cellsEq]
  | k :: ks1, ks2, x :: a1, a2, y :: b1, b2, h1, h2 => by
    simp only [List.cons_append, cellsEq, cellsEq_append (ks1 := ks1) (a1 := a1) (b1 := b1) (by simpa using h1) (by simpa using h2)]
    cases cellEq k x y <;> simp only [Option.bind_none, Option.bind_some]
    cases cellsEq ks1 a1 b1 <;> simp only [Option.bind_none, Option.bind_some, Option.map_none, Option.map_some]
    cases cellsEq ks2 a2 b2 <;> simp only [Option.map_none, Option.map_some, Bool.and_assoc]
theorem cellsEq_dg {a b : Dg} : cellsEq (kindsOf [(32, 0)]) (dgC a) (dgC b) = some (decide (a = b)) := by
  rw [dgC, dgC, cellsEq_w8 a.2 b.2]
  simp only [Subtype.ext_iff]
theorem cellsEq_i3 {a b c a' b' c' : Int} : cellsEq [0, 0, 0] [.int .i64 a, .int .i64 b, .int .i64 c] [.int .i64 a', .int .i64 b', .int .i64 c'] = some (decide (a = a' ∧ b = b' ∧ c = c')) := by
  simp [cellsEq, cellEq]; rfl
theorem cellsEq_i2 {a b a' b' : Int} : cellsEq [0, 0] [.int .i64 a, .int .i64 b] [.int .i64 a', .int .i64 b'] = some (decide (a = a' ∧ b = b')) := by
  simp [cellsEq, cellEq]; rfl
theorem cellsEq_in {x y : Ins} : cellsEq (kindsOf [(37, 0)]) (inC x) (inC y) = some (decide (x = y)) := by
  have e : kindsOf [(37, 0)] = [0, 0] ++ (kindsOf [(32, 0)] ++ [0, 0, 0]) := by decide
  have e1 : ∀ x : Ins, inC x = [.int .i64 x.id, .int .i64 x.grp] ++ (dgC x.art ++ [.int .i64 x.state, .int .i64 x.since, .int .i64 x.den]) := fun _ => rfl
  rw [e, e1, e1, cellsEq_append rfl rfl, cellsEq_append (by simp [len_dgC, kindsOf]) (by simp [len_dgC, kindsOf]), cellsEq_dg, cellsEq_i2, cellsEq_i3]
  obtain ⟨a, b, c, d, e, f⟩ := x
  obtain ⟨a', b', c', d', e', f'⟩ := y
  simp only [Option.bind_some, Option.map_some, Ins.mk.injEq, Option.some.injEq, Bool.decide_and, Bool.and_assoc]

theorem rep_dg0 : rep 32 (w8 0#8) = dgC dg0 := by rw [dgC, dg0, rep_w8]
theorem map_dg0 : List.map w8 (rep 32 0#8) = dgC dg0 := rfl
attribute [simp] cellsEq_dg cellsEq_in map_dg0
/-! the first that fits -/
def ixI {α : Type} (p : α → Bool) : List α → Int
  | [] => -1
  | a :: l => if p a = true then 0 else if ixI p l < 0 then -1 else ixI p l + 1
theorem ixI_ge {α : Type} (p : α → Bool) : ∀ l : List α, -1 ≤ ixI p l
  | [] => by simp [ixI]
  | a :: l => by have := ixI_ge p l; simp only [ixI]; split <;> (try split) <;> omega
theorem ixI_at {α : Type} {p : α → Bool} : ∀ {l : List α} {i : Nat} (hi : i < l.length), p l[i] = true → (∀ j (hj : j < l.length), j < i → p l[j] = false) → ixI p l = i
  | a :: l, 0, hi, h1, h2 => by simp at h1; simp [ixI, h1]
  | a :: l, i + 1, hi, h1, h2 => by
    have h0 : p a = false := h2 0 (by simp) (by omega)
    have ih := ixI_at (p := p) (l := l) (i := i) (by simpa using hi) (by simpa using h1) (fun j hj hji => h2 (j + 1) (by simpa using hj) (by omega))
    simp only [ixI, h0, Bool.false_eq_true, if_false, ih]
    rw [if_neg (by omega)]; omega
theorem ixI_none {α : Type} {p : α → Bool} : ∀ {l : List α}, (∀ j (hj : j < l.length), p l[j] = false) → ixI p l = -1
  | [], _ => rfl
  | a :: l, h => by
    have h0 : p a = false := h 0 (by simp)
    have ih := ixI_none (p := p) (l := l) (fun j hj => h (j + 1) (by simpa using hj))
    simp [ixI, h0, ih]
theorem ixI_neg {α : Type} {p : α → Bool} : ∀ {l : List α}, ixI p l < 0 → ∀ j (hj : j < l.length), p l[j] = false
  | [], _, j, hj => by simp at hj
  | a :: l, h, j, hj => by
    simp only [ixI] at h
    split at h
    · omega
    · rename_i h0
      split at h
      · rename_i h1
        cases j with
        | zero => simpa using h0
        | succ j => simpa using ixI_neg h1 j (by simpa using hj)
      · omega
theorem ixI_pos {α : Type} {p : α → Bool} : ∀ {l : List α}, 0 ≤ ixI p l → ∃ (i : Nat) (hi : i < l.length), ixI p l = i ∧ p l[i] = true ∧ ∀ j (hj : j < l.length), j < i → p l[j] = false
  | [], h => by simp [ixI] at h
  | a :: l, h => by
    by_cases h0 : p a = true
    · exact ⟨0, by simp, by simp [ixI, h0], by simpa using h0, fun j _ hj => by omega⟩
    · have hh := h
      simp only [ixI] at hh
      rw [if_neg h0] at hh
      split at hh
      · omega
      · rename_i h1
        obtain ⟨i, hi, e1, e2, e3⟩ := ixI_pos (p := p) (l := l) (by omega)
        refine ⟨i + 1, by simpa using hi, ?_, by simpa using e2, fun j hj hji => ?_⟩
        · simp only [ixI, h0, if_false, if_neg h1, e1, Bool.false_eq_true]; omega
        · cases j with
          | zero => simpa using h0
          | succ j => simpa using e3 j (by simpa using hj) (by omega)
theorem ixI_lt {α : Type} (p : α → Bool) (l : List α) : ixI p l < l.length ∨ l = [] := by
  by_cases h : 0 ≤ ixI p l
  · obtain ⟨i, hi, e, _⟩ := ixI_pos h
    left; omega
  · cases l with
    | nil => exact .inr rfl
    | cons a l => left; simp at h ⊢; omega
end Go.Proofs.YtjhakjeioppijaaDoor
