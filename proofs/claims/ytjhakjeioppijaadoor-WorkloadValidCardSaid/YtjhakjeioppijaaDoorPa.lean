/-
  Paths and patterns: what the functions of chapter 3 compute, in plain Lean.
-/
import Derived.Test.YtjhakjeioppijaaDoorAmZ
import Derived.Lib.IndexLaws
set_option linter.unusedSimpArgs false
set_option linter.unusedVariables false
namespace Go.Proofs.YtjhakjeioppijaaDoor
open Go Go.Am

abbrev B8 := BitVec 8
/-- a part of a pattern -/
inductive Pt where
  | one (c : B8) | dot | some | whole
deriving DecidableEq
def Pt.kind : Pt → Int
  | .one _ => 0 | .dot => 1 | .some => 2 | .whole => 3
def Pt.chr : Pt → B8
  | .one c => c | _ => 0#8
def Pt.long : Pt → Bool
  | .some => true | .whole => true | _ => false
def Pt.takes : Pt → B8 → Bool
  | .one c, b => b == c | .whole, _ => true | _, b => b != 47#8
def bAt (s : List UInt8) (i : Nat) : B8 := (s.getD i 0).toBitVec

/-- one more part: from which bytes on the parts so far can stand for the first i bytes -/
def row (x : Pt) (s : List UInt8) (prev : Nat → Bool) : Nat → Bool
  | 0 => x.long && prev 0
  | i + 1 => if x.long then prev (i + 1) || (row x s prev i && x.takes (bAt s i)) else prev i && x.takes (bAt s i)
def M (l : List Pt) (s : List UInt8) : Nat → Nat → Bool
  | 0 => fun i => i == 0
  | k + 1 => row (l.getD k .dot) s (M l s k)

theorem M_zero (l s) (i : Nat) : M l s 0 i = (i == 0) := rfl
theorem M_first (l s) (k : Nat) : M l s (k + 1) 0 = ((l.getD k .dot).long && M l s k 0) := rfl
theorem M_long {l s} {k i : Nat} (h : (l.getD k .dot).long = true) : M l s (k + 1) (i + 1) = (M l s k (i + 1) || (M l s (k + 1) i && (l.getD k .dot).takes (bAt s i))) := by
  show row _ _ _ (i + 1) = _
  rw [row, if_pos h]; rfl
theorem M_short {l s} {k i : Nat} (h : (l.getD k .dot).long = false) : M l s (k + 1) (i + 1) = (M l s k i && (l.getD k .dot).takes (bAt s i)) := by
  show row _ _ _ (i + 1) = _
  rw [row, if_neg (by rw [h]; simp)]

/-- the parts of a pattern without a zero byte -/
def prs : List UInt8 → Option (List Pt)
  | [] => .some []
  | c :: r =>
    if c.toBitVec = 92#8 then
      match r with
      | [] => none
      | d :: r' => (prs r').map fun l => .one d.toBitVec :: l
    else if c.toBitVec = 42#8 then
      match r with
      | [] => .some [.some]
      | d :: r' => if d.toBitVec = 42#8 then (prs r').map fun l => .whole :: l else (prs (d :: r')).map fun l => .some :: l
    else if c.toBitVec = 63#8 then (prs r).map fun l => .dot :: l
    else (prs r).map fun l => .one c.toBitVec :: l

def noZ (s : List UInt8) : Bool := s.all fun c => c != 0
/-- the parts of a pattern -/
def parseP (p : List UInt8) : Option (List Pt) := if 1 ≤ p.length ∧ p.length ≤ 200 ∧ noZ p = true then prs p else none

/-- the components between slashes -/
def comps : List UInt8 → List (List UInt8)
  | [] => [[]]
  | c :: r => if c = 47 then [] :: comps r else
    match comps r with
    | [] => [[c]]
    | h :: t => (c :: h) :: t
def okC (x : List UInt8) : Bool := x != [] && x != [46] && x != [46, 46]
def pathD (s : List UInt8) : Bool := decide (1 ≤ s.length) && decide (s.length ≤ 200) && noZ s && (comps s).all okC
def matchD (p s : List UInt8) : Bool := match parseP p with
  | none => false
  | .some l => pathD s && M l s l.length s.length

theorem u8_nat (c : UInt8) : c.toBitVec.toNat.toUInt8 = c := by simp
theorem comps_ne : ∀ (s : List UInt8), comps s ≠ []
  | [] => by simp [comps]
  | c :: r => by
    rw [comps]
    split
    · simp
    · split <;> simp
theorem comps_sl (r : List UInt8) : comps (47 :: r) = [] :: comps r := by simp [comps]
theorem comps_other {c : UInt8} {r h : List UInt8} {t : List (List UInt8)} (hc : c ≠ 47) (hr : comps r = h :: t) : comps (c :: r) = (c :: h) :: t := by simp [comps, hc, hr]
theorem comps_cons (r : List UInt8) : ∃ h t, comps r = h :: t := by
  cases e : comps r with
  | nil => exact absurd e (comps_ne r)
  | cons h t => exact ⟨h, t, rfl⟩
theorem ixb_cons (b : UInt8) (l : List UInt8) (c : UInt8) : Lib.indexByte (b :: l) c = if b = c then 0 else if Lib.indexByte l c = -1 then -1 else Lib.indexByte l c + 1 := by
  simp [Lib.indexByte]
theorem comps_none : ∀ {s : List UInt8}, Lib.indexByte s 47 = -1 → comps s = [s]
  | [], _ => rfl
  | c :: r, h => by
    rw [ixb_cons] at h
    split at h
    · simp at h
    · rename_i hc
      split at h
      · rename_i hr; exact comps_other hc (comps_none hr)
      · have := Lib.indexByte_ge r 47; omega
theorem comps_some : ∀ {s : List UInt8} {o : Nat}, Lib.indexByte s 47 = o → comps s = s.take o :: comps (s.drop (o + 1))
  | [], o, h => by simp [Lib.indexByte] at h
  | c :: r, o, h => by
    rw [ixb_cons] at h
    split at h
    · rename_i hc
      have : o = 0 := by omega
      subst this; subst hc
      simp [comps_sl]
    · rename_i hc
      split at h
      · omega
      · obtain ⟨o', rfl⟩ : ∃ o', o = o' + 1 := ⟨o - 1, by have := Lib.indexByte_ge r 47; omega⟩
        have := comps_some (s := r) (o := o') (by omega)
        rw [comps_other hc this]
        simp
theorem len_comps : ∀ (s : List UInt8), (comps s).length = Lib.countByte s 47 + 1
  | [] => rfl
  | c :: r => by
    have ih := len_comps r
    obtain ⟨h, t, e⟩ := comps_cons r
    by_cases hc : c = 47
    · subst hc; rw [comps_sl]; simp [ih, Lib.countByte]
    · rw [comps_other hc e]
      rw [e] at ih
      simp [Lib.countByte, List.count_cons, hc] at ih ⊢
      exact ih
theorem comps_app : ∀ (a b : List UInt8), comps (a ++ 47 :: b) = comps a ++ comps b
  | [], b => by simp [comps]
  | c :: a, b => by
    have ih := comps_app a b
    obtain ⟨h, t, e⟩ := comps_cons a
    by_cases hc : c = 47
    · subst hc; rw [List.cons_append, comps_sl, comps_sl, ih]; rfl
    · rw [List.cons_append, comps_other hc e, comps_other hc (h := h) (t := t ++ comps b) (by rw [ih, e]; rfl)]; rfl
theorem noZ_ixb : ∀ (s : List UInt8), noZ s = decide (Lib.indexByte s 0 = -1)
  | [] => rfl
  | c :: r => by
    have ih := noZ_ixb r
    have hg := Lib.indexByte_ge r 0
    have e : noZ (c :: r) = (c != 0 && noZ r) := by simp [noZ]
    rw [e, ih, ixb_cons]
    by_cases hc : c = 0
    · simp [hc]
    · by_cases hr : Lib.indexByte r 0 = -1
      · simp [hc, hr]
      · simp [hc, hr]; omega
theorem ixb_lt {s : List UInt8} {c : UInt8} {o : Nat} (h : Lib.indexByte s c = o) : o < s.length := by
  have := (Lib.indexByte_some h).1
  exact (List.getElem?_eq_some_iff.1 this).1
end Go.Proofs.YtjhakjeioppijaaDoor
