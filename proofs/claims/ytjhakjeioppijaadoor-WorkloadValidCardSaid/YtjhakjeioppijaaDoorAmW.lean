/-
  The abstract machine, part 23: lists of words keep their words inside ('(l.take n).map w8'); copies; contracts with conditions.
-/
import Derived.Test.YtjhakjeioppijaaDoorAmU
set_option linter.unusedSimpArgs false
set_option linter.unusedVariables false
namespace Go.Am
open Go.RowKit

theorem take_w8 {l : List (BitVec 8)} {k : Nat} : (l.map w8).take k = (l.take k).map w8 := List.map_take.symm
theorem drop_w8 {l : List (BitVec 8)} {k : Nat} : (l.map w8).drop k = (l.drop k).map w8 := List.map_drop.symm
theorem set_w8 {l : List (BitVec 8)} {k : Nat} {x : BitVec 8} : (l.map w8).set k (w8 x) = (l.set k x).map w8 := List.map_set.symm
theorem append_w8 {l r : List (BitVec 8)} : l.map w8 ++ r.map w8 = (l ++ r).map w8 := List.map_append.symm
theorem cons_w8 {l : List (BitVec 8)} {x : BitVec 8} : w8 x :: l.map w8 = (x :: l).map w8 := rfl
theorem one_w8_d {l : List (BitVec 8)} (h : 0 < l.length) : one 1 false (l.map w8) = some (w8 (l.getD 0 0)) := by
  cases l with
  | nil => simp at h
  | cons a r => simp [one]
theorem one_w8_dt {l : List (BitVec 8)} {i k : Nat} (h : i < l.length) (hk : 0 < k) : one 1 false (((l.drop i).take k).map w8) = some (w8 (l.getD i 0)) := by
  rw [one_w8_d (by simp; omega)]
  simp [List.getElem?_take, hk]
theorem one_w8_dd {l : List (BitVec 8)} {i : Nat} (h : i < l.length) : one 1 false ((l.drop i).map w8) = some (w8 (l.getD i 0)) := by
  rw [one_w8_d (by simp; omega)]
  simp
theorem one_w8_a {l : List (BitVec 8)} {k : Nat} (h : l.length = k) : one k true (l.map w8) = some (.agg (l.map w8)) := by subst h; simp [one, List.take_of_length_le]
theorem all_w8 {l : List (BitVec 8)} : (l.map w8).all DV.one = true := by simp
theorem storeO_w8_a {h : List AObj} {id k : Nat} {l L : List (BitVec 8)} (hn : L.length = k) (hl : l.length = k) : storeO h id k 0 (.agg (L.map w8)) (some (l.map w8)) = some (.junk, h.set id (.cells (L.map w8))) := storeO_agg (by simpa using hn) (by simpa using hl) all_w8

theorem take_w32 {l : List (BitVec 32)} {k : Nat} : (l.map w32).take k = (l.take k).map w32 := List.map_take.symm
theorem drop_w32 {l : List (BitVec 32)} {k : Nat} : (l.map w32).drop k = (l.drop k).map w32 := List.map_drop.symm
theorem set_w32 {l : List (BitVec 32)} {k : Nat} {x : BitVec 32} : (l.map w32).set k (w32 x) = (l.set k x).map w32 := List.map_set.symm
theorem append_w32 {l r : List (BitVec 32)} : l.map w32 ++ r.map w32 = (l ++ r).map w32 := List.map_append.symm
theorem cons_w32 {l : List (BitVec 32)} {x : BitVec 32} : w32 x :: l.map w32 = (x :: l).map w32 := rfl
theorem one_w32_d {l : List (BitVec 32)} (h : 0 < l.length) : one 1 false (l.map w32) = some (w32 (l.getD 0 0)) := by
  cases l with
  | nil => simp at h
  | cons a r => simp [one]
theorem one_w32_dt {l : List (BitVec 32)} {i k : Nat} (h : i < l.length) (hk : 0 < k) : one 1 false (((l.drop i).take k).map w32) = some (w32 (l.getD i 0)) := by
  rw [one_w32_d (by simp; omega)]
  simp [List.getElem?_take, hk]
theorem one_w32_dd {l : List (BitVec 32)} {i : Nat} (h : i < l.length) : one 1 false ((l.drop i).map w32) = some (w32 (l.getD i 0)) := by
  rw [one_w32_d (by simp; omega)]
  simp
theorem one_w32_a {l : List (BitVec 32)} {k : Nat} (h : l.length = k) : one k true (l.map w32) = some (.agg (l.map w32)) := by subst h; simp [one, List.take_of_length_le]
theorem all_w32 {l : List (BitVec 32)} : (l.map w32).all DV.one = true := by simp
theorem storeO_w32_a {h : List AObj} {id k : Nat} {l L : List (BitVec 32)} (hn : L.length = k) (hl : l.length = k) : storeO h id k 0 (.agg (L.map w32)) (some (l.map w32)) = some (.junk, h.set id (.cells (L.map w32))) := storeO_agg (by simpa using hn) (by simpa using hl) all_w32

theorem take_w64 {l : List (BitVec 64)} {k : Nat} : (l.map w64).take k = (l.take k).map w64 := List.map_take.symm
theorem drop_w64 {l : List (BitVec 64)} {k : Nat} : (l.map w64).drop k = (l.drop k).map w64 := List.map_drop.symm
theorem set_w64 {l : List (BitVec 64)} {k : Nat} {x : BitVec 64} : (l.map w64).set k (w64 x) = (l.set k x).map w64 := List.map_set.symm
theorem append_w64 {l r : List (BitVec 64)} : l.map w64 ++ r.map w64 = (l ++ r).map w64 := List.map_append.symm
theorem cons_w64 {l : List (BitVec 64)} {x : BitVec 64} : w64 x :: l.map w64 = (x :: l).map w64 := rfl
theorem one_w64_d {l : List (BitVec 64)} (h : 0 < l.length) : one 1 false (l.map w64) = some (w64 (l.getD 0 0)) := by
  cases l with
  | nil => simp at h
  | cons a r => simp [one]
theorem one_w64_dt {l : List (BitVec 64)} {i k : Nat} (h : i < l.length) (hk : 0 < k) : one 1 false (((l.drop i).take k).map w64) = some (w64 (l.getD i 0)) := by
  rw [one_w64_d (by simp; omega)]
  simp [List.getElem?_take, hk]
theorem one_w64_dd {l : List (BitVec 64)} {i : Nat} (h : i < l.length) : one 1 false ((l.drop i).map w64) = some (w64 (l.getD i 0)) := by
  rw [one_w64_d (by simp; omega)]
  simp
theorem one_w64_a {l : List (BitVec 64)} {k : Nat} (h : l.length = k) : one k true (l.map w64) = some (.agg (l.map w64)) := by subst h; simp [one, List.take_of_length_le]
theorem all_w64 {l : List (BitVec 64)} : (l.map w64).all DV.one = true := by simp
theorem storeO_w64_a {h : List AObj} {id k : Nat} {l L : List (BitVec 64)} (hn : L.length = k) (hl : l.length = k) : storeO h id k 0 (.agg (L.map w64)) (some (l.map w64)) = some (.junk, h.set id (.cells (L.map w64))) := storeO_agg (by simpa using hn) (by simpa using hl) all_w64

/-- a part of a list is written over -/
def spl {α : Type} (L : List α) (off : Nat) (c : List α) : List α := L.take off ++ c ++ L.drop (off + c.length)
theorem length_spl {α : Type} {L c : List α} {off : Nat} (h : off + c.length ≤ L.length) : (spl L off c).length = L.length := by simp [spl]; omega
def cpyO (h : List AObj) (id s off n : Nat) (str : Bool) (m : Nat) (cs : List DV) : Option (List DV) → Option (DV × List AObj)
  | some l => if (cs.take (min m n * s)).all DV.one = true ∧ min m n * s ≤ cs.length ∧ off + n * s ≤ l.length ∧ (str = true → s = 1) then some (.int .i64 (min m n : Nat), h.set id (.cells (splice l off (cs.take (min m n * s))))) else none
  | none => none
theorem cpyD_ms {h : List AObj} {s id ver off n lim m : Nat} {str : Bool} {cs : List DV} : cpyD h s str (.ms id ver off s n lim) (some (m, cs)) = cpyO h id s off n str m cs (objV h id ver) := by
  simp only [cpyD, objV]
  cases objAt h id with
  | none => rfl
  | some l =>
    simp only [Option.bind_some]
    by_cases e : l.length = ver
    · subst e; simp [cpyO]
    · simp [e, cpyO]
theorem cpyO_w8 {h : List AObj} {id off n m : Nat} {str : Bool} {b L : List (BitVec 8)} (hm : b.length = m) (hn : off + n ≤ L.length) : cpyO h id 1 off n str m (b.map w8) (some (L.map w8)) = some (.int .i64 (min m n : Nat), h.set id (.cells ((spl L off (b.take (min m n))).map w8))) := by
  subst hm
  have e : splice (L.map w8) off ((b.map w8).take (min b.length n)) = (spl L off (b.take (min b.length n))).map w8 := by simp [splice, spl]
  simp only [cpyO, Nat.mul_one, e]
  rw [if_pos ⟨by rw [take_w8]; exact all_w8, by simp; omega, by simpa using hn, by simp⟩]
theorem cpyO_w32 {h : List AObj} {id off n m : Nat} {str : Bool} {b L : List (BitVec 32)} (hm : b.length = m) (hn : off + n ≤ L.length) : cpyO h id 1 off n str m (b.map w32) (some (L.map w32)) = some (.int .i64 (min m n : Nat), h.set id (.cells ((spl L off (b.take (min m n))).map w32))) := by
  subst hm
  have e : splice (L.map w32) off ((b.map w32).take (min b.length n)) = (spl L off (b.take (min b.length n))).map w32 := by simp [splice, spl]
  simp only [cpyO, Nat.mul_one, e]
  rw [if_pos ⟨by rw [take_w32]; exact all_w32, by simp; omega, by simpa using hn, by simp⟩]
theorem cpyO_w64 {h : List AObj} {id off n m : Nat} {str : Bool} {b L : List (BitVec 64)} (hm : b.length = m) (hn : off + n ≤ L.length) : cpyO h id 1 off n str m (b.map w64) (some (L.map w64)) = some (.int .i64 (min m n : Nat), h.set id (.cells ((spl L off (b.take (min m n))).map w64))) := by
  subst hm
  have e : splice (L.map w64) off ((b.map w64).take (min b.length n)) = (spl L off (b.take (min b.length n))).map w64 := by simp [splice, spl]
  simp only [cpyO, Nat.mul_one, e]
  rw [if_pos ⟨by rw [take_w64]; exact all_w64, by simp; omega, by simpa using hn, by simp⟩]

theorem getD_set {α : Type} {l : List α} {i j : Nat} {x d : α} (h : j < l.length) : (l.set i x).getD j d = if i = j then x else l.getD j d := by
  simp only [List.getD_eq_getElem?_getD, List.getElem?_set]
  split <;> rename_i e
  · subst e; simp [h]
  · rfl
/-- a loop that fills a list, each place by itself -/
theorem iter_set {α : Type} (f : Nat → α) : ∀ (n : Nat) (l : List α), n ≤ l.length → iter (fun i (l : List α) => l.set i (f i)) n l = (List.range n).map f ++ l.drop n
  | 0, l, _ => by simp [iter]
  | n + 1, l, h => by
    rw [iter_succ, iter_set f n l (by omega), List.range_succ]
    rw [List.set_append_right _ _ (by simp)]
    rw [show l.drop n = l[n] :: l.drop (n + 1) from List.drop_eq_getElem_cons (by omega)]
    simp only [List.length_map, List.length_range, Nat.sub_self, List.set_cons_zero, List.map_append, List.map_cons, List.map_nil, List.append_assoc, List.cons_append, List.nil_append]
theorem iter_add {α : Type} (f : Nat → α → α) (n : Nat) : ∀ (m : Nat) (a : α), iter f (n + m) a = iter (fun i => f (n + i)) m (iter f n a)
  | 0, a => rfl
  | m + 1, a => by rw [← Nat.add_assoc, iter_succ, iter_succ, iter_add f n m a]
theorem iter_congr {α : Type} {f g : Nat → α → α} : ∀ (n : Nat) (a : α), (∀ i a, i < n → f i a = g i a) → iter f n a = iter g n a
  | 0, a, _ => rfl
  | n + 1, a, h => by rw [iter_succ, iter_succ, iter_congr n a (fun i a hi => h i a (by omega)), h n _ (by omega)]
theorem iter_inv {α : Type} {f : Nat → α → α} {R : α → Prop} (hf : ∀ i a, R a → R (f i a)) : ∀ (n : Nat) (a : α), R a → R (iter f n a)
  | 0, _, h => h
  | n + 1, a, h => hf _ _ (iter_inv hf n a h)
theorem length_iter_set {α : Type} {f : Nat → List α → α} {g : Nat → Nat} (n : Nat) (l : List α) : (iter (fun i (l : List α) => l.set (g i) (f i l)) n l).length = l.length :=
  iter_inv (R := fun l' : List α => l'.length = l.length) (fun i a h => by simpa using h) n l rfl

theorem con_eq' {α : Type} {A : α → Prop} {f : α → List DV} {g : α → DV} (hinj : ∀ a b, A a → A b → f a = f b → g a = g b) (a : α) (ha : A a) : con A f g (f a) = some (g a) := by
  have h : ∃ b, A b ∧ f b = f a := ⟨a, ha, rfl⟩
  unfold con
  rw [dif_pos h]
  exact congrArg some (hinj _ _ h.choose_spec.1 ha h.choose_spec.2)
theorem conH_eq' {α : Type} {A : α → Prop} {f : α → List DV × List AObj} {g : α → DV × List AObj} (hinj : ∀ a b, A a → A b → f a = f b → g a = g b) (a : α) (ha : A a) : conH A f g (f a).1 (f a).2 = some (g a) := by
  have h : ∃ b, A b ∧ f b = ((f a).1, (f a).2) := ⟨a, ha, rfl⟩
  unfold conH
  rw [dif_pos h]
  exact congrArg some (hinj _ _ h.choose_spec.1 ha h.choose_spec.2)
theorem partsD_nil {t : List DV} : partsD t [] = [] := rfl
theorem partsD_cons {t : List DV} {a n : Nat} {x : Opd} {r : List (Nat × Nat × Opd)} : partsD t ((a, n, x) :: r) = (a, n, ev t x) :: partsD t r := rfl
theorem buildD_of {zs : List DV} {ps : List (Nat × Nat × DV)} (hk : ps.all (fun p => p.2.2.known) = true) (hl : (seqD 0 ps).map List.length = some zs.length) : buildD zs ps = (seqD 0 ps).map .agg := by
  cases h : seqD 0 ps with
  | none => simp [h] at hl
  | some vs =>
    rw [h] at hl
    simp at hl
    rw [buildD_seq h hl hk, Option.map_some]
theorem bslD_of {s len : Nat} {zs : List DV} {ps : List (Nat × Nat × DV)} (hk : ps.all (fun p => p.2.2.known) = true) (hl : (seqD 0 ps).map List.length = some (len * zs.length)) : bslD s len zs ps = (seqD 0 ps).map (.sl true s len) := by
  cases h : seqD 0 ps with
  | none => simp [h] at hl
  | some vs =>
    rw [h] at hl
    have hz : (reps len zs).length = len * zs.length := by simp [reps]
    have := fillD_seq ps [] (reps len zs) vs h (by simpa [hz] using hl)
    simp only [List.nil_append] at this
    unfold bslD
    rw [if_pos hk, this, Option.map_some]
/-- code without its first parts -/
def tailC : Nat → ACode → ACode
  | 0, c => c
  | n + 1, .seq _ b => tailC n b
  | _, c => c
theorem tdivN (i n : Nat) : Int.tdiv (i : Int) (n : Int) = ((i / n : Nat) : Int) := rfl
theorem tmodN (i n : Nat) : Int.tmod (i : Int) (n : Int) = ((i % n : Nat) : Int) := rfl
/-- a slice that may be nil -/
def slD (k : Option Bool) (s n : Nat) (cs : List DV) : DV := match k with | none => .nils | some f => .sl f s n cs
theorem slD_some {f : Bool} {s n : Nat} {cs : List DV} : slD (some f) s n cs = .sl f s n cs := rfl
theorem slD_none {s n : Nat} {cs : List DV} : slD none s n cs = .nils := rfl
section
variable {h : List AObj} {k : Option Bool} {s n : Nat} {cs : List DV}
theorem lenD_slD (hk : k = none → n = 0) : lenD h (slD k s n cs) = some (.int .i64 n) := by
  cases k with
  | none => simp [slD, lenD, hk rfl]
  | some f => rfl
theorem visS_slD (hk : k = none → n = 0) (hc : cs.length = n * s) : visS h (slD k s n cs) = some (n, cs) := by
  cases k with
  | none =>
    have := hk rfl; subst this
    have : cs = [] := List.eq_nil_of_length_eq_zero (by simpa using hc)
    subst this; rfl
  | some f => rfl
theorem visY_slD : visY h (slD k s n cs) = visS h (slD k s n cs) := by cases k <;> rfl
theorem isStr_slD : (slD k s n cs).isStr = false := by cases k <;> rfl
theorem known_slD : (slD k s n cs).known = true := by cases k <;> rfl
theorem one_slD : (slD k s n cs).one = true := by cases k <;> rfl
theorem cells_slD : (slD k s n cs).cells = [slD k s n cs] := by cases k <;> rfl
theorem pure_slD (hc : pureL cs = true) : pureD (slD k s n cs) = true := by cases k <;> simp [slD, pureD, hc]
theorem below_slD {m : Nat} (hc : belowL m cs = true) : below m (slD k s n cs) = true := by cases k <;> simp [slD, below, hc]
theorem snap_slD {m : Nat} (hc : pureL cs = true) : snap h m (slD k s n cs) = some (slD k s n cs) := snap_clean (pure_slD hc)
end
theorem belowL_w8 {n : Nat} {l : List (BitVec 8)} : belowL n (l.map w8) = true := by
  induction l with
  | nil => rfl
  | cons a r ih => simp [belowL, ih, below, w8]
theorem belowL_w32 {n : Nat} {l : List (BitVec 32)} : belowL n (l.map w32) = true := by
  induction l with
  | nil => rfl
  | cons a r ih => simp [belowL, ih, below, w32]
/-- append, its second argument's cells known -/
def appX (h : List AObj) (s bytes : Nat) (x : DV) (m : Nat) (cs : List DV) : Option (DV × List AObj) :=
  if m * s ≠ cs.length ∨ bytes > 16384 ∨ s = 0 then none else
  match x with
  | .nils => if m = 0 then some (x, h) else if m ≤ big then some (.ms h.length cs.length 0 s m cs.length, h ++ [.cells cs]) else none
  | .sl full s' n ds => if m = 0 then some (x, h) else if full = true ∧ s' = s ∧ n + m ≤ big then
      some (.ms h.length (ds ++ cs).length 0 s (n + m) (ds ++ cs).length, h ++ [.cells (ds ++ cs)]) else none
  | .ms id ver off s' n lim => (objAt h id).bind fun l =>
      if l.length = ver ∧ s' = s ∧ cs.all DV.one = true then
        (if m = 0 then some (x, h)
         else if off + (n + m) * s ≤ lim ∧ lim ≤ ver then some (.ms id ver off s (n + m) lim, h.set id (.cells (splice l (off + n * s) cs)))
         else if off = 0 ∧ n * s = ver ∧ n + m ≤ big then some (.ms id (l ++ cs).length 0 s (n + m) (l ++ cs).length, h.set id (.cells (l ++ cs)))
         else none)
      else none
  | _ => none
theorem E_app' {T : Tbl} {dr : Bool} {t : List DV} {h : List AObj} {s b : Nat} {x y : Opd} : evAll T dr (.app s b x y) t h = (visY h (ev t y)).bind fun p => appX h s b (ev t x) p.1 p.2 := by
  rw [E_app]
  unfold evApp
  cases visY h (ev t y) <;> rfl
theorem set_self {α : Type} {l : List α} {i : Nat} {x : α} (h : l[i]? = some x) : l.set i x = l := by
  apply List.ext_getElem?
  intro j
  rw [List.getElem?_set]
  split
  · rename_i e; subst e
    rw [h, if_pos (List.getElem?_eq_some_iff.1 h).1]
  · rfl
theorem appX_own {h : List AObj} {id ver s n b m : Nat} {cs : List DV} (hs : n * s = ver) (hb : b ≤ 16384) (h0 : 0 < s) (hm : m * s = cs.length) (hbig : n + m ≤ 4294967296) (hone : cs.all DV.one = true) :
    appX h s b (.ms id ver 0 s n ver) m cs = (objV h id ver).map fun l => (.ms id (ver + cs.length) 0 s (n + m) (ver + cs.length), h.set id (.cells (l ++ cs))) := by
  simp only [appX, objV]
  rw [if_neg (by omega)]
  cases ho : objAt h id with
  | none => rfl
  | some l =>
    simp only [Option.bind_some]
    by_cases e : l.length = ver
    · rw [if_pos ⟨e, trivial, hone⟩, if_pos e, Option.map_some]
      by_cases hm0 : m = 0
      · subst hm0
        have hc : cs = [] := List.eq_nil_of_length_eq_zero (by omega)
        subst hc
        rw [if_pos rfl]
        have hi : h[id]? = some (.cells l) := by
          unfold objAt at ho
          split at ho
          · rename_i e'; simp at ho; subst ho; exact e'
          · simp at ho
        simp [set_self hi]
      · rw [if_neg hm0]
        have h2 : ¬ (0 + (n + m) * s ≤ ver ∧ ver ≤ ver) := by
          rintro ⟨h2, _⟩
          have : 0 < m * s := Nat.mul_pos (by omega) h0
          rw [Nat.add_mul] at h2
          omega
        rw [if_neg h2, if_pos ⟨trivial, hs, hbig⟩]
        simp [e]
    · rw [if_neg (by simp [e]), if_neg e]; rfl
theorem appX_nils0 {h : List AObj} {s b : Nat} (hb : b ≤ 16384) (h0 : 0 < s) : appX h s b .nils 0 [] = some (.nils, h) := by
  simp only [appX]
  rw [if_neg (by simp; omega)]; rfl
theorem appX_nils {h : List AObj} {s b m : Nat} {cs : List DV} (hb : b ≤ 16384) (h0 : 0 < s) (hm : m * s = cs.length) (hm0 : 0 < m) (hbig : m ≤ 4294967296) : appX h s b .nils m cs = some (.ms h.length cs.length 0 s m cs.length, h ++ [.cells cs]) := by
  simp only [appX]
  rw [if_neg (by omega), if_neg (by omega), if_pos hbig]
theorem appX_full0 {h : List AObj} {f : Bool} {s b n : Nat} {ds : List DV} (hb : b ≤ 16384) (h0 : 0 < s) : appX h s b (.sl f s n ds) 0 [] = some (.sl f s n ds, h) := by
  simp only [appX]
  rw [if_neg (by simp; omega)]; rfl
theorem appX_full {h : List AObj} {s b n m : Nat} {ds cs : List DV} (hb : b ≤ 16384) (h0 : 0 < s) (hm : m * s = cs.length) (hm0 : 0 < m) (hbig : n + m ≤ 4294967296) : appX h s b (.sl true s n ds) m cs = some (.ms h.length (ds.length + cs.length) 0 s (n + m) (ds.length + cs.length), h ++ [.cells (ds ++ cs)]) := by
  simp only [appX]
  rw [if_neg (by omega), if_neg (by omega), if_pos ⟨trivial, trivial, hbig⟩, List.length_append]
/-- a slice of its own, grown by append: z until something lies in it; s: cells of an element -/
def ownD (id s : Nat) (z : DV) (n : Nat) (cs : List DV) : DV := if cs = [] then z else .ms id cs.length 0 s n cs.length
def ownH (cs : List DV) : List AObj := if cs = [] then [] else [.cells cs]
theorem ownD_nil {id s n : Nat} {z : DV} : ownD id s z n [] = z := rfl
theorem ownH_nil : ownH [] = [] := rfl
theorem ownD_ne {id s n : Nat} {z : DV} {cs : List DV} (h : cs ≠ []) : ownD id s z n cs = .ms id cs.length 0 s n cs.length := by simp [ownD, h]
theorem ownH_ne {cs : List DV} (h : cs ≠ []) : ownH cs = [.cells cs] := by simp [ownH, h]
theorem appX_ownD (pre : List AObj) {s b n m : Nat} {z : DV} {cs cs' : List DV} (hz : z = .nils ∨ z = .sl true s 0 []) (hs : n * s = cs.length) (hm : m * s = cs'.length) (hb : b ≤ 16384) (h0 : 0 < s) (hbig : n + m ≤ 4294967296) (hone : cs'.all DV.one = true) :
    appX (pre ++ ownH cs) s b (ownD pre.length s z n cs) m cs' = some (ownD pre.length s z (n + m) (cs ++ cs'), pre ++ ownH (cs ++ cs')) := by
  by_cases hc : cs = []
  · subst hc
    have hn : n = 0 := by
      rcases Nat.eq_zero_or_pos n with g | g
      · exact g
      · have := Nat.mul_pos g h0; simp at hs; omega
    subst hn
    rw [ownD_nil, ownH_nil, List.append_nil, List.nil_append, Nat.zero_add]
    by_cases hc' : cs' = []
    · subst hc'
      have hm' : m = 0 := by
        rcases Nat.eq_zero_or_pos m with g | g
        · exact g
        · have := Nat.mul_pos g h0; simp at hm; omega
      subst hm'
      rw [ownD_nil, ownH_nil, List.append_nil]
      rcases hz with rfl | rfl
      · exact appX_nils0 hb h0
      · exact appX_full0 hb h0
    · have hm0 : 0 < m := by
        rcases Nat.eq_zero_or_pos m with g | g
        · subst g; exact absurd (List.eq_nil_of_length_eq_zero (by omega)) hc'
        · exact g
      rw [ownD_ne hc', ownH_ne hc']
      rcases hz with rfl | rfl
      · exact appX_nils hb h0 hm hm0 (by omega)
      · rw [appX_full hb h0 hm hm0 (by omega)]; simp
  · rw [ownD_ne hc, ownH_ne hc, ownD_ne (by simp [hc]), ownH_ne (by simp [hc]), appX_own hs hb h0 hm hbig hone]
    have : objV (pre ++ [.cells cs]) pre.length cs.length = some cs := by rw [objV_last, if_pos rfl]
    rw [this]
    simp
section
variable {s b n m : Nat} {z : DV} {cs cs' : List DV} {o0 o1 o2 o3 o4 : AObj}
theorem appX_own0 (hz : z = .nils ∨ z = .sl true s 0 []) (hs : n * s = cs.length) (hm : m * s = cs'.length) (hb : b ≤ 16384) (h0 : 0 < s) (hbig : n + m ≤ 4294967296) (hone : cs'.all DV.one = true) :
    appX (ownH cs) s b (ownD 0 s z n cs) m cs' = some (ownD 0 s z (n + m) (cs ++ cs'), ownH (cs ++ cs')) := appX_ownD [] hz hs hm hb h0 hbig hone
theorem appX_own1 (hz : z = .nils ∨ z = .sl true s 0 []) (hs : n * s = cs.length) (hm : m * s = cs'.length) (hb : b ≤ 16384) (h0 : 0 < s) (hbig : n + m ≤ 4294967296) (hone : cs'.all DV.one = true) :
    appX (o0 :: ownH cs) s b (ownD 1 s z n cs) m cs' = some (ownD 1 s z (n + m) (cs ++ cs'), o0 :: ownH (cs ++ cs')) := appX_ownD [o0] hz hs hm hb h0 hbig hone
theorem appX_own2 (hz : z = .nils ∨ z = .sl true s 0 []) (hs : n * s = cs.length) (hm : m * s = cs'.length) (hb : b ≤ 16384) (h0 : 0 < s) (hbig : n + m ≤ 4294967296) (hone : cs'.all DV.one = true) :
    appX (o0 :: o1 :: ownH cs) s b (ownD 2 s z n cs) m cs' = some (ownD 2 s z (n + m) (cs ++ cs'), o0 :: o1 :: ownH (cs ++ cs')) := appX_ownD [o0, o1] hz hs hm hb h0 hbig hone
theorem appX_own3 (hz : z = .nils ∨ z = .sl true s 0 []) (hs : n * s = cs.length) (hm : m * s = cs'.length) (hb : b ≤ 16384) (h0 : 0 < s) (hbig : n + m ≤ 4294967296) (hone : cs'.all DV.one = true) :
    appX (o0 :: o1 :: o2 :: ownH cs) s b (ownD 3 s z n cs) m cs' = some (ownD 3 s z (n + m) (cs ++ cs'), o0 :: o1 :: o2 :: ownH (cs ++ cs')) := appX_ownD [o0, o1, o2] hz hs hm hb h0 hbig hone
theorem appX_own4 (hz : z = .nils ∨ z = .sl true s 0 []) (hs : n * s = cs.length) (hm : m * s = cs'.length) (hb : b ≤ 16384) (h0 : 0 < s) (hbig : n + m ≤ 4294967296) (hone : cs'.all DV.one = true) :
    appX (o0 :: o1 :: o2 :: o3 :: ownH cs) s b (ownD 4 s z n cs) m cs' = some (ownD 4 s z (n + m) (cs ++ cs'), o0 :: o1 :: o2 :: o3 :: ownH (cs ++ cs')) := appX_ownD [o0, o1, o2, o3] hz hs hm hb h0 hbig hone
end
attribute [simp] appX_own0 appX_own1 appX_own2 appX_own3 appX_own4 one_take one_map one_map0
theorem toNat_ofInt64 {z : Int} (h0 : 0 ≤ z) (h1 : z < 18446744073709551616) : (BitVec.ofInt 64 z).toNat = z.toNat := by
  rw [BitVec.toNat_ofInt]; omega
theorem visY_ms {h : List AObj} {id ver off s n lim : Nat} : visY h (.ms id ver off s n lim) = (objV h id ver).map fun l => (n, (l.drop off).take (n * s)) := visS_ms (lim := lim)
theorem visY_sl {h : List AObj} {f : Bool} {s n : Nat} {cs : List DV} : visY h (.sl f s n cs) = some (n, cs) := rfl
theorem visY_nils {h : List AObj} : visY h .nils = some (0, []) := rfl
theorem visY_str {h : List AObj} {s : List UInt8} : visY h (.str s) = some (s.length, u8s s) := rfl
theorem append1_w8 {l : List (BitVec 8)} {x : BitVec 8} : l.map w8 ++ [w8 x] = (l ++ [x]).map w8 := by simp
theorem append1_w32 {l : List (BitVec 32)} {x : BitVec 32} : l.map w32 ++ [w32 x] = (l ++ [x]).map w32 := by simp
theorem append1_w64 {l : List (BitVec 64)} {x : BitVec 64} : l.map w64 ++ [w64 x] = (l ++ [x]).map w64 := by simp
theorem emod64 {z : Int} (h0 : 0 ≤ z) (h1 : z < 18446744073709551616) : z % 18446744073709551616 = z := Int.emod_eq_of_lt h0 h1
section
variable {h : List AObj}
theorem boxD_agg {cs : List DV} : boxD h (.agg cs) = some (.mp h.length cs.length 0, h ++ [.cells cs]) := rfl
theorem boxD_int {k : IntKind} {n : Int} : boxD h (.int k n) = some (.mp h.length 1 0, h ++ [.cells [.int k n]]) := rfl
theorem boxD_w8 {x : BitVec 8} : boxD h (w8 x) = some (.mp h.length 1 0, h ++ [.cells [w8 x]]) := rfl
theorem boxD_w32 {x : BitVec 32} : boxD h (w32 x) = some (.mp h.length 1 0, h ++ [.cells [w32 x]]) := rfl
theorem boxD_w64 {x : BitVec 64} : boxD h (w64 x) = some (.mp h.length 1 0, h ++ [.cells [w64 x]]) := rfl
theorem boxD_bool {b : Bool} : boxD h (.bool b) = some (.mp h.length 1 0, h ++ [.cells [.bool b]]) := rfl
theorem boxD_str {s : List UInt8} : boxD h (.str s) = some (.mp h.length 1 0, h ++ [.cells [.str s]]) := rfl
theorem boxD_nils : boxD h .nils = some (.mp h.length 1 0, h ++ [.cells [.nils]]) := rfl
theorem boxD_sl {f : Bool} {s n : Nat} {cs : List DV} : boxD h (.sl f s n cs) = some (.mp h.length 1 0, h ++ [.cells [.sl f s n cs]]) := rfl
theorem boxD_ms {id ver off s n lim : Nat} : boxD h (.ms id ver off s n lim) = some (.mp h.length 1 0, h ++ [.cells [.ms id ver off s n lim]]) := rfl
theorem boxD_mp {id ver off : Nat} : boxD h (.mp id ver off) = some (.mp h.length 1 0, h ++ [.cells [.mp id ver off]]) := rfl
theorem boxD_slD {k : Option Bool} {s n : Nat} {cs : List DV} : boxD h (slD k s n cs) = some (.mp h.length 1 0, h ++ [.cells [slD k s n cs]]) := by cases k <;> rfl
end
theorem scal_agg {cs : List DV} : scal (.agg cs) = scalL cs := rfl
theorem scal_tup {cs : List DV} : scal (.tup cs) = scalL cs := rfl
theorem scal_int {k : IntKind} {n : Int} : scal (.int k n) = true := rfl
theorem scal_bool {b : Bool} : scal (.bool b) = true := rfl
theorem scal_str {s : List UInt8} : scal (.str s) = true := rfl
theorem scalL_nil : scalL [] = true := rfl
theorem scalL_cons {d : DV} {r : List DV} : scalL (d :: r) = (scal d && scalL r) := rfl
theorem scalL_w8 {l : List (BitVec 8)} : scalL (l.map w8) = true := by
  induction l with
  | nil => rfl
  | cons a r ih => simp [scalL, ih]
theorem scalL_w32 {l : List (BitVec 32)} : scalL (l.map w32) = true := by
  induction l with
  | nil => rfl
  | cons a r ih => simp [scalL, ih]
theorem scalL_w64 {l : List (BitVec 64)} : scalL (l.map w64) = true := by
  induction l with
  | nil => rfl
  | cons a r ih => simp [scalL, ih]
/-! lists of ints -/
section
variable {l r : List Int} {k i : Nat} {x : Int}
theorem take_i64 : (l.map (DV.int .i64)).take k = (l.take k).map (DV.int .i64) := List.map_take.symm
theorem drop_i64 : (l.map (DV.int .i64)).drop k = (l.drop k).map (DV.int .i64) := List.map_drop.symm
theorem set_i64 : (l.map (DV.int .i64)).set k (.int .i64 x) = (l.set k x).map (DV.int .i64) := List.map_set.symm
theorem append_i64 : l.map (DV.int .i64) ++ r.map (DV.int .i64) = (l ++ r).map (DV.int .i64) := List.map_append.symm
theorem append1_i64 : l.map (DV.int .i64) ++ [.int .i64 x] = (l ++ [x]).map (DV.int .i64) := by simp
theorem all_i64 : (l.map (DV.int .i64)).all DV.one = true := by simp [DV.one]
theorem one_i64_d (h : 0 < l.length) : one 1 false (l.map (DV.int .i64)) = some (.int .i64 (l.getD 0 0)) := by
  cases l with
  | nil => simp at h
  | cons a r => simp [one]
theorem one_i64_dt (h : i < l.length) (hk : 0 < k) : one 1 false (((l.drop i).take k).map (DV.int .i64)) = some (.int .i64 (l.getD i 0)) := by
  rw [one_i64_d (by simp; omega)]
  simp [List.getElem?_take, hk]
theorem one_i64_dd (h : i < l.length) : one 1 false ((l.drop i).map (DV.int .i64)) = some (.int .i64 (l.getD i 0)) := by
  rw [one_i64_d (by simp; omega)]
  simp
theorem pureL_i64 : pureL (l.map (DV.int .i64)) = true := pureL_map fun _ => rfl
theorem snapL_i64 {h : List AObj} : snapL h k (l.map (DV.int .i64)) = some (l.map (DV.int .i64)) := snapL_clean pureL_i64
theorem scalL_i64 : scalL (l.map (DV.int .i64)) = true := by
  induction l with
  | nil => rfl
  | cons a r ih => simp [scalL, ih, scal]
theorem belowL_i64 : belowL k (l.map (DV.int .i64)) = true := by
  induction l with
  | nil => rfl
  | cons a r ih => simp [belowL, ih, below]
theorem map_inj_i64 : (l.map (DV.int .i64) = r.map (DV.int .i64)) = (l = r) := propext ⟨fun e => (List.map_inj_right (fun a b h => by simpa using h)).1 e, fun e => by rw [e]⟩
theorem len_i64 : (l.map (DV.int .i64)).length = l.length := List.length_map _
end
theorem bshr_i_w64 {a : Int} {y : BitVec 64} (h : y.toNat ≤ 62) : binOpD .shr (.int .i64 a) (w64 y) = some (.int .i64 (a / 2 ^ y.toNat)) := by
  simp only [binOpD, w64, shiftOp, IntKind.bits]
  rw [if_neg (by omega), Nat.min_eq_left (by omega), Int.fdiv_eq_ediv_of_nonneg _ (by exact Int.le_of_lt (Int.pow_pos (by decide)))]
  simp
theorem band3_i {a : Int} (h0 : 0 ≤ a) (h1 : a < 9223372036854775808) : binOpD .and (.int .i64 a) (.int .i64 3) = some (.int .i64 (a % 4)) := by
  obtain ⟨m, rfl⟩ := Int.eq_ofNat_of_zero_le h0
  have e : bits .and .i64 (m : Int) 3 = ((m : Int) % 4) := by
    show IntKind.i64.wrap ((BitVec.ofInt 64 (m : Int) &&& BitVec.ofInt 64 3).toNat : Int) = _
    have e1 : (BitVec.ofInt 64 (m : Int) &&& BitVec.ofInt 64 3).toNat = m % 4 := by
      rw [BitVec.toNat_and, BitVec.ofInt_natCast, BitVec.toNat_ofNat, show (BitVec.ofInt 64 3).toNat = 2 ^ 2 - 1 from rfl, Nat.and_two_pow_sub_one_eq_mod]
      omega
    rw [e1]
    exact wrap_i64 (by omega) (by omega)
  simp only [binOpD, intOp, if_true]
  exact congrArg (fun z => some (DV.int .i64 z)) e
attribute [simp] take_i64 drop_i64 set_i64 append_i64 append1_i64 all_i64 one_i64_d one_i64_dt one_i64_dd pureL_i64 snapL_i64 scalL_i64 belowL_i64 map_inj_i64 bshr_i_w64 band3_i
theorem mksD_of {h : List AObj} {s b : Nat} {zs : List DV} {l c : Int} (h0 : 0 ≤ l) (h1 : l ≤ c) (h2 : c ≤ 4294967296) (h3 : b ≤ 16384) : mksD h s b zs l c = some (.ms h.length (l.toNat * s) 0 s l.toNat (l.toNat * s), h ++ [.cells (reps l.toNat zs)]) := by
  unfold mksD
  rw [if_pos ⟨h0, h1, by simpa [big] using h2, h3⟩]
theorem storeO_1 {h : List AObj} {id off : Nat} {y : DV} {l : List DV} (hc : y.cells = [y]) (ho : y.one = true) (hi : off < l.length) : storeO h id 1 off y (some l) = some (.junk, h.set id (.cells (l.set off y))) := by
  simp only [storeO, hc, List.length_singleton, List.all_cons, List.all_nil, ho, Bool.and_self]
  rw [if_pos ⟨trivial, by omega, trivial⟩]
  have e : splice l off [y] = l.set off y := by
    unfold splice
    rw [List.set_eq_take_append_cons_drop, if_pos hi]; simp
  rw [e]
theorem reps_zero {zs : List DV} : reps 0 zs = [] := rfl
theorem reps_one {n : Nat} {d : DV} : reps n [d] = rep n d := by
  unfold reps rep
  induction n with
  | zero => rfl
  | succ n ih => rw [List.replicate_succ, List.replicate_succ, List.flatten_cons, ih]; rfl
theorem storeO_1_int {h : List AObj} {id off : Nat} {l : List DV} {k : IntKind} {n : Int} (hi : off < l.length) : storeO h id 1 off (.int k n) (some l) = some (.junk, h.set id (.cells (l.set off (.int k n)))) := storeO_1 rfl rfl hi
theorem storeO_1_bool {h : List AObj} {id off : Nat} {l : List DV} {b : Bool} (hi : off < l.length) : storeO h id 1 off (.bool b) (some l) = some (.junk, h.set id (.cells (l.set off (.bool b)))) := storeO_1 rfl rfl hi
theorem storeO_1_str {h : List AObj} {id off : Nat} {l : List DV} {s : List UInt8} (hi : off < l.length) : storeO h id 1 off (.str s) (some l) = some (.junk, h.set id (.cells (l.set off (.str s)))) := storeO_1 rfl rfl hi
theorem storeO_1_nils {h : List AObj} {id off : Nat} {l : List DV}  (hi : off < l.length) : storeO h id 1 off (.nils) (some l) = some (.junk, h.set id (.cells (l.set off (.nils)))) := storeO_1 rfl rfl hi
theorem storeO_1_nilp {h : List AObj} {id off : Nat} {l : List DV}  (hi : off < l.length) : storeO h id 1 off (.nilp) (some l) = some (.junk, h.set id (.cells (l.set off (.nilp)))) := storeO_1 rfl rfl hi
theorem storeO_1_nili {h : List AObj} {id off : Nat} {l : List DV}  (hi : off < l.length) : storeO h id 1 off (.nili) (some l) = some (.junk, h.set id (.cells (l.set off (.nili)))) := storeO_1 rfl rfl hi
theorem storeO_1_nilf {h : List AObj} {id off : Nat} {l : List DV}  (hi : off < l.length) : storeO h id 1 off (.nilf) (some l) = some (.junk, h.set id (.cells (l.set off (.nilf)))) := storeO_1 rfl rfl hi
theorem storeO_1_sl {h : List AObj} {id off : Nat} {l : List DV} {f : Bool} {s n : Nat} {cs : List DV} (hi : off < l.length) : storeO h id 1 off (.sl f s n cs) (some l) = some (.junk, h.set id (.cells (l.set off (.sl f s n cs)))) := storeO_1 rfl rfl hi
theorem storeO_1_ms {h : List AObj} {id off : Nat} {l : List DV} {id0 ver off0 s n lim : Nat} (hi : off < l.length) : storeO h id 1 off (.ms id0 ver off0 s n lim) (some l) = some (.junk, h.set id (.cells (l.set off (.ms id0 ver off0 s n lim)))) := storeO_1 rfl rfl hi
theorem storeO_1_mp {h : List AObj} {id off : Nat} {l : List DV} {id0 ver off0 : Nat} (hi : off < l.length) : storeO h id 1 off (.mp id0 ver off0) (some l) = some (.junk, h.set id (.cells (l.set off (.mp id0 ver off0)))) := storeO_1 rfl rfl hi
theorem storeO_1_ref {h : List AObj} {id off : Nat} {l : List DV} {cs : List DV} (hi : off < l.length) : storeO h id 1 off (.ref cs) (some l) = some (.junk, h.set id (.cells (l.set off (.ref cs)))) := storeO_1 rfl rfl hi
theorem storeO_1_fn {h : List AObj} {id off : Nat} {l : List DV} {f : Fn} {a b : List DV} (hi : off < l.length) : storeO h id 1 off (.fn f a b) (some l) = some (.junk, h.set id (.cells (l.set off (.fn f a b)))) := storeO_1 rfl rfl hi
theorem storeO_1_iface {h : List AObj} {id off : Nat} {l : List DV} {t : Nat} {v : DV} (hi : off < l.length) : storeO h id 1 off (.iface t v) (some l) = some (.junk, h.set id (.cells (l.set off (.iface t v)))) := storeO_1 rfl rfl hi
theorem storeO_1_slD {h : List AObj} {id off s n : Nat} {k : Option Bool} {cs l : List DV} (hi : off < l.length) : storeO h id 1 off (slD k s n cs) (some l) = some (.junk, h.set id (.cells (l.set off (slD k s n cs)))) := storeO_1 cells_slD one_slD hi
attribute [simp low] storeO_1_int storeO_1_bool storeO_1_str storeO_1_nils storeO_1_nilp storeO_1_nili storeO_1_nilf storeO_1_sl storeO_1_ms storeO_1_mp storeO_1_ref storeO_1_fn storeO_1_iface storeO_1_slD
attribute [simp] mksD_of reps_zero reps_one
theorem kindsOf_one {n k : Nat} : kindsOf [(n, k)] = List.replicate n k := by simp [kindsOf]
theorem cellsEq_rep {α : Type} [DecidableEq α] {f : α → DV} {k : Nat} (hf : ∀ a b, cellEq k (f a) (f b) = some (decide (a = b))) : ∀ {n : Nat} {l r : List α}, l.length = n → r.length = n → cellsEq (List.replicate n k) (l.map f) (r.map f) = some (decide (l = r))
  | 0, [], [], _, _ => rfl
  | n + 1, a :: l, b :: r, h1, h2 => by
    simp only [List.replicate_succ, List.map_cons, cellsEq, hf, Option.bind_some]
    rw [cellsEq_rep hf (by simpa using h1) (by simpa using h2)]
    simp [Bool.decide_and]
theorem cellEq_w8 (a b : BitVec 8) : cellEq 0 (w8 a) (w8 b) = some (decide (a = b)) := by
  simp only [cellEq, w8, if_true]
  congr 1
  rw [Bool.eq_iff_iff]; simp [nat_inj_w8]
theorem cellsEq_w8 {k : Nat} {l r : List (BitVec 8)} (h1 : l.length = k) (h2 : r.length = k) : cellsEq (kindsOf [(k, 0)]) (l.map w8) (r.map w8) = some (decide (l = r)) := by rw [kindsOf_one]; exact cellsEq_rep cellEq_w8 h1 h2
theorem cellEq_w32 (a b : BitVec 32) : cellEq 0 (w32 a) (w32 b) = some (decide (a = b)) := by
  simp only [cellEq, w32, if_true]
  congr 1
  rw [Bool.eq_iff_iff]; simp [nat_inj_w32]
theorem cellsEq_w32 {k : Nat} {l r : List (BitVec 32)} (h1 : l.length = k) (h2 : r.length = k) : cellsEq (kindsOf [(k, 0)]) (l.map w32) (r.map w32) = some (decide (l = r)) := by rw [kindsOf_one]; exact cellsEq_rep cellEq_w32 h1 h2
theorem cellEq_w64 (a b : BitVec 64) : cellEq 0 (w64 a) (w64 b) = some (decide (a = b)) := by
  simp only [cellEq, w64, if_true]
  congr 1
  rw [Bool.eq_iff_iff]; simp [nat_inj_w64]
theorem cellsEq_w64 {k : Nat} {l r : List (BitVec 64)} (h1 : l.length = k) (h2 : r.length = k) : cellsEq (kindsOf [(k, 0)]) (l.map w64) (r.map w64) = some (decide (l = r)) := by rw [kindsOf_one]; exact cellsEq_rep cellEq_w64 h1 h2
theorem getfD_agg {off n : Nat} {agg : Bool} {cs : List DV} (h : off + n ≤ cs.length) : getfD off n agg (.agg cs) = one n agg (cs.drop off) := by simp [getfD, h]
attribute [simp] cellsEq_w8 cellsEq_w32 cellsEq_w64 getfD_agg
theorem cells_int {k : IntKind} {n : Int} : DV.cells (.int k n) = [.int k n] := rfl
theorem known_int {k : IntKind} {n : Int} : DV.known (.int k n) = true := rfl
theorem one_int {k : IntKind} {n : Int} : DV.one (.int k n) = true := rfl
theorem cells_bool {b : Bool} : DV.cells (.bool b) = [.bool b] := rfl
theorem known_bool {b : Bool} : DV.known (.bool b) = true := rfl
theorem one_bool {b : Bool} : DV.one (.bool b) = true := rfl
theorem cells_str {s : List UInt8} : DV.cells (.str s) = [.str s] := rfl
theorem known_str {s : List UInt8} : DV.known (.str s) = true := rfl
theorem one_str {s : List UInt8} : DV.one (.str s) = true := rfl
theorem cells_nils  : DV.cells (.nils) = [.nils] := rfl
theorem known_nils  : DV.known (.nils) = true := rfl
theorem one_nils  : DV.one (.nils) = true := rfl
theorem cells_nilp  : DV.cells (.nilp) = [.nilp] := rfl
theorem known_nilp  : DV.known (.nilp) = true := rfl
theorem one_nilp  : DV.one (.nilp) = true := rfl
theorem cells_nili  : DV.cells (.nili) = [.nili] := rfl
theorem known_nili  : DV.known (.nili) = true := rfl
theorem one_nili  : DV.one (.nili) = true := rfl
theorem cells_nilf  : DV.cells (.nilf) = [.nilf] := rfl
theorem known_nilf  : DV.known (.nilf) = true := rfl
theorem one_nilf  : DV.one (.nilf) = true := rfl
theorem cells_sl {f : Bool} {s n : Nat} {cs : List DV} : DV.cells (.sl f s n cs) = [.sl f s n cs] := rfl
theorem known_sl {f : Bool} {s n : Nat} {cs : List DV} : DV.known (.sl f s n cs) = true := rfl
theorem one_sl {f : Bool} {s n : Nat} {cs : List DV} : DV.one (.sl f s n cs) = true := rfl
theorem cells_ms {id ver off s n lim : Nat} : DV.cells (.ms id ver off s n lim) = [.ms id ver off s n lim] := rfl
theorem known_ms {id ver off s n lim : Nat} : DV.known (.ms id ver off s n lim) = true := rfl
theorem one_ms {id ver off s n lim : Nat} : DV.one (.ms id ver off s n lim) = true := rfl
theorem cells_mp {id ver off : Nat} : DV.cells (.mp id ver off) = [.mp id ver off] := rfl
theorem known_mp {id ver off : Nat} : DV.known (.mp id ver off) = true := rfl
theorem one_mp {id ver off : Nat} : DV.one (.mp id ver off) = true := rfl
theorem cells_ref {cs : List DV} : DV.cells (.ref cs) = [.ref cs] := rfl
theorem known_ref {cs : List DV} : DV.known (.ref cs) = true := rfl
theorem one_ref {cs : List DV} : DV.one (.ref cs) = true := rfl
theorem cells_fn {f : Fn} {a b : List DV} : DV.cells (.fn f a b) = [.fn f a b] := rfl
theorem known_fn {f : Fn} {a b : List DV} : DV.known (.fn f a b) = true := rfl
theorem one_fn {f : Fn} {a b : List DV} : DV.one (.fn f a b) = true := rfl
theorem cells_iface {t : Nat} {v : DV} : DV.cells (.iface t v) = [.iface t v] := rfl
theorem known_iface {t : Nat} {v : DV} : DV.known (.iface t v) = true := rfl
theorem one_iface {t : Nat} {v : DV} : DV.one (.iface t v) = true := rfl
theorem cells_agg {cs : List DV} : DV.cells (.agg cs) = cs := rfl
theorem known_agg {cs : List DV} : DV.known (.agg cs) = true := rfl
attribute [simp] cells_agg known_agg cells_int known_int one_int cells_bool known_bool one_bool cells_str known_str one_str cells_nils known_nils one_nils cells_nilp known_nilp one_nilp cells_nili known_nili one_nili cells_nilf known_nilf one_nilf cells_sl known_sl one_sl cells_ms known_ms one_ms cells_mp known_mp one_mp cells_ref known_ref one_ref cells_fn known_fn one_fn cells_iface known_iface one_iface
theorem buildD_0 {zs : List DV} : buildD zs [] = some (.agg zs) := by simp [buildD, fillD]
theorem bshl_i {k : IntKind} {a z : Int} (h0 : 0 ≤ z) (h1 : z ≤ 62) : binOpD .shl (.int .i64 a) (.int k z) = some (.int .i64 (IntKind.i64.wrap (a * 2 ^ z.toNat))) := by
  simp only [binOpD, shiftOp, IntKind.bits]
  rw [if_neg (by omega), Nat.min_eq_left (by omega)]
theorem bshr_i {k : IntKind} {a z : Int} (h0 : 0 ≤ z) (h1 : z ≤ 62) : binOpD .shr (.int .i64 a) (.int k z) = some (.int .i64 (a / 2 ^ z.toNat)) := by
  simp only [binOpD, shiftOp, IntKind.bits]
  rw [if_neg (by omega), Nat.min_eq_left (by omega), Int.fdiv_eq_ediv_of_nonneg _ (by exact Int.le_of_lt (Int.pow_pos (by decide)))]
attribute [simp] buildD_0 bshl_i bshr_i
theorem bslD_0 {s : Nat} {zs : List DV} : bslD s 0 zs [] = some (.sl true s 0 []) := by simp [bslD, reps, fillD]
attribute [simp] bslD_0 scal_agg scal_tup scal_int scal_bool scal_str scalL_nil scalL_cons scalL_w8 scalL_w32 scalL_w64
attribute [simp] emod64 boxD_agg boxD_int boxD_w8 boxD_w32 boxD_w64 boxD_bool boxD_str boxD_nils boxD_sl boxD_ms boxD_mp boxD_slD
attribute [simp] E_app' appX_own appX_nils0 appX_nils appX_full0 appX_full toNat_ofInt64 visY_ms visY_sl visY_nils visY_str append1_w8 append1_w32 append1_w64
section
variable {h : List AObj} {len s n id ver off lim : Nat} {lo hi : Option DV} {cs : List DV} {full : Bool}
theorem slcAD_mp2 : slcAD h len s (.mp id ver off) lo hi = (boundsD len lo hi).bind fun p => (objV h id ver).bind fun _ => if off + len * s ≤ ver then some (.ms id ver (off + p.1 * s) s (p.2 - p.1) (off + len * s)) else none := rfl
theorem slcAD_ref2 : slcAD h len s (.ref cs) lo hi = (boundsD len lo hi).bind fun p => if len * s ≤ cs.length then some (.sl (p.2 == len) s (p.2 - p.1) ((cs.drop (p.1 * s)).take ((p.2 - p.1) * s))) else none := rfl
theorem slcSD_sl2 : slcSD h s (.sl full s n cs) lo hi none = (boundsD n lo hi).bind fun p => some (.sl (full && p.2 == n) s (p.2 - p.1) ((cs.drop (p.1 * s)).take ((p.2 - p.1) * s))) := by simp [slcSD]
theorem slcSD_nils2 : slcSD h s .nils lo hi none = (boundsD 0 lo hi).bind fun _ => some .nils := by simp [slcSD]
theorem slcSD_ms2 : slcSD h s (.ms id ver off s n lim) lo hi none = (boundsD n lo hi).bind fun p => (objV h id ver).map fun _ => .ms id ver (off + p.1 * s) s (p.2 - p.1) lim := by simp [slcSD]
theorem slcStrD_str2 {l : List UInt8} : slcStrD (.str l) lo hi = (boundsD l.length lo hi).bind fun p => some (.str ((l.drop p.1).take (p.2 - p.1))) := rfl
end
theorem bshl_w8_i (x : BitVec 8) (k : IntKind) (z : Int) (hz : 0 ≤ z) : binOpD .shl (w8 x) (.int k z) = some (w8 (x <<< z.toNat)) := by
  obtain ⟨m, rfl⟩ := Int.eq_ofNat_of_zero_le hz
  exact bshl_w8 x k m
theorem bshr_w8_i (x : BitVec 8) (k : IntKind) (z : Int) (hz : 0 ≤ z) : binOpD .shr (w8 x) (.int k z) = some (w8 (x >>> z.toNat)) := by
  obtain ⟨m, rfl⟩ := Int.eq_ofNat_of_zero_le hz
  exact bshr_w8 x k m
theorem bshl_w32_i (x : BitVec 32) (k : IntKind) (z : Int) (hz : 0 ≤ z) : binOpD .shl (w32 x) (.int k z) = some (w32 (x <<< z.toNat)) := by
  obtain ⟨m, rfl⟩ := Int.eq_ofNat_of_zero_le hz
  exact bshl_w32 x k m
theorem bshr_w32_i (x : BitVec 32) (k : IntKind) (z : Int) (hz : 0 ≤ z) : binOpD .shr (w32 x) (.int k z) = some (w32 (x >>> z.toNat)) := by
  obtain ⟨m, rfl⟩ := Int.eq_ofNat_of_zero_le hz
  exact bshr_w32 x k m
theorem bshl_w64_i (x : BitVec 64) (k : IntKind) (z : Int) (hz : 0 ≤ z) : binOpD .shl (w64 x) (.int k z) = some (w64 (x <<< z.toNat)) := by
  obtain ⟨m, rfl⟩ := Int.eq_ofNat_of_zero_le hz
  exact bshl_w64 x k m
theorem bshr_w64_i (x : BitVec 64) (k : IntKind) (z : Int) (hz : 0 ≤ z) : binOpD .shr (w64 x) (.int k z) = some (w64 (x >>> z.toNat)) := by
  obtain ⟨m, rfl⟩ := Int.eq_ofNat_of_zero_le hz
  exact bshr_w64 x k m
attribute [simp low] storeO_agg
attribute [simp] Int.tdiv_eq_ediv_of_nonneg Int.tmod_eq_emod_of_nonneg slcAD_mp2 slcAD_ref2 slcSD_sl2 slcSD_nils2 slcSD_ms2 slcStrD_str2 bshl_w8_i bshr_w8_i bshl_w32_i bshr_w32_i bshl_w64_i bshr_w64_i
  isStr_slD known_slD one_slD cells_slD belowL_w8 belowL_w32 partsD_nil partsD_cons buildD_of bslD_of seqD cpyD_ms length_spl
  take_w8 drop_w8 set_w8 append_w8 all_w8 one_w8_d one_w8_dt one_w8_dd
  one_w8_a storeO_w8_a take_w32 drop_w32 set_w32 append_w32 all_w32 one_w32_d
  one_w32_dt one_w32_dd one_w32_a storeO_w32_a take_w64 drop_w64 set_w64 append_w64
  all_w64 one_w64_d one_w64_dt one_w64_dd one_w64_a storeO_w64_a cpyO_w8 cpyO_w32
  cpyO_w64
end Go.Am
