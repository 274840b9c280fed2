/-
  The abstract machine, part 28: how data are made pure, for simp; slices with three bounds.
-/
import Derived.Test.YtjhakjeioppijaaDoorAmZ
set_option linter.unusedSimpArgs false
set_option linter.unusedVariables false
namespace Go.Am
open Go.RowKit

def fzLo (n : Nat) (h : List AObj) (k : Nat) (l : List DV) : Option (List DV) := mapAll (fz n h k) l
section
variable {h : List AObj} {n k : Nat}
theorem fz_clean {d : DV} (hp : pureD d = true) : fz n h k d = some d := by
  cases k <;> exact snapW_pure _ d hp
theorem fzLo_clean : ∀ {l : List DV}, pureL l = true → fzLo n h k l = some l
  | [], _ => rfl
  | d :: r, hp => by
    simp only [pureL, Bool.and_eq_true] at hp
    have := fzLo_clean hp.2
    simp only [fzLo] at this
    simp only [fzLo, mapAll, fz_clean hp.1, this, Option.bind_some, Option.map_some]
theorem fz_int {a : IntKind} {m : Int} : fz n h k (.int a m) = some (.int a m) := fz_clean rfl
theorem fz_bool {b : Bool} : fz n h k (.bool b) = some (.bool b) := fz_clean rfl
theorem fz_str {s : List UInt8} : fz n h k (.str s) = some (.str s) := fz_clean rfl
theorem fz_nils : fz n h k .nils = some .nils := fz_clean rfl
theorem fz_nilp : fz n h k .nilp = some .nilp := fz_clean rfl
theorem fz_nilf : fz n h k .nilf = some .nilf := fz_clean rfl
theorem fz_junk : fz n h k .junk = some .junk := fz_clean rfl
theorem fz_agg {cs : List DV} : fz n h k (.agg cs) = (fzLo n h k cs).map .agg := by cases k <;> simp only [fz, snapW, snapWL_eq, fzLo] <;> rfl
theorem fz_tup {cs : List DV} : fz n h k (.tup cs) = (fzLo n h k cs).map .tup := by cases k <;> simp only [fz, snapW, snapWL_eq, fzLo] <;> rfl
theorem fz_sl {b : Bool} {s m : Nat} {cs : List DV} : fz n h k (.sl b s m cs) = (fzLo n h k cs).map (.sl b s m) := by cases k <;> simp only [fz, snapW, snapWL_eq, fzLo] <;> rfl
theorem fz_ref {cs : List DV} : fz n h k (.ref cs) = (fzLo n h k cs).map .ref := by cases k <;> simp only [fz, snapW, snapWL_eq, fzLo] <;> rfl
theorem fz_fn {f : Fn} {a b : List DV} : fz n h k (.fn f a b) = (fzLo n h k a).bind fun a => (fzLo n h k b).map fun b => .fn f a b := by cases k <;> simp only [fz, snapW, snapWL_eq, fzLo] <;> rfl
theorem fz_ms_lt {id ver off s m lim : Nat} (hl : id < n) : fz n h k (.ms id ver off s m lim) = some (.ms id ver off s m lim) := by
  cases k <;> simp [fz, snapW, hl]
theorem fz_mp_lt {id ver off : Nat} (hl : id < n) : fz n h k (.mp id ver off) = some (.mp id ver off) := by
  cases k <;> simp [fz, snapW, hl]
theorem fz_ms {id ver off s m lim : Nat} (hl : n ≤ id) : fz n h (k + 1) (.ms id ver off s m lim) = (objV h id ver).bind fun l => (fzLo n h k ((l.drop off).take (m * s))).map (.sl false s m) := by
  simp only [fz, snapW, objV, fzLo, if_neg (show ¬ id < n by omega)]
  cases objAt h id with
  | none => rfl
  | some l =>
    simp only [Option.bind_some]
    split <;> rfl
theorem fz_mp {id ver off : Nat} (hl : n ≤ id) : fz n h (k + 1) (.mp id ver off) = (objV h id ver).bind fun l => (fzLo n h k (l.drop off)).map .ref := by
  simp only [fz, snapW, objV, fzLo, if_neg (show ¬ id < n by omega)]
  cases objAt h id with
  | none => rfl
  | some l =>
    simp only [Option.bind_some]
    split <;> rfl
theorem fzLo_nil : fzLo n h k [] = some [] := rfl
theorem fzLo_cons {d : DV} {r : List DV} : fzLo n h k (d :: r) = (fz n h k d).bind fun d => (fzLo n h k r).map fun r => d :: r := rfl
theorem fzLo_append : ∀ {a b : List DV}, fzLo n h k (a ++ b) = (fzLo n h k a).bind fun a => (fzLo n h k b).map fun b => a ++ b
  | [], b => by simp only [List.nil_append, fzLo_nil, Option.bind_some]; cases fzLo n h k b <;> rfl
  | d :: a, b => by
    simp only [List.cons_append, fzLo_cons, fzLo_append (a := a)]
    cases fz n h k d <;> simp only [Option.bind_some, Option.bind_none]
    cases fzLo n h k a <;> simp only [Option.bind_some, Option.bind_none, Option.map_some, Option.map_none]
    cases fzLo n h k b <;> rfl
theorem fzLo_w8 {l : List (BitVec 8)} : fzLo n h k (l.map w8) = some (l.map w8) := fzLo_clean pureL_w8
theorem fzL_nil : fzL n h [] [] = True := rfl
theorem fzL_junk {a : DV} {r s : List DV} : fzL n h (a :: r) (.junk :: s) = fzL n h r s := by simp [fzL]
theorem fzL_cons {a b : DV} {r s : List DV} (e : fz n h 3 a = some b) : fzL n h (a :: r) (b :: s) = fzL n h r s := by simp [fzL, e]
theorem fzL_of : ∀ {l r : List DV}, fzLo n h 3 l = some r → fzL n h l r
  | [], r, e => by simp [fzLo_nil] at e; subst e; trivial
  | d :: l, r, e => by
    simp only [fzLo_cons, Option.bind_eq_some_iff, Option.map_eq_some_iff] at e
    obtain ⟨d', h1, r', h2, rfl⟩ := e
    exact ⟨.inr h1, fzL_of h2⟩
theorem fzL_clean {l : List DV} (hp : pureL l = true) : fzL n h l l := fzL_of (fzLo_clean hp)
theorem fzL_lit {a b : List DV} (e : fzLo n h 3 a = some b) : fzL n h a b = True := eq_true (fzL_of e)
theorem fzH_nil {l : List AObj} : fzH n h l [] = True := by cases l <;> simp [fzH]
theorem fzH_cells' {a b : List DV} {r s : List AObj} : fzH n h (.cells a :: r) (.cells b :: s) = (fzL n h a b ∧ fzH n h r s) := by simp [fzH]
theorem fzH_dead' {r s : List AObj} : fzH n h (.dead :: r) (.dead :: s) = fzH n h r s := by simp [fzH]
/-- objects without names of later ones stay -/
theorem fzL_below : ∀ {l : List DV}, (∀ d ∈ l, fz n h 3 d = some d) → fzL n h l l
  | [], _ => trivial
  | d :: r, hp => ⟨.inr (hp d (by simp)), fzL_below fun x hx => hp x (by simp [hx])⟩
theorem outF_nil {t : List DV} : outF n [] t h = some (.tup []) := rfl
theorem outF_one {a : ARes} {t : List DV} : outF n [a] t h = (resD t h a).bind (fz n h 3) := by simp only [outF, resAll_one]
theorem outF_two {a b : ARes} {t : List DV} : outF n [a, b] t h = (resD t h a).bind fun x => (resD t h b).bind fun y => fz n h 3 (.tup [x, y]) := by
  simp only [outF, resAll, mapAll, resOf_eq]
  cases resD t h a <;> try rfl
  cases resD t h b <;> rfl
theorem outF_three {a b c : ARes} {t : List DV} : outF n [a, b, c] t h = (resD t h a).bind fun x => (resD t h b).bind fun y => (resD t h c).bind fun z => fz n h 3 (.tup [x, y, z]) := by
  simp only [outF, resAll, mapAll, resOf_eq]
  cases resD t h a <;> cases resD t h b <;> cases resD t h c <;> rfl
theorem outD_three' {a b c : ARes} {t : List DV} : outD [a, b, c] t h = (resD t h a).bind fun x => (resD t h b).bind fun y => (resD t h c).bind fun z => snap h 3 (.tup [x, y, z]) := by
  simp only [outD, resAll, mapAll, resOf_eq]
  cases resD t h a <;> cases resD t h b <;> cases resD t h c <;> rfl
theorem resAll_two {a b : ARes} {t : List DV} : resAll [a, b] ⟨t, h⟩ = (resD t h a).bind fun x => (resD t h b).map fun y => .tup [x, y] := by
  simp only [resAll, mapAll, resOf_eq]
  cases resD t h a <;> cases resD t h b <;> rfl
theorem resAll_three {a b c : ARes} {t : List DV} : resAll [a, b, c] ⟨t, h⟩ = (resD t h a).bind fun x => (resD t h b).bind fun y => (resD t h c).map fun z => .tup [x, y, z] := by
  simp only [resAll, mapAll, resOf_eq]
  cases resD t h a <;> cases resD t h b <;> cases resD t h c <;> rfl
end
theorem retF_ret' {rs : List ARes} {v : DV} {k : List AObj} {t : List DV} {h : List AObj} : retF rs v k .ret ⟨t, h⟩ = (outF k.length rs t h = some v ∧ k.length ≤ h.length ∧ fzH k.length h h k) := retF_ret
theorem weak_freeze {n0 : Nat} {t t' : List DV} {h h' : List AObj} (h1 : n0 ≤ h'.length) (h2 : h'.length ≤ h.length) (h3 : fzL h'.length h t t') (h4 : fzH h'.length h h h') : Weak n0 ⟨t, h⟩ ⟨t', h'⟩ := .inr ⟨h1, h2, h3, h4⟩
section
variable {h : List AObj} {s m : Nat} {f : Bool} {cs : List DV}
/-- x[:0:0] -/
theorem slcSD_nils00 {k k' : IntKind} : slcSD h s .nils none (some (.int k 0)) (some (.int k' 0)) = some .nils := by simp [slcSD, boundsD, iD]
theorem slcSD_sl00 {k k' : IntKind} : slcSD h s (.sl f s m cs) none (some (.int k 0)) (some (.int k' 0)) = some (.sl true s 0 []) := by simp [slcSD, boundsD, iD]
/-! apart -/
theorem apart_mp {i v o : Nat} {b : DV} : apartD (.mp i v o) b = (b.known && decide (objId b ≠ some i)) := by
  cases b <;> simp [apartD, objId, DV.known, bne, eq_comm] <;> (first | rfl | (rw [Bool.eq_iff_iff]; simp [eq_comm]) | skip)
theorem apart_ms {i v o s n l : Nat} {b : DV} : apartD (.ms i v o s n l) b = (b.known && decide (objId b ≠ some i)) := by
  cases b <;> simp [apartD, objId, DV.known, bne, eq_comm] <;> (first | rfl | (rw [Bool.eq_iff_iff]; simp [eq_comm]) | skip)
theorem apart_pure {a b : DV} (ha : objId a = none) : apartD a b = b.known := by
  cases b <;> simp [apartD, ha, DV.known]
theorem apart_ref {cs : List DV} {b : DV} : apartD (.ref cs) b = b.known := apart_pure rfl
theorem apart_sl {f : Bool} {s n : Nat} {cs : List DV} {b : DV} : apartD (.sl f s n cs) b = b.known := apart_pure rfl
theorem apart_nils {b : DV} : apartD .nils b = b.known := apart_pure rfl
theorem objId_mp {i v o : Nat} : objId (.mp i v o) = some i := rfl
theorem objId_ms {i v o s n l : Nat} : objId (.ms i v o s n l) = some i := rfl
theorem objId_sl {f : Bool} {s n : Nat} {cs : List DV} : objId (.sl f s n cs) = none := rfl
theorem objId_nils : objId .nils = none := rfl
theorem slcSD_ms3 {id ver off lim : Nat} {lo hi : Option DV} {i j k : Nat} (hb : boundsD m lo hi = some (i, j)) (h1 : j ≤ k) (h2 : k ≤ m) (h3 : hi.isSome = true) : slcSD h s (.ms id ver off s m lim) lo hi (some (.int .i64 k)) = (objV h id ver).map fun _ => .junk := by
  have h1' : (j : Int) ≤ k := by omega
  have h2' : (k : Int) ≤ m := by omega
  simp only [slcSD, hb, Option.bind_some, ne_eq, not_true_eq_false, if_false, iD, h3, h1', h2', and_self, if_true]
theorem clrD_ms {id ver off lim : Nat} {zs : List DV} (hz : zs.length = s) (h0 : 0 < s) (ho : zs.all DV.one = true) (hf : off + m * s ≤ ver) : clrD h s zs (.ms id ver off s m lim) = (objV h id ver).map fun l => (.tup [], h.set id (.cells (splice l off (reps m zs)))) := by
  simp only [clrD, objV, hz, h0, ho, hf, true_and, and_true]
  cases objAt h id with
  | none => rfl
  | some l =>
    simp only [Option.bind_some]
    split <;> rfl
end
attribute [simp] apart_mp apart_ms apart_ref apart_sl apart_nils objId_mp objId_ms objId_sl objId_nils
attribute [simp] fz_int fz_bool fz_str fz_nils fz_nilp fz_nilf fz_junk fz_agg fz_tup fz_sl fz_ref fz_fn fz_ms_lt fz_mp_lt fz_ms fz_mp fzLo_nil fzLo_cons fzLo_w8 fzL_nil fzL_junk fzL_cons fzL_lit fzH_nil fzH_cells' fzH_dead' outF_nil outF_one outF_two outF_three outD_three' resAll_two resAll_three retF_ret retF_normal slcSD_nils00 slcSD_sl00
end Go.Am
