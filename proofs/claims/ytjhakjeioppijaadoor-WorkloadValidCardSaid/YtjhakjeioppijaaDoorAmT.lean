/-
  The abstract machine, part 20: equations for walking: each operation on its operands' data; words.
-/
import Derived.Test.YtjhakjeioppijaaDoorAmS
set_option linter.unusedSimpArgs false
set_option linter.unusedVariables false
namespace Go.Am
open Go.RowKit

section
variable {T : Tbl} {dr : Bool} {t : List DV} {h : List AObj}
theorem E_mov {x : Opd} : evAll T dr (.mov x) t h = some (ev t x, h) := V_mov (t := t)
theorem E_pick {c a b : Opd} : evAll T dr (.pick c a b) t h = pr (pickD (ev t c) (ev t a) (ev t b)) h := V_pick (t := t)
theorem E_bin {op : BinOp} {x y : Opd} : evAll T dr (.bin op x y) t h = pr (binOpD op (ev t x) (ev t y)) h := V_bin (t := t)
theorem E_eqa {neg : Bool} {ks : List (Nat × Nat)} {x y : Opd} : evAll T dr (.eqa neg ks x y) t h = pr (eqaD neg (kindsOf ks) (ev t x) (ev t y)) h := V_eqa (t := t)
theorem E_eqb {neg : Bool} {x y : Opd} : evAll T dr (.eqb neg x y) t h = pr (eqbD neg (ev t x) (ev t y)) h := V_eqb (t := t)
theorem E_eqn {kd : Nat} {neg : Bool} {x y : Opd} : evAll T dr (.eqn kd neg x y) t h = pr (eqnD kd neg (nilKind h (ev t x)) (nilKind h (ev t y))) h := V_eqn (t := t)
theorem E_un {op : UnOp} {x : Opd} : evAll T dr (.un op x) t h = pr (unD op (ev t x)) h := V_un (t := t)
theorem E_conv {k : IntKind} {x : Opd} : evAll T dr (.conv k x) t h = pr (convD k (ev t x)) h := V_conv (t := t)
theorem E_strid {x : Opd} : evAll T dr (.strid x) t h = pr (stridD (ev t x)) h := V_strid (t := t)
theorem E_csb {x : Opd} : evAll T dr (.csb x) t h = pr (csbD (ev t x)) h := V_csb (t := t)
theorem E_cbs {x : Opd} : evAll T dr (.cbs x) t h = pr (cbsD (visS h (ev t x))) h := V_cbs (t := t)
theorem E_load {n : Nat} {agg : Bool} {x : Opd} : evAll T dr (.load n agg x) t h = pr (loadD n agg (vis h (ev t x))) h := V_load (t := t)
theorem E_store {n : Nat} {x y : Opd} : evAll T dr (.store n x y) t h = storeD h n (ev t x) (ev t y) := V_store (t := t)
theorem E_idxS {s : Nat} {x i : Opd} : evAll T dr (.idxS s x i) t h = pr (withI (iD (ev t i)) (idxSD h s (ev t x))) h := V_idxS (t := t)
theorem E_idxA {len s : Nat} {x i : Opd} : evAll T dr (.idxA len s x i) t h = pr (withI (iD (ev t i)) (idxAD h len s (ev t x))) h := V_idxA (t := t)
theorem E_fld {off : Nat} {x : Opd} : evAll T dr (.fld off x) t h = pr (fldD h off (ev t x)) h := V_fld (t := t)
theorem E_getf {off n : Nat} {agg : Bool} {x : Opd} : evAll T dr (.getf off n agg x) t h = pr (getfD off n agg (ev t x)) h := V_getf (t := t)
theorem E_idxV {len n : Nat} {agg : Bool} {x i : Opd} : evAll T dr (.idxV len n agg x i) t h = pr (withI (iD (ev t i)) (idxVD len n agg (ev t x))) h := V_idxV (t := t)
theorem E_idxStr {x i : Opd} : evAll T dr (.idxStr x i) t h = pr (withI (iD (ev t i)) (idxStrD (ev t x))) h := V_idxStr (t := t)
theorem E_slcS {s : Nat} {x : Opd} {lo hi mx : Option Opd} : evAll T dr (.slcS s x lo hi mx) t h = pr (slcSD h s (ev t x) (opO t lo) (opO t hi) (opO t mx)) h := V_slcS (t := t)
theorem E_slcA {len s : Nat} {x : Opd} {lo hi : Option Opd} : evAll T dr (.slcA len s x lo hi) t h = pr (slcAD h len s (ev t x) (opO t lo) (opO t hi)) h := V_slcA (t := t)
theorem E_slcStr {x : Opd} {lo hi : Option Opd} : evAll T dr (.slcStr x lo hi) t h = pr (slcStrD (ev t x) (opO t lo) (opO t hi)) h := V_slcStr (t := t)
theorem E_alloc {zs : List DV} : evAll T dr (.alloc zs) t h = some (.mp h.length zs.length 0, h ++ [.cells zs]) := V_alloc (t := t)
theorem E_box {x : Opd} : evAll T dr (.box x) t h = boxD h (ev t x) := V_box (t := t)
theorem E_build {zs : List DV} {ps : List (Nat × Nat × Opd)} : evAll T dr (.build zs ps) t h = pr (buildD zs (partsD t ps)) h := V_build (t := t)
theorem E_bsl {s len : Nat} {zs : List DV} {ps : List (Nat × Nat × Opd)} : evAll T dr (.bsl s len zs ps) t h = pr (bslD s len zs (partsD t ps)) h := V_bsl (t := t)
theorem E_mks {s b : Nat} {zs : List DV} {l c : Opd} : evAll T dr (.mks s b zs l c) t h = withI (iD (ev t l)) fun l => withI (iD (ev t c)) fun c => mksD h s b zs l c := V_mks (t := t)
theorem E_lenStr {x : Opd} : evAll T dr (.lenStr x) t h = pr (lenStrD (ev t x)) h := V_lenStr (t := t)
theorem E_len {x : Opd} : evAll T dr (.len x) t h = pr (lenD h (ev t x)) h := V_len (t := t)
theorem E_app {s b : Nat} {x y : Opd} : evAll T dr (.app s b x y) t h = evApp h s b (ev t x) (ev t y) := V_app (t := t)
theorem E_cpy {s : Nat} {x y : Opd} : evAll T dr (.cpy s x y) t h = cpyD h s (ev t y).isStr (ev t x) (visY h (ev t y)) := V_cpy (t := t)
theorem E_clr {s : Nat} {zs : List DV} {x : Opd} : evAll T dr (.clr s zs x) t h = clrD h s zs (ev t x) := V_clr (t := t)
theorem E_apart {x y : Opd} : evAll T dr (.apart x y) t h = if apartD (ev t x) (ev t y) = true then some (.junk, h) else none := V_apart (t := t)
theorem E_mkf {f : Fn} {a b : List Opd} : evAll T dr (.mkf f a b) t h = some (.fn f (a.map (ev t)) (b.map (ev t)), h) := V_mkf (t := t)
theorem E_nilc {x : Opd} : evAll T dr (.nilc x) t h = pr (nilcD h (ev t x)) h := V_nilc (t := t)
theorem E_ext {x : Opd} {i : Nat} : evAll T dr (.ext x i) t h = pr (extD (ev t x) i) h := V_ext (t := t)
theorem E_callN {f : Opd} {args : List Opd} : evAll T true (.callN f args) t h = callFN T (ev t f) (args.map (ev t)) h := rfl
theorem callFN_fn {g : Nat} {a b args : List DV} : callFN T (.fn (.func g) a b) args h = callDN (T g) (a ++ args ++ b) h := rfl
theorem E_call {f : Opd} {args : List Opd} : evAll T dr (.call f args) t h = callF T dr (ev t f) (args.map (ev t)) h := rfl
theorem SO_guard' {j : Nat} {b : Bool} {i : Option Nat} {op : AOp} {r : List AOper} {Φ : St → Prop} : SO T dr (⟨some (j, b), i, op⟩ :: r) t h Φ = guardD T dr b i op r t h Φ (getT t j) := SO_guard
theorem callF_fn {g : Nat} {a b args : List DV} : callF T dr (.fn (.func g) a b) args h = callD (T g) dr (a ++ args ++ b) h := rfl
end

/-! words -/
theorem ofInt_toNat {n : Nat} (x : BitVec n) : BitVec.ofInt n (x.toNat : Int) = x := by simp

def w8 (x : BitVec 8) : DV := .int .u8 x.toNat
theorem wrap_w8 (z : Int) : IntKind.u8.wrap z = ((BitVec.ofInt 8 z).toNat : Int) := by
  simp only [IntKind.wrap, IntKind.signed, IntKind.bits, BitVec.toNat_ofInt, Bool.false_and, Bool.false_eq_true, if_false]
  omega
theorem iD_w8 (x : BitVec 8) : iD (w8 x) = some (x.toNat : Int) := rfl
theorem known_w8 (x : BitVec 8) : (w8 x).known = true := rfl
theorem one_w8 (x : BitVec 8) : (w8 x).one = true := rfl
theorem cells_w8 (x : BitVec 8) : (w8 x).cells = [w8 x] := rfl
theorem pure_w8 (x : BitVec 8) : pureD (w8 x) = true := rfl
theorem scal_w8 (x : BitVec 8) : scal (w8 x) = true := rfl
theorem snap_w8 (h : List AObj) (k : Nat) (x : BitVec 8) : snap h k (w8 x) = some (w8 x) := by cases k <;> rfl
theorem inj_w8 (x y : BitVec 8) : (w8 x = w8 y) = (x = y) := by
  refine propext ⟨fun e => ?_, fun e => by rw [e]⟩
  simp [w8] at e
  exact BitVec.eq_of_toNat_eq (by omega)
theorem nat_inj_w8 (x y : BitVec 8) : ((x.toNat : Int) = (y.toNat : Int)) = (x = y) := propext ⟨fun e => BitVec.eq_of_toNat_eq (by omega), fun e => by rw [e]⟩
theorem badd_w8 (x y : BitVec 8) : binOpD .add (w8 x) (w8 y) = some (w8 (x + y)) := by
  simp only [binOpD, w8, intOp, if_true, wrap_w8, BitVec.ofInt_add, ofInt_toNat]
theorem bmul_w8 (x y : BitVec 8) : binOpD .mul (w8 x) (w8 y) = some (w8 (x * y)) := by
  simp only [binOpD, w8, intOp, if_true, wrap_w8, BitVec.ofInt_mul, ofInt_toNat]
theorem bsub_w8 (x y : BitVec 8) : binOpD .sub (w8 x) (w8 y) = some (w8 (x - y)) := by
  simp only [binOpD, w8, intOp, if_true, wrap_w8, Int.sub_eq_add_neg, BitVec.ofInt_add, BitVec.ofInt_neg, BitVec.sub_eq_add_neg, ofInt_toNat]
theorem band_w8 (x y : BitVec 8) : binOpD .and (w8 x) (w8 y) = some (w8 (x &&& y)) := by
  have e : bits .and .u8 (x.toNat : Int) (y.toNat : Int) = ((x &&& y : BitVec 8).toNat : Int) := by
    show IntKind.u8.wrap ((BitVec.ofInt 8 x.toNat &&& BitVec.ofInt 8 y.toNat).toNat : Int) = _
    rw [wrap_w8, ofInt_toNat, ofInt_toNat, ofInt_toNat]
  simp only [binOpD, w8, intOp, if_true, e]
theorem bor_w8 (x y : BitVec 8) : binOpD .or (w8 x) (w8 y) = some (w8 (x ||| y)) := by
  have e : bits .or .u8 (x.toNat : Int) (y.toNat : Int) = ((x ||| y : BitVec 8).toNat : Int) := by
    show IntKind.u8.wrap ((BitVec.ofInt 8 x.toNat ||| BitVec.ofInt 8 y.toNat).toNat : Int) = _
    rw [wrap_w8, ofInt_toNat, ofInt_toNat, ofInt_toNat]
  simp only [binOpD, w8, intOp, if_true, e]
theorem bxor_w8 (x y : BitVec 8) : binOpD .xor (w8 x) (w8 y) = some (w8 (x ^^^ y)) := by
  have e : bits .xor .u8 (x.toNat : Int) (y.toNat : Int) = ((x ^^^ y : BitVec 8).toNat : Int) := by
    show IntKind.u8.wrap ((BitVec.ofInt 8 x.toNat ^^^ BitVec.ofInt 8 y.toNat).toNat : Int) = _
    rw [wrap_w8, ofInt_toNat, ofInt_toNat, ofInt_toNat]
  simp only [binOpD, w8, intOp, if_true, e]
theorem bandNot_w8 (x y : BitVec 8) : binOpD .andNot (w8 x) (w8 y) = some (w8 (x &&& ~~~y)) := by
  have e : bits .andNot .u8 (x.toNat : Int) (y.toNat : Int) = ((x &&& ~~~y : BitVec 8).toNat : Int) := by
    show IntKind.u8.wrap ((BitVec.ofInt 8 x.toNat &&& ~~~BitVec.ofInt 8 y.toNat).toNat : Int) = _
    rw [wrap_w8, ofInt_toNat, ofInt_toNat, ofInt_toNat]
  simp only [binOpD, w8, intOp, if_true, e]
theorem ccompl_w8 (x : BitVec 8) : unD .xor (w8 x) = some (w8 (~~~x)) := by
  have e : bits .xor .u8 IntKind.u8.max (x.toNat : Int) = ((~~~x : BitVec 8).toNat : Int) := by
    show IntKind.u8.wrap ((BitVec.ofInt 8 IntKind.u8.max ^^^ BitVec.ofInt 8 x.toNat).toNat : Int) = _
    rw [wrap_w8, ofInt_toNat, ofInt_toNat, show BitVec.ofInt 8 IntKind.u8.max = BitVec.allOnes 8 from by decide, BitVec.allOnes_xor]
  simp only [unD, w8, IntKind.signed, Bool.false_eq_true, if_false, e]
theorem beql_w8 (x y : BitVec 8) : binOpD .eql (w8 x) (w8 y) = some (.bool (x == y)) := by
  have e : ((x.toNat : Int) == (y.toNat : Int)) = (x == y) := by
    rw [Bool.eq_iff_iff]; simp [nat_inj_w8]
  simp only [binOpD, w8, intOp, if_true, e]
theorem bneq_w8 (x y : BitVec 8) : binOpD .neq (w8 x) (w8 y) = some (.bool (x != y)) := by
  have e : ((x.toNat : Int) != (y.toNat : Int)) = (x != y) := by
    rw [Bool.eq_iff_iff]; simp [nat_inj_w8]
  simp only [binOpD, w8, intOp, if_true, e]
theorem blss_w8 (x y : BitVec 8) : binOpD .lss (w8 x) (w8 y) = some (.bool (decide (x < y))) := by
  simp only [binOpD, w8, intOp, if_true, BitVec.lt_def, Int.ofNat_lt]
theorem bleq_w8 (x y : BitVec 8) : binOpD .leq (w8 x) (w8 y) = some (.bool (decide (x ≤ y))) := by
  simp only [binOpD, w8, intOp, if_true, BitVec.le_def, Int.ofNat_le]
theorem bgtr_w8 (x y : BitVec 8) : binOpD .gtr (w8 x) (w8 y) = some (.bool (decide (y < x))) := by
  simp only [binOpD, w8, intOp, if_true, BitVec.lt_def, GT.gt, Int.ofNat_lt]
theorem bgeq_w8 (x y : BitVec 8) : binOpD .geq (w8 x) (w8 y) = some (.bool (decide (y ≤ x))) := by
  simp only [binOpD, w8, intOp, if_true, BitVec.le_def, GE.ge, Int.ofNat_le]
theorem bshl_w8 (x : BitVec 8) (k : IntKind) (m : Nat) : binOpD .shl (w8 x) (.int k (m : Int)) = some (w8 (x <<< m)) := by
  have e : IntKind.u8.wrap ((x.toNat : Int) * 2 ^ min m 8) = ((x <<< m).toNat : Int) := by
    rw [wrap_w8]
    congr 1
    rw [show ((x.toNat : Int) * 2 ^ min m 8) = ((x.toNat * 2 ^ min m 8 : Nat) : Int) from by simp, BitVec.ofInt_natCast, BitVec.toNat_ofNat, BitVec.toNat_shiftLeft, Nat.shiftLeft_eq]
    by_cases hm : m ≤ 8
    · rw [Nat.min_eq_left hm]
    · rw [Nat.min_eq_right (by omega)]
      obtain ⟨j, rfl⟩ : ∃ j, m = 8 + j := ⟨m - 8, by omega⟩
      rw [Nat.pow_add, ← Nat.mul_assoc, Nat.mul_right_comm, Nat.mul_mod_left, Nat.mul_mod_left]
  simp only [binOpD, w8, shiftOp, show ¬ ((m : Int) < 0) from by omega, if_false, IntKind.bits, Int.toNat_natCast, e]
theorem bshr_w8 (x : BitVec 8) (k : IntKind) (m : Nat) : binOpD .shr (w8 x) (.int k (m : Int)) = some (w8 (x >>> m)) := by
  have e : (x.toNat : Int).fdiv (2 ^ min m 8) = ((x >>> m).toNat : Int) := by
    rw [Int.fdiv_eq_ediv_of_nonneg _ (by exact Int.le_of_lt (Int.pow_pos (by decide))), show ((2 : Int) ^ min m 8) = ((2 ^ min m 8 : Nat) : Int) from by simp, ← Int.natCast_ediv]
    congr 1
    rw [BitVec.toNat_ushiftRight, Nat.shiftRight_eq_div_pow]
    by_cases hm : m ≤ 8
    · rw [Nat.min_eq_left hm]
    · rw [Nat.min_eq_right (by omega), Nat.div_eq_of_lt x.isLt, Nat.div_eq_of_lt]
      exact Nat.lt_of_lt_of_le x.isLt (Nat.pow_le_pow_right (by decide) (by omega))
  simp only [binOpD, w8, shiftOp, show ¬ ((m : Int) < 0) from by omega, if_false, IntKind.bits, Int.toNat_natCast, e]
theorem conv_i_w8 (k : IntKind) (z : Int) : convD .u8 (.int k z) = some (w8 (BitVec.ofInt 8 z)) := by simp only [convD, w8, wrap_w8]
theorem conv_w8_i64 (x : BitVec 8) : convD .i64 (w8 x) = some (.int .i64 (x.toNat : Int)) := by
  simp only [convD, w8, IntKind.wrap, IntKind.signed, IntKind.bits]
  have := x.isLt
  simp only [Bool.true_and, decide_eq_true_eq, ge_iff_le]
  rw [show (x.toNat : Int) % 2 ^ 64 = x.toNat from by omega, if_neg (by omega)]

def w32 (x : BitVec 32) : DV := .int .u32 x.toNat
theorem wrap_w32 (z : Int) : IntKind.u32.wrap z = ((BitVec.ofInt 32 z).toNat : Int) := by
  simp only [IntKind.wrap, IntKind.signed, IntKind.bits, BitVec.toNat_ofInt, Bool.false_and, Bool.false_eq_true, if_false]
  omega
theorem iD_w32 (x : BitVec 32) : iD (w32 x) = some (x.toNat : Int) := rfl
theorem known_w32 (x : BitVec 32) : (w32 x).known = true := rfl
theorem one_w32 (x : BitVec 32) : (w32 x).one = true := rfl
theorem cells_w32 (x : BitVec 32) : (w32 x).cells = [w32 x] := rfl
theorem pure_w32 (x : BitVec 32) : pureD (w32 x) = true := rfl
theorem scal_w32 (x : BitVec 32) : scal (w32 x) = true := rfl
theorem snap_w32 (h : List AObj) (k : Nat) (x : BitVec 32) : snap h k (w32 x) = some (w32 x) := by cases k <;> rfl
theorem inj_w32 (x y : BitVec 32) : (w32 x = w32 y) = (x = y) := by
  refine propext ⟨fun e => ?_, fun e => by rw [e]⟩
  simp [w32] at e
  exact BitVec.eq_of_toNat_eq (by omega)
theorem nat_inj_w32 (x y : BitVec 32) : ((x.toNat : Int) = (y.toNat : Int)) = (x = y) := propext ⟨fun e => BitVec.eq_of_toNat_eq (by omega), fun e => by rw [e]⟩
theorem badd_w32 (x y : BitVec 32) : binOpD .add (w32 x) (w32 y) = some (w32 (x + y)) := by
  simp only [binOpD, w32, intOp, if_true, wrap_w32, BitVec.ofInt_add, ofInt_toNat]
theorem bmul_w32 (x y : BitVec 32) : binOpD .mul (w32 x) (w32 y) = some (w32 (x * y)) := by
  simp only [binOpD, w32, intOp, if_true, wrap_w32, BitVec.ofInt_mul, ofInt_toNat]
theorem bsub_w32 (x y : BitVec 32) : binOpD .sub (w32 x) (w32 y) = some (w32 (x - y)) := by
  simp only [binOpD, w32, intOp, if_true, wrap_w32, Int.sub_eq_add_neg, BitVec.ofInt_add, BitVec.ofInt_neg, BitVec.sub_eq_add_neg, ofInt_toNat]
theorem band_w32 (x y : BitVec 32) : binOpD .and (w32 x) (w32 y) = some (w32 (x &&& y)) := by
  have e : bits .and .u32 (x.toNat : Int) (y.toNat : Int) = ((x &&& y : BitVec 32).toNat : Int) := by
    show IntKind.u32.wrap ((BitVec.ofInt 32 x.toNat &&& BitVec.ofInt 32 y.toNat).toNat : Int) = _
    rw [wrap_w32, ofInt_toNat, ofInt_toNat, ofInt_toNat]
  simp only [binOpD, w32, intOp, if_true, e]
theorem bor_w32 (x y : BitVec 32) : binOpD .or (w32 x) (w32 y) = some (w32 (x ||| y)) := by
  have e : bits .or .u32 (x.toNat : Int) (y.toNat : Int) = ((x ||| y : BitVec 32).toNat : Int) := by
    show IntKind.u32.wrap ((BitVec.ofInt 32 x.toNat ||| BitVec.ofInt 32 y.toNat).toNat : Int) = _
    rw [wrap_w32, ofInt_toNat, ofInt_toNat, ofInt_toNat]
  simp only [binOpD, w32, intOp, if_true, e]
theorem bxor_w32 (x y : BitVec 32) : binOpD .xor (w32 x) (w32 y) = some (w32 (x ^^^ y)) := by
  have e : bits .xor .u32 (x.toNat : Int) (y.toNat : Int) = ((x ^^^ y : BitVec 32).toNat : Int) := by
    show IntKind.u32.wrap ((BitVec.ofInt 32 x.toNat ^^^ BitVec.ofInt 32 y.toNat).toNat : Int) = _
    rw [wrap_w32, ofInt_toNat, ofInt_toNat, ofInt_toNat]
  simp only [binOpD, w32, intOp, if_true, e]
theorem bandNot_w32 (x y : BitVec 32) : binOpD .andNot (w32 x) (w32 y) = some (w32 (x &&& ~~~y)) := by
  have e : bits .andNot .u32 (x.toNat : Int) (y.toNat : Int) = ((x &&& ~~~y : BitVec 32).toNat : Int) := by
    show IntKind.u32.wrap ((BitVec.ofInt 32 x.toNat &&& ~~~BitVec.ofInt 32 y.toNat).toNat : Int) = _
    rw [wrap_w32, ofInt_toNat, ofInt_toNat, ofInt_toNat]
  simp only [binOpD, w32, intOp, if_true, e]
theorem ccompl_w32 (x : BitVec 32) : unD .xor (w32 x) = some (w32 (~~~x)) := by
  have e : bits .xor .u32 IntKind.u32.max (x.toNat : Int) = ((~~~x : BitVec 32).toNat : Int) := by
    show IntKind.u32.wrap ((BitVec.ofInt 32 IntKind.u32.max ^^^ BitVec.ofInt 32 x.toNat).toNat : Int) = _
    rw [wrap_w32, ofInt_toNat, ofInt_toNat, show BitVec.ofInt 32 IntKind.u32.max = BitVec.allOnes 32 from by decide, BitVec.allOnes_xor]
  simp only [unD, w32, IntKind.signed, Bool.false_eq_true, if_false, e]
theorem beql_w32 (x y : BitVec 32) : binOpD .eql (w32 x) (w32 y) = some (.bool (x == y)) := by
  have e : ((x.toNat : Int) == (y.toNat : Int)) = (x == y) := by
    rw [Bool.eq_iff_iff]; simp [nat_inj_w32]
  simp only [binOpD, w32, intOp, if_true, e]
theorem bneq_w32 (x y : BitVec 32) : binOpD .neq (w32 x) (w32 y) = some (.bool (x != y)) := by
  have e : ((x.toNat : Int) != (y.toNat : Int)) = (x != y) := by
    rw [Bool.eq_iff_iff]; simp [nat_inj_w32]
  simp only [binOpD, w32, intOp, if_true, e]
theorem blss_w32 (x y : BitVec 32) : binOpD .lss (w32 x) (w32 y) = some (.bool (decide (x < y))) := by
  simp only [binOpD, w32, intOp, if_true, BitVec.lt_def, Int.ofNat_lt]
theorem bleq_w32 (x y : BitVec 32) : binOpD .leq (w32 x) (w32 y) = some (.bool (decide (x ≤ y))) := by
  simp only [binOpD, w32, intOp, if_true, BitVec.le_def, Int.ofNat_le]
theorem bgtr_w32 (x y : BitVec 32) : binOpD .gtr (w32 x) (w32 y) = some (.bool (decide (y < x))) := by
  simp only [binOpD, w32, intOp, if_true, BitVec.lt_def, GT.gt, Int.ofNat_lt]
theorem bgeq_w32 (x y : BitVec 32) : binOpD .geq (w32 x) (w32 y) = some (.bool (decide (y ≤ x))) := by
  simp only [binOpD, w32, intOp, if_true, BitVec.le_def, GE.ge, Int.ofNat_le]
theorem bshl_w32 (x : BitVec 32) (k : IntKind) (m : Nat) : binOpD .shl (w32 x) (.int k (m : Int)) = some (w32 (x <<< m)) := by
  have e : IntKind.u32.wrap ((x.toNat : Int) * 2 ^ min m 32) = ((x <<< m).toNat : Int) := by
    rw [wrap_w32]
    congr 1
    rw [show ((x.toNat : Int) * 2 ^ min m 32) = ((x.toNat * 2 ^ min m 32 : Nat) : Int) from by simp, BitVec.ofInt_natCast, BitVec.toNat_ofNat, BitVec.toNat_shiftLeft, Nat.shiftLeft_eq]
    by_cases hm : m ≤ 32
    · rw [Nat.min_eq_left hm]
    · rw [Nat.min_eq_right (by omega)]
      obtain ⟨j, rfl⟩ : ∃ j, m = 32 + j := ⟨m - 32, by omega⟩
      rw [Nat.pow_add, ← Nat.mul_assoc, Nat.mul_right_comm, Nat.mul_mod_left, Nat.mul_mod_left]
  simp only [binOpD, w32, shiftOp, show ¬ ((m : Int) < 0) from by omega, if_false, IntKind.bits, Int.toNat_natCast, e]
theorem bshr_w32 (x : BitVec 32) (k : IntKind) (m : Nat) : binOpD .shr (w32 x) (.int k (m : Int)) = some (w32 (x >>> m)) := by
  have e : (x.toNat : Int).fdiv (2 ^ min m 32) = ((x >>> m).toNat : Int) := by
    rw [Int.fdiv_eq_ediv_of_nonneg _ (by exact Int.le_of_lt (Int.pow_pos (by decide))), show ((2 : Int) ^ min m 32) = ((2 ^ min m 32 : Nat) : Int) from by simp, ← Int.natCast_ediv]
    congr 1
    rw [BitVec.toNat_ushiftRight, Nat.shiftRight_eq_div_pow]
    by_cases hm : m ≤ 32
    · rw [Nat.min_eq_left hm]
    · rw [Nat.min_eq_right (by omega), Nat.div_eq_of_lt x.isLt, Nat.div_eq_of_lt]
      exact Nat.lt_of_lt_of_le x.isLt (Nat.pow_le_pow_right (by decide) (by omega))
  simp only [binOpD, w32, shiftOp, show ¬ ((m : Int) < 0) from by omega, if_false, IntKind.bits, Int.toNat_natCast, e]
theorem conv_i_w32 (k : IntKind) (z : Int) : convD .u32 (.int k z) = some (w32 (BitVec.ofInt 32 z)) := by simp only [convD, w32, wrap_w32]
theorem conv_w32_i64 (x : BitVec 32) : convD .i64 (w32 x) = some (.int .i64 (x.toNat : Int)) := by
  simp only [convD, w32, IntKind.wrap, IntKind.signed, IntKind.bits]
  have := x.isLt
  simp only [Bool.true_and, decide_eq_true_eq, ge_iff_le]
  rw [show (x.toNat : Int) % 2 ^ 64 = x.toNat from by omega, if_neg (by omega)]

def w64 (x : BitVec 64) : DV := .int .u64 x.toNat
theorem wrap_w64 (z : Int) : IntKind.u64.wrap z = ((BitVec.ofInt 64 z).toNat : Int) := by
  simp only [IntKind.wrap, IntKind.signed, IntKind.bits, BitVec.toNat_ofInt, Bool.false_and, Bool.false_eq_true, if_false]
  omega
theorem iD_w64 (x : BitVec 64) : iD (w64 x) = some (x.toNat : Int) := rfl
theorem known_w64 (x : BitVec 64) : (w64 x).known = true := rfl
theorem one_w64 (x : BitVec 64) : (w64 x).one = true := rfl
theorem cells_w64 (x : BitVec 64) : (w64 x).cells = [w64 x] := rfl
theorem pure_w64 (x : BitVec 64) : pureD (w64 x) = true := rfl
theorem scal_w64 (x : BitVec 64) : scal (w64 x) = true := rfl
theorem snap_w64 (h : List AObj) (k : Nat) (x : BitVec 64) : snap h k (w64 x) = some (w64 x) := by cases k <;> rfl
theorem inj_w64 (x y : BitVec 64) : (w64 x = w64 y) = (x = y) := by
  refine propext ⟨fun e => ?_, fun e => by rw [e]⟩
  simp [w64] at e
  exact BitVec.eq_of_toNat_eq (by omega)
theorem nat_inj_w64 (x y : BitVec 64) : ((x.toNat : Int) = (y.toNat : Int)) = (x = y) := propext ⟨fun e => BitVec.eq_of_toNat_eq (by omega), fun e => by rw [e]⟩
theorem badd_w64 (x y : BitVec 64) : binOpD .add (w64 x) (w64 y) = some (w64 (x + y)) := by
  simp only [binOpD, w64, intOp, if_true, wrap_w64, BitVec.ofInt_add, ofInt_toNat]
theorem bmul_w64 (x y : BitVec 64) : binOpD .mul (w64 x) (w64 y) = some (w64 (x * y)) := by
  simp only [binOpD, w64, intOp, if_true, wrap_w64, BitVec.ofInt_mul, ofInt_toNat]
theorem bsub_w64 (x y : BitVec 64) : binOpD .sub (w64 x) (w64 y) = some (w64 (x - y)) := by
  simp only [binOpD, w64, intOp, if_true, wrap_w64, Int.sub_eq_add_neg, BitVec.ofInt_add, BitVec.ofInt_neg, BitVec.sub_eq_add_neg, ofInt_toNat]
theorem band_w64 (x y : BitVec 64) : binOpD .and (w64 x) (w64 y) = some (w64 (x &&& y)) := by
  have e : bits .and .u64 (x.toNat : Int) (y.toNat : Int) = ((x &&& y : BitVec 64).toNat : Int) := by
    show IntKind.u64.wrap ((BitVec.ofInt 64 x.toNat &&& BitVec.ofInt 64 y.toNat).toNat : Int) = _
    rw [wrap_w64, ofInt_toNat, ofInt_toNat, ofInt_toNat]
  simp only [binOpD, w64, intOp, if_true, e]
theorem bor_w64 (x y : BitVec 64) : binOpD .or (w64 x) (w64 y) = some (w64 (x ||| y)) := by
  have e : bits .or .u64 (x.toNat : Int) (y.toNat : Int) = ((x ||| y : BitVec 64).toNat : Int) := by
    show IntKind.u64.wrap ((BitVec.ofInt 64 x.toNat ||| BitVec.ofInt 64 y.toNat).toNat : Int) = _
    rw [wrap_w64, ofInt_toNat, ofInt_toNat, ofInt_toNat]
  simp only [binOpD, w64, intOp, if_true, e]
theorem bxor_w64 (x y : BitVec 64) : binOpD .xor (w64 x) (w64 y) = some (w64 (x ^^^ y)) := by
  have e : bits .xor .u64 (x.toNat : Int) (y.toNat : Int) = ((x ^^^ y : BitVec 64).toNat : Int) := by
    show IntKind.u64.wrap ((BitVec.ofInt 64 x.toNat ^^^ BitVec.ofInt 64 y.toNat).toNat : Int) = _
    rw [wrap_w64, ofInt_toNat, ofInt_toNat, ofInt_toNat]
  simp only [binOpD, w64, intOp, if_true, e]
theorem bandNot_w64 (x y : BitVec 64) : binOpD .andNot (w64 x) (w64 y) = some (w64 (x &&& ~~~y)) := by
  have e : bits .andNot .u64 (x.toNat : Int) (y.toNat : Int) = ((x &&& ~~~y : BitVec 64).toNat : Int) := by
    show IntKind.u64.wrap ((BitVec.ofInt 64 x.toNat &&& ~~~BitVec.ofInt 64 y.toNat).toNat : Int) = _
    rw [wrap_w64, ofInt_toNat, ofInt_toNat, ofInt_toNat]
  simp only [binOpD, w64, intOp, if_true, e]
theorem ccompl_w64 (x : BitVec 64) : unD .xor (w64 x) = some (w64 (~~~x)) := by
  have e : bits .xor .u64 IntKind.u64.max (x.toNat : Int) = ((~~~x : BitVec 64).toNat : Int) := by
    show IntKind.u64.wrap ((BitVec.ofInt 64 IntKind.u64.max ^^^ BitVec.ofInt 64 x.toNat).toNat : Int) = _
    rw [wrap_w64, ofInt_toNat, ofInt_toNat, show BitVec.ofInt 64 IntKind.u64.max = BitVec.allOnes 64 from by decide, BitVec.allOnes_xor]
  simp only [unD, w64, IntKind.signed, Bool.false_eq_true, if_false, e]
theorem beql_w64 (x y : BitVec 64) : binOpD .eql (w64 x) (w64 y) = some (.bool (x == y)) := by
  have e : ((x.toNat : Int) == (y.toNat : Int)) = (x == y) := by
    rw [Bool.eq_iff_iff]; simp [nat_inj_w64]
  simp only [binOpD, w64, intOp, if_true, e]
theorem bneq_w64 (x y : BitVec 64) : binOpD .neq (w64 x) (w64 y) = some (.bool (x != y)) := by
  have e : ((x.toNat : Int) != (y.toNat : Int)) = (x != y) := by
    rw [Bool.eq_iff_iff]; simp [nat_inj_w64]
  simp only [binOpD, w64, intOp, if_true, e]
theorem blss_w64 (x y : BitVec 64) : binOpD .lss (w64 x) (w64 y) = some (.bool (decide (x < y))) := by
  simp only [binOpD, w64, intOp, if_true, BitVec.lt_def, Int.ofNat_lt]
theorem bleq_w64 (x y : BitVec 64) : binOpD .leq (w64 x) (w64 y) = some (.bool (decide (x ≤ y))) := by
  simp only [binOpD, w64, intOp, if_true, BitVec.le_def, Int.ofNat_le]
theorem bgtr_w64 (x y : BitVec 64) : binOpD .gtr (w64 x) (w64 y) = some (.bool (decide (y < x))) := by
  simp only [binOpD, w64, intOp, if_true, BitVec.lt_def, GT.gt, Int.ofNat_lt]
theorem bgeq_w64 (x y : BitVec 64) : binOpD .geq (w64 x) (w64 y) = some (.bool (decide (y ≤ x))) := by
  simp only [binOpD, w64, intOp, if_true, BitVec.le_def, GE.ge, Int.ofNat_le]
theorem bshl_w64 (x : BitVec 64) (k : IntKind) (m : Nat) : binOpD .shl (w64 x) (.int k (m : Int)) = some (w64 (x <<< m)) := by
  have e : IntKind.u64.wrap ((x.toNat : Int) * 2 ^ min m 64) = ((x <<< m).toNat : Int) := by
    rw [wrap_w64]
    congr 1
    rw [show ((x.toNat : Int) * 2 ^ min m 64) = ((x.toNat * 2 ^ min m 64 : Nat) : Int) from by simp, BitVec.ofInt_natCast, BitVec.toNat_ofNat, BitVec.toNat_shiftLeft, Nat.shiftLeft_eq]
    by_cases hm : m ≤ 64
    · rw [Nat.min_eq_left hm]
    · rw [Nat.min_eq_right (by omega)]
      obtain ⟨j, rfl⟩ : ∃ j, m = 64 + j := ⟨m - 64, by omega⟩
      rw [Nat.pow_add, ← Nat.mul_assoc, Nat.mul_right_comm, Nat.mul_mod_left, Nat.mul_mod_left]
  simp only [binOpD, w64, shiftOp, show ¬ ((m : Int) < 0) from by omega, if_false, IntKind.bits, Int.toNat_natCast, e]
theorem bshr_w64 (x : BitVec 64) (k : IntKind) (m : Nat) : binOpD .shr (w64 x) (.int k (m : Int)) = some (w64 (x >>> m)) := by
  have e : (x.toNat : Int).fdiv (2 ^ min m 64) = ((x >>> m).toNat : Int) := by
    rw [Int.fdiv_eq_ediv_of_nonneg _ (by exact Int.le_of_lt (Int.pow_pos (by decide))), show ((2 : Int) ^ min m 64) = ((2 ^ min m 64 : Nat) : Int) from by simp, ← Int.natCast_ediv]
    congr 1
    rw [BitVec.toNat_ushiftRight, Nat.shiftRight_eq_div_pow]
    by_cases hm : m ≤ 64
    · rw [Nat.min_eq_left hm]
    · rw [Nat.min_eq_right (by omega), Nat.div_eq_of_lt x.isLt, Nat.div_eq_of_lt]
      exact Nat.lt_of_lt_of_le x.isLt (Nat.pow_le_pow_right (by decide) (by omega))
  simp only [binOpD, w64, shiftOp, show ¬ ((m : Int) < 0) from by omega, if_false, IntKind.bits, Int.toNat_natCast, e]
theorem conv_i_w64 (k : IntKind) (z : Int) : convD .u64 (.int k z) = some (w64 (BitVec.ofInt 64 z)) := by simp only [convD, w64, wrap_w64]
theorem conv_w64_i64 (x : BitVec 64) : convD .i64 (w64 x) = some (.int .i64 (x.toInt : Int)) := by
  simp only [convD, w64, IntKind.wrap, IntKind.signed, IntKind.bits]
  have := x.isLt
  simp only [Bool.true_and, decide_eq_true_eq, ge_iff_le, BitVec.toInt_eq_toNat_cond]
  rw [show (x.toNat : Int) % 2 ^ 64 = x.toNat from by omega]
  congr 2
  split <;> split <;> omega
theorem bshl_w8_w8 (x : BitVec 8) (y : BitVec 8) : binOpD .shl (w8 x) (w8 y) = some (w8 (x <<< y.toNat)) := by rw [show w8 y = .int _ (y.toNat : Int) from rfl]; exact bshl_w8 _ _ _
theorem bshr_w8_w8 (x : BitVec 8) (y : BitVec 8) : binOpD .shr (w8 x) (w8 y) = some (w8 (x >>> y.toNat)) := by rw [show w8 y = .int _ (y.toNat : Int) from rfl]; exact bshr_w8 _ _ _
theorem bshl_w8_w32 (x : BitVec 8) (y : BitVec 32) : binOpD .shl (w8 x) (w32 y) = some (w8 (x <<< y.toNat)) := by rw [show w32 y = .int _ (y.toNat : Int) from rfl]; exact bshl_w8 _ _ _
theorem bshr_w8_w32 (x : BitVec 8) (y : BitVec 32) : binOpD .shr (w8 x) (w32 y) = some (w8 (x >>> y.toNat)) := by rw [show w32 y = .int _ (y.toNat : Int) from rfl]; exact bshr_w8 _ _ _
theorem bshl_w8_w64 (x : BitVec 8) (y : BitVec 64) : binOpD .shl (w8 x) (w64 y) = some (w8 (x <<< y.toNat)) := by rw [show w64 y = .int _ (y.toNat : Int) from rfl]; exact bshl_w8 _ _ _
theorem bshr_w8_w64 (x : BitVec 8) (y : BitVec 64) : binOpD .shr (w8 x) (w64 y) = some (w8 (x >>> y.toNat)) := by rw [show w64 y = .int _ (y.toNat : Int) from rfl]; exact bshr_w8 _ _ _
theorem bshl_w32_w8 (x : BitVec 32) (y : BitVec 8) : binOpD .shl (w32 x) (w8 y) = some (w32 (x <<< y.toNat)) := by rw [show w8 y = .int _ (y.toNat : Int) from rfl]; exact bshl_w32 _ _ _
theorem bshr_w32_w8 (x : BitVec 32) (y : BitVec 8) : binOpD .shr (w32 x) (w8 y) = some (w32 (x >>> y.toNat)) := by rw [show w8 y = .int _ (y.toNat : Int) from rfl]; exact bshr_w32 _ _ _
theorem bshl_w32_w32 (x : BitVec 32) (y : BitVec 32) : binOpD .shl (w32 x) (w32 y) = some (w32 (x <<< y.toNat)) := by rw [show w32 y = .int _ (y.toNat : Int) from rfl]; exact bshl_w32 _ _ _
theorem bshr_w32_w32 (x : BitVec 32) (y : BitVec 32) : binOpD .shr (w32 x) (w32 y) = some (w32 (x >>> y.toNat)) := by rw [show w32 y = .int _ (y.toNat : Int) from rfl]; exact bshr_w32 _ _ _
theorem bshl_w32_w64 (x : BitVec 32) (y : BitVec 64) : binOpD .shl (w32 x) (w64 y) = some (w32 (x <<< y.toNat)) := by rw [show w64 y = .int _ (y.toNat : Int) from rfl]; exact bshl_w32 _ _ _
theorem bshr_w32_w64 (x : BitVec 32) (y : BitVec 64) : binOpD .shr (w32 x) (w64 y) = some (w32 (x >>> y.toNat)) := by rw [show w64 y = .int _ (y.toNat : Int) from rfl]; exact bshr_w32 _ _ _
theorem bshl_w64_w8 (x : BitVec 64) (y : BitVec 8) : binOpD .shl (w64 x) (w8 y) = some (w64 (x <<< y.toNat)) := by rw [show w8 y = .int _ (y.toNat : Int) from rfl]; exact bshl_w64 _ _ _
theorem bshr_w64_w8 (x : BitVec 64) (y : BitVec 8) : binOpD .shr (w64 x) (w8 y) = some (w64 (x >>> y.toNat)) := by rw [show w8 y = .int _ (y.toNat : Int) from rfl]; exact bshr_w64 _ _ _
theorem bshl_w64_w32 (x : BitVec 64) (y : BitVec 32) : binOpD .shl (w64 x) (w32 y) = some (w64 (x <<< y.toNat)) := by rw [show w32 y = .int _ (y.toNat : Int) from rfl]; exact bshl_w64 _ _ _
theorem bshr_w64_w32 (x : BitVec 64) (y : BitVec 32) : binOpD .shr (w64 x) (w32 y) = some (w64 (x >>> y.toNat)) := by rw [show w32 y = .int _ (y.toNat : Int) from rfl]; exact bshr_w64 _ _ _
theorem bshl_w64_w64 (x : BitVec 64) (y : BitVec 64) : binOpD .shl (w64 x) (w64 y) = some (w64 (x <<< y.toNat)) := by rw [show w64 y = .int _ (y.toNat : Int) from rfl]; exact bshl_w64 _ _ _
theorem bshr_w64_w64 (x : BitVec 64) (y : BitVec 64) : binOpD .shr (w64 x) (w64 y) = some (w64 (x >>> y.toNat)) := by rw [show w64 y = .int _ (y.toNat : Int) from rfl]; exact bshr_w64 _ _ _
theorem conv_w8_w8 (x : BitVec 8) : convD .u8 (w8 x) = some (w8 (x.setWidth 8)) := by
  have e : IntKind.u8.wrap (x.toNat : Int) = ((x.setWidth 8).toNat : Int) := by rw [wrap_w8, BitVec.ofInt_natCast, BitVec.toNat_ofNat, BitVec.toNat_setWidth]
  simp only [convD, w8, w8, e]
theorem conv_w8_w32 (x : BitVec 8) : convD .u32 (w8 x) = some (w32 (x.setWidth 32)) := by
  have e : IntKind.u32.wrap (x.toNat : Int) = ((x.setWidth 32).toNat : Int) := by rw [wrap_w32, BitVec.ofInt_natCast, BitVec.toNat_ofNat, BitVec.toNat_setWidth]
  simp only [convD, w8, w32, e]
theorem conv_w8_w64 (x : BitVec 8) : convD .u64 (w8 x) = some (w64 (x.setWidth 64)) := by
  have e : IntKind.u64.wrap (x.toNat : Int) = ((x.setWidth 64).toNat : Int) := by rw [wrap_w64, BitVec.ofInt_natCast, BitVec.toNat_ofNat, BitVec.toNat_setWidth]
  simp only [convD, w8, w64, e]
theorem conv_w32_w8 (x : BitVec 32) : convD .u8 (w32 x) = some (w8 (x.setWidth 8)) := by
  have e : IntKind.u8.wrap (x.toNat : Int) = ((x.setWidth 8).toNat : Int) := by rw [wrap_w8, BitVec.ofInt_natCast, BitVec.toNat_ofNat, BitVec.toNat_setWidth]
  simp only [convD, w32, w8, e]
theorem conv_w32_w32 (x : BitVec 32) : convD .u32 (w32 x) = some (w32 (x.setWidth 32)) := by
  have e : IntKind.u32.wrap (x.toNat : Int) = ((x.setWidth 32).toNat : Int) := by rw [wrap_w32, BitVec.ofInt_natCast, BitVec.toNat_ofNat, BitVec.toNat_setWidth]
  simp only [convD, w32, w32, e]
theorem conv_w32_w64 (x : BitVec 32) : convD .u64 (w32 x) = some (w64 (x.setWidth 64)) := by
  have e : IntKind.u64.wrap (x.toNat : Int) = ((x.setWidth 64).toNat : Int) := by rw [wrap_w64, BitVec.ofInt_natCast, BitVec.toNat_ofNat, BitVec.toNat_setWidth]
  simp only [convD, w32, w64, e]
theorem conv_w64_w8 (x : BitVec 64) : convD .u8 (w64 x) = some (w8 (x.setWidth 8)) := by
  have e : IntKind.u8.wrap (x.toNat : Int) = ((x.setWidth 8).toNat : Int) := by rw [wrap_w8, BitVec.ofInt_natCast, BitVec.toNat_ofNat, BitVec.toNat_setWidth]
  simp only [convD, w64, w8, e]
theorem conv_w64_w32 (x : BitVec 64) : convD .u32 (w64 x) = some (w32 (x.setWidth 32)) := by
  have e : IntKind.u32.wrap (x.toNat : Int) = ((x.setWidth 32).toNat : Int) := by rw [wrap_w32, BitVec.ofInt_natCast, BitVec.toNat_ofNat, BitVec.toNat_setWidth]
  simp only [convD, w64, w32, e]
theorem conv_w64_w64 (x : BitVec 64) : convD .u64 (w64 x) = some (w64 (x.setWidth 64)) := by
  have e : IntKind.u64.wrap (x.toNat : Int) = ((x.setWidth 64).toNat : Int) := by rw [wrap_w64, BitVec.ofInt_natCast, BitVec.toNat_ofNat, BitVec.toNat_setWidth]
  simp only [convD, w64, w64, e]

attribute [simp] getT_zero getT_succ SO_nil SO_op SO_guard' stepD_some stepD_none guardD_go guardD_go' guardD_skip guardD_skip' guardD_tup W_skip W_exit W_ret W_region normK_eq W_seq seqK_normal seqK_exit seqK_ret W_block blockK_normal blockK_same blockK_ne blockK_ret W_cond condD_true condD_false loopK_normal loopK_exit loopK_ret retK_ret retK_normal retH_ret retH_normal retG_ret retG_normal
  pr_some pr_none E_mov E_pick E_bin E_eqa E_eqb E_eqn E_un E_conv E_strid E_csb E_cbs E_load E_store E_idxS E_idxA E_fld E_getf E_idxV E_idxStr E_slcS E_slcA E_slcStr E_alloc E_box E_build E_bsl E_mks E_lenStr E_len E_cpy E_clr E_apart E_mkf E_nilc E_ext E_call E_callN callFN_fn ev_t ev_k putT_some putT_none opO_some opO_none withI_some callF_fn objAt_zero objAt_succ objV_zero objV_succ vis_ref vis_mp visS_sl visS_nils visS_ms
  addT_same addT_ne iD_int unD_not unD_neg storeD_mp pickD_true pickD_false eqaD_agg eqbD_bool eqnD_some stridD_str csbD_str cbsD_some loadD_some fldD_ref fldD_mp lenStrD_str lenD_nils lenD_sl lenD_ms nilcD_mp nilcD_ref nilcD_fn extD_tup nilKind_nils nilKind_sl nilKind_nilp nilKind_ref nilKind_nili nilKind_iface nilKind_nilf nilKind_fn
  iD_w8 known_w8 one_w8 cells_w8 pure_w8 scal_w8 snap_w8 inj_w8 ccompl_w8 bshl_w8 bshr_w8 conv_i_w8 conv_w8_i64 badd_w8 bmul_w8 bsub_w8 band_w8 bor_w8 bxor_w8 bandNot_w8 beql_w8 bneq_w8 blss_w8 bleq_w8 bgtr_w8 bgeq_w8 bshl_w8_w8 bshr_w8_w8 conv_w8_w8 bshl_w8_w32 bshr_w8_w32 conv_w8_w32 bshl_w8_w64 bshr_w8_w64 conv_w8_w64
  iD_w32 known_w32 one_w32 cells_w32 pure_w32 scal_w32 snap_w32 inj_w32 ccompl_w32 bshl_w32 bshr_w32 conv_i_w32 conv_w32_i64 badd_w32 bmul_w32 bsub_w32 band_w32 bor_w32 bxor_w32 bandNot_w32 beql_w32 bneq_w32 blss_w32 bleq_w32 bgtr_w32 bgeq_w32 bshl_w32_w8 bshr_w32_w8 conv_w32_w8 bshl_w32_w32 bshr_w32_w32 conv_w32_w32 bshl_w32_w64 bshr_w32_w64 conv_w32_w64
  iD_w64 known_w64 one_w64 cells_w64 pure_w64 scal_w64 snap_w64 inj_w64 ccompl_w64 bshl_w64 bshr_w64 conv_i_w64 conv_w64_i64 badd_w64 bmul_w64 bsub_w64 band_w64 bor_w64 bxor_w64 bandNot_w64 beql_w64 bneq_w64 blss_w64 bleq_w64 bgtr_w64 bgeq_w64 bshl_w64_w8 bshr_w64_w8 conv_w64_w8 bshl_w64_w32 bshr_w64_w32 conv_w64_w32 bshl_w64_w64 bshr_w64_w64 conv_w64_w64

/-! contracts -/
theorem callD_pure {c : List DV → Option DV} {dr : Bool} {args : List DV} {h : List AObj} : callD (.pure c) dr args h = pr (pureC c args h) h := rfl
theorem callDN_pure {c : List DV → Option DV} {args : List DV} {h : List AObj} : callDN (.pure c) args h = pr (pureC c args h) h := rfl
/-- a call that has laid new objects -/
def laidN (h : List AObj) : Option (DV × List AObj) → Option (DV × List AObj)
  | some (v, k) => some (v, h ++ k)
  | none => none
theorem laidN_some {h k : List AObj} {v : DV} : laidN h (some (v, k)) = some (v, h ++ k) := rfl
theorem callDN_new {c : List DV → Nat → Option (DV × List AObj)} {args : List DV} {h : List AObj} : callDN (.new c) args h = laidN h (c args h.length) := by
  simp only [callDN]; cases c args h.length <;> rfl
theorem callD_new {c : List DV → Nat → Option (DV × List AObj)} {args : List DV} {h : List AObj} : callD (.new c) false args h = laidN h (c args h.length) := by
  simp only [callD, Bool.false_eq_true, if_false]; cases c args h.length <;> rfl
theorem callD_heap {c : List DV → List AObj → Option (DV × List AObj)} {args : List DV} {h : List AObj} : callD (.heap c) false args h = c args h := rfl
theorem pureC_of {c : List DV → Option DV} {args : List DV} {h : List AObj} (hp : pureL args = true) : pureC c args h = c args := by simp [pureC, hp]
theorem pureC_snap {c : List DV → Option DV} {args : List DV} {h : List AObj} (hp : pureL args = false) : pureC c args h = (snapL h 3 args).bind fun a => (c a).bind fun v => if scal v = true then some v else none := by simp [pureC, hp]
attribute [simp] callD_pure callD_heap callD_new callDN_pure callDN_new laidN_some

open Classical in
/-- a contract: for all data a with A a: at the arguments f a the answer is g a -/
noncomputable def con {α : Type} (A : α → Prop) (f : α → List DV) (g : α → DV) (args : List DV) : Option DV :=
  if h : ∃ a, A a ∧ f a = args then some (g h.choose) else none
theorem con_eq {α : Type} {A : α → Prop} {f : α → List DV} {g : α → DV} (hinj : ∀ a b, f a = f b → g a = g b) (a : α) (ha : A a) : con A f g (f a) = some (g a) := by
  have h : ∃ b, A b ∧ f b = f a := ⟨a, ha, rfl⟩
  unfold con
  rw [dif_pos h]
  exact congrArg some (hinj _ _ h.choose_spec.2)
theorem con_sound {P : Program} {k : FuncId} {α : Type} {A : α → Prop} {f : α → List DV} {g : α → DV} (hs : ∀ a, A a → Am.Sem P k (f a) (g a)) : (Con.pure (con A f g)).Sound P k := by
  intro args v hv
  unfold con at hv
  split at hv
  · rename_i h
    simp at hv; subst hv
    have := hs _ h.choose_spec.1
    rwa [h.choose_spec.2] at this
  · simp at hv

open Classical in
/-- a contract in states with objects -/
noncomputable def conH {α : Type} (A : α → Prop) (f : α → List DV × List AObj) (g : α → DV × List AObj) (args : List DV) (h : List AObj) : Option (DV × List AObj) :=
  if h : ∃ a, A a ∧ f a = (args, h) then some (g h.choose) else none
theorem conH_eq {α : Type} {A : α → Prop} {f : α → List DV × List AObj} {g : α → DV × List AObj} (hinj : ∀ a b, f a = f b → g a = g b) (a : α) (ha : A a) : conH A f g (f a).1 (f a).2 = some (g a) := by
  have h : ∃ b, A b ∧ f b = ((f a).1, (f a).2) := ⟨a, ha, rfl⟩
  unfold conH
  rw [dif_pos h]
  exact congrArg some (hinj _ _ h.choose_spec.2)
theorem conH_sound {P : Program} {k : FuncId} {α : Type} {A : α → Prop} {f : α → List DV × List AObj} {g : α → DV × List AObj} (hs : ∀ a, A a → CallsA P k (f a).1 (f a).2 (fun d h => d = (g a).1 ∧ h = (g a).2)) : (Con.heap (conH A f g)).Sound P k := by
  intro args h v h' hv
  unfold conH at hv
  split at hv
  · rename_i hx
    have hv' : g hx.choose = (v, h') := by simpa using hv
    have := hs _ hx.choose_spec.1
    rwa [hx.choose_spec.2, hv'] at this
  · simp at hv
end Go.Am
