/-
  1 texts of mine in one.
-/
import Derived.Test.YtdnhbfmlklaldaaGreatC5f0ea989
import Derived.Test.YtdnhbfmlklaldaaGreatC7ec6da1e
import Derived.Test.YtdnhbfmlklaldaaGreatCd2e92958
/-
  The abstract machine, part 32: the state in which objects that are not kept have become pure, computed.
-/
set_option linter.unusedSimpArgs false
set_option linter.unusedVariables false
namespace Go.Am
open Go Go.RowKit

def fzSo (K : Nat → Bool) (h : List AObj) (k : Nat) (l : List DV) : Option (List DV) := mapAll (fzS K h k) l
section
variable {K : Nat → Bool} {h : List AObj} {k : Nat}
theorem fzS_clean {d : DV} (hp : pureD d = true) : fzS K h k d = some d := by
  cases k <;> exact snapW_pure _ d hp
theorem fzSo_clean : ∀ {l : List DV}, pureL l = true → fzSo K h k l = some l
  | [], _ => rfl
  | d :: r, hp => by
    simp only [pureL, Bool.and_eq_true] at hp
    have := fzSo_clean hp.2
    simp only [fzSo] at this
    simp only [fzSo, mapAll, fzS_clean hp.1, this, Option.bind_some, Option.map_some]
theorem fzSo_nil : fzSo K h k [] = some [] := rfl
theorem fzSo_cons {d : DV} {r : List DV} : fzSo K h k (d :: r) = (fzS K h k d).bind fun a => (fzSo K h k r).map fun b => a :: b := by
  simp only [fzSo, mapAll]
theorem fzS_int {a : IntKind} {m : Int} : fzS K h k (.int a m) = some (.int a m) := fzS_clean rfl
theorem fzS_bool {b : Bool} : fzS K h k (.bool b) = some (.bool b) := fzS_clean rfl
theorem fzS_str {s : List UInt8} : fzS K h k (.str s) = some (.str s) := fzS_clean rfl
theorem fzS_nils : fzS K h k .nils = some .nils := fzS_clean rfl
theorem fzS_nilf : fzS K h k .nilf = some .nilf := fzS_clean rfl
theorem fzS_nilp : fzS K h k .nilp = some .nilp := fzS_clean rfl
theorem fzS_junk : fzS K h k .junk = some .junk := fzS_clean rfl
theorem fzS_agg {cs : List DV} : fzS K h k (.agg cs) = (fzSo K h k cs).map .agg := by cases k <;> simp only [fzS, snapW, snapWL_eq, fzSo] <;> rfl
theorem fzS_tup {cs : List DV} : fzS K h k (.tup cs) = (fzSo K h k cs).map .tup := by cases k <;> simp only [fzS, snapW, snapWL_eq, fzSo] <;> rfl
theorem fzS_sl {b : Bool} {s m : Nat} {cs : List DV} : fzS K h k (.sl b s m cs) = (fzSo K h k cs).map (.sl b s m) := by cases k <;> simp only [fzS, snapW, snapWL_eq, fzSo] <;> rfl
theorem fzS_ref {cs : List DV} : fzS K h k (.ref cs) = (fzSo K h k cs).map .ref := by cases k <;> simp only [fzS, snapW, snapWL_eq, fzSo] <;> rfl
theorem fzS_fn {f : Fn} {a b : List DV} : fzS K h k (.fn f a b) = (fzSo K h k a).bind fun a => (fzSo K h k b).map fun b => .fn f a b := by cases k <;> simp only [fzS, snapW, snapWL_eq, fzSo] <;> rfl
theorem bind_objV {α : Type} {h : List AObj} {id ver : Nat} {f : List DV → Option α} : ((objAt h id).bind fun l => if l.length = ver then f l else none) = (objV h id ver).bind f := by
  unfold objV
  cases objAt h id with
  | none => rfl
  | some l => simp only [Option.bind_some]; split <;> rfl
theorem fzS_mp {id ver off : Nat} : fzS K h (k + 1) (.mp id ver off) = if K id then some (.mp id ver off) else (objV h id ver).bind fun l => (fzSo K h k (l.drop off)).map .ref := by
  simp only [fzS, snapW]
  split
  · rfl
  · exact bind_objV
theorem fzS_ms {id ver off s m lim : Nat} : fzS K h (k + 1) (.ms id ver off s m lim) = if K id then some (.ms id ver off s m lim) else (objV h id ver).bind fun l => (fzSo K h k ((l.drop off).take (m * s))).map fun cs => .sl false s m cs := by
  simp only [fzS, snapW]
  split
  · rfl
  · exact bind_objV
theorem fzS_mp3 {id ver off : Nat} : fzS K h 3 (.mp id ver off) = if K id then some (.mp id ver off) else (objV h id ver).bind fun l => (fzSo K h 2 (l.drop off)).map .ref := fzS_mp
theorem fzS_mp2 {id ver off : Nat} : fzS K h 2 (.mp id ver off) = if K id then some (.mp id ver off) else (objV h id ver).bind fun l => (fzSo K h 1 (l.drop off)).map .ref := fzS_mp
theorem fzS_mp1 {id ver off : Nat} : fzS K h 1 (.mp id ver off) = if K id then some (.mp id ver off) else (objV h id ver).bind fun l => (fzSo K h 0 (l.drop off)).map .ref := fzS_mp
theorem fzS_ms3 {id ver off s m lim : Nat} : fzS K h 3 (.ms id ver off s m lim) = if K id then some (.ms id ver off s m lim) else (objV h id ver).bind fun l => (fzSo K h 2 ((l.drop off).take (m * s))).map fun cs => .sl false s m cs := fzS_ms
theorem fzS_ms2 {id ver off s m lim : Nat} : fzS K h 2 (.ms id ver off s m lim) = if K id then some (.ms id ver off s m lim) else (objV h id ver).bind fun l => (fzSo K h 1 ((l.drop off).take (m * s))).map fun cs => .sl false s m cs := fzS_ms
/-- a datum made pure, or forgotten -/
def mk1 (K : Nat → Bool) (h : List AObj) (d : DV) : DV := (fzS K h 3 d).getD .junk
def mkL (K : Nat → Bool) (h : List AObj) : List DV → List DV
  | [] => []
  | d :: r => mk1 K h d :: mkL K h r
def mkO (K : Nat → Bool) (h : List AObj) : Nat → List AObj → List AObj
  | _, [] => []
  | i, .cells a :: r => (if K i then .cells (mkL K h a) else .dead) :: mkO K h (i + 1) r
  | i, .dead :: r => .dead :: mkO K h (i + 1) r
theorem fzSL_mk : ∀ (l : List DV), fzSL K h l (mkL K h l)
  | [] => trivial
  | d :: r => by
    refine ⟨?_, fzSL_mk r⟩
    unfold mk1
    cases e : fzS K h 3 d with
    | none => exact .inl rfl
    | some b => exact .inr (.inr rfl)
theorem fzSH_mk : ∀ (i : Nat) (l : List AObj), fzSH K h i l (mkO K h i l)
  | _, [] => trivial
  | i, .cells a :: r => by
    unfold mkO
    cases e : K i with
    | true => rw [if_pos rfl]; exact ⟨e, fzSL_mk a, fzSH_mk (i + 1) r⟩
    | false => rw [if_neg (by simp)]; exact ⟨e, fzSH_mk (i + 1) r⟩
  | i, .dead :: r => fzSH_mk (i + 1) r
theorem V_mk {P : Program} {n0 : Nat} {x : ACode} {Φ : AExit → St → Prop} {t : List DV} (K : Nat → Bool) (hv : V P n0 x Φ ⟨mkL K h t, mkO K h 0 h⟩) : V P n0 x Φ ⟨t, h⟩ :=
  V_mask (fzSL_mk t) (fzSH_mk 0 h) hv
theorem mk1_def {d e : DV} (h' : fzS K h 3 d = some e) : mk1 K h d = e := by unfold mk1; rw [h']; rfl
theorem mk1_clean {d : DV} (hp : pureD d = true) : mk1 K h d = d := mk1_def (fzS_clean hp)
theorem mkL_clean : ∀ {l : List DV}, pureL l = true → mkL K h l = l
  | [], _ => rfl
  | d :: r, hp => by
    simp only [pureL, Bool.and_eq_true] at hp
    rw [mkL, mk1_clean hp.1, mkL_clean hp.2]
theorem mkL_nil : mkL K h [] = [] := rfl
theorem mkL_cons {d : DV} {r : List DV} : mkL K h (d :: r) = mk1 K h d :: mkL K h r := rfl
theorem mkO_nil {i : Nat} : mkO K h i [] = [] := rfl
theorem mkO_cells {i : Nat} {a : List DV} {r : List AObj} : mkO K h i (.cells a :: r) = (if K i then .cells (mkL K h a) else .dead) :: mkO K h (i + 1) r := rfl
theorem mkO_dead {i : Nat} {r : List AObj} : mkO K h i (.dead :: r) = .dead :: mkO K h (i + 1) r := rfl
theorem mk1_int {a : IntKind} {m : Int} : mk1 K h (.int a m) = .int a m := mk1_clean rfl
theorem mk1_bool {b : Bool} : mk1 K h (.bool b) = .bool b := mk1_clean rfl
theorem mk1_str {s : List UInt8} : mk1 K h (.str s) = .str s := mk1_clean rfl
theorem mk1_nils : mk1 K h .nils = .nils := mk1_clean rfl
theorem mk1_nilf : mk1 K h .nilf = .nilf := mk1_clean rfl
theorem mk1_nilp : mk1 K h .nilp = .nilp := mk1_clean rfl
theorem mk1_junk : mk1 K h .junk = .junk := mk1_clean rfl
theorem mk1_agg {cs : List DV} (hp : pureL cs = true) : mk1 K h (.agg cs) = .agg cs := mk1_clean (by simpa [pureD] using hp)
theorem mk1_sl {b : Bool} {s m : Nat} {cs : List DV} (hp : pureL cs = true) : mk1 K h (.sl b s m cs) = .sl b s m cs := mk1_clean (by simpa [pureD] using hp)
theorem mk1_ref {cs : List DV} (hp : pureL cs = true) : mk1 K h (.ref cs) = .ref cs := mk1_clean (by simpa [pureD] using hp)
theorem mk1_tup {cs : List DV} (hp : pureL cs = true) : mk1 K h (.tup cs) = .tup cs := mk1_clean (by simpa [pureD] using hp)
theorem mk1_fn {f : Fn} {a b : List DV} : mk1 K h (.fn f a b) = ((fzSo K h 3 a).bind fun a => (fzSo K h 3 b).map fun b => DV.fn f a b).getD .junk := by rw [mk1, fzS_fn]
theorem mk1_mp {id ver off : Nat} : mk1 K h (.mp id ver off) = (if K id then some (DV.mp id ver off) else (objV h id ver).bind fun l => (fzSo K h 2 (l.drop off)).map DV.ref).getD .junk := by rw [mk1, fzS_mp3]
theorem mk1_ms {id ver off s m lim : Nat} : mk1 K h (.ms id ver off s m lim) = (if K id then some (DV.ms id ver off s m lim) else (objV h id ver).bind fun l => (fzSo K h 2 ((l.drop off).take (m * s))).map fun cs => DV.sl false s m cs).getD .junk := by rw [mk1, fzS_ms3]
end
theorem pieceK_ret {P : Program} {n0 : Nat} {y : ACode} {Φ : AExit → St → Prop} {st : St} : pieceK P n0 y Φ .ret st = Φ .ret st := rfl
theorem pieceK_exit {P : Program} {n0 i : Nat} {y : ACode} {Φ : AExit → St → Prop} {st : St} : pieceK P n0 y Φ (.exit i) st = Φ (.exit i) st := rfl
attribute [simp] pieceK_ret pieceK_exit fzSo_nil fzSo_cons fzSo_clean fzS_int fzS_bool fzS_str fzS_nils fzS_nilf fzS_nilp fzS_junk fzS_agg fzS_tup fzS_sl fzS_ref fzS_fn fzS_mp3 fzS_mp2 fzS_mp1 fzS_ms3 fzS_ms2 mkL_clean mkL_nil mkL_cons mkO_nil mkO_cells mkO_dead mk1_int mk1_bool mk1_str mk1_nils mk1_nilf mk1_nilp mk1_junk mk1_agg mk1_sl mk1_ref mk1_tup mk1_fn mk1_mp mk1_ms
end Go.Am
