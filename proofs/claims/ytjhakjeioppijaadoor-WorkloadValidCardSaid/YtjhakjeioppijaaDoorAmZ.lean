/-
  The abstract machine, part 26: functions without a body: internal/bytealg.IndexByteString and CountString.
-/
import Derived.Test.YtjhakjeioppijaaDoorAmY
import Derived.Lib.Bytealg
namespace Go.Am
open Go Go.RowKit

theorem repA_two {E : Env} {X : Forb} {w : World} {vs : Array Value} {a b : DV} (h : RepA E X w vs.toList [a, b]) : ∃ x y, vs = #[x, y] ∧ Rep E X w x a ∧ Rep E X w y b := by
  obtain ⟨hl, hr⟩ := h
  obtain ⟨l⟩ := vs
  match l, hl, hr with
  | [x, y], _, hr => exact ⟨x, y, rfl, by simpa using hr 0 (by simp) (by simp), by simpa using hr 1 (by simp) (by simp)⟩

/-- IndexByteString: the first place of a byte, or -1 -/
theorem sem_ixb {P : Program} {f : FuncId} {fn : Func} (hf : P.funcs[f]? = some fn) (h1 : (fn.name == "runtime.NumGoroutine") = false) (h2 : fn.body.isNone = true) (h3 : Extern.findNext fn = none) (h4 : Extern.find fn = some Extern.BytealgIndexByte.indexByte) (s : List UInt8) (c : BitVec 8) :
    Am.Sem P f [.str s, w8 c] (.int .i64 (Lib.indexByte s c.toNat.toUInt8)) := by
  intro X w vs _ hr
  obtain ⟨x, y, rfl, hx, hy⟩ := repA_two hr
  cases hx with
  | str b l hb =>
  cases hy
  refine .inr ⟨_, w, ?_, _, rfl, Rep.int .i64 _, Below.refl _ w⟩
  rw [run_callFunc_extern hf h1 h2 h3 h4, Lib.run_indexByteString, hb]
  rfl
/-- CountString: how often a byte occurs -/
theorem sem_count {P : Program} {f : FuncId} {fn : Func} (hf : P.funcs[f]? = some fn) (h1 : (fn.name == "runtime.NumGoroutine") = false) (h2 : fn.body.isNone = true) (h3 : Extern.findNext fn = none) (h4 : Extern.find fn = some Extern.BytealgCount.count) (s : List UInt8) (c : BitVec 8) :
    Am.Sem P f [.str s, w8 c] (.int .i64 (Lib.countByte s c.toNat.toUInt8)) := by
  intro X w vs _ hr
  obtain ⟨x, y, rfl, hx, hy⟩ := repA_two hr
  cases hx with
  | str b l hb =>
  cases hy
  refine .inr ⟨_, w, ?_, _, rfl, Rep.int .i64 _, Below.refl _ w⟩
  rw [run_callFunc_extern hf h1 h2 h3 h4, Lib.run_countString, hb]
  rfl
theorem beq_bytes {a b : List UInt8} : (a == b) = decide (a = b) := by by_cases h : a = b <;> simp [h]
theorem beql_str {a b : List UInt8} : binOpD .eql (.str a) (.str b) = some (.bool (decide (a = b))) := by simp [binOpD, strOp, beq_bytes]
theorem bneq_str {a b : List UInt8} : binOpD .neq (.str a) (.str b) = some (.bool (decide (¬ a = b))) := by simp [binOpD, strOp, beq_bytes]
theorem badd_str {a b : List UInt8} (h : a.length + b.length ≤ 4611686018427387904) : binOpD .add (.str a) (.str b) = some (.str (a ++ b)) := by simp [binOpD, strOp, h]
attribute [simp] beql_str bneq_str badd_str
end Go.Am
