/-
  The iterator of base4: it yields the four digits.
-/
import Derived.Test.YthkcgeokfcbllaaFd
import Derived.RangeFuncBox
import Derived.RangeFuncLeaves
import Derived.WalkKit
import Derived.OwnWalkIn
import Derived.TacticsInMore
import Derived.LoopNIn
import Derived.LoopIn
set_option linter.unusedSimpArgs false
set_option linter.unusedVariables false
namespace Go.Proofs.Ythkcgeokfcbllaa
open Go Go.RowKit Go.Am

attribute [local go_sem] Oper.semAt_some

def okDig (x : Int) : Bool := decide (0 ≤ x ∧ x ≤ 3)
abbrev Dig := { x : Int // okDig x = true }
def dig (n : Int) (i : Nat) : Int := n / 4 ^ (3 - i) % 4
theorem mod4 (x : Int) : 0 ≤ x % 4 ∧ x % 4 ≤ 3 := by omega
theorem dig_ok (n : Int) (i : Nat) : okDig (dig n i) = true := by
  have := mod4 (n / 4 ^ (3 - i))
  exact decide_eq_true this
def digs (n : Int) : List Dig := [⟨dig n 0, dig_ok n 0⟩, ⟨dig n 1, dig_ok n 1⟩, ⟨dig n 2, dig_ok n 2⟩, ⟨dig n 3, dig_ok n 3⟩]
theorem and3 : ∀ m, m < 256 → wrap64 (bits BinOp.and IntKind.u8 ((m : Nat) : Int) 3) = ((m % 4 : Nat) : Int) := by decide +kernel
theorem and3' {x : Int} (h0 : 0 ≤ x) (h1 : x < 256) : wrap64 (bits BinOp.and IntKind.u8 x 3) = x % 4 := by
  obtain ⟨m, rfl⟩ := Int.eq_ofNat_of_zero_le h0
  rw [and3 m (by omega)]
  rfl
set_option maxRecDepth 100000 in
set_option maxHeartbeats 1000000 in
theorem base4_in (l b : Nat) (n : Int) (h0 : 0 ≤ n) (h1 : n < 256) (J Jx : List Dig → World → Prop)
    (hY : ∀ pre x W, J pre W → pre.length < 4 → YieldAt Fence.wide 1 P l #[.int .i64 x.1] W fun e W' =>
      (e = .returned (.bool true) ∧ J (pre ++ [x]) W' ∧ KpB b (.int .u8 n) W W') ∨ (e = .returned (.bool false) ∧ Jx (pre ++ [x]) W'))
    (W : World) (hc : W.cell? ⟨b, 0, none⟩ = some (.int .u8 n)) (hJ : J [] W) :
    CallsIn Fence.wide 2 P 62 #[.func (.yield l) #[] #[], .pointer (some ⟨b, 0, none⟩)] W fun e W' => (∃ v, e = .returned v) ∧
      ((∃ ys, ys = digs n ∧ J ys W') ∨ (∃ pre, True ∧ Jx pre W')) := by
  refine callsIn_of_wp Try.func62 rfl trivial ?_ rfl
  simp only [Try.ntmps62, List.size_toArray, List.length_cons, List.length_nil, Nat.reduceAdd, Nat.reduceSub, Array.replicate_succ, Array.replicate_zero, List.push_toArray, List.append_toArray, List.nil_append, List.cons_append]
  gi_wp2
  gi_loopw [3] (fun p wr => ∃ i : Nat, ((i = 0 ∧ p = .int .i64 6) ∨ (i = 1 ∧ p = .int .i64 4) ∨ (i = 2 ∧ p = .int .i64 2) ∨ (i = 3 ∧ p = .int .i64 0) ∨ (i = 4 ∧ p = .int .i64 (-2))) ∧ J ((digs n).take i) wr ∧ wr.cell? ⟨b, 0, none⟩ = some (.int .u8 n))
    (fun p wr => match p with | .int _ z => (z + 2).toNat | _ => 0)
  case atStart =>
    exact ⟨0, .inl ⟨rfl, rfl⟩, hJ, hc⟩
  case round =>
    obtain ⟨i, hi, hJs, hcs⟩ := hrel
    rcases hi with ⟨rfl, rfl⟩ | ⟨rfl, rfl⟩ | ⟨rfl, rfl⟩ | ⟨rfl, rfl⟩ | ⟨rfl, rfl⟩
    · have e0 : wrap64 (bits BinOp.and IntKind.u8 (n / 64) 3) = dig n 0 := by rw [and3' (by omega) (by omega)]; simp [dig]
      obtain ⟨fn, tmps, assign, body, hy, hR⟩ := hY _ (⟨dig n 0, dig_ok n 0⟩ : Dig) wr hJs (by simp [digs])
      gi_wp2
      refine hR.mono ?_
      rintro e W3 (⟨rfl, hJ3, hk3⟩ | ⟨rfl, hJx3⟩)
      · have hc3 := hk3 hcs
        gi_wp2
        go_roundw
        case rel => exact ⟨1, by simp, hJ3, hc3⟩
        case measure => simp
      · gi_wp2
        refine bodyPost_ret (results_none rfl _ _ _) rfl ?_
        exact ⟨⟨_, rfl⟩, .inr ⟨_, trivial, hJx3⟩⟩
    · have e0 : wrap64 (bits BinOp.and IntKind.u8 (n / 16) 3) = dig n 1 := by rw [and3' (by omega) (by omega)]; simp [dig]
      obtain ⟨fn, tmps, assign, body, hy, hR⟩ := hY _ (⟨dig n 1, dig_ok n 1⟩ : Dig) wr hJs (by simp [digs])
      gi_wp2
      refine hR.mono ?_
      rintro e W3 (⟨rfl, hJ3, hk3⟩ | ⟨rfl, hJx3⟩)
      · have hc3 := hk3 hcs
        gi_wp2
        go_roundw
        case rel => exact ⟨2, by simp, hJ3, hc3⟩
        case measure => simp
      · gi_wp2
        refine bodyPost_ret (results_none rfl _ _ _) rfl ?_
        exact ⟨⟨_, rfl⟩, .inr ⟨_, trivial, hJx3⟩⟩
    · have e0 : wrap64 (bits BinOp.and IntKind.u8 (n / 4) 3) = dig n 2 := by rw [and3' (by omega) (by omega)]; simp [dig]
      obtain ⟨fn, tmps, assign, body, hy, hR⟩ := hY _ (⟨dig n 2, dig_ok n 2⟩ : Dig) wr hJs (by simp [digs])
      gi_wp2
      refine hR.mono ?_
      rintro e W3 (⟨rfl, hJ3, hk3⟩ | ⟨rfl, hJx3⟩)
      · have hc3 := hk3 hcs
        gi_wp2
        go_roundw
        case rel => exact ⟨3, by simp, hJ3, hc3⟩
        case measure => simp
      · gi_wp2
        refine bodyPost_ret (results_none rfl _ _ _) rfl ?_
        exact ⟨⟨_, rfl⟩, .inr ⟨_, trivial, hJx3⟩⟩
    · have e0 : wrap64 (bits BinOp.and IntKind.u8 n 3) = dig n 3 := by rw [and3' (by omega) (by omega)]; simp [dig]
      obtain ⟨fn, tmps, assign, body, hy, hR⟩ := hY _ (⟨dig n 3, dig_ok n 3⟩ : Dig) wr hJs (by simp [digs])
      gi_wp2
      refine hR.mono ?_
      rintro e W3 (⟨rfl, hJ3, hk3⟩ | ⟨rfl, hJx3⟩)
      · have hc3 := hk3 hcs
        gi_wp2
        go_roundw
        case rel => exact ⟨4, by simp, hJ3, hc3⟩
        case measure => simp
      · gi_wp2
        refine bodyPost_ret (results_none rfl _ _ _) rfl ?_
        exact ⟨⟨_, rfl⟩, .inr ⟨_, trivial, hJx3⟩⟩
    · gi_wp2
      go_end0
      exact ⟨⟨_, rfl⟩, .inl ⟨_, rfl, hJs⟩⟩
end Go.Proofs.Ythkcgeokfcbllaa
