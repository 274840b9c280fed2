/-
  two, Secret and Climb, of the program and of the reference.
-/
import Derived.Test.YthkcgeokfcbllaaUf
import Derived.Test.YthkcgeokfcbllaaFe
import Derived.Test.YthkcgeokfcbllaaTc
set_option linter.unusedSimpArgs false
set_option linter.unusedVariables false
namespace Go.Proofs.Ythkcgeokfcbllaa
open Go Go.Am

def two (n : Int) : List B8 := [BitVec.ofInt 8 (n / 256), BitVec.ofInt 8 n]
def secret (x : List B8) (n c : Int) : List B8 := half (3#8 :: x ++ two n ++ [BitVec.ofInt 8 c])
def step (n c : Int) (x : List B8) (i : Int) : List B8 := half (4#8 :: x ++ two n ++ [BitVec.ofInt 8 c, BitVec.ofInt 8 i])
/-- m steps from i on -/
def climbN (n c : Int) (x : List B8) (i : Int) : Nat → List B8
  | 0 => x
  | m + 1 => step n c (climbN n c x i m) (i + m)
def climb (x : List B8) (n c i j : Int) : List B8 := if i < 0 ∨ 3 < j then x else climbN n c x i (j - i).toNat
theorem len_step (n c : Int) (x : List B8) (i : Int) : (step n c x i).length = 16 := len_half _
theorem len_secret (n c : Int) (x : List B8) : (secret x n c).length = 16 := len_half _
theorem len_climbN {n c : Int} {x : List B8} {i : Int} (h : x.length = 16) : ∀ {m : Nat}, (climbN n c x i m).length = 16
  | 0 => h
  | _ + 1 => len_half _
theorem len_climb {x : List B8} {n c i j : Int} (h : x.length = 16) : (climb x n c i j).length = 16 := by
  unfold climb
  split
  · exact h
  · exact len_climbN h
theorem runs_two (n : Int) : Runs tbl0 a51 [.int .i64 n] (.sl true 1 2 ((two n).map w8)) := by
  refine ⟨?_⟩
  simp (disch := first | omega | (simp [-List.map_take, -List.map_drop, -List.map_set, -List.map_append, -List.drop_one] <;> omega) | fail) [-List.map_take, -List.map_drop, -List.map_set, -List.map_append, -List.drop_one, a51, two]
noncomputable def c_two : List DV → Option DV := con (fun (_ : Int) => True) (fun n => [.int .i64 n]) (fun n => .sl true 1 2 ((two n).map w8))
theorem c_two_eq {n : Int} : c_two [.int .i64 n] = some (.sl true 1 2 ((two n).map w8)) :=
  con_eq' (a := n) (by intro a b _ _ e; simp only [List.cons.injEq, DV.int.injEq, true_and, and_true] at e; rw [e]) trivial
noncomputable def T22 : Tbl := addT 51 (.pure c_two) T10
theorem T22_two : T22 51 = .pure c_two := by simp [T22]
theorem T22_half : T22 39 = .pure c_half := by simp [T22, T10_half]
theorem T22_refhalf : T22 52 = .pure c_half := by simp [T22, T10_refhalf]
theorem T22_sound : T22.Sound P := addT_sound (con_sound fun n _ => sem_runs mix tbl0_sound Try.func51 a51_ok (runs_two n)) T10_sound
set_option maxRecDepth 20000 in
theorem runs_secret (x : List B8) (n c : Int) (hx : x.length = 16) : Runs T22 a20 [.agg (x.map w8), .int .i64 n, .int .i64 c] (.agg ((secret x n c).map w8)) := by
  refine ⟨?_⟩
  have hx16 : x.take 16 = x := List.take_of_length_le (by omega)
  have hc := c_half_lit (f := true) (n := 4) (cs := [.sl true 1 1 [w8 3#8], .sl false 1 16 (x.map w8), .sl true 1 2 ((two n).map w8), .sl true 1 1 [w8 (BitVec.ofInt 8 c)]]) (b := 3#8 :: x ++ two n ++ [BitVec.ofInt 8 c]) [(some true, [3#8]), (some false, x), (some true, two n), (some true, [BitVec.ofInt 8 c])] (by simp [WfP]) (by simp [cat]) (by simp [hx, two]) rfl (by omega) (by simp [partD, bD, slD, hx, two])
  simp (disch := first | omega | (simp [-List.map_take, -List.map_drop, -List.map_set, -List.map_append, -List.drop_one] <;> omega) | fail) [-List.map_take, -List.map_drop, -List.map_set, -List.map_append, -List.drop_one, a20, T22_two, T22_half, c_two_eq, hx, hx16, hc, secret]
set_option maxRecDepth 20000 in
theorem runs_refsecret (x : List B8) (n c : Int) (hx : x.length = 16) : Runs T22 a21 [.agg (x.map w8), .int .i64 n, .int .i64 c] (.agg ((secret x n c).map w8)) := by
  refine ⟨?_⟩
  have hx16 : x.take 16 = x := List.take_of_length_le (by omega)
  have hc := c_half_lit (f := true) (n := 3) (cs := [.sl true 1 1 [w8 3#8], .sl false 1 16 (x.map w8), .sl true 1 3 [w8 (BitVec.ofInt 8 (n / 256)), w8 (BitVec.ofInt 8 n), w8 (BitVec.ofInt 8 c)]]) (b := 3#8 :: x ++ two n ++ [BitVec.ofInt 8 c]) [(some true, [3#8]), (some false, x), (some true, [BitVec.ofInt 8 (n / 256), BitVec.ofInt 8 n, BitVec.ofInt 8 c])] (by simp [WfP]) (by simp [cat, two]) (by simp [hx, two]) rfl (by omega) (by simp [partD, bD, slD, hx])
  simp (disch := first | omega | (simp [-List.map_take, -List.map_drop, -List.map_set, -List.map_append, -List.drop_one] <;> omega) | fail) [-List.map_take, -List.map_drop, -List.map_set, -List.map_append, -List.drop_one, a21, T22_refhalf, hx, hx16, hc, secret]
def S19 (n c j : Int) (x : List B8) (i : Int) (m : Nat) : St := a19S0 (.int .i64 n) (.int .i64 c) (.int .i64 j) (.mp 0 16 0) (.mp 1 16 0) (.int .i64 (i + m)) [.cells ((climbN n c x i m).map w8), .cells ((rep 16 0#8).map w8)]
set_option maxRecDepth 20000 in
theorem runs_climb (x : List B8) (n c i j : Int) (hx : x.length = 16) : Runs T22 a19 [.agg (x.map w8), .int .i64 n, .int .i64 c, .int .i64 i, .int .i64 j] (.agg ((climb x n c i j).map w8)) := by
  refine ⟨?_⟩
  unfold climb
  by_cases h0 : i < 0
  · simp (disch := first | omega | (simp [-List.map_take, -List.map_drop, -List.map_set, -List.map_append, -List.drop_one] <;> omega) | fail) [-List.map_take, -List.map_drop, -List.map_set, -List.map_append, -List.drop_one, a19, h0, hx]
  by_cases h1 : 3 < j
  · simp (disch := first | omega | (simp [-List.map_take, -List.map_drop, -List.map_set, -List.map_append, -List.drop_one] <;> omega) | fail) [-List.map_take, -List.map_drop, -List.map_set, -List.map_append, -List.drop_one, a19, h0, h1, hx]
  have h2 : ¬ (i < 0 ∨ 3 < j) := by omega
  obtain ⟨N, hN⟩ : ∃ N, N = (j - i).toNat := ⟨_, rfl⟩
  rw [if_neg h2, ← hN]
  simp (disch := first | omega | (simp [-List.map_take, -List.map_drop, -List.map_set, -List.map_append, -List.drop_one] <;> omega) | fail) [-List.map_take, -List.map_drop, -List.map_set, -List.map_append, -List.drop_one, a19, h0, h1, hx]
  refine W_loop (S19 n c j x i) (fun m => N - m) (fun m => m ≤ N) 0 (weak_same (by simp (disch := first | omega | (simp [-List.map_take, -List.map_drop, -List.map_set, -List.map_append, -List.drop_one] <;> omega) | fail) [-List.map_take, -List.map_drop, -List.map_set, -List.map_append, -List.drop_one]) (by simp (disch := first | omega | (simp [-List.map_take, -List.map_drop, -List.map_set, -List.map_append, -List.drop_one] <;> omega) | fail) [-List.map_take, -List.map_drop, -List.map_set, -List.map_append, -List.drop_one, climbN, hx])) (by omega) (fun m hm => ?_)
  have hl := len_climbN (n := n) (c := c) (i := i) hx (m := m)
  generalize hy : climbN n c x i m = y at hl
  have hy16 : y.take 16 = y := List.take_of_length_le (by omega)
  simp (disch := first | omega | (simp [-List.map_take, -List.map_drop, -List.map_set, -List.map_append, -List.drop_one] <;> omega) | fail) [-List.map_take, -List.map_drop, -List.map_set, -List.map_append, -List.drop_one, a19L0, a19S0, S19]
  by_cases h : m < N
  · have h3 : i + m < j := by omega
    have hc := c_half_lit (f := true) (n := 4) (cs := [.sl true 1 1 [w8 4#8], .sl false 1 16 (y.map w8), .sl true 1 2 ((two n).map w8), .sl true 1 2 [w8 (BitVec.ofInt 8 c), w8 (BitVec.ofInt 8 (i + m))]]) (b := 4#8 :: y ++ two n ++ [BitVec.ofInt 8 c, BitVec.ofInt 8 (i + m)]) [(some true, [4#8]), (some false, y), (some true, two n), (some true, [BitVec.ofInt 8 c, BitVec.ofInt 8 (i + m)])] (by simp [WfP]) (by simp [cat]) (by simp [hl, two]) rfl (by omega) (by simp [partD, bD, slD, hl, two])
    simp (disch := first | omega | (simp [-List.map_take, -List.map_drop, -List.map_set, -List.map_append, -List.drop_one] <;> omega) | fail) [-List.map_take, -List.map_drop, -List.map_set, -List.map_append, -List.drop_one, h3, hl, hy, hy16, T22_two, T22_half, c_two_eq, hc]
    refine ⟨m + 1, weak_same (by simp (disch := first | omega | (simp [-List.map_take, -List.map_drop, -List.map_set, -List.map_append, -List.drop_one] <;> omega) | fail) [-List.map_take, -List.map_drop, -List.map_set, -List.map_append, -List.drop_one, weakL, Int.add_assoc]) (by simp (disch := first | omega | (simp [-List.map_take, -List.map_drop, -List.map_set, -List.map_append, -List.drop_one] <;> omega) | fail) [-List.map_take, -List.map_drop, -List.map_set, -List.map_append, -List.drop_one, climbN, step, hy]), by omega, by omega⟩
  · have h3 : ¬ i + m < j := by omega
    obtain rfl : m = N := by omega
    simp (disch := first | omega | (simp [-List.map_take, -List.map_drop, -List.map_set, -List.map_append, -List.drop_one] <;> omega) | fail) [-List.map_take, -List.map_drop, -List.map_set, -List.map_append, -List.drop_one, h3, hl, hy, hy16]
def S22 (n c j : Int) (x : List B8) (i : Int) (m : Nat) : St := a22S0 (.int .i64 n) (.int .i64 c) (.int .i64 j) (.mp 0 16 0) (.mp 1 16 0) (.int .i64 (i + m)) [.cells ((climbN n c x i m).map w8), .cells ((rep 16 0#8).map w8)]
set_option maxRecDepth 20000 in
theorem runs_refclimb (x : List B8) (n c i j : Int) (hx : x.length = 16) : Runs T22 a22 [.agg (x.map w8), .int .i64 n, .int .i64 c, .int .i64 i, .int .i64 j] (.agg ((climb x n c i j).map w8)) := by
  refine ⟨?_⟩
  unfold climb
  by_cases h0 : i < 0
  · simp (disch := first | omega | (simp [-List.map_take, -List.map_drop, -List.map_set, -List.map_append, -List.drop_one] <;> omega) | fail) [-List.map_take, -List.map_drop, -List.map_set, -List.map_append, -List.drop_one, a22, h0, hx]
  by_cases h1 : 3 < j
  · simp (disch := first | omega | (simp [-List.map_take, -List.map_drop, -List.map_set, -List.map_append, -List.drop_one] <;> omega) | fail) [-List.map_take, -List.map_drop, -List.map_set, -List.map_append, -List.drop_one, a22, h0, h1, hx]
  have h2 : ¬ (i < 0 ∨ 3 < j) := by omega
  obtain ⟨N, hN⟩ : ∃ N, N = (j - i).toNat := ⟨_, rfl⟩
  rw [if_neg h2, ← hN]
  simp (disch := first | omega | (simp [-List.map_take, -List.map_drop, -List.map_set, -List.map_append, -List.drop_one] <;> omega) | fail) [-List.map_take, -List.map_drop, -List.map_set, -List.map_append, -List.drop_one, a22, h0, h1, hx]
  refine W_loop (S22 n c j x i) (fun m => N - m) (fun m => m ≤ N) 0 (weak_same (by simp (disch := first | omega | (simp [-List.map_take, -List.map_drop, -List.map_set, -List.map_append, -List.drop_one] <;> omega) | fail) [-List.map_take, -List.map_drop, -List.map_set, -List.map_append, -List.drop_one]) (by simp (disch := first | omega | (simp [-List.map_take, -List.map_drop, -List.map_set, -List.map_append, -List.drop_one] <;> omega) | fail) [-List.map_take, -List.map_drop, -List.map_set, -List.map_append, -List.drop_one, climbN, hx])) (by omega) (fun m hm => ?_)
  have hl := len_climbN (n := n) (c := c) (i := i) hx (m := m)
  generalize hy : climbN n c x i m = y at hl
  have hy16 : y.take 16 = y := List.take_of_length_le (by omega)
  simp (disch := first | omega | (simp [-List.map_take, -List.map_drop, -List.map_set, -List.map_append, -List.drop_one] <;> omega) | fail) [-List.map_take, -List.map_drop, -List.map_set, -List.map_append, -List.drop_one, a22L0, a22S0, S22]
  by_cases h : m < N
  · have h3 : i + m < j := by omega
    have hc := c_half_lit (f := true) (n := 3) (cs := [.sl true 1 1 [w8 4#8], .sl false 1 16 (y.map w8), .sl true 1 4 [w8 (BitVec.ofInt 8 (n / 256)), w8 (BitVec.ofInt 8 n), w8 (BitVec.ofInt 8 c), w8 (BitVec.ofInt 8 (i + m))]]) (b := 4#8 :: y ++ two n ++ [BitVec.ofInt 8 c, BitVec.ofInt 8 (i + m)]) [(some true, [4#8]), (some false, y), (some true, [BitVec.ofInt 8 (n / 256), BitVec.ofInt 8 n, BitVec.ofInt 8 c, BitVec.ofInt 8 (i + m)])] (by simp [WfP]) (by simp [cat, two]) (by simp [hl, two]) rfl (by omega) (by simp [partD, bD, slD, hl])
    simp (disch := first | omega | (simp [-List.map_take, -List.map_drop, -List.map_set, -List.map_append, -List.drop_one] <;> omega) | fail) [-List.map_take, -List.map_drop, -List.map_set, -List.map_append, -List.drop_one, h3, hl, hy, hy16, T22_refhalf, hc]
    refine ⟨m + 1, weak_same (by simp (disch := first | omega | (simp [-List.map_take, -List.map_drop, -List.map_set, -List.map_append, -List.drop_one] <;> omega) | fail) [-List.map_take, -List.map_drop, -List.map_set, -List.map_append, -List.drop_one, weakL, Int.add_assoc]) (by simp (disch := first | omega | (simp [-List.map_take, -List.map_drop, -List.map_set, -List.map_append, -List.drop_one] <;> omega) | fail) [-List.map_take, -List.map_drop, -List.map_set, -List.map_append, -List.drop_one, climbN, step, hy]), by omega, by omega⟩
  · have h3 : ¬ i + m < j := by omega
    obtain rfl : m = N := by omega
    simp (disch := first | omega | (simp [-List.map_take, -List.map_drop, -List.map_set, -List.map_append, -List.drop_one] <;> omega) | fail) [-List.map_take, -List.map_drop, -List.map_set, -List.map_append, -List.drop_one, h3, hl, hy, hy16]
end Go.Proofs.Ythkcgeokfcbllaa
