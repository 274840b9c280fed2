/-
  hex, Format and FormatHalf of the reference.
-/
import Derived.Test.YthkcgeokfcbllaaVf
set_option linter.unusedSimpArgs false
set_option linter.unusedVariables false
namespace Go.Proofs.Ythkcgeokfcbllaa
open Go Go.Am

def dg (k : Nat) : B8 := (digs16.getD k 0).toBitVec
theorem bytesOf_w8 : ∀ (l : List B8), bytesOf (l.map w8) = some (l.map UInt8.ofBitVec)
  | [] => rfl
  | x :: l => by
    have := bytesOf_w8 l
    simp only [List.map_cons, w8, bytesOf] at *
    rw [this]
    simp
def hexB (b : List B8) : List B8 := b.flatMap fun (x : B8) => [dg (x.toNat >>> 4), dg (x.toNat &&& 15)]
theorem hexB_succ {b : List B8} {i : Nat} (h : i < b.length) : hexB (b.take (i + 1)) = hexB (b.take i) ++ [dg (b[i].toNat >>> 4), dg (b[i].toNat &&& 15)] := by
  unfold hexB
  rw [List.take_add_one, List.getElem?_eq_getElem h, List.flatMap_append]
  simp
theorem len_hexB : ∀ (b : List B8), (hexB b).length = 2 * b.length
  | [] => rfl
  | x :: b => by have := len_hexB b; simp only [hexB, List.flatMap_cons, List.length_append, List.length_cons, List.length_nil] at *; omega
def S61 (b : List B8) (i : Nat) : St := a61S0 (.sl false 1 b.length (b.map w8)) (.str digs16) (ownD 0 1 .nils (2 * i) ((hexB (b.take i)).map w8)) (.int .i64 i) (ownH ((hexB (b.take i)).map w8))
theorem dg_lt (x : B8) : x.toNat >>> 4 < 16 := by have := x.isLt; rw [Nat.shiftRight_eq_div_pow]; omega
theorem dg_lt' (x : B8) : x.toNat &&& 15 < 16 := by have := Nat.and_le_right (n := x.toNat) (m := 15); omega
theorem idx_dg (k : Nat) (h : k < 16) : idxStrD (.str digs16) (k : Int) = some (w8 (dg k)) := by
  rw [idxStrD_str (by omega) (by simp [digs16]; omega)]
  simp [dg]
set_option maxRecDepth 20000 in
theorem runs_refhex (b : List B8) (h0 : 0 < b.length) (hb : b.length ≤ 1000) : Runs tbl0 a61 [.sl false 1 b.length (b.map w8)] (.str ((hexB b).map UInt8.ofBitVec)) := by
  refine ⟨?_⟩
  simp (disch := first | omega | (simp [-List.map_take, -List.map_drop, -List.map_set, -List.map_append, -List.drop_one] <;> omega) | fail) [-List.map_take, -List.map_drop, -List.map_set, -List.map_append, -List.drop_one, a61]
  refine W_loop (S61 b) (fun i => b.length - i) (fun i => i ≤ b.length) 0 (weak_same (by simp (disch := first | omega | (simp [-List.map_take, -List.map_drop, -List.map_set, -List.map_append, -List.drop_one] <;> omega) | fail) [-List.map_take, -List.map_drop, -List.map_set, -List.map_append, -List.drop_one, hexB, ownD, digs16]) (by simp (disch := first | omega | (simp [-List.map_take, -List.map_drop, -List.map_set, -List.map_append, -List.drop_one] <;> omega) | fail) [-List.map_take, -List.map_drop, -List.map_set, -List.map_append, -List.drop_one, hexB, ownH])) (by omega) (fun i hi => ?_)
  have hl := len_hexB (b.take i)
  rw [List.length_take_of_le hi] at hl
  simp (disch := first | omega | (simp [-List.map_take, -List.map_drop, -List.map_set, -List.map_append, -List.drop_one] <;> omega) | fail) [-List.map_take, -List.map_drop, -List.map_set, -List.map_append, -List.drop_one, a61L0, a61S0, S61]
  by_cases h : i < b.length
  · have h1 : (i : Int) < b.length := by omega
    have d1 := dg_lt b[i]
    have d2 := dg_lt' b[i]
    have hd : digs16.length = 16 := rfl
    have g1 : (digs16[b[i].toNat >>> 4]'(by omega)).toBitVec = dg (b[i].toNat >>> 4) := by rw [dg, getD_at]
    have g2 : (digs16[b[i].toNat &&& 15]'(by omega)).toBitVec = dg (b[i].toNat &&& 15) := by rw [dg, getD_at]
    have k1 := idx_dg _ d1
    have k2 := idx_dg _ d2
    simp only [Int.natCast_shiftRight] at k1
    simp (disch := first | omega | (simp [-List.map_take, -List.map_drop, -List.map_set, -List.map_append, -List.drop_one] <;> omega) | fail) [-List.map_take, -List.map_drop, -List.map_set, -List.map_append, -List.drop_one, h1, h, hd, k1, k2, hl]
    have e5 : 2 * (i + 1) = 2 * i + 2 := by omega
    have e6 : (hexB (b.take (i + 1))).map w8 = (hexB (b.take i)).map w8 ++ [w8 (dg (b[i].toNat >>> 4)), w8 (dg (b[i].toNat &&& 15))] := by rw [hexB_succ h, List.map_append]; rfl
    refine ⟨i + 1, weak_same (by simp (disch := first | omega | (simp [-List.map_take, -List.map_drop, -List.map_set, -List.map_append, -List.drop_one] <;> omega) | fail) [-List.map_take, -List.map_drop, -List.map_set, -List.map_append, -List.drop_one, e5, e6]) (by simp (disch := first | omega | (simp [-List.map_take, -List.map_drop, -List.map_set, -List.map_append, -List.drop_one] <;> omega) | fail) [-List.map_take, -List.map_drop, -List.map_set, -List.map_append, -List.drop_one, e6]), by omega, by omega⟩
  · have h1 : ¬ (i : Int) < b.length := by omega
    obtain rfl : i = b.length := by omega
    rw [List.take_length] at hl
    have hne : (hexB b).map w8 ≠ [] := by intro e; have := congrArg List.length e; rw [List.length_map, hl] at this; simp at this; omega
    have ht : (hexB b).take (2 * b.length) = hexB b := List.take_of_length_le (by omega)
    simp (disch := first | omega | (simp [-List.map_take, -List.map_drop, -List.map_set, -List.map_append, -List.drop_one] <;> omega) | fail) [-List.map_take, -List.map_drop, -List.map_set, -List.map_append, -List.drop_one, h1, ownD_ne hne, ownH_ne hne, hl, ht, bytesOf_w8]
end Go.Proofs.Ythkcgeokfcbllaa
