/-
  Format and FormatHalf of the reference; those of the program, given its hex.
-/
import Derived.Test.YthkcgeokfcbllaaVg
set_option linter.unusedSimpArgs false
set_option linter.unusedVariables false
namespace Go.Proofs.Ythkcgeokfcbllaa
open Go Go.Am

def hexS (b : List B8) : List UInt8 := (hexB b).map UInt8.ofBitVec
theorem len_hexS (b : List B8) : (hexS b).length = 2 * b.length := by rw [hexS, List.length_map, len_hexB]
noncomputable def c_hex : List DV → Option DV := con (fun (b : List B8) => 0 < b.length ∧ b.length ≤ 1000) (fun b => [.sl false 1 b.length (b.map w8)]) (fun b => .str (hexS b))
theorem c_hex_eq {b : List B8} {n : Nat} (hn : b.length = n) (h0 : 0 < n) (h1 : n ≤ 1000) : c_hex [.sl false 1 n (b.map w8)] = some (.str (hexS b)) := by
  subst hn
  exact con_eq' (A := fun (b : List B8) => 0 < b.length ∧ b.length ≤ 1000) (a := b) (f := fun b => [.sl false 1 b.length (b.map w8)]) (g := fun b => .str (hexS b)) (by
    intro a b _ _ e
    simp only [List.cons.injEq, DV.sl.injEq, map_inj_w8, true_and, and_true] at e
    rw [e.2]) ⟨h0, h1⟩
noncomputable def T38 : Tbl := addT 61 (.pure c_hex) tbl0
theorem T38_hex : T38 61 = .pure c_hex := by simp [T38]
theorem T38_sound : T38.Sound P := addT_sound (con_sound fun b h => sem_runs mix tbl0_sound Try.func61 a61_ok (runs_refhex b h.1 h.2)) tbl0_sound
def S49 (d : List B8) (i : Nat) : St := a49S0 (.mp 0 16 0) (ownD 1 1 .nils i ((d.take i).map w8)) (.int .i64 i) (.cells (d.map w8) :: ownH ((d.take i).map w8))
theorem take_snoc {d : List B8} {i : Nat} (h : i < d.length) : d.take (i + 1) = d.take i ++ [d[i]] := by rw [List.take_add_one, List.getElem?_eq_getElem h]; rfl
set_option maxRecDepth 20000 in
theorem runs_refformathalf (d : List B8) (hd : d.length = 16) : Runs T38 a49 [.agg (d.map w8)] (.str (hexS d)) := by
  refine ⟨?_⟩
  simp (disch := first | omega | (simp [-List.map_take, -List.map_drop, -List.map_set, -List.map_append, -List.drop_one] <;> omega) | fail) [-List.map_take, -List.map_drop, -List.map_set, -List.map_append, -List.drop_one, a49, hd]
  refine W_loop (S49 d) (fun i => 16 - i) (fun i => i ≤ 16) 0 (weak_same (by simp (disch := first | omega | (simp [-List.map_take, -List.map_drop, -List.map_set, -List.map_append, -List.drop_one] <;> omega) | fail) [-List.map_take, -List.map_drop, -List.map_set, -List.map_append, -List.drop_one, ownD]) (by simp (disch := first | omega | (simp [-List.map_take, -List.map_drop, -List.map_set, -List.map_append, -List.drop_one] <;> omega) | fail) [-List.map_take, -List.map_drop, -List.map_set, -List.map_append, -List.drop_one, ownH])) (by omega) (fun i hi => ?_)
  have hl : (d.take i).length = i := List.length_take_of_le (by omega)
  simp (disch := first | omega | (simp [-List.map_take, -List.map_drop, -List.map_set, -List.map_append, -List.drop_one] <;> omega) | fail) [-List.map_take, -List.map_drop, -List.map_set, -List.map_append, -List.drop_one, a49L0, a49S0, S49]
  by_cases h : i < 16
  · have h1 : (i : Int) < 16 := by omega
    have hid : i < d.length := by omega
    simp (disch := first | omega | (simp [-List.map_take, -List.map_drop, -List.map_set, -List.map_append, -List.drop_one] <;> omega) | fail) [-List.map_take, -List.map_drop, -List.map_set, -List.map_append, -List.drop_one, h1, hd, hl]
    refine ⟨i + 1, weak_same (by simp (disch := first | omega | (simp [-List.map_take, -List.map_drop, -List.map_set, -List.map_append, -List.drop_one] <;> omega) | fail) [-List.map_take, -List.map_drop, -List.map_set, -List.map_append, -List.drop_one]) (by simp (disch := first | omega | (simp [-List.map_take, -List.map_drop, -List.map_set, -List.map_append, -List.drop_one] <;> omega) | fail) [-List.map_take, -List.map_drop, -List.map_set, -List.map_append, -List.drop_one]), by omega, by omega⟩
  · have h1 : ¬ (i : Int) < 16 := by omega
    obtain rfl : i = 16 := by omega
    have ht : d.take 16 = d := List.take_of_length_le (by omega)
    have hne : d.map w8 ≠ [] := by intro e; have := congrArg List.length e; simp at this; rw [this] at hd; simp at hd
    have hc := c_hex_eq hd (by decide) (by decide)
    simp (disch := first | omega | (simp [-List.map_take, -List.map_drop, -List.map_set, -List.map_append, -List.drop_one] <;> omega) | fail) [-List.map_take, -List.map_drop, -List.map_set, -List.map_append, -List.drop_one, h1, ht, ownD_ne hne, ownH_ne hne, hd, T38_hex, hc]
def S47 (d : List B8) (i : Nat) : St := a47S0 (.mp 0 32 0) (ownD 1 1 .nils i ((d.take i).map w8)) (.int .i64 i) (.cells (d.map w8) :: ownH ((d.take i).map w8))
set_option maxRecDepth 20000 in
theorem runs_refformat (d : List B8) (hd : d.length = 32) : Runs T38 a47 [.agg (d.map w8)] (.str (sha ++ hexS d)) := by
  refine ⟨?_⟩
  simp (disch := first | omega | (simp [-List.map_take, -List.map_drop, -List.map_set, -List.map_append, -List.drop_one] <;> omega) | fail) [-List.map_take, -List.map_drop, -List.map_set, -List.map_append, -List.drop_one, a47, hd]
  refine W_loop (S47 d) (fun i => 32 - i) (fun i => i ≤ 32) 0 (weak_same (by simp (disch := first | omega | (simp [-List.map_take, -List.map_drop, -List.map_set, -List.map_append, -List.drop_one] <;> omega) | fail) [-List.map_take, -List.map_drop, -List.map_set, -List.map_append, -List.drop_one, ownD]) (by simp (disch := first | omega | (simp [-List.map_take, -List.map_drop, -List.map_set, -List.map_append, -List.drop_one] <;> omega) | fail) [-List.map_take, -List.map_drop, -List.map_set, -List.map_append, -List.drop_one, ownH])) (by omega) (fun i hi => ?_)
  have hl : (d.take i).length = i := List.length_take_of_le (by omega)
  simp (disch := first | omega | (simp [-List.map_take, -List.map_drop, -List.map_set, -List.map_append, -List.drop_one] <;> omega) | fail) [-List.map_take, -List.map_drop, -List.map_set, -List.map_append, -List.drop_one, a47L0, a47S0, S47]
  by_cases h : i < 32
  · have h1 : (i : Int) < 32 := by omega
    have hid : i < d.length := by omega
    simp (disch := first | omega | (simp [-List.map_take, -List.map_drop, -List.map_set, -List.map_append, -List.drop_one] <;> omega) | fail) [-List.map_take, -List.map_drop, -List.map_set, -List.map_append, -List.drop_one, h1, hd, hl]
    refine ⟨i + 1, weak_same (by simp (disch := first | omega | (simp [-List.map_take, -List.map_drop, -List.map_set, -List.map_append, -List.drop_one] <;> omega) | fail) [-List.map_take, -List.map_drop, -List.map_set, -List.map_append, -List.drop_one]) (by simp (disch := first | omega | (simp [-List.map_take, -List.map_drop, -List.map_set, -List.map_append, -List.drop_one] <;> omega) | fail) [-List.map_take, -List.map_drop, -List.map_set, -List.map_append, -List.drop_one]), by omega, by omega⟩
  · have h1 : ¬ (i : Int) < 32 := by omega
    obtain rfl : i = 32 := by omega
    have ht : d.take 32 = d := List.take_of_length_le (by omega)
    have hne : d.map w8 ≠ [] := by intro e; have := congrArg List.length e; simp at this; rw [this] at hd; simp at hd
    have hc := c_hex_eq hd (by decide) (by decide)
    have hlh := len_hexS d
    simp (disch := first | omega | (simp [-List.map_take, -List.map_drop, -List.map_set, -List.map_append, -List.drop_one] <;> omega) | fail) [-List.map_take, -List.map_drop, -List.map_set, -List.map_append, -List.drop_one, h1, ht, ownD_ne hne, ownH_ne hne, hd, T38_hex, hc, sha, hlh]
end Go.Proofs.Ythkcgeokfcbllaa
