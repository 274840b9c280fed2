/-
  The walk of the reference's Sum: it computes 'sum'.
-/
import Derived.Test.YthkcgeokfcbllaaSg
set_option linter.unusedSimpArgs false
set_option linter.unusedVariables false
namespace Go.Proofs.Ythkcgeokfcbllaa
open Go Go.Am

theorem len_h0 : h0.length = 8 := rfl
attribute [simp] len_h0
def refP (b : List B8) (j : Nat) : List B8 := b ++ 128#8 :: rep j 0#8
theorem len_refP (b : List B8) (j : Nat) : (refP b j).length = b.length + 1 + j := by simp [refP]; omega
theorem refP_succ (b : List B8) (j : Nat) : refP b j ++ [0#8] = refP b (j + 1) := by simp [refP, rep, List.replicate_succ']
def refQ (b : List B8) (j : Nat) : List B8 := refP b (zeros b.length) ++ (len8 b.length).take j
theorem len_refQ (b : List B8) (j : Nat) (hj : j ≤ 8) : (refQ b j).length = b.length + 1 + zeros b.length + j := by simp [refQ, len_refP, len8]; omega
theorem refQ_8 (b : List B8) : refQ b 8 = pad b := by
  unfold refQ
  rw [List.take_of_length_le (by simp [len8])]
  simp [refP, pad]
theorem refQ_succ (b : List B8) (j : Nat) (h : j < 8) : refQ b j ++ [BitVec.setWidth 8 (len64 b >>> (8 * (7 - j)))] = refQ b (j + 1) := by
  have h' : j < (len8 b.length).length := by simpa [len8] using h
  unfold refQ
  rw [List.take_add_one, List.getElem?_eq_getElem h', List.append_assoc]
  congr 2
  simp [len8, len64]
theorem refQ_0 (b : List B8) : refQ b 0 = refP b (zeros b.length) := by simp [refQ]
abbrev pD (p : List B8) : DV := .ms 1 p.length 0 1 p.length p.length
def S34a (k : Option Bool) (b : List B8) (j : Nat) : St := a34S0 (bD k b) (.mp 0 32 0) (.ms 1 (b.length + 1 + j) 0 1 (b.length + 1 + j) (b.length + 1 + j)) [.cells ((rep 32 0#8).map w8), .cells ((refP b j).map w8)]
def S34b (b : List B8) (j : Nat) : St := a34S1 (.mp 0 32 0) (.ms 1 (b.length + 1 + zeros b.length + j) 0 1 (b.length + 1 + zeros b.length + j) (b.length + 1 + zeros b.length + j)) (w64 (len64 b)) (.int .i64 (7 - j)) [.cells ((rep 32 0#8).map w8), .cells ((refQ b j).map w8)]
def S34c (p : List B8) (j : Nat) : St := a34S2 (.mp 0 32 0) (.ms 1 p.length 0 1 p.length p.length) (.mp 2 8 0) (.int .i64 (64 * j : Nat)) [.cells ((rep 32 0#8).map w8), .cells (p.map w8), .cells ((blks p j h0).map w32)]
def S34d (p : List B8) (s : List B32) (i : Nat) : St := a34S3 (.mp 0 32 0) (.mp 2 8 0) (.mp 3 32 0) (.int .i64 i) [.cells ((rep 32 0#8).map w8), .cells (p.map w8), .cells (s.map w32), .cells ((iter (fun i (d : List B8) => d.set i (outs s i)) i (rep 32 0#8)).map w8)]

set_option maxRecDepth 20000 in
set_option maxHeartbeats 1000000 in
theorem ref_rest (k : Option Bool) (b : List B8) (hk : k = none → b = []) (hb : b.length ≤ 1000000) (st : St) (hst : Weak 0 st (S34a k b 0)) :
    W T5 0 (.loop a34L0) (blockK 0 (seqK T5 0 (tailC 3 a34.code) (retK a34.res (.agg ((sum b).map w8))))) st := by
  refine W_loop (S34a k b) (fun i => zeros b.length - i) (fun i => i ≤ zeros b.length) 0 hst (by omega) (fun i hi => ?_)
  have hz : zeros b.length < 64 := by unfold zeros; omega
  have hl := len_refP b i
  simp (disch := first | omega | (simp [-List.map_take, -List.map_drop, -List.map_set, -List.map_append, -List.drop_one] <;> omega) | fail) [-List.map_take, -List.map_drop, -List.map_set, -List.map_append, -List.drop_one, a34L0, a34S0, S34a, hl]
  by_cases h : i < zeros b.length
  · have h1 : ¬ ((b.length : Int) + 1 + i) % 64 = 56 := by unfold zeros at h; omega
    simp (disch := first | omega | (simp [-List.map_take, -List.map_drop, -List.map_set, -List.map_append, -List.drop_one] <;> omega) | fail) [-List.map_take, -List.map_drop, -List.map_set, -List.map_append, -List.drop_one, h1, hl]
    refine ⟨i + 1, weak_same (by simp (disch := first | omega | (simp [-List.map_take, -List.map_drop, -List.map_set, -List.map_append, -List.drop_one] <;> omega) | fail) [-List.map_take, -List.map_drop, -List.map_set, -List.map_append, -List.drop_one, weakL]; omega) ?_, by omega, by omega⟩
    rw [← refP_succ b i]
  · have h1 : ((b.length : Int) + 1 + i) % 64 = 56 := by unfold zeros at *; omega
    simp (disch := first | omega | (simp [-List.map_take, -List.map_drop, -List.map_set, -List.map_append, -List.drop_one] <;> omega) | fail) [-List.map_take, -List.map_drop, -List.map_set, -List.map_append, -List.drop_one, h1, lenD_bD hk, tailC, a34]
    obtain rfl : i = zeros b.length := by omega
    refine W_loop (S34b b) (fun j => 8 - j) (fun j => j ≤ 8) 0 (weak_same (by simp (disch := first | omega | (simp [-List.map_take, -List.map_drop, -List.map_set, -List.map_append, -List.drop_one] <;> omega) | fail) [-List.map_take, -List.map_drop, -List.map_set, -List.map_append, -List.drop_one, weakL, len64]) (by simp (disch := first | omega | (simp [-List.map_take, -List.map_drop, -List.map_set, -List.map_append, -List.drop_one] <;> omega) | fail) [-List.map_take, -List.map_drop, -List.map_set, -List.map_append, -List.drop_one, refQ_0])) (by omega) (fun j hj => ?_)
    have hl := len_refQ b j hj
    simp (disch := first | omega | (simp [-List.map_take, -List.map_drop, -List.map_set, -List.map_append, -List.drop_one] <;> omega) | fail) [-List.map_take, -List.map_drop, -List.map_set, -List.map_append, -List.drop_one, a34L1, a34S1, S34b]
    by_cases h : j < 8
    · have h1 : (j : Int) ≤ 7 := by omega
      have e1 : ((8 : Int) * (7 - j)).toNat = 8 * (7 - j) := by omega
      simp (disch := first | omega | (simp [-List.map_take, -List.map_drop, -List.map_set, -List.map_append, -List.drop_one] <;> omega) | fail) [-List.map_take, -List.map_drop, -List.map_set, -List.map_append, -List.drop_one, h1, hl, e1]
      refine ⟨j + 1, weak_same (by simp (disch := first | omega | (simp [-List.map_take, -List.map_drop, -List.map_set, -List.map_append, -List.drop_one] <;> omega) | fail) [-List.map_take, -List.map_drop, -List.map_set, -List.map_append, -List.drop_one, weakL]; omega) ?_, by omega, by omega⟩
      simp (disch := first | omega | (simp [-List.map_take, -List.map_drop, -List.map_set, -List.map_append, -List.drop_one] <;> omega) | fail) [-List.map_take, -List.map_drop, -List.map_set, -List.map_append, -List.drop_one, ← refQ_succ b j h]
    · have h1 : ¬ (j : Int) ≤ 7 := by omega
      obtain rfl : j = 8 := by omega
      have hp := len_pad b
      have hm := pad_mod b
      simp (disch := first | omega | (simp [-List.map_take, -List.map_drop, -List.map_set, -List.map_append, -List.drop_one] <;> omega) | fail) [-List.map_take, -List.map_drop, -List.map_set, -List.map_append, -List.drop_one, h1, refQ_8]
      rw [show sum b = outB (blks (pad b) ((pad b).length / 64) h0) from rfl]
      rw [← hp]
      generalize pad b = p at *
      refine W_loop (S34c p) (fun i => p.length / 64 - i) (fun i => i ≤ p.length / 64) 0 (weak_same (by simp (disch := first | omega | (simp [-List.map_take, -List.map_drop, -List.map_set, -List.map_append, -List.drop_one] <;> omega) | fail) [-List.map_take, -List.map_drop, -List.map_set, -List.map_append, -List.drop_one]) (by simp (disch := first | omega | (simp [-List.map_take, -List.map_drop, -List.map_set, -List.map_append, -List.drop_one] <;> omega) | fail) [-List.map_take, -List.map_drop, -List.map_set, -List.map_append, -List.drop_one, blks, h0])) (by omega) (fun i hi => ?_)
      simp (disch := first | omega | (simp [-List.map_take, -List.map_drop, -List.map_set, -List.map_append, -List.drop_one] <;> omega) | fail) [-List.map_take, -List.map_drop, -List.map_set, -List.map_append, -List.drop_one, a34L2, a34S2, S34c]
      have hs : (blks p i h0).length = 8 := by simp [h0]
      by_cases h : i < p.length / 64
      · have h1 : 64 * (i : Int) < p.length := by omega
        have e1 : (64 * (i : Int)).toNat = 64 * i := by omega
        have e2 : (64 * (i : Int) + 64).toNat - 64 * i = 64 := by omega
        simp (disch := first | omega | (simp [-List.map_take, -List.map_drop, -List.map_set, -List.map_append, -List.drop_one] <;> omega) | fail) [-List.map_take, -List.map_drop, -List.map_set, -List.map_append, -List.drop_one, h1, hs, e1, e2, T5_block, c_block_eq]
        refine ⟨i + 1, weak_same (by simp (disch := first | omega | (simp [-List.map_take, -List.map_drop, -List.map_set, -List.map_append, -List.drop_one] <;> omega) | fail) [-List.map_take, -List.map_drop, -List.map_set, -List.map_append, -List.drop_one, weakL]; omega) ?_, by omega, by omega⟩
        simp (disch := first | omega | (simp [-List.map_take, -List.map_drop, -List.map_set, -List.map_append, -List.drop_one] <;> omega) | fail) [-List.map_take, -List.map_drop, -List.map_set, -List.map_append, -List.drop_one, blks, iter_succ (n := i), blk]
      · have h1 : ¬ 64 * (i : Int) < p.length := by omega
        simp (disch := first | omega | (simp [-List.map_take, -List.map_drop, -List.map_set, -List.map_append, -List.drop_one] <;> omega) | fail) [-List.map_take, -List.map_drop, -List.map_set, -List.map_append, -List.drop_one, h1]
        obtain rfl : i = p.length / 64 := by omega
        generalize blks p (p.length / 64) h0 = v at *
        refine W_loop (S34d p v) (fun i => 32 - i) (fun i => i ≤ 32) 0 (weak_same (by simp (disch := first | omega | (simp [-List.map_take, -List.map_drop, -List.map_set, -List.map_append, -List.drop_one] <;> omega) | fail) [-List.map_take, -List.map_drop, -List.map_set, -List.map_append, -List.drop_one]) (by simp (disch := first | omega | (simp [-List.map_take, -List.map_drop, -List.map_set, -List.map_append, -List.drop_one] <;> omega) | fail) [-List.map_take, -List.map_drop, -List.map_set, -List.map_append, -List.drop_one])) (by omega) (fun i hi => ?_)
        simp (disch := first | omega | (simp [-List.map_take, -List.map_drop, -List.map_set, -List.map_append, -List.drop_one] <;> omega) | fail) [-List.map_take, -List.map_drop, -List.map_set, -List.map_append, -List.drop_one, a34L3, a34S3, S34d]
        have hl3 : (iter (fun i (d : List B8) => d.set i (outs v i)) i (rep 32 0#8)).length = 32 := by rw [length_iter_set (f := fun i _ => outs v i) (g := fun i => i)]; simp
        by_cases h : i < 32
        · have h1 : (i : Int) < 32 := by omega
          have e1 : ((i : Int) / 4).toNat = i / 4 := by omega
          have e2 : ((24 : Int) - 8 * ((i : Int) % 4)).toNat = 24 - 8 * (i % 4) := by omega
          simp (disch := first | omega | (simp [-List.map_take, -List.map_drop, -List.map_set, -List.map_append, -List.drop_one] <;> omega) | fail) [-List.map_take, -List.map_drop, -List.map_set, -List.map_append, -List.drop_one, h1, hs, hl3, e1, e2]
          refine ⟨i + 1, weak_same (by simp (disch := first | omega | (simp [-List.map_take, -List.map_drop, -List.map_set, -List.map_append, -List.drop_one] <;> omega) | fail) [-List.map_take, -List.map_drop, -List.map_set, -List.map_append, -List.drop_one]) ?_, by omega, by omega⟩
          simp (disch := first | omega | (simp [-List.map_take, -List.map_drop, -List.map_set, -List.map_append, -List.drop_one] <;> omega) | fail) [-List.map_take, -List.map_drop, -List.map_set, -List.map_append, -List.drop_one, iter_succ (n := i), outs, hs]
        · have h1 : ¬ (i : Int) < 32 := by omega
          obtain rfl : i = 32 := by omega
          have hx : iter (fun i (d : List B8) => d.set i (outs v i)) 32 (rep 32 0#8) = outB v := by rw [iter_set _ _ _ (by simp)]; simp [outB, rep]
          simp (disch := first | omega | (simp [-List.map_take, -List.map_drop, -List.map_set, -List.map_append, -List.drop_one] <;> omega) | fail) [-List.map_take, -List.map_drop, -List.map_set, -List.map_append, -List.drop_one, h1, hx]
set_option maxRecDepth 20000 in
theorem runs_refsum (k : Option Bool) (b : List B8) (hk : k = none → b = []) (hb : b.length ≤ 1000000) : Runs T5 a34 [bD k b] (.agg ((sum b).map w8)) := by
  refine ⟨?_⟩
  have e0 : (0 : Nat) < 1 := by omega
  have ha : ∀ h : List AObj, appX h 1 1 (.sl true 1 0 []) b.length (b.map w8) = if b = [] then some (.sl true 1 0 [], h) else some (.ms h.length b.length 0 1 b.length b.length, h ++ [.cells (b.map w8)]) := by
    intro h
    by_cases hb0 : b = []
    · subst hb0; rw [if_pos rfl]; simp (disch := first | omega | (simp [-List.map_take, -List.map_drop, -List.map_set, -List.map_append, -List.drop_one] <;> omega) | fail) [-List.map_take, -List.map_drop, -List.map_set, -List.map_append, -List.drop_one]
    · have : 0 < b.length := List.length_pos_iff.2 hb0
      rw [if_neg hb0, appX_full (by omega) (by omega) (by simp) this (by omega)]
      simp
  by_cases hb0 : b = []
  · subst hb0
    simp (disch := first | omega | (simp [-List.map_take, -List.map_drop, -List.map_set, -List.map_append, -List.drop_one] <;> omega) | fail) [-List.map_take, -List.map_drop, -List.map_set, -List.map_append, -List.drop_one, a34, visY_bD hk]
    exact ref_rest k [] hk hb _ (weak_same (by simp (disch := first | omega | (simp [-List.map_take, -List.map_drop, -List.map_set, -List.map_append, -List.drop_one] <;> omega) | fail) [-List.map_take, -List.map_drop, -List.map_set, -List.map_append, -List.drop_one]) (by simp (disch := first | omega | (simp [-List.map_take, -List.map_drop, -List.map_set, -List.map_append, -List.drop_one] <;> omega) | fail) [-List.map_take, -List.map_drop, -List.map_set, -List.map_append, -List.drop_one, refP, rep]))
  · simp (disch := first | omega | (simp [-List.map_take, -List.map_drop, -List.map_set, -List.map_append, -List.drop_one] <;> omega) | fail) [-List.map_take, -List.map_drop, -List.map_set, -List.map_append, -List.drop_one, a34, visY_bD hk, ha, hb0]
    exact ref_rest k b hk hb _ (weak_same (by simp (disch := first | omega | (simp [-List.map_take, -List.map_drop, -List.map_set, -List.map_append, -List.drop_one] <;> omega) | fail) [-List.map_take, -List.map_drop, -List.map_set, -List.map_append, -List.drop_one]) (by simp (disch := first | omega | (simp [-List.map_take, -List.map_drop, -List.map_set, -List.map_append, -List.drop_one] <;> omega) | fail) [-List.map_take, -List.map_drop, -List.map_set, -List.map_append, -List.drop_one, refP, rep]))
theorem sem_refsum (k : Option Bool) (b : List B8) (hk : k = none → b = []) (hb : b.length ≤ 1000000) : Am.Sem P 34 [bD k b] (.agg ((sum b).map w8)) := sem_runs mix T5_sound Try.func34 a34_ok (runs_refsum k b hk hb)
noncomputable def c_refsum : List DV → Option DV := con (fun (a : Option Bool × List B8) => (a.1 = none → a.2 = []) ∧ a.2.length ≤ 1000000) (fun a => [bD a.1 a.2]) (fun a => .agg ((sum a.2).map w8))
theorem c_refsum_eq {k : Option Bool} {b : List B8} (hk : k = none → b = []) (hb : b.length ≤ 1000000) : c_refsum [bD k b] = some (.agg ((sum b).map w8)) :=
  con_eq' (A := fun (a : Option Bool × List B8) => (a.1 = none → a.2 = []) ∧ a.2.length ≤ 1000000) (f := fun a => [bD a.1 a.2]) (g := fun a => .agg ((sum a.2).map w8)) (a := (k, b)) (by rintro ⟨a, b⟩ ⟨c, d⟩ h1 h2 e; rw [bD_inj h1.1 h2.1 (by simpa using e)]) ⟨hk, hb⟩
theorem c_refsum_sl {f : Bool} {n : Nat} {b : List B8} (h : b.length = n) (hb : n ≤ 1000000) : c_refsum [.sl f 1 n (b.map w8)] = some (.agg ((sum b).map w8)) := by
  subst h
  exact c_refsum_eq (k := some f) (by simp) hb
theorem c_refsum_nils : c_refsum [.nils] = some (.agg ((sum []).map w8)) := c_refsum_eq (k := none) (b := []) (by simp) (by simp)
end Go.Proofs.Ythkcgeokfcbllaa
