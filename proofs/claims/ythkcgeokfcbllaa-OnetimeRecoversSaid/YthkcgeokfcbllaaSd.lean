/-
  The walk of digest.Sum.
-/
import Derived.Test.YthkcgeokfcbllaaSc
set_option linter.unusedSimpArgs false
set_option linter.unusedVariables false
namespace Go.Proofs.Ythkcgeokfcbllaa
open Go Go.Am

abbrev bD (k : Option Bool) (b : List B8) : DV := slD k 1 b.length (b.map w8)
theorem lenD_bD {h : List AObj} {k : Option Bool} {b : List B8} (hk : k = none → b = []) : lenD h (bD k b) = some (.int .i64 b.length) := lenD_slD (fun e => by simp [hk e])
theorem visS_bD {h : List AObj} {k : Option Bool} {b : List B8} (hk : k = none → b = []) : visS h (bD k b) = some (b.length, b.map w8) := visS_slD (fun e => by simp [hk e]) (by simp)
theorem visY_bD {h : List AObj} {k : Option Bool} {b : List B8} (hk : k = none → b = []) : visY h (bD k b) = some (b.length, b.map w8) := by rw [visY_slD]; exact visS_bD hk
def len64 (b : List B8) : BitVec 64 := BitVec.ofNat 64 b.length * 8#64
def S33a (k : Option Bool) (b : List B8) (i : Nat) : St :=
  a33S0 (bD k (b.drop (64 * i))) (.mp 0 32 0) (.mp 1 8 0) (.mp 2 64 0) (w64 (len64 b)) [.cells ((rep 32 0#8).map w8), .cells ((blks b i h0).map w32), .cells (kk.map w32)]
/-- the last bytes: the length is written -/
def setLen (L : BitVec 64) (e : Nat) (i : Nat) (t : List B8) : List B8 := t.set (e - 1 - i) ((L >>> (8 * i)).setWidth 8)
theorem len_setLen {L : BitVec 64} {e n : Nat} {t : List B8} : (iter (setLen L e) n t).length = t.length := length_iter_set (f := fun i _ => (L >>> (8 * i)).setWidth 8) (g := fun i => e - 1 - i) n t
attribute [simp] len_setLen
def S33b (b t : List B8) (s : List B32) (e i : Nat) : St :=
  a33S1 (.mp 0 32 0) (.mp 1 8 0) (.mp 2 64 0) (w64 (len64 b)) (.mp 3 128 0) (.int .i64 e) (.int .i64 i) [.cells ((rep 32 0#8).map w8), .cells (s.map w32), .cells (kk.map w32), .cells ((iter (setLen (len64 b) e) i t).map w8)]
def S33c (t : List B8) (s : List B32) (e i : Nat) : St :=
  a33S2 (.mp 0 32 0) (.mp 1 8 0) (.mp 2 64 0) (.mp 3 128 0) (.int .i64 e) (.int .i64 (64 * i : Nat)) [.cells ((rep 32 0#8).map w8), .cells ((blks t i s).map w32), .cells (kk.map w32), .cells (t.map w8)]
def S33d (t : List B8) (s : List B32) (i : Nat) : St :=
  a33S3 (.mp 0 32 0) (.mp 1 8 0) (.mp 4 32 0) (.int .i64 i) [.cells ((rep 32 0#8).map w8), .cells (s.map w32), .cells (kk.map w32), .cells (t.map w8), .cells ((iter (fun i (d : List B8) => d.set i (outs s i)) i (rep 32 0#8)).map w8)]
set_option maxRecDepth 20000 in
/-- behind the content: the tail is filled and taken in -/
theorem sum_tail (b t : List B8) (ht : t.length = 128) (s : List B32) (hs : s.length = 8) (e : Nat) (he : e = 64 ∨ e = 128) (st : St) (hst : Weak 0 st (S33b b t s e 0)) :
    W T3 0 (.loop a33L1) (blockK 2 (seqK T3 0 (tailC 11 a33.code) (retK a33.res (.agg ((outB (blks (iter (setLen (len64 b) e) 8 t) (e / 64) s)).map w8))))) st := by
  refine W_loop (S33b b t s e) (fun i => 8 - i) (fun i => i ≤ 8) 0 hst (by omega) (fun i hi => ?_)
  simp (disch := first | omega | (simp [-List.map_take, -List.map_drop, -List.map_set, -List.map_append, -List.drop_one] <;> omega) | fail) [-List.map_take, -List.map_drop, -List.map_set, -List.map_append, -List.drop_one, a33L1, a33S1, S33b]
  by_cases h : i < 8
  · have h1 : (i : Int) < 8 := by omega
    have e1 : ((e : Int) - 1 - i).toNat = e - 1 - i := by omega
    have e2 : (8 * (i : Int)).toNat = 8 * i := by omega
    simp (disch := first | omega | (simp [-List.map_take, -List.map_drop, -List.map_set, -List.map_append, -List.drop_one] <;> omega) | fail) [-List.map_take, -List.map_drop, -List.map_set, -List.map_append, -List.drop_one, h1, ht, e1, e2]
    refine ⟨i + 1, weak_same (by simp (disch := first | omega | (simp [-List.map_take, -List.map_drop, -List.map_set, -List.map_append, -List.drop_one] <;> omega) | fail) [-List.map_take, -List.map_drop, -List.map_set, -List.map_append, -List.drop_one]) ?_, by omega, by omega⟩
    simp (disch := first | omega | (simp [-List.map_take, -List.map_drop, -List.map_set, -List.map_append, -List.drop_one] <;> omega) | fail) [-List.map_take, -List.map_drop, -List.map_set, -List.map_append, -List.drop_one, iter_succ (n := i), setLen]
  · have h1 : ¬ (i : Int) < 8 := by omega
    obtain rfl : i = 8 := by omega
    simp (disch := first | omega | (simp [-List.map_take, -List.map_drop, -List.map_set, -List.map_append, -List.drop_one] <;> omega) | fail) [-List.map_take, -List.map_drop, -List.map_set, -List.map_append, -List.drop_one, h1, tailC, a33]
    have hl : (iter (setLen (len64 b) e) 8 t).length = 128 := by simp [ht]
    generalize iter (setLen (len64 b) e) 8 t = u at *
    refine W_loop (S33c u s e) (fun i => e / 64 - i) (fun i => i ≤ e / 64) 0 (weak_same (by simp (disch := first | omega | (simp [-List.map_take, -List.map_drop, -List.map_set, -List.map_append, -List.drop_one] <;> omega) | fail) [-List.map_take, -List.map_drop, -List.map_set, -List.map_append, -List.drop_one]) (by simp (disch := first | omega | (simp [-List.map_take, -List.map_drop, -List.map_set, -List.map_append, -List.drop_one] <;> omega) | fail) [-List.map_take, -List.map_drop, -List.map_set, -List.map_append, -List.drop_one, blks])) (by omega) (fun i hi => ?_)
    simp (disch := first | omega | (simp [-List.map_take, -List.map_drop, -List.map_set, -List.map_append, -List.drop_one] <;> omega) | fail) [-List.map_take, -List.map_drop, -List.map_set, -List.map_append, -List.drop_one, a33L2, a33S2, S33c]
    by_cases h : i < e / 64
    · have h1 : 64 * (i : Int) < e := by omega
      have e1 : (64 * (i : Int)).toNat = 64 * i := by omega
      have e2 : (64 * (i : Int) + 64).toNat - 64 * i = 64 := by omega
      simp (disch := first | omega | (simp [-List.map_take, -List.map_drop, -List.map_set, -List.map_append, -List.drop_one] <;> omega) | fail) [-List.map_take, -List.map_drop, -List.map_set, -List.map_append, -List.drop_one, h1, hl, hs, e1, e2, T3_absorb, c_absorb_ms]
      refine ⟨i + 1, weak_same (by simp (disch := first | omega | (simp [-List.map_take, -List.map_drop, -List.map_set, -List.map_append, -List.drop_one] <;> omega) | fail) [-List.map_take, -List.map_drop, -List.map_set, -List.map_append, -List.drop_one, weakL]; omega) ?_, by omega, by omega⟩
      simp (disch := first | omega | (simp [-List.map_take, -List.map_drop, -List.map_set, -List.map_append, -List.drop_one] <;> omega) | fail) [-List.map_take, -List.map_drop, -List.map_set, -List.map_append, -List.drop_one, blks, iter_succ (n := i), blk]
    · have h1 : ¬ 64 * (i : Int) < e := by omega
      simp (disch := first | omega | (simp [-List.map_take, -List.map_drop, -List.map_set, -List.map_append, -List.drop_one] <;> omega) | fail) [-List.map_take, -List.map_drop, -List.map_set, -List.map_append, -List.drop_one, h1]
      obtain rfl : i = e / 64 := by omega
      have hl2 : (blks u (e / 64) s).length = 8 := by simp [hs]
      generalize blks u (e / 64) s = v at *
      refine W_loop (S33d u v) (fun i => 32 - i) (fun i => i ≤ 32) 0 (weak_same (by simp (disch := first | omega | (simp [-List.map_take, -List.map_drop, -List.map_set, -List.map_append, -List.drop_one] <;> omega) | fail) [-List.map_take, -List.map_drop, -List.map_set, -List.map_append, -List.drop_one]) (by simp (disch := first | omega | (simp [-List.map_take, -List.map_drop, -List.map_set, -List.map_append, -List.drop_one] <;> omega) | fail) [-List.map_take, -List.map_drop, -List.map_set, -List.map_append, -List.drop_one])) (by omega) (fun i hi => ?_)
      simp (disch := first | omega | (simp [-List.map_take, -List.map_drop, -List.map_set, -List.map_append, -List.drop_one] <;> omega) | fail) [-List.map_take, -List.map_drop, -List.map_set, -List.map_append, -List.drop_one, a33L3, a33S3, S33d]
      have hl3 : (iter (fun i (d : List B8) => d.set i (outs v i)) i (rep 32 0#8)).length = 32 := by rw [length_iter_set (f := fun i _ => outs v i) (g := fun i => i)]; simp
      by_cases h : i < 32
      · have h1 : (i : Int) < 32 := by omega
        have e1 : ((i : Int) / 4).toNat = i / 4 := by omega
        have e2 : ((24 : Int) - 8 * ((i : Int) % 4)).toNat = 24 - 8 * (i % 4) := by omega
        simp (disch := first | omega | (simp [-List.map_take, -List.map_drop, -List.map_set, -List.map_append, -List.drop_one] <;> omega) | fail) [-List.map_take, -List.map_drop, -List.map_set, -List.map_append, -List.drop_one, h1, hl2, hl3, e1, e2]
        refine ⟨i + 1, weak_same (by simp (disch := first | omega | (simp [-List.map_take, -List.map_drop, -List.map_set, -List.map_append, -List.drop_one] <;> omega) | fail) [-List.map_take, -List.map_drop, -List.map_set, -List.map_append, -List.drop_one]) ?_, by omega, by omega⟩
        simp (disch := first | omega | (simp [-List.map_take, -List.map_drop, -List.map_set, -List.map_append, -List.drop_one] <;> omega) | fail) [-List.map_take, -List.map_drop, -List.map_set, -List.map_append, -List.drop_one, iter_succ (n := i), outs, hl2]
      · have h1 : ¬ (i : Int) < 32 := by omega
        obtain rfl : i = 32 := by omega
        have hx : iter (fun i (d : List B8) => d.set i (outs v i)) 32 (rep 32 0#8) = outB v := by rw [iter_set _ _ _ (by simp)]; simp [outB, rep]
        simp (disch := first | omega | (simp [-List.map_take, -List.map_drop, -List.map_set, -List.map_append, -List.drop_one] <;> omega) | fail) [-List.map_take, -List.map_drop, -List.map_set, -List.map_append, -List.drop_one, h1, hx]
end Go.Proofs.Ythkcgeokfcbllaa
