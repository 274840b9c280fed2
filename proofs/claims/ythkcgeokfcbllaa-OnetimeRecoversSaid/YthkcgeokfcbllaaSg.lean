/-
  The walks of the reference's rotation, constants and block.
-/
import Derived.Test.YthkcgeokfcbllaaSe
set_option linter.unusedSimpArgs false
set_option linter.unusedVariables false
namespace Go.Proofs.Ythkcgeokfcbllaa
open Go Go.Am

theorem runs_rotate (x : B32) (z : Int) (h0 : 0 ≤ z) (h1 : z ≤ 32) : Runs tbl0 a65 [w32 x, .int .i64 z] (w32 (rotr x z.toNat)) := by
  refine ⟨?_⟩
  have e : ((32 : Int) - z).toNat = 32 - z.toNat := by omega
  simp (disch := first | omega | (simp [-List.map_take, -List.map_drop, -List.map_set, -List.map_append, -List.drop_one] <;> omega) | fail) [-List.map_take, -List.map_drop, -List.map_set, -List.map_append, -List.drop_one, a65, rotr, e]
theorem sem_rotate (x : B32) (z : Int) (h0 : 0 ≤ z) (h1 : z ≤ 32) : Am.Sem P 65 [w32 x, .int .i64 z] (w32 (rotr x z.toNat)) := sem_runs mix tbl0_sound Try.func65 a65_ok (runs_rotate x z h0 h1)
noncomputable def c_rotate : List DV → Option DV := con (fun (a : B32 × Int) => 0 ≤ a.2 ∧ a.2 ≤ 32) (fun a => [w32 a.1, .int .i64 a.2]) (fun a => w32 (rotr a.1 a.2.toNat))
theorem c_rotate_eq {x : B32} {z : Int} (h0 : 0 ≤ z) (h1 : z ≤ 32) : c_rotate [w32 x, .int .i64 z] = some (w32 (rotr x z.toNat)) := con_eq (a := (x, z)) (by rintro ⟨a, b⟩ ⟨c, d⟩; simp +contextual) ⟨h0, h1⟩
set_option maxRecDepth 100000 in
theorem runs_constants : Runs tbl0 a66 [] (.agg (kk.map w32)) := by
  refine ⟨?_⟩
  simp only [a66, W_seq, W_region, SO_op, E_alloc, stepD_some, putT_some, SO_nil, normK_eq, seqK_normal, E_build, W_ret, seqK_ret, startT_eq, List.length_nil, Nat.sub_zero, us_succ, us_zero, List.nil_append, List.set_cons_zero, List.set_cons_succ]
  rw [buildD_seq (vs := kk.map w32) (by rfl) (by rfl) (by rfl)]
  simp (disch := first | omega | (simp [-List.map_take, -List.map_drop, -List.map_set, -List.map_append, -List.drop_one] <;> omega) | fail) [-List.map_take, -List.map_drop, -List.map_set, -List.map_append, -List.drop_one, len_kk]
theorem sem_constants : Am.Sem P 66 [] (.agg (kk.map w32)) := sem_runs mix tbl0_sound Try.func66 a66_ok runs_constants
noncomputable def T4 : Tbl := addT 65 (.pure c_rotate) (addT 66 (.pure c_rounds) tbl0)
theorem T4_rotate : T4 65 = .pure c_rotate := by simp [T4]
theorem T4_constants : T4 66 = .pure c_rounds := by simp [T4]
theorem T4_sound : T4.Sound P := addT_sound (con_sound fun a h => sem_rotate a.1 a.2 h.1 h.2) (addT_sound (con_sound fun _ _ => sem_constants) tbl0_sound)

def S55a (f : Bool) (b : List B8) (s : List B32) (i : Nat) : St := a55S0 (.sl f 1 64 (b.map w8)) (.mp 0 8 0) (.mp 1 8 0) (.mp 2 64 0) (.int .i64 i) [.cells (s.map w32), .cells ((rep 8 0#32).map w32), .cells ((iter (sch1 b) i (rep 64 0#32)).map w32)]
def S55b (s w : List B32) (i : Nat) : St := a55S1 (.mp 0 8 0) (.mp 1 8 0) (.mp 2 64 0) (.int .i64 (i + 16 : Nat)) [.cells (s.map w32), .cells ((rep 8 0#32).map w32), .cells ((iter sch2 i w).map w32)]
def S55c (s w : List B32) (i : Nat) : St := a55S2 (.mp 0 8 0) (.mp 1 8 0) (.mp 2 64 0) (.mp 3 64 0) (.mp 4 8 0) (.int .i64 i) [.cells (s.map w32), .cells ((rep 8 0#32).map w32), .cells (w.map w32), .cells (kk.map w32), .cells ((rnds w i s).map w32)]
def S55d (s w : List B32) (i : Nat) : St := a55S3 (.mp 0 8 0) (.mp 1 8 0) (.mp 4 8 0) (.int .i64 i) [.cells ((iter (add8 (rnds w 64 s)) i s).map w32), .cells ((rep 8 0#32).map w32), .cells (w.map w32), .cells (kk.map w32), .cells ((rnds w 64 s).map w32)]
theorem rnd_ref (k w : B32) (s : List B32) (h : s.length = 8) : [w32 (s[7] + (rotr s[4] 6 ^^^ rotr s[4] 11 ^^^ rotr s[4] 25) + (s[4] &&& s[5] ^^^ ~~~s[4] &&& s[6]) + k + w + ((rotr s[0] 2 ^^^ rotr s[0] 13 ^^^ rotr s[0] 22) + (s[0] &&& s[1] ^^^ s[0] &&& s[2] ^^^ s[1] &&& s[2]))), w32 s[0], w32 s[1], w32 s[2],
    w32 (s[3] + (s[7] + (rotr s[4] 6 ^^^ rotr s[4] 11 ^^^ rotr s[4] 25) + (s[4] &&& s[5] ^^^ ~~~s[4] &&& s[6]) + k + w)), w32 s[4], w32 s[5], w32 s[6]] = (rnd k w s).map w32 := by
  match s, h with
  | [a, b, c, d, e, f, g, i], _ =>
    simp [rnd]
    constructor <;> ac_rfl
set_option maxRecDepth 20000 in
set_option maxHeartbeats 1000000 in
theorem runs_block (f : Bool) (b : List B8) (hb : b.length = 64) (s : List B32) (hs : s.length = 8) : Runs T4 a55 [.agg (s.map w32), .sl f 1 64 (b.map w8)] (.agg ((comp s b).map w32)) := by
  refine ⟨?_⟩
  simp (disch := first | omega | (simp [-List.map_take, -List.map_drop, -List.map_set, -List.map_append, -List.drop_one] <;> omega) | fail) [-List.map_take, -List.map_drop, -List.map_set, -List.map_append, -List.drop_one, a55, hs]
  refine W_loop (S55a f b s) (fun i => 16 - i) (fun i => i ≤ 16) 0 (weak_same (by simp (disch := first | omega | (simp [-List.map_take, -List.map_drop, -List.map_set, -List.map_append, -List.drop_one] <;> omega) | fail) [-List.map_take, -List.map_drop, -List.map_set, -List.map_append, -List.drop_one]) (by simp (disch := first | omega | (simp [-List.map_take, -List.map_drop, -List.map_set, -List.map_append, -List.drop_one] <;> omega) | fail) [-List.map_take, -List.map_drop, -List.map_set, -List.map_append, -List.drop_one])) (by omega) (fun i hi => ?_)
  simp (disch := first | omega | (simp [-List.map_take, -List.map_drop, -List.map_set, -List.map_append, -List.drop_one] <;> omega) | fail) [-List.map_take, -List.map_drop, -List.map_set, -List.map_append, -List.drop_one, a55L0, a55S0, S55a]
  have hl : (iter (sch1 b) i (rep 64 0#32)).length = 64 := by simp
  by_cases h : i < 16
  · have h1 : (i : Int) < 16 := by omega
    have e0 : (4 * (i:Int)).toNat = 4 * i := by omega
    have e1 : (4 * (i:Int) + 1).toNat = 4 * i + 1 := by omega
    have e2 : (4 * (i:Int) + 2).toNat = 4 * i + 2 := by omega
    have e3 : (4 * (i:Int) + 3).toNat = 4 * i + 3 := by omega
    simp (disch := first | omega | (simp [-List.map_take, -List.map_drop, -List.map_set, -List.map_append, -List.drop_one] <;> omega) | fail) [-List.map_take, -List.map_drop, -List.map_set, -List.map_append, -List.drop_one, h1, hb, hl, e0, e1, e2, e3]
    refine ⟨i + 1, weak_same (by simp (disch := first | omega | (simp [-List.map_take, -List.map_drop, -List.map_set, -List.map_append, -List.drop_one] <;> omega) | fail) [-List.map_take, -List.map_drop, -List.map_set, -List.map_append, -List.drop_one]) ?_, by omega, by omega⟩
    simp (disch := first | omega | (simp [-List.map_take, -List.map_drop, -List.map_set, -List.map_append, -List.drop_one] <;> omega) | fail) [-List.map_take, -List.map_drop, -List.map_set, -List.map_append, -List.drop_one, iter_succ (n := i), sch1, word, hb]
  · have h1 : ¬ (i : Int) < 16 := by omega
    obtain rfl : i = 16 := by omega
    simp (disch := first | omega | (simp [-List.map_take, -List.map_drop, -List.map_set, -List.map_append, -List.drop_one] <;> omega) | fail) [-List.map_take, -List.map_drop, -List.map_set, -List.map_append, -List.drop_one, h1]
    have hw : (iter (sch1 b) 16 (rep 64 0#32)).length = 64 := by simp
    rw [show comp s b = iter (add8 (rnds (iter sch2 48 (iter (sch1 b) 16 (rep 64 0#32))) 64 s)) 8 s from rfl]
    generalize iter (sch1 b) 16 (rep 64 0#32) = w1 at *
    refine W_loop (S55b s w1) (fun i => 48 - i) (fun i => i ≤ 48) 0 (weak_same (by simp (disch := first | omega | (simp [-List.map_take, -List.map_drop, -List.map_set, -List.map_append, -List.drop_one] <;> omega) | fail) [-List.map_take, -List.map_drop, -List.map_set, -List.map_append, -List.drop_one]) (by simp (disch := first | omega | (simp [-List.map_take, -List.map_drop, -List.map_set, -List.map_append, -List.drop_one] <;> omega) | fail) [-List.map_take, -List.map_drop, -List.map_set, -List.map_append, -List.drop_one])) (by omega) (fun i hi => ?_)
    simp (disch := first | omega | (simp [-List.map_take, -List.map_drop, -List.map_set, -List.map_append, -List.drop_one] <;> omega) | fail) [-List.map_take, -List.map_drop, -List.map_set, -List.map_append, -List.drop_one, a55L1, a55S1, S55b]
    have hl : (iter sch2 i w1).length = 64 := by simp [hw]
    by_cases h : i < 48
    · have h1 : (i : Int) + 16 < 64 := by omega
      have e0 : ((i:Int) + 16 - 15).toNat = i + 1 := by omega
      have e1 : ((i:Int) + 16 - 2).toNat = i + 14 := by omega
      have e2 : ((i:Int) + 16 - 16).toNat = i := by omega
      have e3 : ((i:Int) + 16 - 7).toNat = i + 9 := by omega
      have e4 : ((i:Int) + 16).toNat = i + 16 := by omega
      simp (disch := first | omega | (simp [-List.map_take, -List.map_drop, -List.map_set, -List.map_append, -List.drop_one] <;> omega) | fail) [-List.map_take, -List.map_drop, -List.map_set, -List.map_append, -List.drop_one, h1, hl, e0, e1, e2, e3, e4, T4_rotate, c_rotate_eq]
      refine ⟨i + 1, weak_same (by simp (disch := first | omega | (simp [-List.map_take, -List.map_drop, -List.map_set, -List.map_append, -List.drop_one] <;> omega) | fail) [-List.map_take, -List.map_drop, -List.map_set, -List.map_append, -List.drop_one, weakL]; omega) ?_, by omega, by omega⟩
      simp (disch := first | omega | (simp [-List.map_take, -List.map_drop, -List.map_set, -List.map_append, -List.drop_one] <;> omega) | fail) [-List.map_take, -List.map_drop, -List.map_set, -List.map_append, -List.drop_one, iter_succ (n := i), sch2, hl]
    · have h1 : ¬ (i : Int) + 16 < 64 := by omega
      obtain rfl : i = 48 := by omega
      have hw2 : (iter sch2 48 w1).length = 64 := by simp [hw]
      simp (disch := first | omega | (simp [-List.map_take, -List.map_drop, -List.map_set, -List.map_append, -List.drop_one] <;> omega) | fail) [-List.map_take, -List.map_drop, -List.map_set, -List.map_append, -List.drop_one, h1, T4_constants, c_rounds_eq, hs]
      generalize iter sch2 48 w1 = w at *
      refine W_loop (S55c s w) (fun i => 64 - i) (fun i => i ≤ 64) 0 (weak_same (by simp (disch := first | omega | (simp [-List.map_take, -List.map_drop, -List.map_set, -List.map_append, -List.drop_one] <;> omega) | fail) [-List.map_take, -List.map_drop, -List.map_set, -List.map_append, -List.drop_one]) (by simp (disch := first | omega | (simp [-List.map_take, -List.map_drop, -List.map_set, -List.map_append, -List.drop_one] <;> omega) | fail) [-List.map_take, -List.map_drop, -List.map_set, -List.map_append, -List.drop_one, rnds])) (by omega) (fun i hi => ?_)
      simp (disch := first | omega | (simp [-List.map_take, -List.map_drop, -List.map_set, -List.map_append, -List.drop_one] <;> omega) | fail) [-List.map_take, -List.map_drop, -List.map_set, -List.map_append, -List.drop_one, a55L2, a55S2, S55c]
      have hl : (rnds w i s).length = 8 := len_rnds _ _ _ hs
      by_cases h : i < 64
      · have h1 : (i : Int) < 64 := by omega
        simp (disch := first | omega | (simp [-List.map_take, -List.map_drop, -List.map_set, -List.map_append, -List.drop_one] <;> omega) | fail) [-List.map_take, -List.map_drop, -List.map_set, -List.map_append, -List.drop_one, h1, hl, T4_rotate, c_rotate_eq, hw2]
        refine ⟨i + 1, weak_same (by simp (disch := first | omega | (simp [-List.map_take, -List.map_drop, -List.map_set, -List.map_append, -List.drop_one] <;> omega) | fail) [-List.map_take, -List.map_drop, -List.map_set, -List.map_append, -List.drop_one]) ?_, by omega, by omega⟩
        have e : rnds w (i + 1) s = rnd (kk.getD i 0) (w.getD i 0) (rnds w i s) := rfl
        rw [e, ← rnd_ref _ _ _ hl]
        simp (disch := first | omega | (simp [-List.map_take, -List.map_drop, -List.map_set, -List.map_append, -List.drop_one] <;> omega) | fail) [-List.map_take, -List.map_drop, -List.map_set, -List.map_append, -List.drop_one, hw2, h]
      · have h1 : ¬ (i : Int) < 64 := by omega
        obtain rfl : i = 64 := by omega
        have hl : (rnds w 64 s).length = 8 := len_rnds _ _ _ hs
        simp (disch := first | omega | (simp [-List.map_take, -List.map_drop, -List.map_set, -List.map_append, -List.drop_one] <;> omega) | fail) [-List.map_take, -List.map_drop, -List.map_set, -List.map_append, -List.drop_one, h1]
        refine W_loop (S55d s w) (fun i => 8 - i) (fun i => i ≤ 8) 0 (weak_same (by simp (disch := first | omega | (simp [-List.map_take, -List.map_drop, -List.map_set, -List.map_append, -List.drop_one] <;> omega) | fail) [-List.map_take, -List.map_drop, -List.map_set, -List.map_append, -List.drop_one]) (by simp (disch := first | omega | (simp [-List.map_take, -List.map_drop, -List.map_set, -List.map_append, -List.drop_one] <;> omega) | fail) [-List.map_take, -List.map_drop, -List.map_set, -List.map_append, -List.drop_one])) (by omega) (fun i hi => ?_)
        simp (disch := first | omega | (simp [-List.map_take, -List.map_drop, -List.map_set, -List.map_append, -List.drop_one] <;> omega) | fail) [-List.map_take, -List.map_drop, -List.map_set, -List.map_append, -List.drop_one, a55L3, a55S3, S55d]
        by_cases h : i < 8
        · have h1 : (i : Int) < 8 := by omega
          simp (disch := first | omega | (simp [-List.map_take, -List.map_drop, -List.map_set, -List.map_append, -List.drop_one] <;> omega) | fail) [-List.map_take, -List.map_drop, -List.map_set, -List.map_append, -List.drop_one, h1, hl, hs]
          refine ⟨i + 1, weak_same (by simp (disch := first | omega | (simp [-List.map_take, -List.map_drop, -List.map_set, -List.map_append, -List.drop_one] <;> omega) | fail) [-List.map_take, -List.map_drop, -List.map_set, -List.map_append, -List.drop_one]) ?_, by omega, by omega⟩
          simp (disch := first | omega | (simp [-List.map_take, -List.map_drop, -List.map_set, -List.map_append, -List.drop_one] <;> omega) | fail) [-List.map_take, -List.map_drop, -List.map_set, -List.map_append, -List.drop_one, iter_succ (n := i), add8, hl, hs]
        · have h1 : ¬ (i : Int) < 8 := by omega
          obtain rfl : i = 8 := by omega
          simp (disch := first | omega | (simp [-List.map_take, -List.map_drop, -List.map_set, -List.map_append, -List.drop_one] <;> omega) | fail) [-List.map_take, -List.map_drop, -List.map_set, -List.map_append, -List.drop_one, h1, hs]
theorem sem_block (f : Bool) (b : List B8) (hb : b.length = 64) (s : List B32) (hs : s.length = 8) : Am.Sem P 55 [.agg (s.map w32), .sl f 1 64 (b.map w8)] (.agg ((comp s b).map w32)) := sem_runs mix T4_sound Try.func55 a55_ok (runs_block f b hb s hs)
noncomputable def c_block : List DV → Option DV := con (fun (a : List B32 × Bool × List B8) => a.1.length = 8 ∧ a.2.2.length = 64) (fun a => [.agg (a.1.map w32), .sl a.2.1 1 64 (a.2.2.map w8)]) (fun a => .agg ((comp a.1 a.2.2).map w32))
theorem c_block_eq {s : List B32} {f : Bool} {b : List B8} (hs : s.length = 8) (hb : b.length = 64) : c_block [.agg (s.map w32), .sl f 1 64 (b.map w8)] = some (.agg ((comp s b).map w32)) :=
  con_eq' (a := (s, f, b)) (by rintro ⟨a, b, c⟩ ⟨d, e, g⟩ _ _; simp [map_inj_w8, map_inj_w32]; rintro rfl _ rfl; rfl) ⟨hs, hb⟩
noncomputable def T5 : Tbl := addT 55 (.pure c_block) tbl0
theorem T5_block : T5 55 = .pure c_block := by simp [T5]
theorem T5_sound : T5.Sound P := addT_sound (con_sound fun a h => sem_block a.2.1 a.2.2 h.2 a.1 h.1) tbl0_sound
end Go.Proofs.Ythkcgeokfcbllaa
