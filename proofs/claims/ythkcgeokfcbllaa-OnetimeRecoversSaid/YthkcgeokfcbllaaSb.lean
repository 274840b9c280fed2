/-
  The walks of the program's rotation, schedule and constants.
-/
import Derived.Test.YthkcgeokfcbllaaSa
import Derived.Test.YthkcgeokfcbllaaFa
set_option linter.unusedSimpArgs false
set_option linter.unusedVariables false
namespace Go.Proofs.Ythkcgeokfcbllaa
open Go Go.Am

theorem rotl7 (x : B32) : rotl x (-7) = rotr x 7 := by rw [rotl, rotr, BitVec.or_comm]; rfl
theorem rotl18 (x : B32) : rotl x (-18) = rotr x 18 := by rw [rotl, rotr, BitVec.or_comm]; rfl
theorem rotl17 (x : B32) : rotl x (-17) = rotr x 17 := by rw [rotl, rotr, BitVec.or_comm]; rfl
theorem rotl19 (x : B32) : rotl x (-19) = rotr x 19 := by rw [rotl, rotr, BitVec.or_comm]; rfl
theorem rotl6 (x : B32) : rotl x (-6) = rotr x 6 := by rw [rotl, rotr, BitVec.or_comm]; rfl
theorem rotl11 (x : B32) : rotl x (-11) = rotr x 11 := by rw [rotl, rotr, BitVec.or_comm]; rfl
theorem rotl25 (x : B32) : rotl x (-25) = rotr x 25 := by rw [rotl, rotr, BitVec.or_comm]; rfl
theorem rotl2 (x : B32) : rotl x (-2) = rotr x 2 := by rw [rotl, rotr, BitVec.or_comm]; rfl
theorem rotl13 (x : B32) : rotl x (-13) = rotr x 13 := by rw [rotl, rotr, BitVec.or_comm]; rfl
theorem rotl22 (x : B32) : rotl x (-22) = rotr x 22 := by rw [rotl, rotr, BitVec.or_comm]; rfl

theorem runs_rotl (x : B32) (k : Int) : Runs tbl0 a64 [w32 x, .int .i64 k] (w32 (rotl x k)) := by
  refine ⟨?_⟩
  simp [a64, rotl]
noncomputable def c_rotl : List DV → Option DV := con (fun (_ : B32 × Int) => True) (fun a => [w32 a.1, .int .i64 a.2]) (fun a => w32 (rotl a.1 a.2))
theorem c_rotl_eq {x : B32} {k : Int} : c_rotl [w32 x, .int .i64 k] = some (w32 (rotl x k)) := con_eq (a := (x, k)) (by rintro ⟨a, b⟩ ⟨c, d⟩; simp +contextual) trivial
theorem sem_rotl (x : B32) (k : Int) : Am.Sem P 64 [w32 x, .int .i64 k] (w32 (rotl x k)) := sem_runs mix tbl0_sound Try.func64 a64_ok (runs_rotl x k)
noncomputable def T1 : Tbl := addT 64 (.pure c_rotl) tbl0
theorem T1_rotl : T1 64 = .pure c_rotl := by simp [T1]
theorem T1_sound : T1.Sound P := addT_sound (con_sound fun a _ => sem_rotl a.1 a.2) tbl0_sound

def S63a (full : Bool) (b : List B8) (i : Nat) : St := a63S0 (.sl full 1 64 (b.map w8)) (.mp 0 64 0) (.mp 1 64 0) (.int .i64 i) [.cells (rep 64 (w32 0#32)), .cells ((iter (sch1 b) i (rep 64 0#32)).map w32)]
def S63b (w : List B32) (i : Nat) : St := a63S1 (.mp 0 64 0) (.mp 1 64 0) (.int .i64 (i + 16 : Nat)) [.cells ((rep 64 0#32).map w32), .cells ((iter sch2 i w).map w32)]
theorem runs_schedule (full : Bool) (b : List B8) (hb : b.length = 64) : Runs T1 a63 [.sl full 1 64 (b.map w8)] (.agg ((sched b).map w32)) := by
  refine ⟨?_⟩
  simp (disch := first | omega | (simp [-List.map_take, -List.map_drop, -List.map_set, -List.map_append, -List.drop_one] <;> omega) | fail) [-List.map_take, -List.map_drop, -List.map_set, -List.map_append, -List.drop_one, a63]
  refine W_loop (S63a full b) (fun i => 16 - i) (fun i => i ≤ 16) 0 (weak_same (by simp (disch := first | omega | (simp [-List.map_take, -List.map_drop, -List.map_set, -List.map_append, -List.drop_one] <;> omega) | fail) [-List.map_take, -List.map_drop, -List.map_set, -List.map_append, -List.drop_one]) (by simp (disch := first | omega | (simp [-List.map_take, -List.map_drop, -List.map_set, -List.map_append, -List.drop_one] <;> omega) | fail) [-List.map_take, -List.map_drop, -List.map_set, -List.map_append, -List.drop_one])) (by omega) (fun i hi => ?_)
  simp (disch := first | omega | (simp [-List.map_take, -List.map_drop, -List.map_set, -List.map_append, -List.drop_one] <;> omega) | fail) [-List.map_take, -List.map_drop, -List.map_set, -List.map_append, -List.drop_one, a63L0, a63S0, S63a]
  have hl : (iter (sch1 b) i (rep 64 0#32)).length = 64 := by simp (disch := first | omega | (simp [-List.map_take, -List.map_drop, -List.map_set, -List.map_append, -List.drop_one] <;> omega) | fail) [-List.map_take, -List.map_drop, -List.map_set, -List.map_append, -List.drop_one, len_sch1]
  by_cases h : i < 16
  · have h1 : (i : Int) < 16 := by omega
    have e0 : (4 * (i:Int)).toNat = 4 * i := by omega
    have e1 : (4 * (i:Int) + 1).toNat = 4 * i + 1 := by omega
    have e2 : (4 * (i:Int) + 2).toNat = 4 * i + 2 := by omega
    have e3 : (4 * (i:Int) + 3).toNat = 4 * i + 3 := by omega
    simp (disch := first | omega | (simp [-List.map_take, -List.map_drop, -List.map_set, -List.map_append, -List.drop_one] <;> omega) | fail) [-List.map_take, -List.map_drop, -List.map_set, -List.map_append, -List.drop_one, h1, hb, hl, e0, e1, e2, e3]
    refine ⟨i + 1, weak_same (by simp (disch := first | omega | (simp [-List.map_take, -List.map_drop, -List.map_set, -List.map_append, -List.drop_one] <;> omega) | fail) [-List.map_take, -List.map_drop, -List.map_set, -List.map_append, -List.drop_one]) ?_, by omega, by omega⟩
    simp (disch := first | omega | (simp [-List.map_take, -List.map_drop, -List.map_set, -List.map_append, -List.drop_one] <;> omega) | fail) [-List.map_take, -List.map_drop, -List.map_set, -List.map_append, -List.drop_one, iter_succ (n := i), sch1, word, hb]
  · have h1 : ¬ (i : Int) < 16 := by omega
    obtain rfl : i = 16 := by omega
    simp (disch := first | omega | (simp [-List.map_take, -List.map_drop, -List.map_set, -List.map_append, -List.drop_one] <;> omega) | fail) [-List.map_take, -List.map_drop, -List.map_set, -List.map_append, -List.drop_one, h1]
    have hw : (iter (sch1 b) 16 (rep 64 0#32)).length = 64 := by simp (disch := first | omega | (simp [-List.map_take, -List.map_drop, -List.map_set, -List.map_append, -List.drop_one] <;> omega) | fail) [-List.map_take, -List.map_drop, -List.map_set, -List.map_append, -List.drop_one, len_sch1]
    simp only [sched]
    generalize iter (sch1 b) 16 (rep 64 0#32) = w1 at *
    refine W_loop (S63b w1) (fun i => 48 - i) (fun i => i ≤ 48) 0 (weak_same (by simp (disch := first | omega | (simp [-List.map_take, -List.map_drop, -List.map_set, -List.map_append, -List.drop_one] <;> omega) | fail) [-List.map_take, -List.map_drop, -List.map_set, -List.map_append, -List.drop_one]) (by simp (disch := first | omega | (simp [-List.map_take, -List.map_drop, -List.map_set, -List.map_append, -List.drop_one] <;> omega) | fail) [-List.map_take, -List.map_drop, -List.map_set, -List.map_append, -List.drop_one])) (by omega) (fun i hi => ?_)
    simp (disch := first | omega | (simp [-List.map_take, -List.map_drop, -List.map_set, -List.map_append, -List.drop_one] <;> omega) | fail) [-List.map_take, -List.map_drop, -List.map_set, -List.map_append, -List.drop_one, a63L1, a63S1, S63b]
    have hl : (iter sch2 i w1).length = 64 := by simp (disch := first | omega | (simp [-List.map_take, -List.map_drop, -List.map_set, -List.map_append, -List.drop_one] <;> omega) | fail) [-List.map_take, -List.map_drop, -List.map_set, -List.map_append, -List.drop_one, hw, len_sch2]
    by_cases h : i < 48
    · have h1 : (i : Int) + 16 < 64 := by omega
      have e0 : ((i:Int) + 16 - 15).toNat = i + 1 := by omega
      have e1 : ((i:Int) + 16 - 2).toNat = i + 14 := by omega
      have e2 : ((i:Int) + 16 - 16).toNat = i := by omega
      have e3 : ((i:Int) + 16 - 7).toNat = i + 9 := by omega
      have e4 : ((i:Int) + 16).toNat = i + 16 := by omega
      simp (disch := first | omega | (simp [-List.map_take, -List.map_drop, -List.map_set, -List.map_append, -List.drop_one] <;> omega) | fail) [-List.map_take, -List.map_drop, -List.map_set, -List.map_append, -List.drop_one, h1, hl, e0, e1, e2, e3, e4, T1_rotl, c_rotl_eq]
      refine ⟨i + 1, weak_same (by simp (disch := first | omega | (simp [-List.map_take, -List.map_drop, -List.map_set, -List.map_append, -List.drop_one] <;> omega) | fail) [-List.map_take, -List.map_drop, -List.map_set, -List.map_append, -List.drop_one, weakL]; omega) ?_, by omega, by omega⟩
      simp (disch := first | omega | (simp [-List.map_take, -List.map_drop, -List.map_set, -List.map_append, -List.drop_one] <;> omega) | fail) [-List.map_take, -List.map_drop, -List.map_set, -List.map_append, -List.drop_one, iter_succ (n := i), sch2, hl, rotl7, rotl18, rotl17, rotl19]
    · have h1 : ¬ (i : Int) + 16 < 64 := by omega
      obtain rfl : i = 48 := by omega
      simp (disch := first | omega | (simp [-List.map_take, -List.map_drop, -List.map_set, -List.map_append, -List.drop_one] <;> omega) | fail) [-List.map_take, -List.map_drop, -List.map_set, -List.map_append, -List.drop_one, h1, hl]
theorem sem_schedule (full : Bool) (b : List B8) (hb : b.length = 64) : Am.Sem P 63 [.sl full 1 64 (b.map w8)] (.agg ((sched b).map w32)) := sem_runs mix T1_sound Try.func63 a63_ok (runs_schedule full b hb)
noncomputable def c_schedule : List DV → Option DV := con (fun (a : Bool × List B8) => a.2.length = 64) (fun a => [.sl a.1 1 64 (a.2.map w8)]) (fun a => .agg ((sched a.2).map w32))
theorem c_schedule_eq {f : Bool} {b : List B8} (hb : b.length = 64) : c_schedule [.sl f 1 64 (b.map w8)] = some (.agg ((sched b).map w32)) := con_eq' (a := (f, b)) (by rintro ⟨a, b⟩ ⟨c, d⟩ _ _; simp [map_inj_w8]; rintro _ rfl; rfl) hb
set_option maxRecDepth 100000 in
theorem runs_rounds : Runs tbl0 a53 [] (.agg (kk.map w32)) := by
  refine ⟨?_⟩
  simp only [a53, W_seq, W_region, SO_op, E_alloc, stepD_some, putT_some, SO_nil, normK_eq, seqK_normal, E_build, W_ret, seqK_ret, startT_eq, List.length_nil, Nat.sub_zero, us_succ, us_zero, List.nil_append, List.set_cons_zero, List.set_cons_succ]
  rw [buildD_seq (vs := kk.map w32) (by rfl) (by rfl) (by rfl)]
  simp (disch := first | omega | (simp [-List.map_take, -List.map_drop, -List.map_set, -List.map_append, -List.drop_one] <;> omega) | fail) [-List.map_take, -List.map_drop, -List.map_set, -List.map_append, -List.drop_one, len_kk]
theorem sem_rounds : Am.Sem P 53 [] (.agg (kk.map w32)) := sem_runs mix tbl0_sound Try.func53 a53_ok runs_rounds
noncomputable def c_rounds : List DV → Option DV := con (fun (_ : Unit) => True) (fun _ => []) (fun _ => .agg (kk.map w32))
theorem c_rounds_eq : c_rounds [] = some (.agg (kk.map w32)) := con_eq (a := ()) (by simp (disch := first | omega | (simp [-List.map_take, -List.map_drop, -List.map_set, -List.map_append, -List.drop_one] <;> omega) | fail) [-List.map_take, -List.map_drop, -List.map_set, -List.map_append, -List.drop_one]) trivial
noncomputable def T2 : Tbl := addT 63 (.pure c_schedule) (addT 53 (.pure c_rounds) T1)
theorem T2_rotl : T2 64 = .pure c_rotl := by simp [T1, T2]
theorem T2_schedule : T2 63 = .pure c_schedule := by simp [T2]
theorem T2_rounds : T2 53 = .pure c_rounds := by simp [T2]
theorem T2_sound : T2.Sound P := addT_sound (con_sound fun a h => sem_schedule a.1 a.2 h) (addT_sound (con_sound fun _ _ => sem_rounds) T1_sound)
end Go.Proofs.Ythkcgeokfcbllaa
