/-
  The walk of digest.absorb.
-/
import Derived.Test.YthkcgeokfcbllaaSb
set_option linter.unusedSimpArgs false
set_option linter.unusedVariables false
namespace Go.Proofs.Ythkcgeokfcbllaa
open Go Go.Am

theorem pureC_one {c : List DV → Option DV} {h : List AObj} {d d' v : DV} (hs : snap h 3 d = some d') (hc : c [d'] = some v) (hv : scal v = true) : pureC c [d] h = some v := by
  unfold pureC
  split
  · rename_i hp
    simp only [pureL, Bool.and_true] at hp
    rw [snap_pure h 3 hp] at hs
    simp at hs; subst hs; exact hc
  · simp [snapL, mapAll, hs, hc, hv]
theorem set_last {α : Type} {r : List α} {x y : α} : (r ++ [x]).set r.length y = r ++ [y] := by simp
def S54a (f : Bool) (s : List B32) (b : List B8) (o : AObj) (r : List AObj) (i : Nat) : St :=
  a54S0 (.mp 1 8 0) (.mp 2 64 0) (.mp (r.length + 3) 64 0) (w32 ((rnds (sched b) i s).getD 0 0)) (w32 ((rnds (sched b) i s).getD 1 0)) (w32 ((rnds (sched b) i s).getD 2 0)) (w32 ((rnds (sched b) i s).getD 3 0))
    (w32 ((rnds (sched b) i s).getD 4 0)) (w32 ((rnds (sched b) i s).getD 5 0)) (w32 ((rnds (sched b) i s).getD 6 0)) (w32 ((rnds (sched b) i s).getD 7 0)) (.int .i64 i)
    (o :: .cells (s.map w32) :: .cells (kk.map w32) :: (r ++ [.cells ((sched b).map w32)]))
def S54b (u s : List B32) (b : List B8) (o : AObj) (r : List AObj) (i : Nat) : St :=
  a54S1 (.mp 1 8 0) (.agg (u.map w32)) (.int .i64 i) (o :: .cells ((iter (add8 u) i s).map w32) :: .cells (kk.map w32) :: (r ++ [.cells ((sched b).map w32)]))
theorem eight (u : List B32) (h : u.length = 8) : [u.getD 0 0, u.getD 1 0, u.getD 2 0, u.getD 3 0, u.getD 4 0, u.getD 5 0, u.getD 6 0, u.getD 7 0] = u := by
  match u, h with
  | [a, b, c, d, e, f, g, i], _ => rfl
theorem eight' (u : List B32) (h : u.length = 8) : [w32 u[0], w32 u[1], w32 u[2], w32 u[3], w32 u[4], w32 u[5], w32 u[6], w32 u[7]] = u.map w32 := by
  match u, h with
  | [a, b, c, d, e, f, g, i], _ => rfl
set_option maxRecDepth 10000 in
theorem runs_absorb (f : Bool) (b : List B8) (hb : b.length = 64) (s : List B32) (hs : s.length = 8) (o : AObj) (r : List AObj) (bd : DV)
  (hbd : snap (o :: .cells (s.map w32) :: .cells (kk.map w32) :: r) 3 bd = some (.sl f 1 64 (b.map w8))) :
  RunsG T2 a54 [.mp 1 8 0, .mp 2 64 0, bd] (o :: .cells (s.map w32) :: .cells (kk.map w32) :: r) (.tup []) (o :: .cells ((comp s b).map w32) :: .cells (kk.map w32) :: r) := by
  refine ⟨?_⟩
  have hp := pureC_one hbd (c_schedule_eq hb) (by simp only [scal]; exact scalL_w32)
  simp (disch := first | omega | (simp [-List.map_take, -List.map_drop, -List.map_set, -List.map_append, -List.drop_one] <;> omega) | fail) [-List.map_take, -List.map_drop, -List.map_set, -List.map_append, -List.drop_one, a54, -pureC_eq, T2_schedule, hp, hs]
  refine W_loop (S54a f s b o r) (fun i => 64 - i) (fun i => i ≤ 64) 0 (weak_same (by simp (disch := first | omega | (simp [-List.map_take, -List.map_drop, -List.map_set, -List.map_append, -List.drop_one] <;> omega) | fail) [-List.map_take, -List.map_drop, -List.map_set, -List.map_append, -List.drop_one, rnds, hs]) (by simp (disch := first | omega | (simp [-List.map_take, -List.map_drop, -List.map_set, -List.map_append, -List.drop_one] <;> omega) | fail) [-List.map_take, -List.map_drop, -List.map_set, -List.map_append, -List.drop_one])) (by omega) (fun i hi => ?_)
  simp (disch := first | omega | (simp [-List.map_take, -List.map_drop, -List.map_set, -List.map_append, -List.drop_one] <;> omega) | fail) [-List.map_take, -List.map_drop, -List.map_set, -List.map_append, -List.drop_one, a54L0, a54S0, S54a]
  have hl : (rnds (sched b) i s).length = 8 := len_rnds _ _ _ hs
  by_cases h : i < 64
  · have h1 : (i : Int) < 64 := by omega
    simp (disch := first | omega | (simp [-List.map_take, -List.map_drop, -List.map_set, -List.map_append, -List.drop_one] <;> omega) | fail) [-List.map_take, -List.map_drop, -List.map_set, -List.map_append, -List.drop_one, h1, hl, T2_rotl, c_rotl_eq]
    refine ⟨i + 1, weak_same ?_ (by simp (disch := first | omega | (simp [-List.map_take, -List.map_drop, -List.map_set, -List.map_append, -List.drop_one] <;> omega) | fail) [-List.map_take, -List.map_drop, -List.map_set, -List.map_append, -List.drop_one]), by omega, by omega⟩
    have e : rnds (sched b) (i + 1) s = rnd (kk.getD i 0) ((sched b).getD i 0) (rnds (sched b) i s) := rfl
    rw [e]
    simp (disch := first | omega | (simp [-List.map_take, -List.map_drop, -List.map_set, -List.map_append, -List.drop_one] <;> omega) | fail) [-List.map_take, -List.map_drop, -List.map_set, -List.map_append, -List.drop_one, rnd, hl, h, rotl2, rotl6, rotl11, rotl13, rotl22, rotl25]
  · have h1 : ¬ (i : Int) < 64 := by omega
    obtain rfl : i = 64 := by omega
    simp (disch := first | omega | (simp [-List.map_take, -List.map_drop, -List.map_set, -List.map_append, -List.drop_one] <;> omega) | fail) [-List.map_take, -List.map_drop, -List.map_set, -List.map_append, -List.drop_one, h1]
    refine W_loop (S54b (rnds (sched b) 64 s) s b o r) (fun i => 8 - i) (fun i => i ≤ 8) 0 (weak_same (by simp (disch := first | omega | (simp [-List.map_take, -List.map_drop, -List.map_set, -List.map_append, -List.drop_one] <;> omega) | fail) [-List.map_take, -List.map_drop, -List.map_set, -List.map_append, -List.drop_one, eight' _ hl]) (by simp (disch := first | omega | (simp [-List.map_take, -List.map_drop, -List.map_set, -List.map_append, -List.drop_one] <;> omega) | fail) [-List.map_take, -List.map_drop, -List.map_set, -List.map_append, -List.drop_one])) (by omega) (fun i hi => ?_)
    simp (disch := first | omega | (simp [-List.map_take, -List.map_drop, -List.map_set, -List.map_append, -List.drop_one] <;> omega) | fail) [-List.map_take, -List.map_drop, -List.map_set, -List.map_append, -List.drop_one, a54L1, a54S1, S54b]
    by_cases h : i < 8
    · have h1 : (i : Int) < 8 := by omega
      simp (disch := first | omega | (simp [-List.map_take, -List.map_drop, -List.map_set, -List.map_append, -List.drop_one] <;> omega) | fail) [-List.map_take, -List.map_drop, -List.map_set, -List.map_append, -List.drop_one, h1, hl, hs]
      refine ⟨i + 1, weak_same (by simp (disch := first | omega | (simp [-List.map_take, -List.map_drop, -List.map_set, -List.map_append, -List.drop_one] <;> omega) | fail) [-List.map_take, -List.map_drop, -List.map_set, -List.map_append, -List.drop_one]) ?_, by omega, by omega⟩
      simp (disch := first | omega | (simp [-List.map_take, -List.map_drop, -List.map_set, -List.map_append, -List.drop_one] <;> omega) | fail) [-List.map_take, -List.map_drop, -List.map_set, -List.map_append, -List.drop_one, iter_succ (n := i), add8, hl, hs]
    · have h1 : ¬ (i : Int) < 8 := by omega
      obtain rfl : i = 8 := by omega
      simp (disch := first | omega | (simp [-List.map_take, -List.map_drop, -List.map_set, -List.map_append, -List.drop_one] <;> omega) | fail) [-List.map_take, -List.map_drop, -List.map_set, -List.map_append, -List.drop_one, h1, comp]

theorem calls_absorb (f : Bool) (b : List B8) (hb : b.length = 64) (s : List B32) (hs : s.length = 8) (o t : List B8) (z : Bool) (bd : DV)
  (hbd : snap (.cells (o.map w8) :: .cells (s.map w32) :: .cells (kk.map w32) :: (if z then [.cells (t.map w8)] else [])) 3 bd = some (.sl f 1 64 (b.map w8))) :
  CallsA P 54 [.mp 1 8 0, .mp 2 64 0, bd] (.cells (o.map w8) :: .cells (s.map w32) :: .cells (kk.map w32) :: (if z then [.cells (t.map w8)] else []))
    (fun d k => d = .tup [] ∧ k = .cells (o.map w8) :: .cells ((comp s b).map w32) :: .cells (kk.map w32) :: (if z then [.cells (t.map w8)] else [])) := by
  refine calls_runsG mix T2_sound Try.func54 a54_ok (runs_absorb f b hb s hs _ _ bd hbd) (by simp) rfl ?_
  simp only [belowH, belowL_w32, belowL_w8, Bool.true_and]
  cases z <;> simp [belowH, belowL_w8]
abbrev AbsA := Bool × List B8 × List B32 × List B8 × List B8 × Bool × DV
def AbsA.h (a : AbsA) (s : List B32) : List AObj := .cells (a.2.2.2.1.map w8) :: .cells (s.map w32) :: .cells (kk.map w32) :: (if a.2.2.2.2.2.1 then [.cells (a.2.2.2.2.1.map w8)] else [])
noncomputable def c_absorb : List DV → List AObj → Option (DV × List AObj) :=
  conH (fun a : AbsA => a.2.1.length = 64 ∧ a.2.2.1.length = 8 ∧ snap (a.h a.2.2.1) 3 a.2.2.2.2.2.2 = some (.sl a.1 1 64 (a.2.1.map w8)))
    (fun a => ([.mp 1 8 0, .mp 2 64 0, a.2.2.2.2.2.2], a.h a.2.2.1)) (fun a => (.tup [], a.h (comp a.2.2.1 a.2.1)))
theorem c_absorb_sound : (Con.heap c_absorb).Sound P 54 := conH_sound fun a h => calls_absorb _ _ h.1 _ h.2.1 _ _ _ _ h.2.2
theorem c_absorb_of (a : AbsA) (h1 : a.2.1.length = 64) (h2 : a.2.2.1.length = 8) (h3 : snap (a.h a.2.2.1) 3 a.2.2.2.2.2.2 = some (.sl a.1 1 64 (a.2.1.map w8))) :
    c_absorb [.mp 1 8 0, .mp 2 64 0, a.2.2.2.2.2.2] (a.h a.2.2.1) = some (.tup [], a.h (comp a.2.2.1 a.2.1)) := by
  refine conH_eq' (A := fun a : AbsA => a.2.1.length = 64 ∧ a.2.2.1.length = 8 ∧ snap (a.h a.2.2.1) 3 a.2.2.2.2.2.2 = some (.sl a.1 1 64 (a.2.1.map w8))) (f := fun a : AbsA => (([.mp 1 8 0, .mp 2 64 0, a.2.2.2.2.2.2] : List DV), a.h a.2.2.1)) (g := fun a : AbsA => ((.tup [] : DV), a.h (comp a.2.2.1 a.2.1))) ?_ a ⟨h1, h2, h3⟩
  rintro ⟨f, b, s, o, t, z, d⟩ ⟨f', b', s', o', t', z', d'⟩ ⟨a1, a2, a3⟩ ⟨b1, b2, b3⟩ e
  simp only [AbsA.h, Prod.mk.injEq, List.cons.injEq, AObj.cells.injEq, map_inj_w32, map_inj_w8, and_true, true_and] at e a3 b3
  obtain ⟨rfl, rfl, rfl, e⟩ := e
  rw [← e, a3] at b3
  simp only [Option.some.injEq, DV.sl.injEq, map_inj_w8, true_and] at b3
  obtain ⟨rfl, rfl⟩ := b3
  simp only [AbsA.h, e]
theorem c_absorb_sl {f : Bool} {b o : List B8} {s : List B32} (hb : b.length = 64) (hs : s.length = 8) :
    c_absorb [.mp 1 8 0, .mp 2 64 0, .sl f 1 64 (b.map w8)] [.cells (o.map w8), .cells (s.map w32), .cells (kk.map w32)] = some (.tup [], [.cells (o.map w8), .cells ((comp s b).map w32), .cells (kk.map w32)]) :=
  c_absorb_of (f, b, s, o, [], false, .sl f 1 64 (b.map w8)) hb hs (by simp only [AbsA.h]; simp (disch := first | omega | (simp [-List.map_take, -List.map_drop, -List.map_set, -List.map_append, -List.drop_one] <;> omega) | fail) [-List.map_take, -List.map_drop, -List.map_set, -List.map_append, -List.drop_one])
theorem c_absorb_ms {t o : List B8} {s : List B32} {lim i : Nat} (ht : t.length = 128) (hi : i + 64 ≤ 128) (hs : s.length = 8) :
    c_absorb [.mp 1 8 0, .mp 2 64 0, .ms 3 128 i 1 64 lim] [.cells (o.map w8), .cells (s.map w32), .cells (kk.map w32), .cells (t.map w8)] =
      some (.tup [], [.cells (o.map w8), .cells ((comp s ((t.drop i).take 64)).map w32), .cells (kk.map w32), .cells (t.map w8)]) :=
  c_absorb_of (false, (t.drop i).take 64, s, o, t, true, .ms 3 128 i 1 64 lim) (by simp; omega) hs (by simp only [AbsA.h]; simp (disch := first | omega | (simp [-List.map_take, -List.map_drop, -List.map_set, -List.map_append, -List.drop_one] <;> omega) | fail) [-List.map_take, -List.map_drop, -List.map_set, -List.map_append, -List.drop_one, ht])
noncomputable def T3 : Tbl := addT 54 (.heap c_absorb) T2
theorem T3_absorb : T3 54 = .heap c_absorb := by simp [T3]
theorem T3_rounds : T3 53 = .pure c_rounds := by simp [T3, T2]
theorem T3_sound : T3.Sound P := addT_sound c_absorb_sound T2_sound
end Go.Proofs.Ythkcgeokfcbllaa
