/-
  15 texts of mine in one.
-/
import Derived.Test.YtjhakjeioppijaaDoorC5f0ea989
import Derived.Test.YtjhakjeioppijaaDoorC950dc02d
import Derived.Test.YtjhakjeioppijaaDoorC0aefe577
import Derived.Test.YtjhakjeioppijaaDoorC7ea40f38
import Derived.Test.YtjhakjeioppijaaDoorC9e1a6709
set_option linter.unusedSimpArgs false
set_option linter.unusedVariables false
namespace Go.Proofs.YtjhakjeioppijaaDoor
open Go Go.Am
def a54L0 : ACode :=
  (.seq (.seq (.region false [⟨none, (some 8), .mov (.t 2)⟩,
    ⟨none, (some 9), .bin .leq (.t 8) (.k (.int .i64 3))⟩])
  (.cond (.t 9) .skip
  (.exit 0)))
  (.seq (.block 1 (.region false [⟨none, (some 12), .fld 1 (.t 1)⟩,
    ⟨none, (some 13), .load 1 false (.t 12)⟩,
    ⟨none, (some 14), .mov (.t 2)⟩,
    ⟨none, (some 15), .build (rep 32 (w8 0#8)) [(0, 1, (.k (w8 1#8)))]⟩,
    ⟨none, (some 16), .mov (.t 2)⟩,
    ⟨none, (some 17), .bin .sub (.t 16) (.k (.int .i64 2))⟩,
    ⟨none, (some 18), .build [(.int .i64 0), (.int .i64 0), (w8 0#8), (w8 0#8), (w8 0#8), (w8 0#8), (w8 0#8), (w8 0#8), (w8 0#8), (w8 0#8), (w8 0#8), (w8 0#8), (w8 0#8), (w8 0#8), (w8 0#8), (w8 0#8), (w8 0#8), (w8 0#8), (w8 0#8), (w8 0#8), (w8 0#8), (w8 0#8), (w8 0#8), (w8 0#8), (w8 0#8), (w8 0#8), (w8 0#8), (w8 0#8), (w8 0#8), (w8 0#8), (w8 0#8), (w8 0#8), (w8 0#8), (w8 0#8), (.int .i64 0), (.int .i64 0), (.int .i64 0)] [(0, 1, (.t 14)), (2, 32, (.t 15)), (34, 1, (.k (.int .i64 2))), (36, 1, (.t 17))]⟩,
    ⟨none, (some 19), .bsl 37 1 [(.int .i64 0), (.int .i64 0), (w8 0#8), (w8 0#8), (w8 0#8), (w8 0#8), (w8 0#8), (w8 0#8), (w8 0#8), (w8 0#8), (w8 0#8), (w8 0#8), (w8 0#8), (w8 0#8), (w8 0#8), (w8 0#8), (w8 0#8), (w8 0#8), (w8 0#8), (w8 0#8), (w8 0#8), (w8 0#8), (w8 0#8), (w8 0#8), (w8 0#8), (w8 0#8), (w8 0#8), (w8 0#8), (w8 0#8), (w8 0#8), (w8 0#8), (w8 0#8), (w8 0#8), (w8 0#8), (.int .i64 0), (.int .i64 0), (.int .i64 0)] [(0, 37, (.t 18))]⟩,
    ⟨none, (some 20), .app 37 72 (.t 13) (.t 19)⟩,
    ⟨none, (some 21), .fld 1 (.t 1)⟩,
    ⟨none, none, .store 1 (.t 21) (.t 20)⟩]))
  (.region false [⟨none, (some 10), .mov (.t 2)⟩,
    ⟨none, (some 11), .bin .add (.t 10) (.k (.int .i64 1))⟩,
    ⟨none, (some 2), .mov (.t 11)⟩])))
def a54S0 (x1 x2 : DV) (h : List AObj) : St := ⟨[.junk, x1, x2] ++ js 45, h⟩
def a54 : AFn where
  code := (.seq (.region false [⟨none, (some 0), .mov (.k (.bool false))⟩])
  (.seq (.region false [⟨none, (some 3), .build (rep 32 (w8 0#8)) [(0, 1, (.k (w8 1#8)))]⟩,
    ⟨none, (some 4), .bsl 32 1 (rep 32 (w8 0#8)) [(0, 32, (.t 3))]⟩,
    ⟨none, (some 5), .build [(.str []), (.str []), (.int .i64 0), (.int .i64 0), (.int .i64 0), .nils] [(0, 1, (.k (.str [97]))), (1, 1, (.k (.str [98]))), (2, 1, (.k (.int .i64 3))), (3, 1, (.k (.int .i64 2))), (4, 1, (.k (.int .i64 1))), (5, 1, (.t 4))]⟩,
    ⟨none, (some 6), .bsl 6 1 [(.str []), (.str []), (.int .i64 0), (.int .i64 0), (.int .i64 0), .nils] [(0, 6, (.t 5))]⟩,
    ⟨none, (some 7), .build [.nils, .nils, (.int .i64 0)] [(0, 1, (.t 6)), (2, 1, (.k (.int .i64 5)))]⟩,
    ⟨none, (some 1), .alloc [.nils, .nils, (.int .i64 0)]⟩,
    ⟨none, none, .store 3 (.t 1) (.t 7)⟩])
  (.seq (.seq (.region false [⟨none, (some 2), .mov (.k (.int .i64 1))⟩])
  (.block 0 (.loop a54L0)))
  (.seq (.region false [⟨none, (some 22), .load 3 true (.t 1)⟩,
    ⟨none, (some 23), .call (.k (.fn (.func 45) [] [])) [(.t 22), (.k (.int .i64 0))]⟩,
    ⟨none, (some 24), .bin .eql (.t 23) (.k (.int .i64 3))⟩,
    ⟨none, (some 25), .mov (.t 24)⟩,
    ⟨(some (25, true)), (some 26), .load 3 true (.t 1)⟩,
    ⟨(some (25, true)), (some 27), .call (.k (.fn (.func 50) [] [])) [(.t 26), (.k (.int .i64 0))]⟩,
    ⟨(some (25, true)), (some 28), .bin .eql (.t 27) (.k (.int .i64 1))⟩,
    ⟨none, (some 29), .pick (.t 25) (.t 28) (.k (.bool false))⟩,
    ⟨none, (some 30), .mov (.t 29)⟩,
    ⟨(some (30, true)), (some 31), .load 3 true (.t 1)⟩,
    ⟨(some (30, true)), (some 32), .call (.k (.fn (.func 48) [] [])) [(.t 31), (.k (.int .i64 0))]⟩,
    ⟨(some (30, true)), (some 33), .len (.t 32)⟩,
    ⟨(some (30, true)), (some 34), .bin .eql (.t 33) (.k (.int .i64 1))⟩,
    ⟨none, (some 35), .pick (.t 30) (.t 34) (.k (.bool false))⟩,
    ⟨none, (some 36), .mov (.t 35)⟩,
    ⟨(some (36, true)), (some 37), .load 3 true (.t 1)⟩,
    ⟨(some (36, true)), (some 38), .call (.k (.fn (.func 52) [] [])) [(.t 37), (.k (.int .i64 0))]⟩,
    ⟨(some (36, true)), (some 39), .len (.t 38)⟩,
    ⟨(some (36, true)), (some 40), .bin .eql (.t 39) (.k (.int .i64 2))⟩,
    ⟨none, (some 41), .pick (.t 36) (.t 40) (.k (.bool false))⟩,
    ⟨none, (some 42), .mov (.t 41)⟩,
    ⟨(some (42, true)), (some 43), .load 3 true (.t 1)⟩,
    ⟨(some (42, true)), (some 44), .call (.k (.fn (.func 56) [] [])) [(.t 43), (.k .nils), (.k (.int .i64 9))]⟩,
    ⟨(some (42, true)), (some 45), .len (.t 44)⟩,
    ⟨(some (42, true)), (some 46), .bin .eql (.t 45) (.k (.int .i64 2))⟩,
    ⟨none, (some 47), .pick (.t 42) (.t 46) (.k (.bool false))⟩,
    ⟨none, (some 0), .mov (.t 47)⟩])
  .ret))))
  ntmps := 48
  res := [.tmp 0]
theorem a54_ok : compileFn P Tryd.f54 = some a54 := by kernel_rfl
end Go.Proofs.YtjhakjeioppijaaDoor
set_option linter.unusedSimpArgs false
set_option linter.unusedVariables false
namespace Go.Proofs.YtjhakjeioppijaaDoor
open Go Go.Am
def vicD (c : Clu) (k : Int) : DV := liV (victimsP c k)
noncomputable def cCkA (A : Clu → Prop) (f : Clu → Int → DV) : List DV → Option DV := con (fun a : Clu × Int => A a.1) (fun a : Clu × Int => [.agg (clC a.1), .int .i64 a.2]) (fun a => f a.1 a.2)
theorem cCkA_eq {A : Clu → Prop} {f : Clu → Int → DV} {c : Clu} {k : Int} (h : A c) : cCkA A f [.agg (clC c), .int .i64 k] = some (f c k) :=
  con_eq (f := fun a : Clu × Int => [.agg (clC a.1), .int .i64 a.2]) (g := fun a => f a.1 a.2) (by
    rintro ⟨a, b⟩ ⟨c, d⟩ e
    simp only [List.cons.injEq, DV.agg.injEq, DV.int.injEq, and_true, true_and] at e
    rw [clC_inj e.1, e.2]) (c, k) h
theorem vic_sound : (Con.pure (cCkA VicOK vicD)).Sound P 52 := con_sound fun a h => sem_runs mix T220_sound Tryd.func52 a52_ok (runs_victims a.1 a.2 h)
def LimC (c : Clu) : Prop := ∀ g ∈ c.g.l, LimOK g
theorem room_sound : (Con.pure (cCkA LimC roomD)).Sound P 50 := con_sound fun a h => sem_runs mix T212_sound Tryd.func50 a50_ok (runs_room a.1 a.2 h)
noncomputable def cOver : List DV → Option DV := con OvOK (fun a : Clu × Nl × Int => [.agg (clC a.1), a.2.1.dv, .int .i64 a.2.2]) (fun a => liV (overP a.1.i.l 0 a.2.1.l a.2.2))
theorem cOver_eq {c : Clu} {g : Nl} {t : Int} (h : OvOK (c, g, t)) : cOver [.agg (clC c), g.dv, .int .i64 t] = some (liV (overP c.i.l 0 g.l t)) :=
  con_eq (f := fun a : Clu × Nl × Int => [.agg (clC a.1), a.2.1.dv, .int .i64 a.2.2]) (g := fun a => liV (overP a.1.i.l 0 a.2.1.l a.2.2)) (by
    rintro ⟨a, b, c⟩ ⟨d, e, f⟩ h
    simp only [List.cons.injEq, DV.agg.injEq, DV.int.injEq, and_true, true_and] at h
    rw [clC_inj h.1, nl_inj h.2.1, h.2.2]) (c, g, t) h
theorem over_sound : (Con.pure cOver).Sound P 56 := con_sound fun a h => sem_runs mix T230_sound Tryd.func56 a56_ok (runs_overdue a.1 a.2.1 a.2.2 h)
noncomputable def T240 : Tbl := addT 45 (.pure (cCk liveD)) (addT 48 (.pure (cCk goodD)) (addT 50 (.pure (cCkA LimC roomD)) (addT 52 (.pure (cCkA VicOK vicD)) (addT 56 (.pure cOver) tbl0))))
theorem T240_l : T240 45 = .pure (cCk liveD) := by simp [T240]
theorem T240_g : T240 48 = .pure (cCk goodD) := by simp [T240]
theorem T240_r : T240 50 = .pure (cCkA LimC roomD) := by simp [T240]
theorem T240_v : T240 52 = .pure (cCkA VicOK vicD) := by simp [T240]
theorem T240_o : T240 56 = .pure cOver := by simp [T240]
theorem T240_sound : T240.Sound P := addT_sound live_sound (addT_sound good_sound (addT_sound room_sound (addT_sound vic_sound (addT_sound over_sound tbl0_sound))))
def gE : Grp := ⟨[97], [98], 3, 2, 1, ⟨some true, [(dgW 1#8)], by simp, by simp⟩⟩
def iE (i : Int) : Ins := ⟨i, 0, (dgW 1#8), 2, 0, i - 2⟩
def lE : List Ins := [iE 1, iE 2, iE 3]
def cE : Clu := ⟨⟨some true, [gE], by simp, by simp⟩, ⟨some false, lE, by simp, by simp [lE]⟩, 5⟩
def GE : DV := .sl true 6 1 [.str [97], .str [98], .int .i64 3, .int .i64 2, .int .i64 1, .sl true 32 1 (dgC (dgW 1#8))]
def hE1 : List AObj := [.cells [GE, .ms 1 37 0 37 1 37, .int .i64 5], .cells (inC ⟨1, 0, (dgW 1#8), 2, 0, -1⟩)]
def hE2 : List AObj := [.cells [GE, .ms 1 74 0 37 2 74, .int .i64 5], .cells (inC ⟨1, 0, (dgW 1#8), 2, 0, -1⟩ ++ inC ⟨2, 0, (dgW 1#8), 2, 0, 0⟩)]
def hE3 : List AObj := [.cells [GE, .ms 1 111 0 37 3 111, .int .i64 5], .cells (inC ⟨1, 0, (dgW 1#8), 2, 0, -1⟩ ++ (inC ⟨2, 0, (dgW 1#8), 2, 0, 0⟩ ++ inC ⟨3, 0, (dgW 1#8), 2, 0, 1⟩))]
def S245 : Nat → St
  | 0 => a54S0 (.mp 0 3 0) (.int .i64 1) [.cells [GE, .nils, .int .i64 5]]
  | 1 => a54S0 (.mp 0 3 0) (.int .i64 2) hE1
  | 2 => a54S0 (.mp 0 3 0) (.int .i64 3) hE2
  | _ => a54S0 (.mp 0 3 0) (.int .i64 4) [.cells (clC cE)]
theorem fzE : fz 1 hE3 3 (.ms 1 111 0 37 3 111) = some (cE.i.dv 37 inC) := by
  have hl : (inC ⟨1, 0, (dgW 1#8), 2, 0, -1⟩ ++ (inC ⟨2, 0, (dgW 1#8), 2, 0, 0⟩ ++ inC ⟨3, 0, (dgW 1#8), 2, 0, 1⟩)).length = 111 := by simp
  have hp : pureL (inC ⟨1, 0, (dgW 1#8), 2, 0, -1⟩ ++ (inC ⟨2, 0, (dgW 1#8), 2, 0, 0⟩ ++ inC ⟨3, 0, (dgW 1#8), 2, 0, 1⟩)) = true := pureL_append (pure_inC _) (pureL_append (pure_inC _) (pure_inC _))
  have he : cE.i.dv 37 inC = .sl false 37 3 (inC ⟨1, 0, (dgW 1#8), 2, 0, -1⟩ ++ (inC ⟨2, 0, (dgW 1#8), 2, 0, 0⟩ ++ inC ⟨3, 0, (dgW 1#8), 2, 0, 1⟩)) := by
    show DV.sl false 37 3 _ = _
    congr 1
  rw [fz_ms (by omega), he]
  have ho : objV hE3 1 111 = some (inC ⟨1, 0, (dgW 1#8), 2, 0, -1⟩ ++ (inC ⟨2, 0, (dgW 1#8), 2, 0, 0⟩ ++ inC ⟨3, 0, (dgW 1#8), 2, 0, 1⟩)) := by
    unfold hE3
    rw [show (1 : Nat) = 0 + 1 from rfl, objV_succ, objV_zero, if_pos hl]
  rw [ho, Option.bind_some, List.drop_zero, List.take_of_length_le (by omega), fzLo_clean hp]
  rfl
theorem bE (n m : Int) : buildD [.int .i64 0, .int .i64 0, w8 0#8, w8 0#8, w8 0#8, w8 0#8, w8 0#8, w8 0#8, w8 0#8, w8 0#8, w8 0#8, w8 0#8, w8 0#8, w8 0#8, w8 0#8, w8 0#8, w8 0#8, w8 0#8, w8 0#8, w8 0#8, w8 0#8, w8 0#8, w8 0#8, w8 0#8, w8 0#8, w8 0#8, w8 0#8, w8 0#8, w8 0#8, w8 0#8, w8 0#8, w8 0#8, w8 0#8, w8 0#8, .int .i64 0, .int .i64 0, .int .i64 0] [(0, 1, .int .i64 n), (2, 32, .agg (dgC (dgW 1#8))), (34, 1, .int .i64 2), (36, 1, .int .i64 m)] = some (.agg (inC ⟨n, 0, (dgW 1#8), 2, 0, m⟩)) := rfl
theorem bsl_d1 {d : Dg} : bslD 32 1 (dgC dg0) [(0, 32, .agg (dgC d))] = some (.sl true 32 1 (dgC d)) := by
  rw [bslD_of (by simp [DV.known]) (by simp [seqD, DV.cells])]; simp [seqD, DV.cells]
theorem bgE : buildD [.str [], .str [], .int .i64 0, .int .i64 0, .int .i64 0, .nils] [(0, 1, .str [97]), (1, 1, .str [98]), (2, 1, .int .i64 3), (3, 1, .int .i64 2), (4, 1, .int .i64 1), (5, 1, .sl true 32 1 (dgC (dgW 1#8)))] = some (.agg (grC gE)) := by
  simp [grC, gE, Sl.dv, slD]
theorem bcE : buildD [.nils, .nils, .int .i64 0] [(0, 1, .sl true 6 1 [.str [97], .str [98], .int .i64 3, .int .i64 2, .int .i64 1, .sl true 32 1 (dgC (dgW 1#8))]), (2, 1, .int .i64 5)] = some (.agg [GE, .nils, .int .i64 5]) := rfl
theorem stE : storeO [.cells [.nils, .nils, .int .i64 0]] 0 3 0 (.agg [GE, .nils, .int .i64 5]) (some [.nils, .nils, .int .i64 0]) = some (.junk, [.cells [GE, .nils, .int .i64 5]]) := rfl
theorem limE : LimC cE := fun g hg => by
  have : g = gE := by simpa [cE] using hg
  subst this
  exact ⟨⟨by decide, by decide⟩, ⟨by decide, by decide⟩, by decide, by decide⟩
theorem vicE : VicOK cE := ⟨by decide, limE⟩
def nl0 : Nl := ⟨none, [], fun _ => rfl, by simp⟩
theorem ovE : OvOK (cE, nl0, 9) := by
  refine ⟨fun x hx => ?_, fun n hn => by simp [nl0] at hn, by decide, by decide⟩
  have : x = iE 1 ∨ x = iE 2 ∨ x = iE 3 := by simpa [cE, lE] using hx
  rcases this with rfl | rfl | rfl <;> exact ⟨by decide, by decide⟩
theorem e1E : liveP cE 0 = 3 := by decide +kernel
theorem e2E : roomP cE 0 = 1 := by decide +kernel
theorem e3E : (goodP cE 0).length = 1 := by decide +kernel
theorem e4E : (victimsP cE 0).length = 2 := by decide +kernel
theorem e5E : (overP cE.i.l 0 nl0.l 9).length = 2 := by decide +kernel
set_option maxHeartbeats 1000000 in
theorem runs_awake38 : Runs T240 a54 [] (.bool true) := by
  refine ⟨?_⟩
  simp (disch := first | omega | (simp [-List.map_take, -List.map_drop, -List.map_set, -List.map_append, -List.drop_one] <;> omega) | fail) [-List.map_take, -List.map_drop, -List.map_set, -List.map_append, -List.drop_one, a54, build_dg, bsl_d1, bgE, bsl_g, bcE, stE]
  refine W_loop S245 (fun i => 3 - i) (fun i => i ≤ 3) 0 (weak_same (by simp (disch := first | omega | (simp [-List.map_take, -List.map_drop, -List.map_set, -List.map_append, -List.drop_one] <;> omega) | fail) [-List.map_take, -List.map_drop, -List.map_set, -List.map_append, -List.drop_one, S245, a54S0]) (by simp (disch := first | omega | (simp [-List.map_take, -List.map_drop, -List.map_set, -List.map_append, -List.drop_one] <;> omega) | fail) [-List.map_take, -List.map_drop, -List.map_set, -List.map_append, -List.drop_one, S245, a54S0])) (by omega) (fun i hi => ?_)
  simp (disch := first | omega | (simp [-List.map_take, -List.map_drop, -List.map_set, -List.map_append, -List.drop_one] <;> omega) | fail) [-List.map_take, -List.map_drop, -List.map_set, -List.map_append, -List.drop_one, a54L0]
  rcases (show i = 0 ∨ i = 1 ∨ i = 2 ∨ i = 3 by omega) with rfl | rfl | rfl | rfl
  · simp (disch := first | omega | (simp [-List.map_take, -List.map_drop, -List.map_set, -List.map_append, -List.drop_one] <;> omega) | fail) [-List.map_take, -List.map_drop, -List.map_set, -List.map_append, -List.drop_one, S245, a54S0, build_dg, bE, bsl_i]
    refine ⟨1, weak_same (by simp (disch := first | omega | (simp [-List.map_take, -List.map_drop, -List.map_set, -List.map_append, -List.drop_one] <;> omega) | fail) [-List.map_take, -List.map_drop, -List.map_set, -List.map_append, -List.drop_one, S245, a54S0]) (by simp (disch := first | omega | (simp [-List.map_take, -List.map_drop, -List.map_set, -List.map_append, -List.drop_one] <;> omega) | fail) [-List.map_take, -List.map_drop, -List.map_set, -List.map_append, -List.drop_one, S245, a54S0, hE1]), by simp⟩
  · simp (disch := first | omega | (simp [-List.map_take, -List.map_drop, -List.map_set, -List.map_append, -List.drop_one] <;> omega) | fail) [-List.map_take, -List.map_drop, -List.map_set, -List.map_append, -List.drop_one, S245, a54S0, hE1, build_dg, bE, bsl_i]
    refine ⟨2, weak_same (by simp (disch := first | omega | (simp [-List.map_take, -List.map_drop, -List.map_set, -List.map_append, -List.drop_one] <;> omega) | fail) [-List.map_take, -List.map_drop, -List.map_set, -List.map_append, -List.drop_one, S245, a54S0]) (by simp (disch := first | omega | (simp [-List.map_take, -List.map_drop, -List.map_set, -List.map_append, -List.drop_one] <;> omega) | fail) [-List.map_take, -List.map_drop, -List.map_set, -List.map_append, -List.drop_one, S245, a54S0, hE2]), by simp⟩
  · simp (disch := first | omega | (simp [-List.map_take, -List.map_drop, -List.map_set, -List.map_append, -List.drop_one] <;> omega) | fail) [-List.map_take, -List.map_drop, -List.map_set, -List.map_append, -List.drop_one, S245, a54S0, hE2, build_dg, bE, bsl_i, List.append_assoc]
    refine ⟨3, ?_, by simp⟩
    exact weak_freeze (h := hE3) (Nat.zero_le _) (by simp [S245, a54S0, hE3]) (by repeat' (first | exact Or.inl rfl | exact Or.inr rfl | exact trivial | refine And.intro ?_ ?_)) ⟨⟨.inr (fz_clean rfl), .inr fzE, .inr rfl, trivial⟩, trivial⟩
  · have ho : cOver [.agg (clC cE), .nils, .int .i64 9] = some (liV (overP cE.i.l 0 nl0.l 9)) := cOver_eq ovE
    simp (disch := first | omega | (simp [-List.map_take, -List.map_drop, -List.map_set, -List.map_append, -List.drop_one] <;> omega) | fail) [-List.map_take, -List.map_drop, -List.map_set, -List.map_append, -List.drop_one, S245, a54S0, T240_l, T240_g, T240_r, T240_v, T240_o, cCk_eq, liveD, goodD, cCkA_eq limE, cCkA_eq vicE, roomD, vicD, e1E, e2E, e3E, e4E, e5E, ho]
noncomputable def cTru : List DV → Option DV
  | [] => some (.bool true) | _ => none
theorem cTru_sound {f : Nat} (h : Am.Sem P f [] (.bool true)) : (Con.pure cTru).Sound P f := by
  intro args v e
  unfold cTru at e
  split at e
  · simp at e; subst e; exact h
  · simp at e
end Go.Proofs.YtjhakjeioppijaaDoor
set_option linter.unusedSimpArgs false
set_option linter.unusedVariables false
namespace Go.Proofs.YtjhakjeioppijaaDoor
open Go Go.Am
theorem clusterV_len (t : Tp) (m : Int) (h0 : 0 ≤ m) (h1 : m ≤ 200) : (clusterV t m).1.i.l.length ≤ m := by
  obtain ⟨hc, hg⟩ := clD_ok t
  have m1 := tpN_lo (clD t).2 (m + 1)
  have m2 := tpN_hi (clD t).2 (n := m + 1) (by omega)
  have hgl : 1 ≤ (clD t).1.g.l.length := List.length_pos_iff.2 hg
  obtain ⟨-, -, -, k4⟩ := iLoop_ok hgl (tpN (clD t).2 (m + 1)).toNat [] (clD t).1.next ((clD t).2.adv 1) hc.n0 ⟨by simp, by simp⟩
  have hI : clI t m = iLoop (clD t).1.g.l.length (tpN (clD t).2 (m + 1)).toNat [] (clD t).1.next ((clD t).2.adv 1) := rfl
  rw [← hI] at k4
  have hil : (clusterV t m).1.i.l = (clI t m).1 := by
    simp only [clusterV]
    split
    · rename_i e; rw [e]; rfl
    · exact own_l (by rw [k4]; simp; omega)
  rw [hil, k4]; simp; omega
theorem limC_of {c : Clu} (hv : ValidC c) : LimC c := fun g hg => by
  obtain ⟨i, hi, rfl⟩ := List.getElem_of_mem hg
  have h := (hv.g i hi).1
  exact ⟨⟨by have := h.w0; omega, by have := h.w1; omega⟩, ⟨by have := h.l0; omega, by have := h.l1; have := h.w1; omega⟩, by have := h.d0; omega, by have := h.d1; have := h.w1; omega⟩
theorem vicOK_of {c : Clu} (hv : ValidC c) (h : c.i.l.length ≤ 19) : VicOK c := ⟨h, limC_of hv⟩
theorem grAt_some {c : Clu} {k : Int} (h0 : 0 ≤ k) (h1 : k < c.g.l.length) : ∃ g, grAt c k = some g := by
  have : k.toNat < c.g.l.length := by omega
  exact ⟨_, by rw [grAt, if_pos h0, List.getElem?_eq_getElem this]⟩
theorem refVic_len {g : Grp} {l : List Ins} {k : Int} : (refVic g l k).length ≤ 3 * l.length := by
  have h1 : (refDen l k).length ≤ l.length := by rw [refDen, (sortR_perm _).length_eq]; exact List.length_filter_le _ _
  have h2 : (refOther g l k).length ≤ l.length := List.length_filter_le _ _
  have h3 : (refSpare g l k).length ≤ l.length := List.length_filter_le _ _
  simp only [refVic, List.length_append, List.length_take, List.length_reverse]
  omega
theorem awake38_sound : (Con.pure cTru).Sound P 54 := cTru_sound (sem_runs mix T240_sound Tryd.func54 a54_ok runs_awake38)
end Go.Proofs.YtjhakjeioppijaaDoor
set_option linter.unusedSimpArgs false
set_option linter.unusedVariables false
namespace Go.Proofs.YtjhakjeioppijaaDoor
open Go Go.Am
def a99 : AFn where
  code := (.seq (.region false [⟨none, (some 2), .box (.t 0)⟩,
    ⟨none, (some 3), .box (.t 1)⟩,
    ⟨none, (some 4), .mov (.k (.bool false))⟩])
  (.seq (.region true [⟨none, (some 5), .fld 1 (.t 3)⟩,
    ⟨none, (some 6), .load 1 false (.t 5)⟩,
    ⟨none, (some 7), .bin .geq (.t 6) (.k (.int .i64 0))⟩,
    ⟨none, (some 8), .mov (.t 7)⟩,
    ⟨(some (8, true)), (some 9), .fld 1 (.t 3)⟩,
    ⟨(some (8, true)), (some 10), .load 1 false (.t 9)⟩,
    ⟨(some (8, true)), (some 11), .fld 0 (.t 2)⟩,
    ⟨(some (8, true)), (some 12), .load 1 false (.t 11)⟩,
    ⟨(some (8, true)), (some 13), .len (.t 12)⟩,
    ⟨(some (8, true)), (some 14), .bin .lss (.t 10) (.t 13)⟩,
    ⟨none, (some 15), .pick (.t 8) (.t 14) (.k (.bool false))⟩,
    ⟨none, (some 16), .mov (.t 15)⟩,
    ⟨(some (16, true)), (some 17), .fld 0 (.t 2)⟩,
    ⟨(some (16, true)), (some 18), .load 1 false (.t 17)⟩,
    ⟨(some (16, true)), (some 19), .fld 1 (.t 3)⟩,
    ⟨(some (16, true)), (some 20), .load 1 false (.t 19)⟩,
    ⟨(some (16, true)), (some 21), .idxS 6 (.t 18) (.t 20)⟩,
    ⟨(some (16, true)), (some 22), .fld 5 (.t 21)⟩,
    ⟨(some (16, true)), (some 23), .load 1 false (.t 22)⟩,
    ⟨(some (16, true)), (some 24), .fld 2 (.t 3)⟩,
    ⟨(some (16, true)), (some 25), .load 32 true (.t 24)⟩,
    ⟨(some (16, true)), (some 26), .callN (.k (.fn (.func 63) [] [])) [(.t 23), (.t 25)]⟩,
    ⟨none, (some 27), .pick (.t 16) (.t 26) (.k (.bool false))⟩,
    ⟨none, (some 4), .mov (.t 27)⟩])
  .ret))
  ntmps := 28
  res := [.tmp 4]
theorem a99_ok : compileFn P Tryd.f99 = some a99 := by kernel_rfl
def a58 : AFn where
  code := (.seq (.region false [⟨none, (some 2), .box (.t 0)⟩,
    ⟨none, (some 3), .box (.t 1)⟩,
    ⟨none, (some 4), .mov (.k (.bool false))⟩])
  (.seq (.region false [⟨none, (some 5), .fld 34 (.t 3)⟩,
    ⟨none, (some 6), .load 1 false (.t 5)⟩,
    ⟨none, (some 7), .bin .eql (.t 6) (.k (.int .i64 1))⟩,
    ⟨none, (some 8), .mov (.t 7)⟩,
    ⟨(some (8, false)), (some 9), .fld 34 (.t 3)⟩,
    ⟨(some (8, false)), (some 10), .load 1 false (.t 9)⟩,
    ⟨(some (8, false)), (some 11), .bin .eql (.t 10) (.k (.int .i64 2))⟩,
    ⟨none, (some 12), .pick (.t 8) (.k (.bool true)) (.t 11)⟩,
    ⟨none, (some 13), .mov (.t 12)⟩,
    ⟨(some (13, true)), (some 14), .fld 36 (.t 3)⟩,
    ⟨(some (13, true)), (some 15), .load 1 false (.t 14)⟩,
    ⟨(some (13, true)), (some 16), .bin .eql (.t 15) (.k (.int .i64 (-1)))⟩,
    ⟨none, (some 17), .pick (.t 13) (.t 16) (.k (.bool false))⟩,
    ⟨none, (some 18), .mov (.t 17)⟩,
    ⟨(some (18, true)), (some 19), .load 3 true (.t 2)⟩,
    ⟨(some (18, true)), (some 20), .load 37 true (.t 3)⟩,
    ⟨(some (18, true)), (some 21), .call (.k (.fn (.func 99) [] [])) [(.t 19), (.t 20)]⟩,
    ⟨none, (some 22), .pick (.t 18) (.t 21) (.k (.bool false))⟩,
    ⟨none, (some 4), .mov (.t 22)⟩])
  .ret))
  ntmps := 23
  res := [.tmp 4]
theorem a58_ok : compileFn P Tryd.f58 = some a58 := by kernel_rfl
end Go.Proofs.YtjhakjeioppijaaDoor
set_option linter.unusedSimpArgs false
set_option linter.unusedVariables false
namespace Go.Proofs.YtjhakjeioppijaaDoor
open Go Go.Am
def a85L0 : ACode :=
  (.seq (.seq (.region false [⟨none, (some 11), .mov (.t 5)⟩,
    ⟨none, (some 12), .mov (.t 0)⟩,
    ⟨none, (some 13), .len (.t 12)⟩,
    ⟨none, (some 14), .bin .lss (.t 11) (.t 13)⟩])
  (.cond (.t 14) .skip
  (.exit 0)))
  (.seq (.block 1 (.seq (.region true [⟨none, (some 17), .mov (.t 0)⟩,
    ⟨none, (some 18), .mov (.t 5)⟩,
    ⟨none, (some 19), .idxS 1 (.t 17) (.t 18)⟩,
    ⟨none, (some 20), .load 1 false (.t 19)⟩,
    ⟨none, (some 21), .mov (.t 1)⟩,
    ⟨none, (some 22), .mov (.t 5)⟩,
    ⟨none, (some 23), .idxS 1 (.t 21) (.t 22)⟩,
    ⟨none, (some 24), .load 1 false (.t 23)⟩,
    ⟨none, (some 25), .bin .neq (.t 20) (.t 24)⟩])
  (.cond (.t 25) (.seq (.region false [⟨none, (some 4), .mov (.k (.bool false))⟩])
  .ret)
  .skip)))
  (.region false [⟨none, (some 15), .mov (.t 5)⟩,
    ⟨none, (some 16), .bin .add (.t 15) (.k (.int .i64 1))⟩,
    ⟨none, (some 5), .mov (.t 16)⟩])))
def a85S0 (x0 x1 x5 : DV) (h : List AObj) : St := ⟨[x0, x1, .junk, .junk, .junk, x5] ++ js 20, h⟩
def a85 : AFn where
  code := (.seq (.region false [⟨none, (some 4), .mov (.k (.bool false))⟩])
  (.seq (.seq (.region false [⟨none, (some 6), .mov (.t 0)⟩,
    ⟨none, (some 7), .len (.t 6)⟩,
    ⟨none, (some 8), .mov (.t 1)⟩,
    ⟨none, (some 9), .len (.t 8)⟩,
    ⟨none, (some 10), .bin .neq (.t 7) (.t 9)⟩])
  (.cond (.t 10) (.seq (.region false [⟨none, (some 4), .mov (.k (.bool false))⟩])
  .ret)
  .skip))
  (.seq (.seq (.region false [⟨none, (some 5), .mov (.k (.int .i64 0))⟩])
  (.block 0 (.loop a85L0)))
  (.seq (.region false [⟨none, (some 4), .mov (.k (.bool true))⟩])
  .ret))))
  ntmps := 26
  res := [.tmp 4]
theorem a85_ok : compileFn P Tryd.f85 = some a85 := by kernel_rfl
def a47 : AFn where
  code := (.seq (.region false [⟨none, (some 4), .mov (.k (.bool false))⟩])
  (.seq (.region false [⟨none, (some 5), .mov (.t 0)⟩,
    ⟨none, (some 6), .mov (.t 1)⟩,
    ⟨none, (some 7), .call (.k (.fn (.func 85) [] [])) [(.t 5), (.t 6)]⟩,
    ⟨none, (some 4), .mov (.t 7)⟩])
  .ret))
  ntmps := 8
  res := [.tmp 4]
theorem a47_ok : compileFn P Tryd.f47 = some a47 := by kernel_rfl
end Go.Proofs.YtjhakjeioppijaaDoor
set_option linter.unusedSimpArgs false
set_option linter.unusedVariables false
namespace Go.Proofs.YtjhakjeioppijaaDoor
open Go Go.Am
def a46L0 : ACode :=
  (.seq (.seq (.region false [⟨none, (some 7), .mov (.t 6)⟩,
    ⟨none, (some 8), .fld 1 (.t 2)⟩,
    ⟨none, (some 9), .load 1 false (.t 8)⟩,
    ⟨none, (some 10), .len (.t 9)⟩,
    ⟨none, (some 11), .bin .lss (.t 7) (.t 10)⟩])
  (.cond (.t 11) .skip
  (.exit 0)))
  (.seq (.block 1 (.seq (.region false [⟨none, (some 14), .fld 1 (.t 2)⟩,
    ⟨none, (some 15), .load 1 false (.t 14)⟩,
    ⟨none, (some 16), .mov (.t 6)⟩,
    ⟨none, (some 17), .idxS 37 (.t 15) (.t 16)⟩,
    ⟨none, (some 18), .fld 1 (.t 17)⟩,
    ⟨none, (some 19), .load 1 false (.t 18)⟩,
    ⟨none, (some 20), .mov (.t 1)⟩,
    ⟨none, (some 21), .bin .eql (.t 19) (.t 20)⟩,
    ⟨none, (some 22), .mov (.t 21)⟩,
    ⟨(some (22, true)), (some 23), .fld 1 (.t 2)⟩,
    ⟨(some (22, true)), (some 24), .load 1 false (.t 23)⟩,
    ⟨(some (22, true)), (some 25), .mov (.t 6)⟩,
    ⟨(some (22, true)), (some 26), .idxS 37 (.t 24) (.t 25)⟩,
    ⟨(some (22, true)), (some 27), .fld 34 (.t 26)⟩,
    ⟨(some (22, true)), (some 28), .load 1 false (.t 27)⟩,
    ⟨(some (22, true)), (some 29), .bin .eql (.t 28) (.k (.int .i64 2))⟩,
    ⟨none, (some 30), .pick (.t 22) (.t 29) (.k (.bool false))⟩])
  (.cond (.t 30) (.region false [⟨none, (some 31), .mov (.t 5)⟩,
    ⟨none, (some 32), .bin .add (.t 31) (.k (.int .i64 1))⟩,
    ⟨none, (some 5), .mov (.t 32)⟩])
  .skip)))
  (.region false [⟨none, (some 12), .mov (.t 6)⟩,
    ⟨none, (some 13), .bin .add (.t 12) (.k (.int .i64 1))⟩,
    ⟨none, (some 6), .mov (.t 13)⟩])))
def a46S0 (x1 x2 x5 x6 : DV) (h : List AObj) : St := ⟨[.junk, x1, x2, .junk, .junk, x5, x6] ++ js 27, h⟩
def a46 : AFn where
  code := (.seq (.region false [⟨none, (some 2), .box (.t 0)⟩,
    ⟨none, (some 4), .mov (.k (.int .i64 0))⟩])
  (.seq (.region false [⟨none, (some 5), .mov (.k (.int .i64 0))⟩])
  (.seq (.seq (.region false [⟨none, (some 6), .mov (.k (.int .i64 0))⟩])
  (.block 0 (.loop a46L0)))
  (.seq (.region false [⟨none, (some 33), .mov (.t 5)⟩,
    ⟨none, (some 4), .mov (.t 33)⟩])
  .ret))))
  ntmps := 34
  res := [.tmp 4]
theorem a46_ok : compileFn P Tryd.f46 = some a46 := by kernel_rfl
def a49L0 : ACode :=
  (.seq (.seq (.region false [⟨none, (some 7), .mov (.t 6)⟩,
    ⟨none, (some 8), .fld 1 (.t 2)⟩,
    ⟨none, (some 9), .load 1 false (.t 8)⟩,
    ⟨none, (some 10), .len (.t 9)⟩,
    ⟨none, (some 11), .bin .lss (.t 7) (.t 10)⟩])
  (.cond (.t 11) .skip
  (.exit 0)))
  (.seq (.block 1 (.seq (.region true [⟨none, (some 14), .fld 1 (.t 2)⟩,
    ⟨none, (some 15), .load 1 false (.t 14)⟩,
    ⟨none, (some 16), .mov (.t 6)⟩,
    ⟨none, (some 17), .idxS 37 (.t 15) (.t 16)⟩,
    ⟨none, (some 18), .fld 1 (.t 17)⟩,
    ⟨none, (some 19), .load 1 false (.t 18)⟩,
    ⟨none, (some 20), .mov (.t 1)⟩,
    ⟨none, (some 21), .bin .eql (.t 19) (.t 20)⟩,
    ⟨none, (some 22), .mov (.t 21)⟩,
    ⟨(some (22, true)), (some 23), .load 3 true (.t 2)⟩,
    ⟨(some (22, true)), (some 24), .fld 1 (.t 2)⟩,
    ⟨(some (22, true)), (some 25), .load 1 false (.t 24)⟩,
    ⟨(some (22, true)), (some 26), .mov (.t 6)⟩,
    ⟨(some (22, true)), (some 27), .idxS 37 (.t 25) (.t 26)⟩,
    ⟨(some (22, true)), (some 28), .load 37 true (.t 27)⟩,
    ⟨(some (22, true)), (some 29), .callN (.k (.fn (.func 58) [] [])) [(.t 23), (.t 28)]⟩,
    ⟨none, (some 30), .pick (.t 22) (.t 29) (.k (.bool false))⟩])
  (.cond (.t 30) (.region false [⟨none, (some 31), .mov (.t 5)⟩,
    ⟨none, (some 32), .fld 1 (.t 2)⟩,
    ⟨none, (some 33), .load 1 false (.t 32)⟩,
    ⟨none, (some 34), .mov (.t 6)⟩,
    ⟨none, (some 35), .idxS 37 (.t 33) (.t 34)⟩,
    ⟨none, (some 36), .fld 0 (.t 35)⟩,
    ⟨none, (some 37), .load 1 false (.t 36)⟩,
    ⟨none, (some 38), .bsl 1 1 [(.int .i64 0)] [(0, 1, (.t 37))]⟩,
    ⟨none, (some 39), .app 1 8 (.t 31) (.t 38)⟩,
    ⟨none, (some 5), .mov (.t 39)⟩])
  .skip)))
  (.region false [⟨none, (some 12), .mov (.t 6)⟩,
    ⟨none, (some 13), .bin .add (.t 12) (.k (.int .i64 1))⟩,
    ⟨none, (some 6), .mov (.t 13)⟩])))
def a49S0 (x1 x2 x5 x6 : DV) (h : List AObj) : St := ⟨[.junk, x1, x2, .junk, .junk, x5, x6] ++ js 34, h⟩
def a49 : AFn where
  code := (.seq (.region false [⟨none, (some 2), .box (.t 0)⟩,
    ⟨none, (some 4), .mov (.k .nils)⟩])
  (.seq (.region false [⟨none, (some 5), .mov (.k .nils)⟩])
  (.seq (.seq (.region false [⟨none, (some 6), .mov (.k (.int .i64 0))⟩])
  (.block 0 (.loop a49L0)))
  (.seq (.region false [⟨none, (some 40), .mov (.t 5)⟩,
    ⟨none, (some 4), .mov (.t 40)⟩])
  .ret))))
  ntmps := 41
  res := [.tmp 4]
theorem a49_ok : compileFn P Tryd.f49 = some a49 := by kernel_rfl
def a51 : AFn where
  code := (.seq (.region false [⟨none, (some 2), .box (.t 0)⟩,
    ⟨none, (some 4), .mov (.k (.int .i64 0))⟩])
  (.seq (.seq (.region false [⟨none, (some 6), .mov (.t 1)⟩,
    ⟨none, (some 7), .bin .lss (.t 6) (.k (.int .i64 0))⟩,
    ⟨none, (some 8), .mov (.t 7)⟩,
    ⟨(some (8, false)), (some 9), .mov (.t 1)⟩,
    ⟨(some (8, false)), (some 10), .fld 0 (.t 2)⟩,
    ⟨(some (8, false)), (some 11), .load 1 false (.t 10)⟩,
    ⟨(some (8, false)), (some 12), .len (.t 11)⟩,
    ⟨(some (8, false)), (some 13), .bin .geq (.t 9) (.t 12)⟩,
    ⟨none, (some 14), .pick (.t 8) (.k (.bool true)) (.t 13)⟩])
  (.cond (.t 14) (.seq (.region false [⟨none, (some 4), .mov (.k (.int .i64 0))⟩])
  .ret)
  .skip))
  (.seq (.region false [⟨none, (some 15), .fld 0 (.t 2)⟩,
    ⟨none, (some 16), .load 1 false (.t 15)⟩,
    ⟨none, (some 17), .mov (.t 1)⟩,
    ⟨none, (some 18), .idxS 6 (.t 16) (.t 17)⟩,
    ⟨none, (some 19), .load 6 true (.t 18)⟩,
    ⟨none, (some 5), .alloc [(.str []), (.str []), (.int .i64 0), (.int .i64 0), (.int .i64 0), .nils]⟩,
    ⟨none, none, .store 6 (.t 5) (.t 19)⟩])
  (.seq (.region true [⟨none, (some 20), .load 3 true (.t 2)⟩,
    ⟨none, (some 21), .mov (.t 1)⟩,
    ⟨none, (some 23), .fld 3 (.t 5)⟩,
    ⟨none, (some 24), .load 1 false (.t 23)⟩,
    ⟨none, (some 25), .fld 2 (.t 5)⟩,
    ⟨none, (some 26), .load 1 false (.t 25)⟩,
    ⟨none, (some 27), .fld 4 (.t 5)⟩,
    ⟨none, (some 28), .load 1 false (.t 27)⟩,
    ⟨none, (some 29), .bin .sub (.t 26) (.t 28)⟩,
    ⟨none, (some 30), .mm true [(.t 24), (.t 29)]⟩,
    ⟨none, (some 22), .callN (.k (.fn (.func 46) [] [])) [(.t 20), (.t 21)]⟩,
    ⟨none, (some 31), .bin .sub (.t 22) (.t 30)⟩,
    ⟨none, (some 32), .mm true [(.k (.int .i64 0)), (.t 31)]⟩,
    ⟨none, (some 4), .mov (.t 32)⟩])
  .ret))))
  ntmps := 33
  res := [.tmp 4]
theorem a51_ok : compileFn P Tryd.f51 = some a51 := by kernel_rfl
def a53L1 : ACode :=
  (.seq (.seq (.region true [⟨none, (some 50), .mov (.t 10)⟩,
    ⟨none, (some 51), .bin .gtr (.t 50) (.k (.int .i64 0))⟩,
    ⟨none, (some 52), .mov (.t 51)⟩,
    ⟨(some (52, true)), (some 53), .mov (.t 5)⟩,
    ⟨(some (52, true)), (some 54), .mov (.t 10)⟩,
    ⟨(some (52, true)), (some 55), .bin .sub (.t 54) (.k (.int .i64 1))⟩,
    ⟨(some (52, true)), (some 56), .idxS 37 (.t 53) (.t 55)⟩,
    ⟨(some (52, true)), (some 57), .fld 36 (.t 56)⟩,
    ⟨(some (52, true)), (some 58), .load 1 false (.t 57)⟩,
    ⟨(some (52, true)), (some 59), .fld 36 (.t 9)⟩,
    ⟨(some (52, true)), (some 60), .load 1 false (.t 59)⟩,
    ⟨(some (52, true)), (some 61), .bin .gtr (.t 58) (.t 60)⟩,
    ⟨none, (some 62), .pick (.t 52) (.t 61) (.k (.bool false))⟩])
  (.cond (.t 62) .skip
  (.exit 2)))
  (.block 3 (.region false [⟨none, (some 63), .mov (.t 10)⟩,
    ⟨none, (some 64), .bin .sub (.t 63) (.k (.int .i64 1))⟩,
    ⟨none, (some 10), .mov (.t 64)⟩])))
def a53S1 (x1 x2 x5 x6 x7 x8 x9 x10 : DV) (h : List AObj) : St := ⟨[.junk, x1, x2, .junk, .junk, x5, x6, x7, x8, x9, x10] ++ js 141, h⟩
def a53L0 : ACode :=
  (.seq (.seq (.region false [⟨none, (some 24), .mov (.t 8)⟩,
    ⟨none, (some 25), .fld 1 (.t 2)⟩,
    ⟨none, (some 26), .load 1 false (.t 25)⟩,
    ⟨none, (some 27), .len (.t 26)⟩,
    ⟨none, (some 28), .bin .lss (.t 24) (.t 27)⟩])
  (.cond (.t 28) .skip
  (.exit 0)))
  (.seq (.block 1 (.seq (.region false [⟨none, (some 31), .fld 1 (.t 2)⟩,
    ⟨none, (some 32), .load 1 false (.t 31)⟩,
    ⟨none, (some 33), .mov (.t 8)⟩,
    ⟨none, (some 34), .idxS 37 (.t 32) (.t 33)⟩,
    ⟨none, (some 35), .load 37 true (.t 34)⟩,
    ⟨none, (some 9), .alloc [(.int .i64 0), (.int .i64 0), (w8 0#8), (w8 0#8), (w8 0#8), (w8 0#8), (w8 0#8), (w8 0#8), (w8 0#8), (w8 0#8), (w8 0#8), (w8 0#8), (w8 0#8), (w8 0#8), (w8 0#8), (w8 0#8), (w8 0#8), (w8 0#8), (w8 0#8), (w8 0#8), (w8 0#8), (w8 0#8), (w8 0#8), (w8 0#8), (w8 0#8), (w8 0#8), (w8 0#8), (w8 0#8), (w8 0#8), (w8 0#8), (w8 0#8), (w8 0#8), (w8 0#8), (w8 0#8), (.int .i64 0), (.int .i64 0), (.int .i64 0)]⟩,
    ⟨none, none, .store 37 (.t 9) (.t 35)⟩])
  (.seq (.seq (.region false [⟨none, (some 36), .fld 1 (.t 9)⟩,
    ⟨none, (some 37), .load 1 false (.t 36)⟩,
    ⟨none, (some 38), .mov (.t 1)⟩,
    ⟨none, (some 39), .bin .neq (.t 37) (.t 38)⟩,
    ⟨none, (some 40), .mov (.t 39)⟩,
    ⟨(some (40, false)), (some 41), .fld 34 (.t 9)⟩,
    ⟨(some (40, false)), (some 42), .load 1 false (.t 41)⟩,
    ⟨(some (40, false)), (some 43), .bin .neq (.t 42) (.k (.int .i64 2))⟩,
    ⟨none, (some 44), .pick (.t 40) (.k (.bool true)) (.t 43)⟩])
  (.cond (.t 44) (.exit 1)
  .skip))
  (.seq (.region false [⟨none, (some 45), .fld 36 (.t 9)⟩,
    ⟨none, (some 46), .load 1 false (.t 45)⟩,
    ⟨none, (some 47), .bin .geq (.t 46) (.k (.int .i64 0))⟩])
  (.cond (.t 47) (.seq (.region false [⟨none, (some 48), .mov (.t 5)⟩,
    ⟨none, (some 49), .len (.t 48)⟩,
    ⟨none, (some 10), .mov (.t 49)⟩])
  (.seq (.block 2 (.loop a53L1))
  (.region true [⟨none, (some 65), .mov (.t 5)⟩,
    ⟨none, (some 66), .mov (.t 10)⟩,
    ⟨none, (some 67), .slcS 37 (.t 65) none (some (.t 66)) none⟩,
    ⟨none, (some 68), .app 37 72 (.k .nils) (.t 67)⟩,
    ⟨none, (some 69), .load 37 true (.t 9)⟩,
    ⟨none, (some 70), .bsl 37 1 [(.int .i64 0), (.int .i64 0), (w8 0#8), (w8 0#8), (w8 0#8), (w8 0#8), (w8 0#8), (w8 0#8), (w8 0#8), (w8 0#8), (w8 0#8), (w8 0#8), (w8 0#8), (w8 0#8), (w8 0#8), (w8 0#8), (w8 0#8), (w8 0#8), (w8 0#8), (w8 0#8), (w8 0#8), (w8 0#8), (w8 0#8), (w8 0#8), (w8 0#8), (w8 0#8), (w8 0#8), (w8 0#8), (w8 0#8), (w8 0#8), (w8 0#8), (w8 0#8), (w8 0#8), (w8 0#8), (.int .i64 0), (.int .i64 0), (.int .i64 0)] [(0, 37, (.t 69))]⟩,
    ⟨none, (some 71), .app 37 72 (.t 68) (.t 70)⟩,
    ⟨none, (some 72), .mov (.t 5)⟩,
    ⟨none, (some 73), .mov (.t 10)⟩,
    ⟨none, (some 74), .slcS 37 (.t 72) (some (.t 73)) none none⟩,
    ⟨none, (some 75), .app 37 72 (.t 71) (.t 74)⟩,
    ⟨none, (some 5), .mov (.t 75)⟩,
    ⟨none, none, .apart (.t 9) (.t 68)⟩,
    ⟨none, none, .apart (.t 72) (.t 68)⟩,
    ⟨none, none, .apart (.t 72) (.t 71)⟩])))
  (.seq (.region false [⟨none, (some 76), .load 3 true (.t 2)⟩,
    ⟨none, (some 77), .load 37 true (.t 9)⟩,
    ⟨none, (some 78), .call (.k (.fn (.func 99) [] [])) [(.t 76), (.t 77)]⟩,
    ⟨none, (some 79), .un .not (.t 78)⟩])
  (.cond (.t 79) (.region false [⟨none, (some 80), .mov (.t 6)⟩,
    ⟨none, (some 81), .fld 0 (.t 9)⟩,
    ⟨none, (some 82), .load 1 false (.t 81)⟩,
    ⟨none, (some 83), .bsl 1 1 [(.int .i64 0)] [(0, 1, (.t 82))]⟩,
    ⟨none, (some 84), .app 1 8 (.t 80) (.t 83)⟩,
    ⟨none, (some 6), .mov (.t 84)⟩])
  .skip)))))))
  (.region false [⟨none, (some 29), .mov (.t 8)⟩,
    ⟨none, (some 30), .bin .add (.t 29) (.k (.int .i64 1))⟩,
    ⟨none, (some 8), .mov (.t 30)⟩])))
def a53S0 (x1 x2 x5 x6 x7 x8 : DV) (h : List AObj) : St := ⟨[.junk, x1, x2, .junk, .junk, x5, x6, x7, x8] ++ js 143, h⟩
def a53L2 : ACode :=
  (.seq (.seq (.region false [⟨none, (some 85), .mov (.t 11)⟩,
    ⟨none, (some 86), .mov (.t 5)⟩,
    ⟨none, (some 87), .len (.t 86)⟩,
    ⟨none, (some 88), .bin .lss (.t 85) (.t 87)⟩])
  (.cond (.t 88) .skip
  (.exit 4)))
  (.seq (.block 5 (.region false [⟨none, (some 91), .mov (.t 7)⟩,
    ⟨none, (some 92), .mov (.t 5)⟩,
    ⟨none, (some 93), .mov (.t 11)⟩,
    ⟨none, (some 94), .idxS 37 (.t 92) (.t 93)⟩,
    ⟨none, (some 95), .fld 0 (.t 94)⟩,
    ⟨none, (some 96), .load 1 false (.t 95)⟩,
    ⟨none, (some 97), .bsl 1 1 [(.int .i64 0)] [(0, 1, (.t 96))]⟩,
    ⟨none, (some 98), .app 1 8 (.t 91) (.t 97)⟩,
    ⟨none, (some 7), .mov (.t 98)⟩]))
  (.region false [⟨none, (some 89), .mov (.t 11)⟩,
    ⟨none, (some 90), .bin .add (.t 89) (.k (.int .i64 1))⟩,
    ⟨none, (some 11), .mov (.t 90)⟩])))
def a53S2 (x1 x2 x5 x6 x7 x11 : DV) (h : List AObj) : St := ⟨[.junk, x1, x2, .junk, .junk, x5, x6, x7, .junk, .junk, .junk, x11] ++ js 140, h⟩
def a53L3 : ACode :=
  (.seq (.seq (.region false [⟨none, (some 117), .mov (.t 13)⟩,
    ⟨none, (some 118), .bin .geq (.t 117) (.k (.int .i64 0))⟩,
    ⟨none, (some 119), .mov (.t 118)⟩,
    ⟨(some (119, true)), (some 120), .mov (.t 12)⟩,
    ⟨(some (119, true)), (some 121), .bin .gtr (.t 120) (.k (.int .i64 0))⟩,
    ⟨none, (some 122), .pick (.t 119) (.t 121) (.k (.bool false))⟩])
  (.cond (.t 122) .skip
  (.exit 6)))
  (.seq (.block 7 (.seq (.region false [⟨none, (some 125), .fld 1 (.t 2)⟩,
    ⟨none, (some 126), .load 1 false (.t 125)⟩,
    ⟨none, (some 127), .mov (.t 13)⟩,
    ⟨none, (some 128), .idxS 37 (.t 126) (.t 127)⟩,
    ⟨none, (some 129), .load 37 true (.t 128)⟩,
    ⟨none, (some 14), .alloc [(.int .i64 0), (.int .i64 0), (w8 0#8), (w8 0#8), (w8 0#8), (w8 0#8), (w8 0#8), (w8 0#8), (w8 0#8), (w8 0#8), (w8 0#8), (w8 0#8), (w8 0#8), (w8 0#8), (w8 0#8), (w8 0#8), (w8 0#8), (w8 0#8), (w8 0#8), (w8 0#8), (w8 0#8), (w8 0#8), (w8 0#8), (w8 0#8), (w8 0#8), (w8 0#8), (w8 0#8), (w8 0#8), (w8 0#8), (w8 0#8), (w8 0#8), (w8 0#8), (w8 0#8), (w8 0#8), (.int .i64 0), (.int .i64 0), (.int .i64 0)]⟩,
    ⟨none, none, .store 37 (.t 14) (.t 129)⟩])
  (.seq (.region false [⟨none, (some 130), .fld 1 (.t 14)⟩,
    ⟨none, (some 131), .load 1 false (.t 130)⟩,
    ⟨none, (some 132), .mov (.t 1)⟩,
    ⟨none, (some 133), .bin .eql (.t 131) (.t 132)⟩,
    ⟨none, (some 134), .mov (.t 133)⟩,
    ⟨(some (134, true)), (some 135), .fld 34 (.t 14)⟩,
    ⟨(some (134, true)), (some 136), .load 1 false (.t 135)⟩,
    ⟨(some (134, true)), (some 137), .bin .eql (.t 136) (.k (.int .i64 2))⟩,
    ⟨none, (some 138), .pick (.t 134) (.t 137) (.k (.bool false))⟩,
    ⟨none, (some 139), .mov (.t 138)⟩,
    ⟨(some (139, true)), (some 140), .load 3 true (.t 2)⟩,
    ⟨(some (139, true)), (some 141), .load 37 true (.t 14)⟩,
    ⟨(some (139, true)), (some 142), .call (.k (.fn (.func 58) [] [])) [(.t 140), (.t 141)]⟩,
    ⟨none, (some 143), .pick (.t 139) (.t 142) (.k (.bool false))⟩])
  (.cond (.t 143) (.seq (.region false [⟨none, (some 144), .mov (.t 7)⟩,
    ⟨none, (some 145), .fld 0 (.t 14)⟩,
    ⟨none, (some 146), .load 1 false (.t 145)⟩,
    ⟨none, (some 147), .bsl 1 1 [(.int .i64 0)] [(0, 1, (.t 146))]⟩,
    ⟨none, (some 148), .app 1 8 (.t 144) (.t 147)⟩,
    ⟨none, (some 7), .mov (.t 148)⟩])
  (.region false [⟨none, (some 149), .mov (.t 12)⟩,
    ⟨none, (some 150), .bin .sub (.t 149) (.k (.int .i64 1))⟩,
    ⟨none, (some 12), .mov (.t 150)⟩]))
  .skip))))
  (.region false [⟨none, (some 123), .mov (.t 13)⟩,
    ⟨none, (some 124), .bin .sub (.t 123) (.k (.int .i64 1))⟩,
    ⟨none, (some 13), .mov (.t 124)⟩])))
def a53S3 (x1 x2 x7 x12 x13 : DV) (h : List AObj) : St := ⟨[.junk, x1, x2] ++ js 4 ++ [x7] ++ js 4 ++ [x12, x13] ++ js 138, h⟩
def a53 : AFn where
  code := (.seq (.region false [⟨none, (some 2), .box (.t 0)⟩,
    ⟨none, (some 4), .mov (.k .nils)⟩])
  (.seq (.seq (.region false [⟨none, (some 15), .mov (.t 1)⟩,
    ⟨none, (some 16), .bin .lss (.t 15) (.k (.int .i64 0))⟩,
    ⟨none, (some 17), .mov (.t 16)⟩,
    ⟨(some (17, false)), (some 18), .mov (.t 1)⟩,
    ⟨(some (17, false)), (some 19), .fld 0 (.t 2)⟩,
    ⟨(some (17, false)), (some 20), .load 1 false (.t 19)⟩,
    ⟨(some (17, false)), (some 21), .len (.t 20)⟩,
    ⟨(some (17, false)), (some 22), .bin .geq (.t 18) (.t 21)⟩,
    ⟨none, (some 23), .pick (.t 17) (.k (.bool true)) (.t 22)⟩])
  (.cond (.t 23) (.seq (.region false [⟨none, (some 4), .mov (.k .nils)⟩])
  .ret)
  .skip))
  (.seq (.region false [⟨none, (some 5), .mov (.k .nils)⟩])
  (.seq (.region false [⟨none, (some 6), .mov (.k .nils)⟩,
    ⟨none, (some 7), .mov (.k .nils)⟩])
  (.seq (.seq (.region false [⟨none, (some 8), .mov (.k (.int .i64 0))⟩])
  (.block 0 (.loop a53L0)))
  (.seq (.seq (.region false [⟨none, (some 11), .mov (.k (.int .i64 0))⟩])
  (.block 4 (.loop a53L2)))
  (.seq (.region false [⟨none, (some 99), .mov (.t 7)⟩,
    ⟨none, (some 100), .mov (.t 6)⟩,
    ⟨none, (some 101), .app 1 8 (.t 99) (.t 100)⟩,
    ⟨none, (some 7), .mov (.t 101)⟩])
  (.seq (.region true [⟨none, (some 102), .load 3 true (.t 2)⟩,
    ⟨none, (some 103), .mov (.t 1)⟩,
    ⟨none, (some 106), .fld 0 (.t 2)⟩,
    ⟨none, (some 107), .load 1 false (.t 106)⟩,
    ⟨none, (some 108), .mov (.t 1)⟩,
    ⟨none, (some 109), .idxS 6 (.t 107) (.t 108)⟩,
    ⟨none, (some 110), .fld 2 (.t 109)⟩,
    ⟨none, (some 111), .load 1 false (.t 110)⟩,
    ⟨none, (some 104), .callN (.k (.fn (.func 49) [] [])) [(.t 102), (.t 103)]⟩,
    ⟨none, (some 105), .len (.t 104)⟩,
    ⟨none, (some 112), .bin .sub (.t 105) (.t 111)⟩,
    ⟨none, (some 12), .mov (.t 112)⟩])
  (.seq (.seq (.region false [⟨none, (some 113), .fld 1 (.t 2)⟩,
    ⟨none, (some 114), .load 1 false (.t 113)⟩,
    ⟨none, (some 115), .len (.t 114)⟩,
    ⟨none, (some 116), .bin .sub (.t 115) (.k (.int .i64 1))⟩,
    ⟨none, (some 13), .mov (.t 116)⟩])
  (.block 6 (.loop a53L3)))
  (.seq (.region false [⟨none, (some 151), .mov (.t 7)⟩,
    ⟨none, (some 4), .mov (.t 151)⟩])
  .ret))))))))))
  ntmps := 152
  res := [.tmp 4]
theorem a53_ok : compileFn P Tryd.f53 = some a53 := by kernel_rfl
end Go.Proofs.YtjhakjeioppijaaDoor
set_option linter.unusedSimpArgs false
set_option linter.unusedVariables false
namespace Go.Proofs.YtjhakjeioppijaaDoor
open Go Go.Am
end Go.Proofs.YtjhakjeioppijaaDoor
set_option linter.unusedSimpArgs false
set_option linter.unusedVariables false
namespace Go.Proofs.YtjhakjeioppijaaDoor
open Go Go.Am
def choR (c : Clu) (x : Ins) : Bool := match grAt c x.grp with
  | some g => decide (x.art ∈ g.ch.l)
  | none => false
def isGoodR (c : Clu) (x : Ins) : Bool := (decide (x.state = 1) || decide (x.state = 2)) && (decide (x.den = -1) && choR c x)
noncomputable def T270 : Tbl := addT 63 (.pure (cDgs hasB)) tbl0
theorem T270_h : T270 63 = .pure (cDgs hasB) := by simp [T270]
theorem T270_sound : T270.Sound P := addT_sound (con_sound fun p _ => sem_runs mix tbl0_sound Tryd.func63 a63_ok (runs_refhas p.1 p.2)) tbl0_sound
theorem runs_chosenR (c : Clu) (x : Ins) : Runs T270 a99 [.agg (clC c), .agg (inC x)] (.bool (choR c x)) := by
  refine ⟨?_⟩
  by_cases h0 : 0 ≤ x.grp
  · obtain ⟨K, hK⟩ : ∃ K : Nat, x.grp = K := ⟨x.grp.toNat, by omega⟩
    have hk0 : (0 : Int) ≤ K := by omega
    by_cases h1 : K < c.g.l.length
    · have h1' : (K : Int) < c.g.l.length := by omega
      have hG := fun h => idxSD_dv (x := c.g) (h := h) len_grC h1
      have hg : choR c x = decide (x.art ∈ c.g.l[K].ch.l) := by rw [choR, hK, grAt_in h1]
      simp (disch := first | omega | (simp [-List.map_take, -List.map_drop, -List.map_set, -List.map_append, -List.drop_one] <;> omega) | fail) [-List.map_take, -List.map_drop, -List.map_set, -List.map_append, -List.drop_one, a99, hK, hk0, h1, h1', hG, T270_h, cDgs_eq, hasB, hg]
    · have h1' : ¬ (K : Int) < c.g.l.length := by omega
      have hg : choR c x = false := by rw [choR, hK, grAt_big (by omega)]
      simp (disch := first | omega | (simp [-List.map_take, -List.map_drop, -List.map_set, -List.map_append, -List.drop_one] <;> omega) | fail) [-List.map_take, -List.map_drop, -List.map_set, -List.map_append, -List.drop_one, a99, hK, hk0, h1, h1', hg]
  · have hg : choR c x = false := by rw [choR, grAt_neg (by omega)]
    simp (disch := first | omega | (simp [-List.map_take, -List.map_drop, -List.map_set, -List.map_append, -List.drop_one] <;> omega) | fail) [-List.map_take, -List.map_drop, -List.map_set, -List.map_append, -List.drop_one, a99, h0, hg]
noncomputable def cCx (f : Clu → Ins → Bool) : List DV → Option DV := con (fun _ => True) (fun a : Clu × Ins => [.agg (clC a.1), .agg (inC a.2)]) (fun a => .bool (f a.1 a.2))
theorem cCx_eq {f : Clu → Ins → Bool} {c : Clu} {x : Ins} : cCx f [.agg (clC c), .agg (inC x)] = some (.bool (f c x)) :=
  con_inj (f := fun a : Clu × Ins => [.agg (clC a.1), .agg (inC a.2)]) (g := fun a => .bool (f a.1 a.2)) (by
    rintro ⟨a, b⟩ ⟨c, d⟩ e
    simp only [List.cons.injEq, DV.agg.injEq, and_true] at e
    rw [clC_inj e.1, inC_inj e.2]) (c, x)
theorem choR_sound : (Con.pure (cCx choR)).Sound P 99 := con_sound fun a _ => sem_runs mix T270_sound Tryd.func99 a99_ok (runs_chosenR a.1 a.2)
noncomputable def T271 : Tbl := addT 99 (.pure (cCx choR)) tbl0
theorem T271_c : T271 99 = .pure (cCx choR) := by simp [T271]
theorem T271_sound : T271.Sound P := addT_sound choR_sound tbl0_sound
theorem runs_isgood (c : Clu) (x : Ins) : Runs T271 a58 [.agg (clC c), .agg (inC x)] (.bool (isGoodR c x)) := by
  refine ⟨?_⟩
  by_cases h1 : x.state = 1
  · by_cases h3 : x.den = -1
    · simp (disch := first | omega | (simp [-List.map_take, -List.map_drop, -List.map_set, -List.map_append, -List.drop_one] <;> omega) | fail) [-List.map_take, -List.map_drop, -List.map_set, -List.map_append, -List.drop_one, a58, isGoodR, h1, h3, T271_c, cCx_eq]
    · simp (disch := first | omega | (simp [-List.map_take, -List.map_drop, -List.map_set, -List.map_append, -List.drop_one] <;> omega) | fail) [-List.map_take, -List.map_drop, -List.map_set, -List.map_append, -List.drop_one, a58, isGoodR, h1, h3, T271_c, cCx_eq]
  · by_cases h2 : x.state = 2
    · by_cases h3 : x.den = -1
      · simp (disch := first | omega | (simp [-List.map_take, -List.map_drop, -List.map_set, -List.map_append, -List.drop_one] <;> omega) | fail) [-List.map_take, -List.map_drop, -List.map_set, -List.map_append, -List.drop_one, a58, isGoodR, h1, h2, h3, T271_c, cCx_eq]
      · simp (disch := first | omega | (simp [-List.map_take, -List.map_drop, -List.map_set, -List.map_append, -List.drop_one] <;> omega) | fail) [-List.map_take, -List.map_drop, -List.map_set, -List.map_append, -List.drop_one, a58, isGoodR, h1, h2, h3, T271_c, cCx_eq]
    · simp (disch := first | omega | (simp [-List.map_take, -List.map_drop, -List.map_set, -List.map_append, -List.drop_one] <;> omega) | fail) [-List.map_take, -List.map_drop, -List.map_set, -List.map_append, -List.drop_one, a58, isGoodR, h1, h2, T271_c, cCx_eq]
theorem isgood_sound : (Con.pure (cCx isGoodR)).Sound P 58 := con_sound fun a _ => sem_runs mix T271_sound Tryd.func58 a58_ok (runs_isgood a.1 a.2)
theorem isGood_at {c : Clu} {x : Ins} {k : Int} {g : Grp} (hg : grAt c k = some g) (hx : x.grp = k) : isGoodR c x = sGoodR g x := by
  simp only [isGoodR, sGoodR, choR, hx, hg]
end Go.Proofs.YtjhakjeioppijaaDoor
set_option linter.unusedSimpArgs false
set_option linter.unusedVariables false
namespace Go.Proofs.YtjhakjeioppijaaDoor
open Go Go.Am
noncomputable def cLL (f : List Int → List Int → Bool) : List DV → Option DV := con (fun a : List Int × List Int => a.1.length ≤ 1000000 ∧ a.2.length ≤ 1000000) (fun a => [liV a.1, liV a.2]) (fun a => .bool (f a.1 a.2))
theorem cLL_eq {f : List Int → List Int → Bool} {a b : List Int} (h1 : a.length ≤ 1000000) (h2 : b.length ≤ 1000000) : cLL f [liV a, liV b] = some (.bool (f a b)) :=
  con_eq (f := fun a : List Int × List Int => [liV a.1, liV a.2]) (g := fun a => .bool (f a.1 a.2)) (by
    rintro ⟨a, b⟩ ⟨c, d⟩ e
    simp only [List.cons.injEq, and_true] at e
    rw [liV_inj e.1, liV_inj e.2]) (a, b) ⟨h1, h2⟩
end Go.Proofs.YtjhakjeioppijaaDoor
set_option linter.unusedSimpArgs false
set_option linter.unusedVariables false
namespace Go.Proofs.YtjhakjeioppijaaDoor
open Go Go.Am
def sameL (a b : List Int) : Bool := decide (a = b)
def S321 (a b : List Int) (i : Nat) : St := a85S0 (liV a) (liV b) (.int .i64 i) []
theorem runs_sameints (a b : List Int) (ha : a.length ≤ 1000000) (hb : b.length ≤ 1000000) : Runs tbl0 a85 [liV a, liV b] (.bool (sameL a b)) := by
  refine ⟨?_⟩
  by_cases hl : a.length = b.length
  · have hl' : (a.length : Int) = b.length := by omega
    simp (disch := first | omega | (simp [-List.map_take, -List.map_drop, -List.map_set, -List.map_append, -List.drop_one] <;> omega) | fail) [-List.map_take, -List.map_drop, -List.map_set, -List.map_append, -List.drop_one, a85, hl, hl']
    refine W_loop (S321 a b) (fun i => a.length - i) (fun i => i ≤ a.length ∧ a.take i = b.take i) 0 (weak_same (by simp (disch := first | omega | (simp [-List.map_take, -List.map_drop, -List.map_set, -List.map_append, -List.drop_one] <;> omega) | fail) [-List.map_take, -List.map_drop, -List.map_set, -List.map_append, -List.drop_one, S321, a85S0]) (by simp (disch := first | omega | (simp [-List.map_take, -List.map_drop, -List.map_set, -List.map_append, -List.drop_one] <;> omega) | fail) [-List.map_take, -List.map_drop, -List.map_set, -List.map_append, -List.drop_one, S321, a85S0])) ⟨by omega, by simp⟩ (fun i hi => ?_)
    obtain ⟨h1, h2⟩ := hi
    simp (disch := first | omega | (simp [-List.map_take, -List.map_drop, -List.map_set, -List.map_append, -List.drop_one] <;> omega) | fail) [-List.map_take, -List.map_drop, -List.map_set, -List.map_append, -List.drop_one, a85L0, a85S0, S321]
    by_cases h : i < a.length
    · have h' : (i : Int) < a.length := by omega
      have hx := fun H => liV_idx H h
      have hy := fun H => liV_idx H (l := b) (i := i) (by omega)
      by_cases e : a[i] = b[i]
      · simp (disch := first | omega | (simp [-List.map_take, -List.map_drop, -List.map_set, -List.map_append, -List.drop_one] <;> omega) | fail) [-List.map_take, -List.map_drop, -List.map_set, -List.map_append, -List.drop_one, h, h', hx, hy, e]
        refine ⟨i + 1, weak_same (by simp (disch := first | omega | (simp [-List.map_take, -List.map_drop, -List.map_set, -List.map_append, -List.drop_one] <;> omega) | fail) [-List.map_take, -List.map_drop, -List.map_set, -List.map_append, -List.drop_one, S321, a85S0]) (by simp (disch := first | omega | (simp [-List.map_take, -List.map_drop, -List.map_set, -List.map_append, -List.drop_one] <;> omega) | fail) [-List.map_take, -List.map_drop, -List.map_set, -List.map_append, -List.drop_one, S321, a85S0]), by omega, by omega, ?_⟩
        rw [List.take_succ_eq_append_getElem h, List.take_succ_eq_append_getElem (by omega), h2, e]
      · have hr : sameL a b = false := by
          unfold sameL
          simp only [decide_eq_false_iff_not]
          intro q; subst q; exact e rfl
        simp (disch := first | omega | (simp [-List.map_take, -List.map_drop, -List.map_set, -List.map_append, -List.drop_one] <;> omega) | fail) [-List.map_take, -List.map_drop, -List.map_set, -List.map_append, -List.drop_one, h, h', hx, hy, e, hr]
    · have h' : ¬ (i : Int) < a.length := by omega
      have hr : sameL a b = true := by
        unfold sameL
        simp only [decide_eq_true_eq]
        rw [List.take_of_length_le (by omega), List.take_of_length_le (by omega)] at h2
        exact h2
      simp (disch := first | omega | (simp [-List.map_take, -List.map_drop, -List.map_set, -List.map_append, -List.drop_one] <;> omega) | fail) [-List.map_take, -List.map_drop, -List.map_set, -List.map_append, -List.drop_one, h, h', hr]
  · have hl' : ¬ (a.length : Int) = b.length := by omega
    have hr : sameL a b = false := by
      unfold sameL
      simp only [decide_eq_false_iff_not]
      intro q; subst q; exact hl rfl
    simp (disch := first | omega | (simp [-List.map_take, -List.map_drop, -List.map_set, -List.map_append, -List.drop_one] <;> omega) | fail) [-List.map_take, -List.map_drop, -List.map_set, -List.map_append, -List.drop_one, a85, hl, hl', hr]
noncomputable def T320 : Tbl := addT 85 (.pure (cLL sameL)) tbl0
theorem T320_s : T320 85 = .pure (cLL sameL) := by simp [T320]
theorem T320_sound : T320.Sound P := addT_sound (con_sound fun a h => sem_runs mix tbl0_sound Tryd.func85 a85_ok (runs_sameints a.1 a.2 h.1 h.2)) tbl0_sound
theorem runs_ints (a b : List Int) (ha : a.length ≤ 1000000) (hb : b.length ≤ 1000000) : Runs T320 a47 [liV a, liV b] (.bool (sameL a b)) := by
  refine ⟨?_⟩
  have h := cLL_eq (f := sameL) ha hb
  simp (disch := first | omega | (simp [-List.map_take, -List.map_drop, -List.map_set, -List.map_append, -List.drop_one] <;> omega) | fail) [-List.map_take, -List.map_drop, -List.map_set, -List.map_append, -List.drop_one, a47, T320_s, h]
theorem ints_sound : (Con.pure (cLL sameL)).Sound P 47 := con_sound fun a h => sem_runs mix T320_sound Tryd.func47 a47_ok (runs_ints a.1 a.2 h.1 h.2)
structure OvR (a : Clu × Nl × Int) : Prop where
  o : OvOK a
  s : ∀ x ∈ a.1.i.l, 1 ≤ x.state ∧ x.state ≤ 3
end Go.Proofs.YtjhakjeioppijaaDoor
set_option linter.unusedSimpArgs false
set_option linter.unusedVariables false
namespace Go.Proofs.YtjhakjeioppijaaDoor
open Go Go.Am
theorem appX_srt {pre : List AObj} {L M : List Int} (hb : L.length + M.length ≤ 4294967296) : appX (srtH pre L) 1 8 (srtV pre.length L) M.length (M.map (.int .i64)) = some (srtV pre.length (L ++ M), srtH pre (L ++ M)) := by
  by_cases hL : L = []
  · subst hL
    rw [srtV_nil, srtH_nil, List.nil_append]
    by_cases hM : M = []
    · subst hM; exact appX_nils0 (by decide) (by decide)
    · rw [appX_nils (by decide) (by decide) (by simp) (by cases M with | nil => exact absurd rfl hM | cons a l => simp) (by simpa using hb), srtV_ne hM, srtH_ne hM, List.length_map]
  · have hne : L ++ M ≠ [] := by simp [hL]
    rw [srtV_ne hL, srtH_ne hL, srtV_ne hne, srtH_ne hne, appX_own (by omega) (by decide) (by decide) (by simp) hb (by simp [DV.one]), objV_last, if_pos (by simp), Option.map_some, set_pre0, List.map_append, List.length_append, List.length_map]
    rfl
theorem appX_srt1 {pre : List AObj} {L : List Int} {y : Int} (hb : L.length < 4294967296) : appX (srtH pre L) 1 8 (srtV pre.length L) 1 [.int .i64 y] = some (srtV pre.length (L ++ [y]), srtH pre (L ++ [y])) :=
  appX_srt (M := [y]) (by show L.length + 1 ≤ _; omega)
def S340 (c : Clu) (k : Int) (i : Nat) : St := a46S0 (.int .i64 k) (.mp 0 3 0) (.int .i64 (cntR k (c.i.l.take i))) (.int .i64 i) [.cells (clC c)]
theorem runs_reflive (c : Clu) (k : Int) : Runs tbl0 a46 [.agg (clC c), .int .i64 k] (.int .i64 (cntR k c.i.l)) := by
  refine ⟨?_⟩
  obtain ⟨n, hn⟩ : ∃ n, c.i.l.length = n := ⟨_, rfl⟩
  have hib := c.i.b
  simp (disch := first | omega | (simp [-List.map_take, -List.map_drop, -List.map_set, -List.map_append, -List.drop_one] <;> omega) | fail) [-List.map_take, -List.map_drop, -List.map_set, -List.map_append, -List.drop_one, a46]
  refine W_loop (S340 c k) (fun i => n - i) (fun i => i ≤ n) 0 (weak_same (by simp (disch := first | omega | (simp [-List.map_take, -List.map_drop, -List.map_set, -List.map_append, -List.drop_one] <;> omega) | fail) [-List.map_take, -List.map_drop, -List.map_set, -List.map_append, -List.drop_one, S340, a46S0, cntR]) (by simp (disch := first | omega | (simp [-List.map_take, -List.map_drop, -List.map_set, -List.map_append, -List.drop_one] <;> omega) | fail) [-List.map_take, -List.map_drop, -List.map_set, -List.map_append, -List.drop_one, S340, a46S0])) (by omega) (fun i hi => ?_)
  simp (disch := first | omega | (simp [-List.map_take, -List.map_drop, -List.map_set, -List.map_append, -List.drop_one] <;> omega) | fail) [-List.map_take, -List.map_drop, -List.map_set, -List.map_append, -List.drop_one, a46L0, a46S0, S340, hn]
  by_cases h : i < n
  · have h' : (i : Int) < n := by omega
    have h2 : i < c.i.l.length := by omega
    have hx := fun H => idxSD_dv (x := c.i) (h := H) len_inC h2
    have hs := cnt_take (k := k) h2
    have hle : cntR k (c.i.l.take i) ≤ i := Nat.le_trans (List.length_filter_le _ _) (by simp; omega)
    obtain ⟨x, hxe⟩ : ∃ x, c.i.l[i] = x := ⟨_, rfl⟩
    simp only [hxe] at hx hs
    obtain ⟨m, hm⟩ : ∃ m, cntR k (c.i.l.take i) = m := ⟨_, rfl⟩
    rw [hm] at hs hle
    rw [hm]
    by_cases e1 : x.grp = k
    · by_cases e2 : x.state = 2
      · have hs' : cntR k (c.i.l.take (i + 1)) = m + 1 := by rw [hs]; simp [runB, e1, e2]
        simp (disch := first | omega | (simp [-List.map_take, -List.map_drop, -List.map_set, -List.map_append, -List.drop_one] <;> omega) | fail) [-List.map_take, -List.map_drop, -List.map_set, -List.map_append, -List.drop_one, h, h', hx, e1, e2]
        exact ⟨i + 1, weak_same (by simp (disch := first | omega | (simp [-List.map_take, -List.map_drop, -List.map_set, -List.map_append, -List.drop_one] <;> omega) | fail) [-List.map_take, -List.map_drop, -List.map_set, -List.map_append, -List.drop_one, S340, a46S0, hs']) (by simp (disch := first | omega | (simp [-List.map_take, -List.map_drop, -List.map_set, -List.map_append, -List.drop_one] <;> omega) | fail) [-List.map_take, -List.map_drop, -List.map_set, -List.map_append, -List.drop_one, S340, a46S0]), by omega, by omega⟩
      · have hs' : cntR k (c.i.l.take (i + 1)) = m := by rw [hs]; simp [runB, e2]
        simp (disch := first | omega | (simp [-List.map_take, -List.map_drop, -List.map_set, -List.map_append, -List.drop_one] <;> omega) | fail) [-List.map_take, -List.map_drop, -List.map_set, -List.map_append, -List.drop_one, h, h', hx, e1, e2]
        exact ⟨i + 1, weak_same (by simp (disch := first | omega | (simp [-List.map_take, -List.map_drop, -List.map_set, -List.map_append, -List.drop_one] <;> omega) | fail) [-List.map_take, -List.map_drop, -List.map_set, -List.map_append, -List.drop_one, S340, a46S0, hs']) (by simp (disch := first | omega | (simp [-List.map_take, -List.map_drop, -List.map_set, -List.map_append, -List.drop_one] <;> omega) | fail) [-List.map_take, -List.map_drop, -List.map_set, -List.map_append, -List.drop_one, S340, a46S0]), by omega, by omega⟩
    · have hs' : cntR k (c.i.l.take (i + 1)) = m := by rw [hs]; simp [runB, e1]
      simp (disch := first | omega | (simp [-List.map_take, -List.map_drop, -List.map_set, -List.map_append, -List.drop_one] <;> omega) | fail) [-List.map_take, -List.map_drop, -List.map_set, -List.map_append, -List.drop_one, h, h', hx, e1]
      exact ⟨i + 1, weak_same (by simp (disch := first | omega | (simp [-List.map_take, -List.map_drop, -List.map_set, -List.map_append, -List.drop_one] <;> omega) | fail) [-List.map_take, -List.map_drop, -List.map_set, -List.map_append, -List.drop_one, S340, a46S0, hs']) (by simp (disch := first | omega | (simp [-List.map_take, -List.map_drop, -List.map_set, -List.map_append, -List.drop_one] <;> omega) | fail) [-List.map_take, -List.map_drop, -List.map_set, -List.map_append, -List.drop_one, S340, a46S0]), by omega, by omega⟩
  · have h' : ¬ (i : Int) < n := by omega
    have e : c.i.l.take i = c.i.l := List.take_of_length_le (by omega)
    simp (disch := first | omega | (simp [-List.map_take, -List.map_drop, -List.map_set, -List.map_append, -List.drop_one] <;> omega) | fail) [-List.map_take, -List.map_drop, -List.map_set, -List.map_append, -List.drop_one, h, h', e]
def gooR (c : Clu) (k : Int) (l : List Ins) : List Int := (selL l k (isGoodR c)).map Ins.id
theorem gooR_succ {c : Clu} {k : Int} {l : List Ins} {i : Nat} (h : i < l.length) {x : Ins} (hx : l[i] = x) : gooR c k (l.take (i + 1)) = gooR c k (l.take i) ++ (if decide (x.grp = k) && isGoodR c x then [x.id] else []) := by
  subst hx
  rw [gooR, selL_take h, List.map_append, gooR]
  split <;> rfl
def S341 (c : Clu) (k : Int) (i : Nat) : St := a49S0 (.int .i64 k) (.mp 0 3 0) (srtV 1 (gooR c k (c.i.l.take i))) (.int .i64 i) (srtH [.cells (clC c)] (gooR c k (c.i.l.take i)))
noncomputable def T341 : Tbl := addT 58 (.pure (cCx isGoodR)) tbl0
theorem T341_g : T341 58 = .pure (cCx isGoodR) := by simp [T341]
theorem T341_sound : T341.Sound P := addT_sound isgood_sound tbl0_sound
theorem srtH_obj0 {c : Clu} {L : List Int} : objV (srtH [.cells (clC c)] L) 0 3 = some (clC c) := by
  have := obj0_form (c := c) (B := srtH [.cells (clC c)] L) (srtH_form _ _) []
  rwa [List.append_nil] at this
theorem runs_refgood (c : Clu) (k : Int) : Runs T341 a49 [.agg (clC c), .int .i64 k] (liV (gooR c k c.i.l)) := by
  refine ⟨?_⟩
  obtain ⟨n, hn⟩ : ∃ n, c.i.l.length = n := ⟨_, rfl⟩
  have hib := c.i.b
  simp (disch := first | omega | (simp [-List.map_take, -List.map_drop, -List.map_set, -List.map_append, -List.drop_one] <;> omega) | fail) [-List.map_take, -List.map_drop, -List.map_set, -List.map_append, -List.drop_one, a49]
  refine W_loop (S341 c k) (fun i => n - i) (fun i => i ≤ n) 0 (weak_same (by simp (disch := first | omega | (simp [-List.map_take, -List.map_drop, -List.map_set, -List.map_append, -List.drop_one] <;> omega) | fail) [-List.map_take, -List.map_drop, -List.map_set, -List.map_append, -List.drop_one, S341, a49S0, gooR, selL, srtV]) (by simp (disch := first | omega | (simp [-List.map_take, -List.map_drop, -List.map_set, -List.map_append, -List.drop_one] <;> omega) | fail) [-List.map_take, -List.map_drop, -List.map_set, -List.map_append, -List.drop_one, S341, a49S0, gooR, selL, srtH])) (by omega) (fun i hi => ?_)
  have hle : (gooR c k (c.i.l.take i)).length ≤ i := by
    rw [gooR, List.length_map]; exact Nat.le_trans (List.length_filter_le _ _) (by simp; omega)
  obtain ⟨L, hL⟩ : ∃ L, gooR c k (c.i.l.take i) = L := ⟨_, rfl⟩
  have ho := srtH_obj0 (c := c) (L := L)
  have hsn := snap_srt (pre := [.cells (clC c)]) (l := L)
  simp only [List.length_cons, List.length_nil, Nat.zero_add] at hsn
  simp (disch := first | omega | (simp [-List.map_take, -List.map_drop, -List.map_set, -List.map_append, -List.drop_one] <;> omega) | fail) [-List.map_take, -List.map_drop, -List.map_set, -List.map_append, -List.drop_one, a49L0, a49S0, S341, hL, ho, hn]
  by_cases h : i < n
  · have h' : (i : Int) < n := by omega
    have h2 : i < c.i.l.length := by omega
    have hx := fun H => idxSD_dv (x := c.i) (h := H) len_inC h2
    obtain ⟨x, hxe⟩ : ∃ x, c.i.l[i] = x := ⟨_, rfl⟩
    have hs := gooR_succ (c := c) (k := k) h2 hxe
    simp only [hxe] at hx
    rw [hL] at hs hle
    have ha := fun y => appX_srt1 (pre := [.cells (clC c)]) (L := L) (y := y) (by omega)
    simp only [List.length_cons, List.length_nil, Nat.zero_add] at ha
    by_cases e1 : x.grp = k
    · cases e2 : isGoodR c x with
      | true =>
        have hs' : gooR c k (c.i.l.take (i + 1)) = L ++ [x.id] := by rw [hs]; simp [e1, e2]
        simp (disch := first | omega | (simp [-List.map_take, -List.map_drop, -List.map_set, -List.map_append, -List.drop_one] <;> omega) | fail) [-List.map_take, -List.map_drop, -List.map_set, -List.map_append, -List.drop_one, h, h', hx, e1, T341_g, cCx_eq, e2, ho, ha]
        exact ⟨i + 1, weak_same (by simp (disch := first | omega | (simp [-List.map_take, -List.map_drop, -List.map_set, -List.map_append, -List.drop_one] <;> omega) | fail) [-List.map_take, -List.map_drop, -List.map_set, -List.map_append, -List.drop_one, S341, a49S0, hs']) (by simp (disch := first | omega | (simp [-List.map_take, -List.map_drop, -List.map_set, -List.map_append, -List.drop_one] <;> omega) | fail) [-List.map_take, -List.map_drop, -List.map_set, -List.map_append, -List.drop_one, S341, a49S0, hs']), by omega, by omega⟩
      | false =>
        have hs' : gooR c k (c.i.l.take (i + 1)) = L := by rw [hs]; simp [e2]
        simp (disch := first | omega | (simp [-List.map_take, -List.map_drop, -List.map_set, -List.map_append, -List.drop_one] <;> omega) | fail) [-List.map_take, -List.map_drop, -List.map_set, -List.map_append, -List.drop_one, h, h', hx, e1, T341_g, cCx_eq, e2, ho]
        exact ⟨i + 1, weak_same (by simp (disch := first | omega | (simp [-List.map_take, -List.map_drop, -List.map_set, -List.map_append, -List.drop_one] <;> omega) | fail) [-List.map_take, -List.map_drop, -List.map_set, -List.map_append, -List.drop_one, S341, a49S0, hs']) (by simp (disch := first | omega | (simp [-List.map_take, -List.map_drop, -List.map_set, -List.map_append, -List.drop_one] <;> omega) | fail) [-List.map_take, -List.map_drop, -List.map_set, -List.map_append, -List.drop_one, S341, a49S0, hs']), by omega, by omega⟩
    · have hs' : gooR c k (c.i.l.take (i + 1)) = L := by rw [hs]; simp [e1]
      simp (disch := first | omega | (simp [-List.map_take, -List.map_drop, -List.map_set, -List.map_append, -List.drop_one] <;> omega) | fail) [-List.map_take, -List.map_drop, -List.map_set, -List.map_append, -List.drop_one, h, h', hx, e1, ho]
      exact ⟨i + 1, weak_same (by simp (disch := first | omega | (simp [-List.map_take, -List.map_drop, -List.map_set, -List.map_append, -List.drop_one] <;> omega) | fail) [-List.map_take, -List.map_drop, -List.map_set, -List.map_append, -List.drop_one, S341, a49S0, hs']) (by simp (disch := first | omega | (simp [-List.map_take, -List.map_drop, -List.map_set, -List.map_append, -List.drop_one] <;> omega) | fail) [-List.map_take, -List.map_drop, -List.map_set, -List.map_append, -List.drop_one, S341, a49S0, hs']), by omega, by omega⟩
  · have h' : ¬ (i : Int) < n := by omega
    have e : gooR c k c.i.l = L := by rw [← hL, List.take_of_length_le (by omega)]
    simp (disch := first | omega | (simp [-List.map_take, -List.map_drop, -List.map_set, -List.map_append, -List.drop_one] <;> omega) | fail) [-List.map_take, -List.map_drop, -List.map_set, -List.map_append, -List.drop_one, h, h', e, hsn]
def liveRD (c : Clu) (k : Int) : DV := .int .i64 (cntR k c.i.l)
def goodRD (c : Clu) (k : Int) : DV := liV (gooR c k c.i.l)
def roomR (c : Clu) (k : Int) : Int := match grAt c k with
  | some g => max ((cntR k c.i.l : Int) - max g.least (g.want - g.down)) 0
  | none => 0
def roomRD (c : Clu) (k : Int) : DV := .int .i64 (roomR c k)
theorem liveR_sound : (Con.pure (cCk liveRD)).Sound P 46 := con_sound fun a _ => sem_runs mix tbl0_sound Tryd.func46 a46_ok (runs_reflive a.1 a.2)
theorem goodR_sound : (Con.pure (cCk goodRD)).Sound P 49 := con_sound fun a _ => sem_runs mix T341_sound Tryd.func49 a49_ok (runs_refgood a.1 a.2)
noncomputable def T342 : Tbl := addT 46 (.pure (cCk liveRD)) tbl0
theorem T342_l : T342 46 = .pure (cCk liveRD) := by simp [T342]
theorem T342_sound : T342.Sound P := addT_sound liveR_sound tbl0_sound
theorem runs_refroom (c : Clu) (k : Int) (hL : ∀ g ∈ c.g.l, LimOK g) : Runs T342 a51 [.agg (clC c), .int .i64 k] (roomRD c k) := by
  refine ⟨?_⟩
  by_cases h0 : k < 0
  · have hr : roomR c k = 0 := by rw [roomR, grAt_neg h0]
    simp (disch := first | omega | (simp [-List.map_take, -List.map_drop, -List.map_set, -List.map_append, -List.drop_one] <;> omega) | fail) [-List.map_take, -List.map_drop, -List.map_set, -List.map_append, -List.drop_one, a51, h0, roomRD, hr]
  obtain ⟨K, rfl⟩ : ∃ K : Nat, k = K := ⟨k.toNat, by omega⟩
  by_cases h1 : c.g.l.length ≤ K
  · have hr : roomR c K = 0 := by rw [roomR, grAt_big h1]
    have h1' : (c.g.l.length : Int) ≤ K := by omega
    simp (disch := first | omega | (simp [-List.map_take, -List.map_drop, -List.map_set, -List.map_append, -List.drop_one] <;> omega) | fail) [-List.map_take, -List.map_drop, -List.map_set, -List.map_append, -List.drop_one, a51, h0, h1, h1', roomRD, hr]
  have h2 : K < c.g.l.length := by omega
  have h1' : ¬ (c.g.l.length : Int) ≤ K := by omega
  have hG := fun h => idxSD_dv (x := c.g) (h := h) len_grC h2
  have hlim := hL _ (List.getElem_mem h2)
  have hr : roomR c K = max ((cntR K c.i.l : Int) - max c.g.l[K].least (c.g.l[K].want - c.g.l[K].down)) 0 := by rw [roomR, grAt_in h2]
  obtain ⟨G, hGe⟩ : ∃ G, c.g.l[K] = G := ⟨_, rfl⟩
  rw [hGe] at hG hlim hr
  obtain ⟨⟨w1, w2⟩, ⟨l1, l2⟩, d1, d2⟩ := hlim
  have hll : cntR K c.i.l ≤ c.i.l.length := List.length_filter_le _ _
  have hib := c.i.b
  obtain ⟨N, hN⟩ : ∃ N, cntR K c.i.l = N := ⟨_, rfl⟩
  obtain ⟨M, hM⟩ : ∃ M, max G.least (G.want - G.down) = M := ⟨_, rfl⟩
  rw [hM, hN] at hr
  rw [hN] at hll
  have m1 : -2000000000 ≤ M ∧ M ≤ 2000000000 := by omega
  have hmx : max 0 ((N : Int) - M) = max ((N : Int) - M) 0 := by omega
  simp (disch := first | omega | (simp [-List.map_take, -List.map_drop, -List.map_set, -List.map_append, -List.drop_one] <;> omega) | fail) [-List.map_take, -List.map_drop, -List.map_set, -List.map_append, -List.drop_one, a51, h0, h1, h1', hG, T342_l, cCk_eq, liveRD, roomRD, hr, storeO_gr, hM, hN, E_mm2, mm2_max, hmx]
theorem roomR_sound : (Con.pure (cCkA LimC roomRD)).Sound P 51 := con_sound fun a h => sem_runs mix T342_sound Tryd.func51 a51_ok (runs_refroom a.1 a.2 h)
end Go.Proofs.YtjhakjeioppijaaDoor
set_option linter.unusedSimpArgs false
set_option linter.unusedVariables false
namespace Go.Proofs.YtjhakjeioppijaaDoor
open Go Go.Am
def deV (D : List Ins) : DV := if D = [] then .nils else .sl false 37 D.length (D.flatMap inC)
theorem deV_nil : deV [] = .nils := rfl
theorem deV_ne {D : List Ins} (h : D ≠ []) : deV D = .sl false 37 D.length (D.flatMap inC) := if_neg h
theorem deV_len (H : List AObj) (D : List Ins) : lenD H (deV D) = some (.int .i64 D.length) := by
  unfold deV; split
  · rename_i h; subst h; rfl
  · rfl
theorem deV_pure (D : List Ins) : pureD (deV D) = true := by
  unfold deV; split
  · rfl
  · show pureL _ = true; exact fm_pure pure_inC D
theorem deV_idx (H : List AObj) {D : List Ins} {i : Nat} (hi : i < D.length) : idxSD H 37 (deV D) i = some (.ref (inC D[i])) := by
  unfold deV; split
  · rename_i h; subst h; simp at hi
  · rw [idxSD_sl (by omega) (by omega), Int.toNat_natCast, fm_get len_inC hi]
theorem apart_deV {D : List Ins} {b : DV} : apartD (deV D) b = b.known := by
  unfold deV; split
  · exact apart_nils
  · exact apart_sl
theorem deV_hi {D : List Ins} {k : Nat} (h : k ≤ D.length) : ∃ v, (∀ H, slcSD H 37 (deV D) none (some (.int .i64 k)) none = some v) ∧ ∀ K, visY K v = some (k, (D.take k).flatMap inC) := by
  by_cases q : D = []
  · subst q
    have : k = 0 := by simpa using h
    subst this
    exact ⟨.nils, fun H => slcSD_nils (boundsD_h (by omega) (by omega)), fun K => rfl⟩
  · refine ⟨_, fun H => by rw [deV_ne q, slcSD_sl (boundsD_h (by omega) (by omega))], fun K => ?_⟩
    rw [visY_sl]
    simp only [Nat.zero_mul, List.drop_zero, Nat.sub_zero, Int.toNat_natCast, fm_take len_inC]
theorem deV_lo {D : List Ins} {k : Nat} (h : k ≤ D.length) : ∃ v, (∀ H, slcSD H 37 (deV D) (some (.int .i64 k)) none none = some v) ∧ ∀ K, visY K v = some (D.length - k, (D.drop k).flatMap inC) := by
  by_cases q : D = []
  · subst q
    have : k = 0 := by simpa using h
    subst this
    exact ⟨.nils, fun H => slcSD_nils (boundsD_l (by omega) (by omega)), fun K => rfl⟩
  · refine ⟨_, fun H => by rw [deV_ne q, slcSD_sl (boundsD_l (by omega) (by omega))], fun K => ?_⟩
    rw [visY_sl]
    simp only [Int.toNat_natCast, fm_drop len_inC]
    rw [List.take_of_length_le (by rw [fm_len len_inC, List.length_drop]; exact Nat.le_refl _)]
def inV (p : Nat) (D : List Ins) : DV := if D = [] then .nils else .ms p (D.length * 37) 0 37 D.length (D.length * 37)
def inH (pre : List AObj) (D : List Ins) : List AObj := if D = [] then pre else pre ++ [.cells (D.flatMap inC)]
theorem inV_ne {p : Nat} {D : List Ins} (h : D ≠ []) : inV p D = .ms p (D.length * 37) 0 37 D.length (D.length * 37) := if_neg h
theorem inH_ne {pre : List AObj} {D : List Ins} (h : D ≠ []) : inH pre D = pre ++ [.cells (D.flatMap inC)] := if_neg h
theorem all_in (D : List Ins) : (D.flatMap inC).all DV.one = true := by
  have h1 : ∀ x : Ins, (inC x).all DV.one = true := fun x => by
    have hd : (dgC x.art).all DV.one = true := by simp [dgC, DV.one, w8]
    simp only [inC, List.all_cons, List.all_append, hd, List.all_nil, Bool.and_true, DV.one]
  rw [List.all_flatMap, List.all_eq_true]
  exact fun x _ => h1 x
theorem appX_in {pre : List AObj} {L M : List Ins} (hb : L.length + M.length ≤ 1000000) : appX (inH pre L) 37 72 (inV pre.length L) M.length (M.flatMap inC) = some (inV pre.length (L ++ M), inH pre (L ++ M)) := by
  by_cases hL : L = []
  · subst hL
    rw [List.nil_append]
    by_cases hM : M = []
    · subst hM; exact appX_nils0 (by decide) (by decide)
    · show appX pre 37 72 .nils _ _ = _
      rw [appX_nils (by decide) (by decide) (by rw [fm_len len_inC]) (by cases M with | nil => exact absurd rfl hM | cons a l => simp) (by simp at hb; omega), inV_ne hM, inH_ne hM, fm_len len_inC]
  · have hne : L ++ M ≠ [] := by simp [hL]
    rw [inV_ne hL, inH_ne hL, inV_ne hne, inH_ne hne, appX_own rfl (by decide) (by decide) (by rw [fm_len len_inC]) (by omega) (all_in M), objV_last, if_pos (fm_len len_inC L), Option.map_some, set_pre0, List.flatMap_append, List.length_append, fm_len len_inC, Nat.add_mul]
    rfl
theorem inV_known {p : Nat} {D : List Ins} : (inV p D).known = true := by unfold inV; split <;> rfl
structure VS where
  i : Nat
  D : List Ins
  O : List Int
  z : Ins
theorem refDen_succ {l : List Ins} {k : Int} {i : Nat} (h : i < l.length) {x : Ins} (hx : l[i] = x) : refDen (l.take (i + 1)) k = if decide (x.grp = k) && (decide (x.state = 2) && decide (0 ≤ x.den)) then insR denLt x (refDen (l.take i) k) else refDen (l.take i) k := by
  subst hx
  rw [refDen, selL_take h]
  split
  · rw [sortR_snoc]; rfl
  · rw [List.append_nil]; rfl
theorem refOther_succ {g : Grp} {l : List Ins} {k : Int} {i : Nat} (h : i < l.length) {x : Ins} (hx : l[i] = x) : (refOther g (l.take (i + 1)) k).map Ins.id = (refOther g (l.take i) k).map Ins.id ++ (if decide (x.grp = k) && (decide (x.state = 2) && (decide (x.den < 0) && !decide (x.art ∈ g.ch.l))) then [x.id] else []) := by
  subst hx
  rw [refOther, selL_take h, List.map_append, refOther]
  congr 1
  split <;> rfl
def S350 (c : Clu) (k : Nat) (a : VS) : St := a53S0 (.int .i64 k) (.mp 0 3 0) (deV a.D) (srtV 2 a.O) .nils (.int .i64 a.i) (ovH c ⟨a.i, a.O, a.z⟩)
def S351 (c : Clu) (k : Nat) (a : VS) (H : List AObj) (p m : Nat) : St := a53S1 (.int .i64 k) (.mp 0 3 0) (deV a.D) (srtV 2 a.O) .nils (.int .i64 a.i) (.mp p 37 0) (.int .i64 m) H
end Go.Proofs.YtjhakjeioppijaaDoor
set_option linter.unusedSimpArgs false
set_option linter.unusedVariables false
namespace Go.Proofs.YtjhakjeioppijaaDoor
open Go Go.Am
theorem selL_congr' {l : List Ins} {k : Int} {p q : Ins → Bool} (h : ∀ x ∈ l, x.grp = k → p x = q x) : selL l k p = selL l k q := by
  unfold selL
  refine List.filter_congr fun x hx => ?_
  by_cases e : x.grp = k
  · rw [h x hx e]
  · simp [e]
def vicR (c : Clu) (k : Int) : List Int := match grAt c k with
  | some g => (refVic g c.i.l k).map Ins.id
  | none => []
def PureH (H : List AObj) : Prop := ∀ o ∈ H, ∃ cs, o = .cells cs ∧ pureL cs = true
theorem PureH.app {A B : List AObj} (h1 : PureH A) (h2 : PureH B) : PureH (A ++ B) := fun o ho => (List.mem_append.1 ho).elim (h1 o) (h2 o)
theorem PureH.one {cs : List DV} (h : pureL cs = true) : PureH [.cells cs] := fun o ho => ⟨cs, by simpa using ho, h⟩
theorem PureH.srt {A : List AObj} {L : List Int} (h : PureH A) : PureH (srtH A L) := by
  unfold srtH; split
  · exact h
  · exact h.app (.one pureL_i64)
theorem PureH.ov {c : Clu} {a : OS} : PureH (ovH c a) := by
  unfold ovH; split
  · exact .one (pure_clC c)
  · exact (PureH.one (pure_clC c)).app ((PureH.one (pure_inC _)).app (.one pureL_i64))
theorem fzH_pure {n : Nat} {K : List AObj} : ∀ {H X : List AObj}, PureH H → fzH n K (H ++ X) H
  | [], X, _ => by cases X <;> trivial
  | o :: H, X, h => by
    obtain ⟨cs, rfl, hp⟩ := h o (by simp)
    exact ⟨fzL_clean hp, fzH_pure fun o ho => h o (by simp [ho])⟩
theorem belowH_pure {n : Nat} : ∀ {H : List AObj}, PureH H → belowH n H = true
  | [], _ => rfl
  | o :: H, h => by
    obtain ⟨cs, rfl, hp⟩ := h o (by simp)
    have ih := belowH_pure (n := n) (H := H) fun o ho => h o (by simp [ho])
    simp only [belowH, belowL_pure n _ hp, ih, Bool.and_self]
theorem ovH_form {c : Clu} {a : OS} : ∃ X, ovH c a = [.cells (clC c)] ++ X := by
  unfold ovH; split
  · exact ⟨[], rfl⟩
  · exact ⟨_, rfl⟩
theorem appX_srtx {pre : List AObj} {L : List Int} {y : Int} {o : AObj} (hL : L ≠ []) (hb : L.length < 4294967296) : appX (srtH pre L ++ [o]) 1 8 (srtV pre.length L) 1 [.int .i64 y] = some (srtV pre.length (L ++ [y]), srtH pre (L ++ [y]) ++ [o]) := by
  have hne : L ++ [y] ≠ [] := by simp
  have ho : objV (pre ++ [.cells (L.map (.int .i64))] ++ [o]) pre.length L.length = some (L.map (.int .i64)) := by
    rw [List.append_assoc, objV_pre0]; simp [objV_zero]
  rw [srtV_ne hL, srtH_ne hL, srtV_ne hne, srtH_ne hne, appX_own (by omega) (by decide) (by decide) (by simp) (by omega) (by simp [DV.one]), ho, Option.map_some, List.append_assoc, set_pre0, List.map_append, List.length_append, List.append_assoc]
  rfl
theorem len_srtH' {pre : List AObj} {L : List Int} (hL : L ≠ []) : (srtH pre L).length = pre.length + 1 := by rw [srtH_ne hL]; simp
structure InsF (H : List AObj) (x : Ins) (D : List Ins) (q : Nat) (v1 v2 : DV) : Prop where
  s1 : ∀ K, slcSD K 37 (deV D) none (some (.int .i64 q)) none = some v1
  y1 : ∀ K, visY K v1 = some (q, (D.take q).flatMap inC)
  s2 : ∀ K, slcSD K 37 (deV D) (some (.int .i64 q)) none none = some v2
  y2 : ∀ K, visY K v2 = some (D.length - q, (D.drop q).flatMap inC)
  a1 : appX (H ++ [.cells (inC x)]) 37 72 .nils q ((D.take q).flatMap inC) = some (inV (H.length + 1) (D.take q), inH (H ++ [.cells (inC x)]) (D.take q))
  ox : objV (inH (H ++ [.cells (inC x)]) (D.take q)) H.length 37 = some (inC x)
  a2 : appX (inH (H ++ [.cells (inC x)]) (D.take q)) 37 72 (inV (H.length + 1) (D.take q)) 1 (inC x) = some (inV (H.length + 1) (D.take q ++ [x]), inH (H ++ [.cells (inC x)]) (D.take q ++ [x]))
  a3 : appX (inH (H ++ [.cells (inC x)]) (D.take q ++ [x])) 37 72 (inV (H.length + 1) (D.take q ++ [x])) (D.length - q) ((D.drop q).flatMap inC) = some (inV (H.length + 1) (D.take q ++ x :: D.drop q), inH (H ++ [.cells (inC x)]) (D.take q ++ x :: D.drop q))
  p1 : apartD (.mp H.length 37 0) (inV (H.length + 1) (D.take q)) = true
theorem insF {H : List AObj} {x : Ins} {D : List Ins} {q : Nat} (hq : q ≤ D.length) (hb : D.length ≤ 1000) : ∃ v1 v2, InsF H x D q v1 v2 := by
  obtain ⟨v1, hv1, hy1⟩ := deV_hi (D := D) hq
  obtain ⟨v2, hv2, hy2⟩ := deV_lo (D := D) hq
  have hl : (H ++ [AObj.cells (inC x)]).length = H.length + 1 := by simp
  have htl : (D.take q).length = q := by simp; omega
  refine ⟨v1, v2, hv1, hy1, hv2, hy2, ?_, ?_, ?_, ?_, ?_⟩
  · have := appX_in (pre := H ++ [.cells (inC x)]) (L := []) (M := D.take q) (by simp; omega)
    rw [hl, htl, List.nil_append] at this
    exact this
  · unfold inH; split
    · rw [objV_pre0, objV_zero, if_pos (len_inC x)]
    · rw [List.append_assoc, objV_pre0]
      show objV (.cells (inC x) :: _) 0 37 = _
      rw [objV_zero, if_pos (len_inC x)]
  · have := appX_in (pre := H ++ [.cells (inC x)]) (L := D.take q) (M := [x]) (by simp; omega)
    rw [hl] at this
    simpa using this
  · have := appX_in (pre := H ++ [.cells (inC x)]) (L := D.take q ++ [x]) (M := D.drop q) (by simp; omega)
    rw [hl] at this
    simpa using this
  · unfold inV; split
    · rfl
    · simp [apart_ms, DV.known]
theorem fz_inV {H : List AObj} {x : Ins} {D : List Ins} (hD : D ≠ []) : fz H.length (inH (H ++ [.cells (inC x)]) D) 3 (inV (H.length + 1) D) = some (deV D) := by
  have ho : objV (H ++ [.cells (inC x)] ++ [.cells (D.flatMap inC)]) (H.length + 1) (D.length * 37) = some (D.flatMap inC) := by
    have := objV_last (r := H ++ [.cells (inC x)]) (l := D.flatMap inC) (ver := D.length * 37)
    simp only [List.length_append, List.length_cons, List.length_nil, Nat.zero_add] at this
    rw [this, if_pos (fm_len len_inC D)]
  rw [inV_ne hD, inH_ne hD, fz_ms (by omega), ho, Option.bind_some, List.drop_zero, List.take_of_length_le (by rw [fm_len len_inC]; exact Nat.le_refl _), fzLo_clean (fm_pure pure_inC D), deV_ne hD]
  rfl
noncomputable def T350 : Tbl := addT 99 (.pure (cCx choR)) (addT 58 (.pure (cCx isGoodR)) (addT 49 (.pure (cCk goodRD)) tbl0))
theorem T350_c : T350 99 = .pure (cCx choR) := by simp [T350]
theorem T350_i : T350 58 = .pure (cCx isGoodR) := by simp [T350]
theorem T350_g : T350 49 = .pure (cCk goodRD) := by simp [T350]
theorem T350_sound : T350.Sound P := addT_sound choR_sound (addT_sound isgood_sound (addT_sound goodR_sound tbl0_sound))
def S352 (c : Clu) (k : Nat) (D : List Ins) (O : List Int) (H : List AObj) (i : Nat) : St := a53S2 (.int .i64 k) (.mp 0 3 0) (deV D) (srtV 2 O) (srtV H.length ((D.take i).map Ins.id)) (.int .i64 i) (srtH H ((D.take i).map Ins.id))
structure VR where
  m : Nat
  pre : List AObj
  L : List Int
  M : Int
def S353 (k : Nat) (a : VR) : St := a53S3 (.int .i64 k) (.mp 0 3 0) (srtV a.pre.length a.L) (.int .i64 a.M) (.int .i64 ((a.m : Int) - 1)) (srtH a.pre a.L)
structure VRI (c : Clu) (g : Grp) (k : Nat) (base : List Int) (M0 : Int) (a : VR) : Prop where
  m : a.m ≤ c.i.l.length
  f : ∃ X, a.pre = [.cells (clC c)] ++ X
  p : PureH a.pre
  l : a.L = base ++ (refSpare g (c.i.l.drop a.m) k).reverse.map Ins.id
  M : a.M = M0 - (refSpare g (c.i.l.drop a.m) k).length
  n : (refSpare g (c.i.l.drop a.m) k).length ≤ M0.toNat
theorem choR_at {c : Clu} {x : Ins} {k : Int} {g : Grp} (hg : grAt c k = some g) (hx : x.grp = k) : choR c x = decide (x.art ∈ g.ch.l) := by simp only [choR, hx, hg]
theorem spare_drop {g : Grp} {l : List Ins} {k : Int} {m : Nat} (h : m < l.length) {x : Ins} (hx : l[m] = x) : refSpare g (l.drop m) k = (if decide (x.grp = k) && (decide (x.state = 2) && sGoodR g x) then [x] else []) ++ refSpare g (l.drop (m + 1)) k := by
  subst hx
  rw [List.drop_eq_getElem_cons h, refSpare, selL, List.filter_cons]
  split <;> rfl
set_option maxRecDepth 20000 in
set_option maxHeartbeats 4000000 in
theorem runs_refvictims (c : Clu) (k : Int) (hv : VicOK c) : Runs T350 a53 [.agg (clC c), .int .i64 k] (liV (vicR c k)) := by
  refine ⟨?_⟩
  by_cases h0 : k < 0
  · have hr : vicR c k = [] := by rw [vicR, grAt_neg h0]
    simp (disch := first | omega | (simp [-List.map_take, -List.map_drop, -List.map_set, -List.map_append, -List.drop_one] <;> omega) | fail) [-List.map_take, -List.map_drop, -List.map_set, -List.map_append, -List.drop_one, a53, h0, hr, liV_nil]
  obtain ⟨K, rfl⟩ : ∃ K : Nat, k = K := ⟨k.toNat, by omega⟩
  by_cases h1 : c.g.l.length ≤ K
  · have hr : vicR c K = [] := by rw [vicR, grAt_big h1]
    have h1' : (c.g.l.length : Int) ≤ K := by omega
    simp (disch := first | omega | (simp [-List.map_take, -List.map_drop, -List.map_set, -List.map_append, -List.drop_one] <;> omega) | fail) [-List.map_take, -List.map_drop, -List.map_set, -List.map_append, -List.drop_one, a53, h0, h1, h1', hr, liV_nil]
  have h2 : K < c.g.l.length := by omega
  have h1' : ¬ (c.g.l.length : Int) ≤ K := by omega
  have hG := fun h => idxSD_dv (x := c.g) (h := h) len_grC h2
  have hlim := hv.l _ (List.getElem_mem h2)
  have hgk := grAt_in h2
  have hr : vicR c K = (refVic c.g.l[K] c.i.l K).map Ins.id := by rw [vicR, hgk]
  obtain ⟨g, hGe⟩ : ∃ g, c.g.l[K] = g := ⟨_, rfl⟩
  rw [hGe] at hG hlim hr hgk
  obtain ⟨⟨w1, w2⟩, -, -⟩ := hlim
  have hn19 := hv.n
  obtain ⟨n, hn⟩ : ∃ n, c.i.l.length = n := ⟨_, rfl⟩
  rw [hn] at hn19
  simp (disch := first | omega | (simp [-List.map_take, -List.map_drop, -List.map_set, -List.map_append, -List.drop_one] <;> omega) | fail) [-List.map_take, -List.map_drop, -List.map_set, -List.map_append, -List.drop_one, a53, h0, h1, h1']
  refine W_loop (S350 c K) (fun a => n - a.i) (fun a => a.i ≤ n ∧ a.D = refDen (c.i.l.take a.i) K ∧ a.O = (refOther g (c.i.l.take a.i) K).map Ins.id) ⟨0, [], [], ⟨0, 0, dg0, 0, 0, 0⟩⟩ (weak_same (by simp (disch := first | omega | (simp [-List.map_take, -List.map_drop, -List.map_set, -List.map_append, -List.drop_one] <;> omega) | fail) [-List.map_take, -List.map_drop, -List.map_set, -List.map_append, -List.drop_one, S350, a53S0, deV_nil, srtV_nil]) (by simp (disch := first | omega | (simp [-List.map_take, -List.map_drop, -List.map_set, -List.map_append, -List.drop_one] <;> omega) | fail) [-List.map_take, -List.map_drop, -List.map_set, -List.map_append, -List.drop_one, S350, a53S0, ovH_nil])) ⟨by simp, by simp [refDen, selL, sortR], by simp [refOther, selL]⟩ (fun a ha => ?_)
  obtain ⟨i, D, O, z⟩ := a
  obtain ⟨r1, r2, r3⟩ := ha
  simp only at r1 r2 r3
  have hDl : D.length ≤ i := by rw [r2, refDen, (sortR_perm _).length_eq]; exact Nat.le_trans (List.length_filter_le _ _) (by simp; omega)
  have hOl : O.length ≤ i := by rw [r3, List.length_map]; exact Nat.le_trans (List.length_filter_le _ _) (by simp; omega)
  obtain ⟨H, hH⟩ : ∃ H, ovH c ⟨i, O, z⟩ = H := ⟨_, rfl⟩
  have hHi : ∀ j, ovH c ⟨j, O, z⟩ = H := fun j => hH
  have hHf : ∃ X, H = [.cells (clC c)] ++ X := hH ▸ ovH_form
  have hHp : PureH H := hH ▸ PureH.ov
  have ho := fun X => obj0_form hHf X
  have ho' := ho []
  rw [List.append_nil] at ho'
  have hHl : 0 < H.length := by obtain ⟨X, rfl⟩ := hHf; simp
  simp (disch := first | omega | (simp [-List.map_take, -List.map_drop, -List.map_set, -List.map_append, -List.drop_one] <;> omega) | fail) [-List.map_take, -List.map_drop, -List.map_set, -List.map_append, -List.drop_one, a53L0, a53S0, S350, hH, ho', hn]
  by_cases h : i < n
  · have h' : (i : Int) < n := by omega
    have hi2 : i < c.i.l.length := by omega
    have hxi := fun H => idxSD_dv (x := c.i) (h := H) len_inC hi2
    obtain ⟨x, hxe⟩ : ∃ x, c.i.l[i] = x := ⟨_, rfl⟩
    have hds := refDen_succ (k := K) hi2 hxe
    have hos := refOther_succ (g := g) (k := K) hi2 hxe
    rw [← r2] at hds
    rw [← r3] at hos
    simp only [hxe] at hxi
    have hb1 : ∀ n D, Am.below n (deV D) = true := fun n D => below_pure n _ (deV_pure D)
    have hb2 : Am.below H.length (srtV 2 O) = true := by
      by_cases q : O = []
      · subst q; rfl
      · rw [srtV_ne q, ← hH, ovH_ne q]; rfl
    have hb3 : belowH H.length H = true := belowH_pure hHp
    by_cases e1 : x.grp = K
    case neg =>
      have hds' : refDen (c.i.l.take (i + 1)) K = D := by rw [hds]; simp [e1]
      have hos' : (refOther g (c.i.l.take (i + 1)) K).map Ins.id = O := by rw [hos]; simp [e1]
      simp (disch := first | omega | (simp [-List.map_take, -List.map_drop, -List.map_set, -List.map_append, -List.drop_one] <;> omega) | fail) [-List.map_take, -List.map_drop, -List.map_set, -List.map_append, -List.drop_one, h, h', hxi, e1, set_pre0, ho', ho]
      exact ⟨⟨i + 1, D, O, z⟩, weak_drop (tail := [.cells (inC x)]) (by simp (disch := first | omega | (simp [-List.map_take, -List.map_drop, -List.map_set, -List.map_append, -List.drop_one] <;> omega) | fail) [-List.map_take, -List.map_drop, -List.map_set, -List.map_append, -List.drop_one, S350, a53S0]) (by simp (disch := first | omega | (simp [-List.map_take, -List.map_drop, -List.map_set, -List.map_append, -List.drop_one] <;> omega) | fail) [-List.map_take, -List.map_drop, -List.map_set, -List.map_append, -List.drop_one, S350, a53S0, hHi]) (Nat.zero_le _) (by simp (disch := first | omega | (simp [-List.map_take, -List.map_drop, -List.map_set, -List.map_append, -List.drop_one] <;> omega) | fail) [-List.map_take, -List.map_drop, -List.map_set, -List.map_append, -List.drop_one, S350, a53S0, hHi, belowL, Am.below, hb1, hb2, hHl]) (by simp (disch := first | omega | (simp [-List.map_take, -List.map_drop, -List.map_set, -List.map_append, -List.drop_one] <;> omega) | fail) [-List.map_take, -List.map_drop, -List.map_set, -List.map_append, -List.drop_one, S350, a53S0, hHi, hb3]), by simp only; omega, by simp only; omega, by simp only; rw [hds'], by simp only; rw [hos']⟩
    by_cases e2 : x.state = 2
    case neg =>
      have hds' : refDen (c.i.l.take (i + 1)) K = D := by rw [hds]; simp [e2]
      have hos' : (refOther g (c.i.l.take (i + 1)) K).map Ins.id = O := by rw [hos]; simp [e2]
      simp (disch := first | omega | (simp [-List.map_take, -List.map_drop, -List.map_set, -List.map_append, -List.drop_one] <;> omega) | fail) [-List.map_take, -List.map_drop, -List.map_set, -List.map_append, -List.drop_one, h, h', hxi, e1, e2, set_pre0, ho', ho]
      exact ⟨⟨i + 1, D, O, z⟩, weak_drop (tail := [.cells (inC x)]) (by simp (disch := first | omega | (simp [-List.map_take, -List.map_drop, -List.map_set, -List.map_append, -List.drop_one] <;> omega) | fail) [-List.map_take, -List.map_drop, -List.map_set, -List.map_append, -List.drop_one, S350, a53S0]) (by simp (disch := first | omega | (simp [-List.map_take, -List.map_drop, -List.map_set, -List.map_append, -List.drop_one] <;> omega) | fail) [-List.map_take, -List.map_drop, -List.map_set, -List.map_append, -List.drop_one, S350, a53S0, hHi]) (Nat.zero_le _) (by simp (disch := first | omega | (simp [-List.map_take, -List.map_drop, -List.map_set, -List.map_append, -List.drop_one] <;> omega) | fail) [-List.map_take, -List.map_drop, -List.map_set, -List.map_append, -List.drop_one, S350, a53S0, hHi, belowL, Am.below, hb1, hb2, hHl]) (by simp (disch := first | omega | (simp [-List.map_take, -List.map_drop, -List.map_set, -List.map_append, -List.drop_one] <;> omega) | fail) [-List.map_take, -List.map_drop, -List.map_set, -List.map_append, -List.drop_one, S350, a53S0, hHi, hb3]), by simp only; omega, by simp only; omega, by simp only; rw [hds'], by simp only; rw [hos']⟩
    by_cases e3 : 0 ≤ x.den
    case neg =>
      have e3' : x.den < 0 := by omega
      have hds' : refDen (c.i.l.take (i + 1)) K = D := by rw [hds]; simp [e3]
      have hch := choR_at hgk e1
      by_cases e4 : x.art ∈ g.ch.l
      · have hos' : (refOther g (c.i.l.take (i + 1)) K).map Ins.id = O := by rw [hos]; simp [e4]
        have hch' : choR c x = true := by rw [hch]; simpa using e4
        simp (disch := first | omega | (simp [-List.map_take, -List.map_drop, -List.map_set, -List.map_append, -List.drop_one] <;> omega) | fail) [-List.map_take, -List.map_drop, -List.map_set, -List.map_append, -List.drop_one, h, h', hxi, e1, e2, e3, set_pre0, ho', ho, T350_c, cCx_eq, hch']
        exact ⟨⟨i + 1, D, O, z⟩, weak_drop (tail := [.cells (inC x)]) (by simp (disch := first | omega | (simp [-List.map_take, -List.map_drop, -List.map_set, -List.map_append, -List.drop_one] <;> omega) | fail) [-List.map_take, -List.map_drop, -List.map_set, -List.map_append, -List.drop_one, S350, a53S0]) (by simp (disch := first | omega | (simp [-List.map_take, -List.map_drop, -List.map_set, -List.map_append, -List.drop_one] <;> omega) | fail) [-List.map_take, -List.map_drop, -List.map_set, -List.map_append, -List.drop_one, S350, a53S0, hHi]) (Nat.zero_le _) (by simp (disch := first | omega | (simp [-List.map_take, -List.map_drop, -List.map_set, -List.map_append, -List.drop_one] <;> omega) | fail) [-List.map_take, -List.map_drop, -List.map_set, -List.map_append, -List.drop_one, S350, a53S0, hHi, belowL, Am.below, hb1, hb2, hHl]) (by simp (disch := first | omega | (simp [-List.map_take, -List.map_drop, -List.map_set, -List.map_append, -List.drop_one] <;> omega) | fail) [-List.map_take, -List.map_drop, -List.map_set, -List.map_append, -List.drop_one, S350, a53S0, hHi, hb3]), by simp only; omega, by simp only; omega, by simp only; rw [hds'], by simp only; rw [hos']⟩
      · have hos' : (refOther g (c.i.l.take (i + 1)) K).map Ins.id = O ++ [x.id] := by rw [hos]; simp [e1, e2, e3', e4]
        have hch' : choR c x = false := by rw [hch]; simpa using e4
        by_cases q : O = []
        · subst q
          rw [← hH, ovH_nil]
          simp (disch := first | omega | (simp [-List.map_take, -List.map_drop, -List.map_set, -List.map_append, -List.drop_one] <;> omega) | fail) [-List.map_take, -List.map_drop, -List.map_set, -List.map_append, -List.drop_one, h, h', hxi, e1, e2, e3, set_pre0, T350_c, cCx_eq, hch', srtV_nil]
          exact ⟨⟨i + 1, D, [x.id], x⟩, weak_same (by simp (disch := first | omega | (simp [-List.map_take, -List.map_drop, -List.map_set, -List.map_append, -List.drop_one] <;> omega) | fail) [-List.map_take, -List.map_drop, -List.map_set, -List.map_append, -List.drop_one, S350, a53S0, srtV]) (by simp (disch := first | omega | (simp [-List.map_take, -List.map_drop, -List.map_set, -List.map_append, -List.drop_one] <;> omega) | fail) [-List.map_take, -List.map_drop, -List.map_set, -List.map_append, -List.drop_one, S350, a53S0, ovH]), by simp only; omega, by simp only; omega, by simp only; rw [hds'], by simp only; rw [hos']; rfl⟩
        · have hV := srtV_ne (p := 2) q
          have hLp : 0 < O.length := by cases O with | nil => exact absurd rfl q | cons a l => simp
          have hap := fun H o z c y => appX_li (h := H) (l := O) (o := o) (x := z) (c := c) (y := y) hLp (by omega)
          rw [← hH, ovH_ne q]
          simp (disch := first | omega | (simp [-List.map_take, -List.map_drop, -List.map_set, -List.map_append, -List.drop_one] <;> omega) | fail) [-List.map_take, -List.map_drop, -List.map_set, -List.map_append, -List.drop_one, h, h', hxi, e1, e2, e3, set_pre0, T350_c, cCx_eq, hch', hV, hap]
          have hO : ovH c ⟨i + 1, O ++ [x.id], z⟩ = [.cells (clC c), .cells (inC z), .cells ((O ++ [x.id]).map (.int .i64))] := ovH_ne (by simp)
          have hV2 : srtV 2 (O ++ [x.id]) = .ms 2 (O.length + 1) 0 1 (O.length + 1) (O.length + 1) := by rw [srtV_ne (by simp), List.length_append]; rfl
          exact ⟨⟨i + 1, D, O ++ [x.id], z⟩, weak_drop (tail := [.cells (inC x)]) (by simp (disch := first | omega | (simp [-List.map_take, -List.map_drop, -List.map_set, -List.map_append, -List.drop_one] <;> omega) | fail) [-List.map_take, -List.map_drop, -List.map_set, -List.map_append, -List.drop_one, S350, a53S0, hV2]) (by simp (disch := first | omega | (simp [-List.map_take, -List.map_drop, -List.map_set, -List.map_append, -List.drop_one] <;> omega) | fail) [-List.map_take, -List.map_drop, -List.map_set, -List.map_append, -List.drop_one, S350, a53S0, hO]) (Nat.zero_le _) (by simp (disch := first | omega | (simp [-List.map_take, -List.map_drop, -List.map_set, -List.map_append, -List.drop_one] <;> omega) | fail) [-List.map_take, -List.map_drop, -List.map_set, -List.map_append, -List.drop_one, S350, a53S0, hO, hV2, belowL, Am.below, hb1]) (by simp (disch := first | omega | (simp [-List.map_take, -List.map_drop, -List.map_set, -List.map_append, -List.drop_one] <;> omega) | fail) [-List.map_take, -List.map_drop, -List.map_set, -List.map_append, -List.drop_one, S350, a53S0, hO, belowH, belowL_map64]), by simp only; omega, by simp only; omega, by simp only; rw [hds'], by simp only; rw [hos']⟩
    have hds' : refDen (c.i.l.take (i + 1)) K = insR denLt x D := by rw [hds]; simp [e1, e2, e3]
    have hos' : (refOther g (c.i.l.take (i + 1)) K).map Ins.id = O := by
      have : ¬ x.den < 0 := by omega
      rw [hos]; simp [this]
    have hdl := fun K => deV_len K D
    have hz1 := fun D (h : D ≠ []) => fz_inV (H := H) (x := x) (D := D) h
    have hz2 : ∀ X, fz H.length X 3 (srtV 2 O) = some (srtV 2 O) := fun X => by
      by_cases q : O = []
      · subst q; rfl
      · rw [srtV_ne q]; exact fz_ms_lt (by rw [← hH, ovH_ne q]; simp)
    have hz4 : ∀ (N K : _) (D' : List Ins), D' ≠ [] → fzH N K (inH (H ++ [.cells (inC x)]) D') H := fun N K D' h => by
      rw [inH_ne h, List.append_assoc]; exact fzH_pure hHp
    have hz3 : ∀ X, fz H.length X 3 (.mp 0 3 0) = some (.mp 0 3 0) := fun X => fz_mp_lt hHl
    simp (disch := first | omega | (simp [-List.map_take, -List.map_drop, -List.map_set, -List.map_append, -List.drop_one] <;> omega) | fail) [-List.map_take, -List.map_drop, -List.map_set, -List.map_append, -List.drop_one, h, h', hxi, e1, e2, e3, set_pre0, ho', ho, hdl]
    refine W_loop (fun m => S351 c K ⟨i, D, O, z⟩ (H ++ [.cells (inC x)]) H.length m) (fun m => m) (fun m => m ≤ D.length ∧ ∀ j (hj : j < D.length), m ≤ j → x.den < D[j].den) D.length (weak_same (by simp (disch := first | omega | (simp [-List.map_take, -List.map_drop, -List.map_set, -List.map_append, -List.drop_one] <;> omega) | fail) [-List.map_take, -List.map_drop, -List.map_set, -List.map_append, -List.drop_one, S351, a53S1]) (by simp (disch := first | omega | (simp [-List.map_take, -List.map_drop, -List.map_set, -List.map_append, -List.drop_one] <;> omega) | fail) [-List.map_take, -List.map_drop, -List.map_set, -List.map_append, -List.drop_one, S351, a53S1])) ⟨Nat.le_refl _, fun j hj hm => by omega⟩ (fun m hm => ?_)
    obtain ⟨hm1, hm2⟩ := hm
    simp (disch := first | omega | (simp [-List.map_take, -List.map_drop, -List.map_set, -List.map_append, -List.drop_one] <;> omega) | fail) [-List.map_take, -List.map_drop, -List.map_set, -List.map_append, -List.drop_one, a53L1, a53S1, S351]
    rcases m with _ | m
    · have hins : insR denLt x D = x :: D := by
        have := insR_at (lt := denLt) (x := x) (A := []) (B := D) (fun b hb => by
          obtain ⟨j, hj, rfl⟩ := List.getElem_of_mem hb
          simpa [denLt] using hm2 j hj (Nat.zero_le _)) (.inl rfl)
        simpa using this
      obtain ⟨v1, v2, hI⟩ := insF (H := H) (x := x) (D := D) (q := 0) (by omega) (by omega)
      have i1 := hI.s1
      have i2 := hI.s2
      have i3 := hI.a1
      have i4 := hI.a2
      have i5 := hI.a3
      have i6 := hI.ox
      have i7 := hI.p1
      have i8 := hI.y1
      have i9 := hI.y2
      simp only [List.take_zero, List.drop_zero, List.nil_append, Nat.sub_zero, Int.natCast_zero, List.flatMap_nil] at i1 i2 i3 i4 i5 i6 i7 i8 i9
      simp (disch := first | omega | (simp [-List.map_take, -List.map_drop, -List.map_set, -List.map_append, -List.drop_one] <;> omega) | fail) [-List.map_take, -List.map_drop, -List.map_set, -List.map_append, -List.drop_one, i1, i2, i3, i4, i5, i6, i7, i8, i9, bsl_i, apart_deV, inV_known, hb1]
      refine ⟨⟨i + 1, insR denLt x D, O, z⟩, ?_, by simp only; omega, by simp only; omega, by simp only; rw [hds'], by simp only; rw [hos']⟩
      rw [S350, hHi, hins]
      exact weak_freeze (Nat.zero_le _) (by rw [inH_ne (by simp)]; simp) (by repeat' (first | exact Or.inl rfl | exact Or.inr (hz1 _ (by simp)) | exact Or.inr (hz2 _) | exact Or.inr (hz3 _) | exact Or.inr rfl | exact trivial | refine And.intro ?_ ?_)) (hz4 _ _ _ (by simp))
    · have hmi := fun K => deV_idx K (D := D) (i := m) (by omega)
      have hm3 : (0 : Int) < (m : Int) + 1 := by omega
      by_cases e5 : x.den < D[m].den
      · simp (disch := first | omega | (simp [-List.map_take, -List.map_drop, -List.map_set, -List.map_append, -List.drop_one] <;> omega) | fail) [-List.map_take, -List.map_drop, -List.map_set, -List.map_append, -List.drop_one, hm3, hmi, e5]
        exact ⟨m, weak_same (by simp (disch := first | omega | (simp [-List.map_take, -List.map_drop, -List.map_set, -List.map_append, -List.drop_one] <;> omega) | fail) [-List.map_take, -List.map_drop, -List.map_set, -List.map_append, -List.drop_one, S351, a53S1]) (by simp (disch := first | omega | (simp [-List.map_take, -List.map_drop, -List.map_set, -List.map_append, -List.drop_one] <;> omega) | fail) [-List.map_take, -List.map_drop, -List.map_set, -List.map_append, -List.drop_one, S351, a53S1]), by omega, by omega, fun j hj hmj => by
          by_cases q : j = m
          · subst q; exact e5
          · exact hm2 j hj (by omega)⟩
      · have hins : insR denLt x D = D.take (m + 1) ++ x :: D.drop (m + 1) := by
          have := insR_at (lt := denLt) (x := x) (A := D.take (m + 1)) (B := D.drop (m + 1)) (fun b hb => by
            obtain ⟨j, hj, rfl⟩ := List.getElem_of_mem hb
            simp only [List.length_drop] at hj
            simp only [List.getElem_drop, denLt, decide_eq_true_eq]
            exact hm2 _ (by omega) (by omega)) (.inr ⟨D.take m, D[m], List.take_succ_eq_append_getElem (by omega), by simpa [denLt] using e5⟩)
          rwa [List.take_append_drop] at this
        obtain ⟨v1, v2, hI⟩ := insF (H := H) (x := x) (D := D) (q := m + 1) (by omega) (by omega)
        have i1 := hI.s1
        have i2 := hI.s2
        have i3 := hI.a1
        have i4 := hI.a2
        have i5 := hI.a3
        have i6 := hI.ox
        have i7 := hI.p1
        have i8 := hI.y1
        have i9 := hI.y2
        simp only [Int.natCast_add, Int.natCast_one] at i1 i2
        simp (disch := first | omega | (simp [-List.map_take, -List.map_drop, -List.map_set, -List.map_append, -List.drop_one] <;> omega) | fail) [-List.map_take, -List.map_drop, -List.map_set, -List.map_append, -List.drop_one, hm3, hmi, e5, i1, i2, i3, i4, i5, i6, i7, i8, i9, bsl_i, apart_deV, inV_known, hb1]
        refine ⟨⟨i + 1, insR denLt x D, O, z⟩, ?_, by simp only; omega, by simp only; omega, by simp only; rw [hds'], by simp only; rw [hos']⟩
        rw [S350, hHi, hins]
        exact weak_freeze (Nat.zero_le _) (by rw [inH_ne (by simp)]; simp) (by repeat' (first | exact Or.inl rfl | exact Or.inr (hz1 _ (by simp)) | exact Or.inr (hz2 _) | exact Or.inr (hz3 _) | exact Or.inr rfl | exact trivial | refine And.intro ?_ ?_)) (hz4 _ _ _ (by simp))
  · have h' : ¬ (i : Int) < n := by omega
    have eD : D = refDen c.i.l K := by rw [r2, List.take_of_length_le (by omega)]
    have eO : O = (refOther g c.i.l K).map Ins.id := by rw [r3, List.take_of_length_le (by omega)]
    simp (disch := first | omega | (simp [-List.map_take, -List.map_drop, -List.map_set, -List.map_append, -List.drop_one] <;> omega) | fail) [-List.map_take, -List.map_drop, -List.map_set, -List.map_append, -List.drop_one, h, h']
    have hDn : D.length ≤ 19 := by omega
    have hOn : O.length ≤ 19 := by omega
    have hoS : ∀ L, objV (srtH H L) 0 3 = some (clC c) := fun L => by
      have := obj0_form (form_trans hHf (srtH_form H L)) []
      rwa [List.append_nil] at this
    refine W_loop (S352 c K D O H) (fun i => D.length - i) (fun i => i ≤ D.length) 0 (weak_same (by simp (disch := first | omega | (simp [-List.map_take, -List.map_drop, -List.map_set, -List.map_append, -List.drop_one] <;> omega) | fail) [-List.map_take, -List.map_drop, -List.map_set, -List.map_append, -List.drop_one, S352, a53S2, srtV]) (by simp (disch := first | omega | (simp [-List.map_take, -List.map_drop, -List.map_set, -List.map_append, -List.drop_one] <;> omega) | fail) [-List.map_take, -List.map_drop, -List.map_set, -List.map_append, -List.drop_one, S352, a53S2, srtH])) (by omega) (fun i hi => ?_)
    have hll : ((D.take i).map Ins.id).length ≤ 19 := by simp; omega
    obtain ⟨L, hL⟩ : ∃ L, (D.take i).map Ins.id = L := ⟨_, rfl⟩
    rw [hL] at hll
    have hdl := fun K => deV_len K D
    simp (disch := first | omega | (simp [-List.map_take, -List.map_drop, -List.map_set, -List.map_append, -List.drop_one] <;> omega) | fail) [-List.map_take, -List.map_drop, -List.map_set, -List.map_append, -List.drop_one, a53L2, a53S2, S352, hL, hdl]
    by_cases g1 : i < D.length
    · have g1' : (i : Int) < D.length := by omega
      have hdi := fun K => deV_idx K g1
      have hs : (D.take (i + 1)).map Ins.id = L ++ [D[i].id] := by rw [List.take_succ_eq_append_getElem g1, List.map_append, hL]; rfl
      have ha := fun y => appX_srt1 (pre := H) (L := L) (y := y) (by omega)
      simp (disch := first | omega | (simp [-List.map_take, -List.map_drop, -List.map_set, -List.map_append, -List.drop_one] <;> omega) | fail) [-List.map_take, -List.map_drop, -List.map_set, -List.map_append, -List.drop_one, g1, g1', hdi, ha]
      exact ⟨i + 1, weak_same (by simp (disch := first | omega | (simp [-List.map_take, -List.map_drop, -List.map_set, -List.map_append, -List.drop_one] <;> omega) | fail) [-List.map_take, -List.map_drop, -List.map_set, -List.map_append, -List.drop_one, S352, a53S2, hs]) (by simp (disch := first | omega | (simp [-List.map_take, -List.map_drop, -List.map_set, -List.map_append, -List.drop_one] <;> omega) | fail) [-List.map_take, -List.map_drop, -List.map_set, -List.map_append, -List.drop_one, S352, a53S2, hs]), by omega, by omega⟩
    · have g1' : ¬ (i : Int) < D.length := by omega
      have hLe : L = D.map Ins.id := by rw [← hL, List.take_of_length_le (by omega)]
      have hvo : ∀ K, (∃ X, K = H ++ X) → visY K (srtV 2 O) = some (O.length, O.map (.int .i64)) := fun K hK => by
        obtain ⟨X, rfl⟩ := hK
        refine (visL_srt (H := H) (p := 2) (l := O) rfl fun q => ?_).vis X
        rw [← hH, ovH_ne q]; rfl
      have hvo' := hvo _ (srtH_form H L)
      have ha := appX_srt (pre := H) (L := L) (M := O) (by omega)
      obtain ⟨base, hbase⟩ : ∃ b, L ++ O = b := ⟨_, rfl⟩
      have hbl : base.length ≤ 38 := by rw [← hbase, List.length_append]; omega
      rw [hbase] at ha
      have hoB := hoS base
      have hgr : (gooR c K c.i.l).length = (selL c.i.l K (sGoodR g)).length := by
        rw [gooR, List.length_map]
        exact congrArg _ (selL_congr' fun y _ hy => isGood_at hgk hy)
      have hgle : (gooR c K c.i.l).length ≤ 19 := by rw [hgr]; exact Nat.le_trans (List.length_filter_le _ _) (by omega)
      obtain ⟨G, hGG⟩ : ∃ G, (gooR c K c.i.l).length = G := ⟨_, rfl⟩
      rw [hGG] at hgle hgr
      have hM : -2000000000 ≤ (G : Int) - g.want ∧ (G : Int) - g.want ≤ 2000000000 := by omega
      obtain ⟨M0, hM0⟩ : ∃ M, (G : Int) - g.want = M := ⟨_, rfl⟩
      rw [hM0] at hM
      simp (disch := first | omega | (simp [-List.map_take, -List.map_drop, -List.map_set, -List.map_append, -List.drop_one] <;> omega) | fail) [-List.map_take, -List.map_drop, -List.map_set, -List.map_append, -List.drop_one, g1, g1', hvo', ha, hoB, T350_g, cCk_eq, goodRD, hGG, hG, hM0, hn]
      have hval : vicR c K = base ++ ((refSpare g c.i.l K).reverse.take M0.toNat).map Ins.id := by
        rw [hr, refVic, List.map_append, List.map_append, ← hbase, hLe, ← eD, ← eO, ← hgr, hM0, List.append_assoc]
      refine W_loop (S353 K) (fun a => a.m) (VRI c g K base M0) ⟨n, H, base, M0⟩ (weak_same (by simp (disch := first | omega | (simp [-List.map_take, -List.map_drop, -List.map_set, -List.map_append, -List.drop_one] <;> omega) | fail) [-List.map_take, -List.map_drop, -List.map_set, -List.map_append, -List.drop_one, S353, a53S3]) (by simp (disch := first | omega | (simp [-List.map_take, -List.map_drop, -List.map_set, -List.map_append, -List.drop_one] <;> omega) | fail) [-List.map_take, -List.map_drop, -List.map_set, -List.map_append, -List.drop_one, S353, a53S3])) ?_ (fun a ha => ?_)
      · have e : refSpare g (c.i.l.drop n) K = [] := by rw [List.drop_of_length_le (by omega)]; rfl
        exact ⟨by simp only; omega, hHf, hHp, by simp only; rw [e]; simp, by simp only; rw [e]; simp, by simp only; rw [e]; simp⟩
      obtain ⟨m, pre, L, M⟩ := a
      obtain ⟨hm, hf, hp, hl, hM', hN⟩ := ha
      simp only at hm hf hp hl hM' hN
      have hLl : L.length ≤ 57 := by
        have : (refSpare g (c.i.l.drop m) K).length ≤ n := Nat.le_trans (List.length_filter_le _ _) (by simp; omega)
        rw [hl, List.length_append, List.length_map, List.length_reverse]; omega
      obtain ⟨Q, hQ⟩ : ∃ Q, srtH pre L = Q := ⟨_, rfl⟩
      have hQf : ∃ X, Q = [.cells (clC c)] ++ X := form_trans hf (hQ ▸ srtH_form pre L)
      have hQp : PureH Q := hQ ▸ hp.srt
      have hQo := fun X => obj0_form hQf X
      have hQo' := hQo []
      rw [List.append_nil] at hQo'
      have hQ0 : 0 < Q.length := by obtain ⟨X, rfl⟩ := hQf; simp
      have hpl : 0 < pre.length := by obtain ⟨X, rfl⟩ := hf; simp
      have hQb : Am.below Q.length (srtV pre.length L) = true := by
        by_cases q : L = []
        · subst q; rfl
        · rw [srtV_ne q, ← hQ, srtH_ne q]; simp [Am.below]
      simp (disch := first | omega | (simp [-List.map_take, -List.map_drop, -List.map_set, -List.map_append, -List.drop_one] <;> omega) | fail) [-List.map_take, -List.map_drop, -List.map_set, -List.map_append, -List.drop_one, a53L3, a53S3, S353, hQ]
      by_cases c1 : m = 0
      · subst c1
        have hfin : L = vicR c K := by
          rw [List.drop_zero] at hl hN
          rw [hl, hval, List.take_of_length_le (by rw [List.length_reverse]; exact hN)]
        have hsn := snap_srt (pre := pre) (l := L)
        rw [hQ, hfin] at hsn
        rw [hfin]
        simp (disch := first | omega | (simp [-List.map_take, -List.map_drop, -List.map_set, -List.map_append, -List.drop_one] <;> omega) | fail) [-List.map_take, -List.map_drop, -List.map_set, -List.map_append, -List.drop_one, hsn]
      obtain ⟨m, rfl⟩ : ∃ m', m = m' + 1 := ⟨m - 1, by omega⟩
      have hmm : ((m + 1 : Nat) : Int) - 1 = m := by omega
      have hm1 : (1 : Int) ≤ (m : Int) + 1 := by omega
      have hmi : m < c.i.l.length := by omega
      by_cases c2 : 0 < M
      case neg =>
        have hfin : L = vicR c K := by
          have hsplit : refSpare g c.i.l K = refSpare g (c.i.l.take (m + 1)) K ++ refSpare g (c.i.l.drop (m + 1)) K := by
            rw [refSpare, refSpare, refSpare, selL, selL, selL, ← List.filter_append, List.take_append_drop]
          rw [hl, hval, hsplit, List.reverse_append, List.take_left' (by rw [List.length_reverse]; omega)]
        have hsn := snap_srt (pre := pre) (l := L)
        rw [hQ, hfin] at hsn
        rw [hfin]
        simp (disch := first | omega | (simp [-List.map_take, -List.map_drop, -List.map_set, -List.map_append, -List.drop_one] <;> omega) | fail) [-List.map_take, -List.map_drop, -List.map_set, -List.map_append, -List.drop_one, hm1, c2, hsn]
      have hxi := fun H => idxSD_dv (x := c.i) (h := H) len_inC hmi
      obtain ⟨x, hxe⟩ : ∃ x, c.i.l[m] = x := ⟨_, rfl⟩
      have hsp := spare_drop (g := g) (k := K) hmi hxe
      simp only [hxe] at hxi
      by_cases e1 : x.grp = K
      case neg =>
        have hsp' : refSpare g (c.i.l.drop m) K = refSpare g (c.i.l.drop (m + 1)) K := by rw [hsp]; simp [e1]
        simp (disch := first | omega | (simp [-List.map_take, -List.map_drop, -List.map_set, -List.map_append, -List.drop_one] <;> omega) | fail) [-List.map_take, -List.map_drop, -List.map_set, -List.map_append, -List.drop_one, hm1, c2, hQo', hQo, hxi, e1, set_pre0]
        exact ⟨⟨m, pre, L, M⟩, weak_drop (tail := [.cells (inC x)]) (by simp (disch := first | omega | (simp [-List.map_take, -List.map_drop, -List.map_set, -List.map_append, -List.drop_one] <;> omega) | fail) [-List.map_take, -List.map_drop, -List.map_set, -List.map_append, -List.drop_one, S353, a53S3]) (by simp (disch := first | omega | (simp [-List.map_take, -List.map_drop, -List.map_set, -List.map_append, -List.drop_one] <;> omega) | fail) [-List.map_take, -List.map_drop, -List.map_set, -List.map_append, -List.drop_one, S353, a53S3, hQ]) (Nat.zero_le _) (by simp (disch := first | omega | (simp [-List.map_take, -List.map_drop, -List.map_set, -List.map_append, -List.drop_one] <;> omega) | fail) [-List.map_take, -List.map_drop, -List.map_set, -List.map_append, -List.drop_one, S353, a53S3, hQ, belowL, Am.below, hQb, hQ0]) (by simp only [S353, a53S3, hQ]; exact belowH_pure hQp), by simp only; omega, ⟨by simp only; omega, hf, hp, by simp only; rw [hsp', hl], by simp only; rw [hsp', hM'], by simp only; rw [hsp']; exact hN⟩⟩
      by_cases e2 : x.state = 2
      case neg =>
        have hsp' : refSpare g (c.i.l.drop m) K = refSpare g (c.i.l.drop (m + 1)) K := by rw [hsp]; simp [e2]
        simp (disch := first | omega | (simp [-List.map_take, -List.map_drop, -List.map_set, -List.map_append, -List.drop_one] <;> omega) | fail) [-List.map_take, -List.map_drop, -List.map_set, -List.map_append, -List.drop_one, hm1, c2, hQo', hQo, hxi, e1, e2, set_pre0]
        exact ⟨⟨m, pre, L, M⟩, weak_drop (tail := [.cells (inC x)]) (by simp (disch := first | omega | (simp [-List.map_take, -List.map_drop, -List.map_set, -List.map_append, -List.drop_one] <;> omega) | fail) [-List.map_take, -List.map_drop, -List.map_set, -List.map_append, -List.drop_one, S353, a53S3]) (by simp (disch := first | omega | (simp [-List.map_take, -List.map_drop, -List.map_set, -List.map_append, -List.drop_one] <;> omega) | fail) [-List.map_take, -List.map_drop, -List.map_set, -List.map_append, -List.drop_one, S353, a53S3, hQ]) (Nat.zero_le _) (by simp (disch := first | omega | (simp [-List.map_take, -List.map_drop, -List.map_set, -List.map_append, -List.drop_one] <;> omega) | fail) [-List.map_take, -List.map_drop, -List.map_set, -List.map_append, -List.drop_one, S353, a53S3, hQ, belowL, Am.below, hQb, hQ0]) (by simp only [S353, a53S3, hQ]; exact belowH_pure hQp), by simp only; omega, ⟨by simp only; omega, hf, hp, by simp only; rw [hsp', hl], by simp only; rw [hsp', hM'], by simp only; rw [hsp']; exact hN⟩⟩
      have hig := isGood_at hgk e1
      cases e3 : sGoodR g x with
      | false =>
        rw [e3] at hig
        have hsp' : refSpare g (c.i.l.drop m) K = refSpare g (c.i.l.drop (m + 1)) K := by rw [hsp]; simp [e3]
        simp (disch := first | omega | (simp [-List.map_take, -List.map_drop, -List.map_set, -List.map_append, -List.drop_one] <;> omega) | fail) [-List.map_take, -List.map_drop, -List.map_set, -List.map_append, -List.drop_one, hm1, c2, hQo', hQo, hxi, e1, e2, set_pre0, T350_i, cCx_eq, hig]
        exact ⟨⟨m, pre, L, M⟩, weak_drop (tail := [.cells (inC x)]) (by simp (disch := first | omega | (simp [-List.map_take, -List.map_drop, -List.map_set, -List.map_append, -List.drop_one] <;> omega) | fail) [-List.map_take, -List.map_drop, -List.map_set, -List.map_append, -List.drop_one, S353, a53S3]) (by simp (disch := first | omega | (simp [-List.map_take, -List.map_drop, -List.map_set, -List.map_append, -List.drop_one] <;> omega) | fail) [-List.map_take, -List.map_drop, -List.map_set, -List.map_append, -List.drop_one, S353, a53S3, hQ]) (Nat.zero_le _) (by simp (disch := first | omega | (simp [-List.map_take, -List.map_drop, -List.map_set, -List.map_append, -List.drop_one] <;> omega) | fail) [-List.map_take, -List.map_drop, -List.map_set, -List.map_append, -List.drop_one, S353, a53S3, hQ, belowL, Am.below, hQb, hQ0]) (by simp only [S353, a53S3, hQ]; exact belowH_pure hQp), by simp only; omega, ⟨by simp only; omega, hf, hp, by simp only; rw [hsp', hl], by simp only; rw [hsp', hM'], by simp only; rw [hsp']; exact hN⟩⟩
      | true =>
        rw [e3] at hig
        have hsp' : refSpare g (c.i.l.drop m) K = x :: refSpare g (c.i.l.drop (m + 1)) K := by rw [hsp]; simp [e1, e2, e3]
        have hMb : -3000000000 ≤ M ∧ M ≤ 3000000000 := by
          have : (refSpare g (c.i.l.drop (m + 1)) K).length ≤ n := Nat.le_trans (List.length_filter_le _ _) (by simp; omega)
          omega
        have inv : ∀ pre', (∃ X, pre' = [.cells (clC c)] ++ X) → PureH pre' → VRI c g K base M0 ⟨m, pre', L ++ [x.id], M - 1⟩ := fun pre' f' p' => ⟨by simp only; omega, f', p', by simp only; rw [hsp', hl]; simp, by simp only; rw [hsp', hM', List.length_cons]; omega, by simp only; rw [hsp', List.length_cons]; omega⟩
        by_cases q : L = []
        · subst q
          rw [srtH_nil] at hQ
          subst hQ
          have hV : srtV (pre.length + 1) [x.id] = .ms (pre.length + 1) 1 0 1 1 1 := rfl
          have hH1 : srtH (pre ++ [.cells (inC x)]) [x.id] = pre ++ [.cells (inC x), .cells [.int .i64 x.id]] := by rw [srtH_ne (by simp), List.append_assoc]; rfl
          simp (disch := first | omega | (simp [-List.map_take, -List.map_drop, -List.map_set, -List.map_append, -List.drop_one] <;> omega) | fail) [-List.map_take, -List.map_drop, -List.map_set, -List.map_append, -List.drop_one, hm1, c2, hQo', hQo, hxi, e1, e2, set_pre0, T350_i, cCx_eq, hig, srtV_nil]
          exact ⟨⟨m, pre ++ [.cells (inC x)], [] ++ [x.id], M - 1⟩, weak_same (by simp (disch := first | omega | (simp [-List.map_take, -List.map_drop, -List.map_set, -List.map_append, -List.drop_one] <;> omega) | fail) [-List.map_take, -List.map_drop, -List.map_set, -List.map_append, -List.drop_one, S353, a53S3, hV]) (by simp (disch := first | omega | (simp [-List.map_take, -List.map_drop, -List.map_set, -List.map_append, -List.drop_one] <;> omega) | fail) [-List.map_take, -List.map_drop, -List.map_set, -List.map_append, -List.drop_one, S353, a53S3, hH1]), by simp only; omega, inv _ (form_trans hf ⟨_, rfl⟩) (hp.app (.one (pure_inC x)))⟩
        · have hax := appX_srtx (pre := pre) (L := L) (y := x.id) (o := .cells (inC x)) q (by omega)
          rw [hQ] at hax
          have hQ2 : PureH (srtH pre (L ++ [x.id])) := hp.srt
          have hQ3 : 0 < (srtH pre (L ++ [x.id])).length := by rw [len_srtH' (by simp)]; omega
          have hQ4 : Am.below (srtH pre (L ++ [x.id])).length (srtV pre.length (L ++ [x.id])) = true := by
            rw [srtV_ne (by simp), len_srtH' (by simp)]; simp [Am.below]
          simp (disch := first | omega | (simp [-List.map_take, -List.map_drop, -List.map_set, -List.map_append, -List.drop_one] <;> omega) | fail) [-List.map_take, -List.map_drop, -List.map_set, -List.map_append, -List.drop_one, hm1, c2, hQo', hQo, hxi, e1, e2, set_pre0, T350_i, cCx_eq, hig, hax]
          exact ⟨⟨m, pre, L ++ [x.id], M - 1⟩, weak_drop (tail := [.cells (inC x)]) (by simp (disch := first | omega | (simp [-List.map_take, -List.map_drop, -List.map_set, -List.map_append, -List.drop_one] <;> omega) | fail) [-List.map_take, -List.map_drop, -List.map_set, -List.map_append, -List.drop_one, S353, a53S3]) (by simp (disch := first | omega | (simp [-List.map_take, -List.map_drop, -List.map_set, -List.map_append, -List.drop_one] <;> omega) | fail) [-List.map_take, -List.map_drop, -List.map_set, -List.map_append, -List.drop_one, S353, a53S3]) (Nat.zero_le _) (by simp (disch := first | omega | (simp [-List.map_take, -List.map_drop, -List.map_set, -List.map_append, -List.drop_one] <;> omega) | fail) [-List.map_take, -List.map_drop, -List.map_set, -List.map_append, -List.drop_one, S353, a53S3, belowL, Am.below, hQ3, hQ4]) (by simp only [S353, a53S3]; exact belowH_pure hQ2), by simp only; omega, inv _ hf hp⟩
end Go.Proofs.YtjhakjeioppijaaDoor
set_option linter.unusedSimpArgs false
set_option linter.unusedVariables false
namespace Go.Proofs.YtjhakjeioppijaaDoor
open Go Go.Am
def a9 : AFn where
  code := (.seq (.region false [⟨none, (some 4), .mov (.k (.bool false))⟩])
  (.seq (.region false [⟨none, (some 6), .mov (.t 0)⟩,
    ⟨none, (some 7), .call (.k (.fn (.func 26) [] [])) [(.t 6), (.k (.int .i64 200))]⟩,
    ⟨none, (some 8), .call (.k (.fn (.func 27) [] [])) [(.t 7), (.k (.int .i64 9))]⟩,
    ⟨none, (some 5), .alloc [.nils, .nils, (.int .i64 0)]⟩,
    ⟨none, none, .store 3 (.t 5) (.t 8)⟩])
  (.seq (.seq (.region false [⟨none, (some 9), .mov (.t 1)⟩,
    ⟨none, (some 10), .bin .gtr (.t 9) (.k (.int .i64 3))⟩,
    ⟨none, (some 11), .mov (.t 10)⟩,
    ⟨(some (11, false)), (some 12), .mov (.t 1)⟩,
    ⟨(some (11, false)), (some 13), .bin .lss (.t 12) (.k (.int .i64 (-1)))⟩,
    ⟨none, (some 14), .pick (.t 11) (.k (.bool true)) (.t 13)⟩])
  (.cond (.t 14) (.region false [⟨none, (some 15), .mov (.t 1)⟩,
    ⟨none, (some 16), .call (.k (.fn (.func 29) [] [])) [(.t 15), (.k (.int .i64 2))]⟩,
    ⟨none, (some 1), .mov (.t 16)⟩])
  .skip))
  (.seq (.region true [⟨none, (some 17), .load 3 true (.t 5)⟩,
    ⟨none, (some 18), .mov (.t 1)⟩,
    ⟨none, (some 20), .load 3 true (.t 5)⟩,
    ⟨none, (some 21), .mov (.t 1)⟩,
    ⟨none, (some 19), .callN (.k (.fn (.func 45) [] [])) [(.t 17), (.t 18)]⟩,
    ⟨none, (some 22), .callN (.k (.fn (.func 46) [] [])) [(.t 20), (.t 21)]⟩,
    ⟨none, (some 23), .bin .eql (.t 19) (.t 22)⟩,
    ⟨none, (some 24), .mov (.t 23)⟩,
    ⟨(some (24, true)), (some 25), .load 3 true (.t 5)⟩,
    ⟨(some (24, true)), (some 26), .mov (.t 1)⟩,
    ⟨(some (24, true)), (some 28), .load 3 true (.t 5)⟩,
    ⟨(some (24, true)), (some 29), .mov (.t 1)⟩,
    ⟨(some (24, true)), (some 27), .callN (.k (.fn (.func 48) [] [])) [(.t 25), (.t 26)]⟩,
    ⟨(some (24, true)), (some 30), .callN (.k (.fn (.func 49) [] [])) [(.t 28), (.t 29)]⟩,
    ⟨(some (24, true)), (some 31), .callN (.k (.fn (.func 47) [] [])) [(.t 27), (.t 30)]⟩,
    ⟨none, (some 32), .pick (.t 24) (.t 31) (.k (.bool false))⟩,
    ⟨none, (some 33), .mov (.t 32)⟩,
    ⟨(some (33, true)), (some 34), .load 3 true (.t 5)⟩,
    ⟨(some (33, true)), (some 35), .mov (.t 1)⟩,
    ⟨(some (33, true)), (some 37), .load 3 true (.t 5)⟩,
    ⟨(some (33, true)), (some 38), .mov (.t 1)⟩,
    ⟨(some (33, true)), (some 36), .callN (.k (.fn (.func 50) [] [])) [(.t 34), (.t 35)]⟩,
    ⟨(some (33, true)), (some 39), .callN (.k (.fn (.func 51) [] [])) [(.t 37), (.t 38)]⟩,
    ⟨(some (33, true)), (some 40), .bin .eql (.t 36) (.t 39)⟩,
    ⟨none, (some 41), .pick (.t 33) (.t 40) (.k (.bool false))⟩,
    ⟨none, (some 42), .mov (.t 41)⟩,
    ⟨(some (42, true)), (some 43), .load 3 true (.t 5)⟩,
    ⟨(some (42, true)), (some 44), .mov (.t 1)⟩,
    ⟨(some (42, true)), (some 46), .load 3 true (.t 5)⟩,
    ⟨(some (42, true)), (some 47), .mov (.t 1)⟩,
    ⟨(some (42, true)), (some 45), .callN (.k (.fn (.func 52) [] [])) [(.t 43), (.t 44)]⟩,
    ⟨(some (42, true)), (some 48), .callN (.k (.fn (.func 53) [] [])) [(.t 46), (.t 47)]⟩,
    ⟨(some (42, true)), (some 49), .callN (.k (.fn (.func 47) [] [])) [(.t 45), (.t 48)]⟩,
    ⟨none, (some 50), .pick (.t 42) (.t 49) (.k (.bool false))⟩,
    ⟨none, (some 51), .mov (.t 50)⟩,
    ⟨(some (51, true)), (some 52), .callN (.k (.fn (.func 54) [] [])) []⟩,
    ⟨none, (some 53), .pick (.t 51) (.t 52) (.k (.bool false))⟩,
    ⟨none, (some 4), .mov (.t 53)⟩])
  .ret))))
  ntmps := 54
  res := [.tmp 4]
theorem a9_ok : compileFn P Tryd.f9 = some a9 := by kernel_rfl
end Go.Proofs.YtjhakjeioppijaaDoor
set_option linter.unusedSimpArgs false
set_option linter.unusedVariables false
namespace Go.Proofs.YtjhakjeioppijaaDoor
open Go Go.Am
theorem no_grp {c : Clu} (hv : ValidC c) {k : Int} (hk : grAt c k = none) : ∀ x ∈ c.i.l, ¬ x.grp = k := fun x hx e => by
  obtain ⟨j, hj, rfl⟩ := List.getElem_of_mem hx
  have h := (hv.i j hj).1
  obtain ⟨g, hg⟩ := grAt_some (c := c) (k := k) (by rw [← e]; exact h.g0) (by rw [← e]; exact h.g1)
  rw [hk] at hg; cases hg
theorem live_eq {c : Clu} (hv : ValidC c) (k : Int) : liveP c k = cntR k c.i.l := by
  cases hk : grAt c k with
  | some g => exact live_cnt hk
  | none =>
    have h := no_grp hv hk
    have : c.i.l.filter (runB k) = [] := by
      rw [List.filter_eq_nil_iff]
      intro x hx
      simp [runB, h x hx]
    simp only [liveP, idsP, hk, cntR, this, List.length_nil]
theorem good_eq {c : Clu} (hv : ValidC c) (k : Int) : goodP c k = gooR c k c.i.l := by
  cases hk : grAt c k with
  | some g =>
    have : goodP c k = (selL c.i.l k (sGoodR g)).map Ins.id := by
      have hg := good_of hv
      unfold goodP idsP; rw [hk]
      refine congrArg _ (selL_congr fun x hx => ?_)
      obtain ⟨h1, h2, h3⟩ := hg.s x hx
      have : decide (x.state ≠ 3) = (decide (x.state = 1) || decide (x.state = 2)) := by
        rw [← Bool.decide_or]; exact decide_eq_decide.2 (by omega)
      have hden : decide (x.den < 0) = decide (x.den = -1) := decide_eq_decide.2 (by omega)
      simp only [sGood, sGoodR, chos, hden, this]
    rw [this, gooR]
    exact congrArg _ (selL_congr' fun y _ hy => (isGood_at hk hy).symm)
  | none =>
    have h := no_grp hv hk
    have : selL c.i.l k (isGoodR c) = [] := by
      unfold selL
      rw [List.filter_eq_nil_iff]
      intro x hx
      simp [h x hx]
    simp only [goodP, idsP, hk, gooR, this, List.map_nil]
theorem room_eq {c : Clu} (hv : ValidC c) (k : Int) : roomP c k = roomR c k := by
  unfold roomP roomR; rw [live_eq hv]; cases grAt c k <;> rfl
theorem vic_eq {c : Clu} (hv : ValidC c) (k : Int) : victimsP c k = vicR c k := by
  cases hk : grAt c k with
  | some g => rw [vic_same (good_of hv) hk, vicR, hk]
  | none => rw [victimsP, hk, vicR, hk]
def vicRD (c : Clu) (k : Int) : DV := liV (vicR c k)
theorem vicR_sound : (Con.pure (cCkA VicOK vicRD)).Sound P 53 := con_sound fun a h => sem_runs mix T350_sound Tryd.func53 a53_ok (runs_refvictims a.1 a.2 h)
noncomputable def T360 : Tbl := addT 26 (.new cTape) (addT 27 (.tch cClu) (addT 29 (.pure cWithin) (addT 45 (.pure (cCk liveD)) (addT 48 (.pure (cCk goodD)) (addT 50 (.pure (cCkA LimC roomD)) (addT 52 (.pure (cCkA VicOK vicD)) (addT 46 (.pure (cCk liveRD)) (addT 49 (.pure (cCk goodRD)) (addT 51 (.pure (cCkA LimC roomRD)) (addT 53 (.pure (cCkA VicOK vicRD)) (addT 47 (.pure (cLL sameL)) (addT 54 (.pure cTru) tbl0))))))))))))
theorem T360_t : T360 26 = .new cTape := by simp [T360]
theorem T360_c : T360 27 = .tch cClu := by simp [T360]
theorem T360_w : T360 29 = .pure cWithin := by simp [T360]
theorem T360_l : T360 45 = .pure (cCk liveD) := by simp [T360]
theorem T360_g : T360 48 = .pure (cCk goodD) := by simp [T360]
theorem T360_r : T360 50 = .pure (cCkA LimC roomD) := by simp [T360]
theorem T360_v : T360 52 = .pure (cCkA VicOK vicD) := by simp [T360]
theorem T360_l' : T360 46 = .pure (cCk liveRD) := by simp [T360]
theorem T360_g' : T360 49 = .pure (cCk goodRD) := by simp [T360]
theorem T360_r' : T360 51 = .pure (cCkA LimC roomRD) := by simp [T360]
theorem T360_v' : T360 53 = .pure (cCkA VicOK vicRD) := by simp [T360]
theorem T360_i : T360 47 = .pure (cLL sameL) := by simp [T360]
theorem T360_a : T360 54 = .pure cTru := by simp [T360]
theorem T360_sound : T360.Sound P := addT_sound tape_sound (addT_sound clu_sound (addT_sound within_sound (addT_sound live_sound (addT_sound good_sound (addT_sound room_sound (addT_sound vic_sound (addT_sound liveR_sound (addT_sound goodR_sound (addT_sound roomR_sound (addT_sound vicR_sound (addT_sound ints_sound (addT_sound awake38_sound tbl0_sound))))))))))))
theorem vicR_len {c : Clu} {k : Int} : (vicR c k).length ≤ 3 * c.i.l.length := by
  unfold vicR; split
  · rw [List.length_map]; exact refVic_len
  · simp
theorem sameL_self (a : List Int) : sameL a a = true := by simp [sameL]
set_option maxRecDepth 20000 in
set_option maxHeartbeats 2000000 in
theorem runs_lawcounts (x : Nl) (p : Int) : Runs T360 a9 [x.dv, .int .i64 p] (.bool true) := by
  refine ⟨?_⟩
  obtain ⟨u, hu⟩ : ∃ u, tp0 x 200 = u := ⟨_, rfl⟩
  have hua : u.at_ = 0 := by rw [← hu]; rfl
  obtain ⟨hv, hg⟩ := clusterV_ok u 9 (by decide) (by decide)
  have hn9 := clusterV_len u 9 (by decide) (by decide)
  obtain ⟨c, hc⟩ : ∃ c, (clusterV u 9).1 = c := ⟨_, rfl⟩
  obtain ⟨w, hw⟩ : ∃ w, (clusterV u 9).2 = w := ⟨_, rfl⟩
  rw [hc] at hv hg hn9
  have hT := fun m => cTape_eq (x := x) (n := 200) (by decide) m
  rw [hu] at hT
  simp only [show ((200 : Nat) : Int) = 200 from rfl] at hT
  have hC : cClu [.int .i64 9] (tpC u) = some (.agg (clC c), tpC w) := by rw [cClu_eq (by omega) (by decide) (by decide), hc, hw]
  have hx := nl_pure x
  have hvo := vicOK_of hv (show c.i.l.length ≤ 19 by omega)
  have hlo := limC_of hv
  have key : ∀ k : Int, cLL sameL [liV (gooR c k c.i.l), liV (gooR c k c.i.l)] = some (.bool true) ∧ cLL sameL [liV (vicR c k), liV (vicR c k)] = some (.bool true) := fun k => by
    have h1 : (gooR c k c.i.l).length ≤ c.i.l.length := by rw [gooR, List.length_map]; exact List.length_filter_le _ _
    have h2 := vicR_len (c := c) (k := k)
    exact ⟨by rw [cLL_eq (by omega) (by omega), sameL_self], by rw [cLL_eq (by omega) (by omega), sameL_self]⟩
  have r1 := fun k => cCkA_eq (A := LimC) (f := roomD) (c := c) (k := k) hlo
  have r2 := fun k => cCkA_eq (A := LimC) (f := roomRD) (c := c) (k := k) hlo
  have r3 := fun k => cCkA_eq (A := VicOK) (f := vicD) (c := c) (k := k) hvo
  have r4 := fun k => cCkA_eq (A := VicOK) (f := vicRD) (c := c) (k := k) hvo
  simp only [roomD, roomRD, vicD, vicRD, room_eq hv, vic_eq hv] at r1 r2 r3 r4
  have k1 := fun k => (key k).1
  have k2 := fun k => (key k).2
  by_cases h1 : 3 < p
  · simp (disch := first | omega | (simp [-List.map_take, -List.map_drop, -List.map_set, -List.map_append, -List.drop_one] <;> omega) | fail) [-List.map_take, -List.map_drop, -List.map_set, -List.map_append, -List.drop_one, a9, T360_t, T360_c, T360_w, T360_l, T360_g, T360_r, T360_v, T360_l', T360_g', T360_r', T360_v', T360_i, T360_a, hT, hC, h1, cWithin_eq, cCk_eq, liveD, liveRD, goodD, goodRD, live_eq hv, good_eq hv, r1, r2, r3, r4, k1, k2, cTru]
  · by_cases h2 : p < -1
    · simp (disch := first | omega | (simp [-List.map_take, -List.map_drop, -List.map_set, -List.map_append, -List.drop_one] <;> omega) | fail) [-List.map_take, -List.map_drop, -List.map_set, -List.map_append, -List.drop_one, a9, T360_t, T360_c, T360_w, T360_l, T360_g, T360_r, T360_v, T360_l', T360_g', T360_r', T360_v', T360_i, T360_a, hT, hC, h1, h2, cWithin_eq, cCk_eq, liveD, liveRD, goodD, goodRD, live_eq hv, good_eq hv, r1, r2, r3, r4, k1, k2, cTru]
    · simp (disch := first | omega | (simp [-List.map_take, -List.map_drop, -List.map_set, -List.map_append, -List.drop_one] <;> omega) | fail) [-List.map_take, -List.map_drop, -List.map_set, -List.map_append, -List.drop_one, a9, T360_t, T360_c, T360_w, T360_l, T360_g, T360_r, T360_v, T360_l', T360_g', T360_r', T360_v', T360_i, T360_a, hT, hC, h1, h2, cWithin_eq, cCk_eq, liveD, liveRD, goodD, goodRD, live_eq hv, good_eq hv, r1, r2, r3, r4, k1, k2, cTru]
namespace disruptionCounts
theorem law_holds (dvs) (h : Ty.Args [.sl (.int .i64), .int .i64] dvs) : Am.Sem P 9 dvs (.bool true) := by
  obtain ⟨d1, l1, rfl, h1, d2, l2, rfl, h2, rfl⟩ := h
  obtain ⟨x, _, hx⟩ := ok_nl h1
  obtain ⟨p, _, hp⟩ := ok_n h2
  cases hx; cases hp
  exact sem_runs mix T360_sound Tryd.func9 a9_ok (runs_lawcounts x p)
end disruptionCounts
end Go.Proofs.YtjhakjeioppijaaDoor
