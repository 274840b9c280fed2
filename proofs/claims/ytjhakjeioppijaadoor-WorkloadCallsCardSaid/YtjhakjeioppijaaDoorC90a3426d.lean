/-
  15 texts of mine in one.
-/
import Derived.Test.YtjhakjeioppijaaDoorC5f0ea989
import Derived.Test.YtjhakjeioppijaaDoorC950dc02d
import Derived.Test.YtjhakjeioppijaaDoorC0aefe577
import Derived.Test.YtjhakjeioppijaaDoorC05f1b330
import Derived.Test.YtjhakjeioppijaaDoorCf92c512c
set_option linter.unusedSimpArgs false
set_option linter.unusedVariables false
namespace Go.Proofs.YtjhakjeioppijaaDoor
open Go Go.Am
theorem objV_preD {pre l : List AObj} {ver : Nat} : objV (pre ++ l) pre.length ver = objV l 0 ver := by
  unfold objV objAt; rw [List.getElem?_append_right (by omega), Nat.sub_self]
theorem set_preD {pre l : List AObj} {o : AObj} : (pre ++ l).set pre.length o = pre ++ l.set 0 o := by rw [List.set_append_right _ _ (by omega)]; simp
def inz : Ins := ⟨0, 0, dg0, 0, 0, 0⟩
theorem all_inD (D : List Ins) : (D.flatMap inC).all DV.one = true := by
  have h1 : ∀ x : Ins, (inC x).all DV.one = true := fun x => by
    have hd : (dgC x.art).all DV.one = true := by simp [dgC, DV.one, w8]
    simp only [inC, List.all_cons, List.all_append, hd, List.all_nil, Bool.and_true, DV.one]
  rw [List.all_flatMap, List.all_eq_true]
  exact fun x _ => h1 x
structure DelF (pre : List AObj) (l : List Ins) (i n : Nat) : Prop where
  s1 : slcSD (pre ++ [.cells (l.flatMap inC)]) 37 (.ms pre.length (n * 37) 0 37 n (n * 37)) (some (.int .i64 i)) (some (.int .i64 ((i : Int) + 1))) (some (.int .i64 n)) = some .junk
  s2 : slcSD (pre ++ [.cells (l.flatMap inC)]) 37 (.ms pre.length (n * 37) 0 37 n (n * 37)) none (some (.int .i64 i)) none = some (.ms pre.length (n * 37) 0 37 i (n * 37))
  s3 : slcSD (pre ++ [.cells (l.flatMap inC)]) 37 (.ms pre.length (n * 37) 0 37 n (n * 37)) (some (.int .i64 ((i : Int) + 1))) none none = some (.ms pre.length (n * 37) ((i + 1) * 37) 37 (n - (i + 1)) (n * 37))
  y : visY (pre ++ [.cells (l.flatMap inC)]) (.ms pre.length (n * 37) ((i + 1) * 37) 37 (n - (i + 1)) (n * 37)) = some (n - (i + 1), (l.drop (i + 1)).flatMap inC)
  a : appX (pre ++ [.cells (l.flatMap inC)]) 37 72 (.ms pre.length (n * 37) 0 37 i (n * 37)) (n - (i + 1)) ((l.drop (i + 1)).flatMap inC) = some (.ms pre.length (n * 37) 0 37 (n - 1) (n * 37), pre ++ [.cells ((l.eraseIdx i ++ l.drop (n - 1)).flatMap inC)])
  ln : lenD (pre ++ [.cells ((l.eraseIdx i ++ l.drop (n - 1)).flatMap inC)]) (.ms pre.length (n * 37) 0 37 (n - 1) (n * 37)) = some (.int .i64 ((n : Int) - 1))
  s4 : slcSD (pre ++ [.cells ((l.eraseIdx i ++ l.drop (n - 1)).flatMap inC)]) 37 (.ms pre.length (n * 37) 0 37 (n - 1) (n * 37)) (some (.int .i64 ((n : Int) - 1))) (some (.int .i64 n)) none = some (.ms pre.length (n * 37) ((n - 1) * 37) 37 1 (n * 37))
  c : clrD (pre ++ [.cells ((l.eraseIdx i ++ l.drop (n - 1)).flatMap inC)]) 37 (inC inz) (.ms pre.length (n * 37) ((n - 1) * 37) 37 1 (n * 37)) = some (.tup [], pre ++ [.cells ((l.eraseIdx i ++ [inz]).flatMap inC)])
theorem splice_in2 {A B C D : List Ins} (h : B.length = D.length) : splice ((A ++ (B ++ C)).flatMap inC) (A.length * 37) (D.flatMap inC) = (A ++ (D ++ C)).flatMap inC := by
  have hl : (D.flatMap inC).length = D.length * 37 := fm_len len_inC D
  unfold splice
  rw [fm_take len_inC, hl, ← Nat.add_mul, fm_drop len_inC, List.take_left' rfl, ← h, ← List.drop_drop, List.drop_left' rfl, List.drop_left' rfl]
  simp
theorem delF {pre : List AObj} {l : List Ins} {i n : Nat} (hn : l.length = n) (hi : i < n) (hb : n ≤ 1000000) : DelF pre l i n := by
  have hfl : (l.flatMap inC).length = n * 37 := by rw [fm_len len_inC, hn]
  have ho : objV (pre ++ [.cells (l.flatMap inC)]) pre.length (n * 37) = some (l.flatMap inC) := by rw [objV_preD, objV_zero, if_pos hfl]
  have hel : (l.eraseIdx i).length = n - 1 := by rw [List.length_eraseIdx, if_pos (by omega), hn]
  have hl2 : ((l.eraseIdx i ++ l.drop (n - 1)).flatMap inC).length = n * 37 := by rw [fm_len len_inC, List.length_append, hel, List.length_drop, hn]; congr 1; omega
  have ho2 : objV (pre ++ [.cells ((l.eraseIdx i ++ l.drop (n - 1)).flatMap inC)]) pre.length (n * 37) = some ((l.eraseIdx i ++ l.drop (n - 1)).flatMap inC) := by rw [objV_preD, objV_zero, if_pos hl2]
  have b1 : boundsD n (some (.int .i64 i)) (some (.int .i64 ((i : Int) + 1))) = some (i, i + 1) := by
    rw [boundsD_lh (by omega) (by omega) (by omega)]; simp
  have b2 : boundsD n none (some (.int .i64 i)) = some (0, i) := by rw [boundsD_h (by omega) (by omega)]; simp
  have b3 : boundsD n (some (.int .i64 ((i : Int) + 1))) none = some (i + 1, n) := by rw [boundsD_l (by omega) (by omega)]; simp
  have her : l.eraseIdx i = l.take i ++ l.drop (i + 1) := List.eraseIdx_eq_take_drop_succ l i
  refine ⟨?_, ?_, ?_, ?_, ?_, ?_, ?_, ?_⟩
  · rw [slcSD_ms3 b1 (by omega) (Nat.le_refl _) rfl, ho]; rfl
  · rw [slcSD_ms b2, ho]; simp
  · rw [slcSD_ms b3, ho]; simp
  · rw [visY_ms, ho, Option.map_some, fm_drop len_inC, List.take_of_length_le (by rw [fm_len len_inC, List.length_drop, hn]; exact Nat.le_refl _)]
  · have hoa : objAt (pre ++ [.cells (l.flatMap inC)]) pre.length = some (l.flatMap inC) := by simp [objAt]
    have hal := all_inD (l.drop (i + 1))
    have hdl : ((l.drop (i + 1)).flatMap inC).length = (n - (i + 1)) * 37 := by rw [fm_len len_inC, List.length_drop, hn]
    unfold appX
    rw [if_neg (by omega)]
    simp only [hoa, Option.bind_some, hfl, hal, and_true, if_true, Nat.zero_add]
    by_cases hm : n - (i + 1) = 0
    · have h1 : i = n - 1 := by omega
      have h2 : l.drop (i + 1) = [] := List.drop_of_length_le (by omega)
      have h3 : l.eraseIdx i ++ l.drop (n - 1) = l := by rw [her, h2, List.append_nil, h1, List.take_append_drop]
      rw [if_pos hm, h3, ← h1]
    · rw [if_neg hm, if_pos ⟨Nat.mul_le_mul_right 37 (by omega), Nat.le_refl _⟩, set_preD]
      have h5 : l.drop i = (l.drop i).take (n - (i + 1)) ++ l.drop (n - 1) := by
        have := (List.take_append_drop (n - (i + 1)) (l.drop i)).symm
        rw [List.drop_drop, show i + (n - (i + 1)) = n - 1 by omega] at this
        exact this
      have h6 : l = l.take i ++ ((l.drop i).take (n - (i + 1)) ++ l.drop (n - 1)) := by rw [← h5, List.take_append_drop]
      have h7 := splice_in2 (A := l.take i) (B := (l.drop i).take (n - (i + 1))) (C := l.drop (n - 1)) (D := l.drop (i + 1)) (by simp [hn]; omega)
      rw [← h6, List.length_take, Nat.min_eq_left (by omega)] at h7
      simp only [List.set_cons_zero, h7, her, List.append_assoc, show i + (n - (i + 1)) = n - 1 by omega]
  · rw [lenD_ms, ho2, Option.map_some]; congr 2; omega
  · have hb0 : boundsD (n - 1) (some (.int .i64 ((n : Int) - 1))) (some (.int .i64 n)) = none := by
      simp only [boundsD, iD, Option.bind_some]
      rw [if_neg (by omega)]
    have hoa : objAt (pre ++ [.cells ((l.eraseIdx i ++ l.drop (n - 1)).flatMap inC)]) pre.length = some ((l.eraseIdx i ++ l.drop (n - 1)).flatMap inC) := by simp [objAt]
    rw [slcSD_ms2, hb0, orB_none]
    simp only [beyond, Bool.false_eq_true, if_false, Option.bind_some, iD, hoa, hl2]
    rw [if_pos ⟨trivial, by omega, by omega, by decide, by omega, Nat.le_refl _⟩, if_pos trivial]
    congr 2 <;> omega
  · rw [clrD_ms (by simp) (by decide) (by have := all_inD [inz]; rwa [List.flatMap_cons, List.flatMap_nil, List.append_nil] at this) (by omega), ho2, Option.map_some, set_preD]
    have h8 := splice_in2 (A := l.eraseIdx i) (B := l.drop (n - 1)) (C := []) (D := [inz]) (by simp [hn]; omega)
    rw [List.append_nil, hel] at h8
    have h9 : reps 1 (inC inz) = [inz].flatMap inC := by simp [reps]
    rw [h9, h8]
    rfl
theorem runs_delete {pre : List AObj} {l : List Ins} {i n : Nat} (hn : l.length = n) (hi : i < n) (hb : n ≤ 1000000) : RunsH tbl0 a72 [.ms pre.length (n * 37) 0 37 n (n * 37), .int .i64 i, .int .i64 ((i : Int) + 1)] (pre ++ [.cells (l.flatMap inC)]) (.ms pre.length (n * 37) 0 37 (n - 1) (n * 37)) (pre ++ [.cells ((l.eraseIdx i ++ [inz]).flatMap inC)]) := by
  refine ⟨?_⟩
  obtain ⟨s1, s2, s3, y, a, ln, s4, c⟩ := delF (pre := pre) hn hi hb
  have hne : ¬ (i : Int) = (i : Int) + 1 := by omega
  have hfl : (l.flatMap inC).length = n * 37 := by rw [fm_len len_inC, hn]
  have ho : objV (pre ++ [.cells (l.flatMap inC)]) pre.length (n * 37) = some (l.flatMap inC) := by rw [objV_preD, objV_zero, if_pos hfl]
  have hln : lenD (pre ++ [.cells (l.flatMap inC)]) (.ms pre.length (n * 37) 0 37 n (n * 37)) = some (.int .i64 n) := by rw [lenD_ms, ho]; rfl
  have hz : (inC inz) = [.int .i64 0, .int .i64 0, w8 0#8, w8 0#8, w8 0#8, w8 0#8, w8 0#8, w8 0#8, w8 0#8, w8 0#8, w8 0#8, w8 0#8, w8 0#8, w8 0#8, w8 0#8, w8 0#8, w8 0#8, w8 0#8, w8 0#8, w8 0#8, w8 0#8, w8 0#8, w8 0#8, w8 0#8, w8 0#8, w8 0#8, w8 0#8, w8 0#8, w8 0#8, w8 0#8, w8 0#8, w8 0#8, w8 0#8, w8 0#8, .int .i64 0, .int .i64 0, .int .i64 0] := rfl
  rw [hz] at c
  obtain ⟨H1, h1⟩ : ∃ H, pre ++ [AObj.cells (l.flatMap inC)] = H := ⟨_, rfl⟩
  obtain ⟨H2, h2⟩ : ∃ H, pre ++ [AObj.cells ((l.eraseIdx i ++ l.drop (n - 1)).flatMap inC)] = H := ⟨_, rfl⟩
  obtain ⟨H3, h3⟩ : ∃ H, pre ++ [AObj.cells ((l.eraseIdx i ++ [inz]).flatMap inC)] = H := ⟨_, rfl⟩
  rw [h1] at s1 s2 s3 y a hln
  rw [h2] at a ln s4 c
  rw [h3] at c
  rw [h1, h3]
  obtain ⟨V1, v1⟩ : ∃ V, DV.ms pre.length (n * 37) 0 37 n (n * 37) = V := ⟨_, rfl⟩
  obtain ⟨V2, v2⟩ : ∃ V, DV.ms pre.length (n * 37) 0 37 i (n * 37) = V := ⟨_, rfl⟩
  obtain ⟨V3, v3⟩ : ∃ V, DV.ms pre.length (n * 37) ((i + 1) * 37) 37 (n - (i + 1)) (n * 37) = V := ⟨_, rfl⟩
  obtain ⟨V4, v4⟩ : ∃ V, DV.ms pre.length (n * 37) 0 37 (n - 1) (n * 37) = V := ⟨_, rfl⟩
  obtain ⟨V5, v5⟩ : ∃ V, DV.ms pre.length (n * 37) ((n - 1) * 37) 37 1 (n * 37) = V := ⟨_, rfl⟩
  rw [v1] at s1 s2 s3 hln
  rw [v2] at s2 a
  rw [v3] at s3 y
  rw [v4] at a ln s4
  rw [v5] at s4 c
  rw [v1, v4]
  simp (disch := first | omega | (simp [-List.map_take, -List.map_drop, -List.map_set, -List.map_append, -List.drop_one] <;> omega) | fail) [-List.map_take, -List.map_drop, -List.map_set, -List.map_append, -List.drop_one, a72, hln, s1, s2, s3, y, a, ln, s4, c, hne]
noncomputable def cDel : List DV → List AObj → Option (DV × List AObj) := conH (fun a : List AObj × List Ins × Nat => a.2.2 < a.2.1.length ∧ a.2.1.length ≤ 1000000) (fun a => ([DV.ms a.1.length (a.2.1.length * 37) 0 37 a.2.1.length (a.2.1.length * 37), .int .i64 a.2.2, .int .i64 ((a.2.2 : Int) + 1)], a.1 ++ [AObj.cells (a.2.1.flatMap inC)])) (fun a => (DV.ms a.1.length (a.2.1.length * 37) 0 37 (a.2.1.length - 1) (a.2.1.length * 37), a.1 ++ [AObj.cells ((a.2.1.eraseIdx a.2.2 ++ [inz]).flatMap inC)]))
theorem cDel_eq {pre : List AObj} {l : List Ins} {i : Nat} (h1 : i < l.length) (h2 : l.length ≤ 1000000) : cDel [.ms pre.length (l.length * 37) 0 37 l.length (l.length * 37), .int .i64 i, .int .i64 ((i : Int) + 1)] (pre ++ [.cells (l.flatMap inC)]) = some (.ms pre.length (l.length * 37) 0 37 (l.length - 1) (l.length * 37), pre ++ [.cells ((l.eraseIdx i ++ [inz]).flatMap inC)]) :=
  conH_eq (A := fun a : List AObj × List Ins × Nat => a.2.2 < a.2.1.length ∧ a.2.1.length ≤ 1000000) (f := fun a => ([DV.ms a.1.length (a.2.1.length * 37) 0 37 a.2.1.length (a.2.1.length * 37), .int .i64 a.2.2, .int .i64 ((a.2.2 : Int) + 1)], a.1 ++ [AObj.cells (a.2.1.flatMap inC)])) (g := fun a => (DV.ms a.1.length (a.2.1.length * 37) 0 37 (a.2.1.length - 1) (a.2.1.length * 37), a.1 ++ [AObj.cells ((a.2.1.eraseIdx a.2.2 ++ [inz]).flatMap inC)])) (by
    rintro ⟨p, l, i⟩ ⟨p', l', i'⟩ e
    simp only [Prod.mk.injEq, List.cons.injEq, DV.int.injEq, and_true, true_and, Int.natCast_inj] at e
    obtain ⟨⟨-, e1, -⟩, e2⟩ := e
    have h := List.append_inj' e2 rfl
    obtain ⟨h1, h2⟩ := h
    simp only [List.cons.injEq, AObj.cells.injEq, and_true] at h2
    have h3 := fmap_inj len_inC (by decide) (fun _ _ => inC_inj) h2
    simp only [h1, h3, e1]) (pre, l, i) ⟨h1, h2⟩
theorem del_sound : (Con.heap cDel).Sound P 72 := conH_sound fun a h => calls_runs mix tbl0_sound Tryd.func72 a72_ok (runs_delete rfl h.1 h.2)
end Go.Proofs.YtjhakjeioppijaaDoor
set_option linter.unusedSimpArgs false
set_option linter.unusedVariables false
namespace Go.Proofs.YtjhakjeioppijaaDoor
open Go Go.Am
open Classical in
noncomputable def removeP (c : Clu) (id : Int) : Clu × Int :=
  if ¬ ValidC c then (clu0, 1)
  else if findIx c.i.l id < 0 then (clu0, 4)
  else (⟨c.clone.g, own (c.i.l.eraseIdx (findIx c.i.l id).toNat), c.next⟩, 0)
noncomputable def removeB (c : Clu) (id : Int) : DV := .tup [.agg (clC (removeP c id).1), .int .i64 (removeP c id).2]
noncomputable def T400 : Tbl := addT 72 (.heap cDel) T112
theorem T400_d : T400 72 = .heap cDel := by simp [T400]
theorem T400_v : T400 20 = .pure (cC1 validCB) := by simp [T400, T112]
theorem T400_c : T400 71 = .new cNC := by simp [T400, T112]
theorem T400_f : T400 24 = .pure (cCi fun c i => .int .i64 (findIx c.i.l i)) := by simp [T400, T112]
theorem T400_sound : T400.Sound P := addT_sound del_sound T112_sound
set_option maxRecDepth 20000 in
set_option maxHeartbeats 4000000 in
theorem runs_remove (c : Clu) (id : Int) : Runs T400 a31 [.agg (clC c), .int .i64 id] (removeB c id) := by
  refine ⟨?_⟩
  by_cases hv : ValidC c
  case neg =>
    have hd : removeP c id = (clu0, 1) := by rw [removeP, if_pos hv]
    simp (disch := first | omega | (simp [-List.map_take, -List.map_drop, -List.map_set, -List.map_append, -List.drop_one] <;> omega) | fail) [-List.map_take, -List.map_drop, -List.map_set, -List.map_append, -List.drop_one, a31, T400_v, cC1_eq, validCB, removeB, tv_false hv, hd, clC_clu0]
  by_cases hf : findIx c.i.l id < 0
  · have hd : removeP c id = (clu0, 4) := by rw [removeP, if_neg (fun h => h hv), if_pos hf]
    simp (disch := first | omega | (simp [-List.map_take, -List.map_drop, -List.map_set, -List.map_append, -List.drop_one] <;> omega) | fail) [-List.map_take, -List.map_drop, -List.map_set, -List.map_append, -List.drop_one, a31, T400_v, T400_f, cC1_eq, cCi_eq, validCB, removeB, tv_true hv, hf, hd, clC_clu0]
  obtain ⟨k, hk, hke, -, -⟩ := ixI_pos (p := fun x => decide (x.id = id)) (l := c.i.l) (by show 0 ≤ findIx c.i.l id; omega)
  have hke' : findIx c.i.l id = k := hke
  have hd : removeP c id = (⟨c.clone.g, own (c.i.l.eraseIdx k), c.next⟩, 0) := by rw [removeP, if_neg (fun h => h hv), if_neg hf, hke', Int.toNat_natCast]
  have hni := hv.ni
  have hel : (c.i.l.eraseIdx k).length = c.i.l.length - 1 := by rw [List.length_eraseIdx, if_pos hk]
  have ho := own_dv (l := c.i.l.eraseIdx k) (s := 37) (f := inC) (by omega)
  have hg := valid_gne hv hk
  have hi : c.i.l ≠ [] := fun e => by rw [e] at hk; simp at hk
  have ha : ∀ l : List Grp, (l.flatMap grC).length = l.length * 6 := fm_len len_grC
  have hb : ∀ l : List Ins, (l.flatMap inC).length = l.length * 37 := fm_len len_inC
  have e2 := mutO_ne (f := grC) hg
  have e4 := mutO_ne (f := grC) (clone_gne hg)
  have e6 := clone_g_ne hg
  have e7 := take_grs (l := c.g.l.map Grp.clone) (n := c.g.l.length) (by simp)
  have f1 := fun id => mutD_ne (id := id) (s := 37) (f := inC) hi
  have f2 := mutO_ne (f := inC) hi
  have e3 := fun id => mutD_ne (id := id) (s := 6) (f := grC) (clone_gne hg)
  have hk' : ¬ (k : Int) < 0 := by omega
  have hdel := fun a b c' d e => cDel_eq (pre := [a, b, c', d, e]) (l := c.i.l) (i := k) hk (by omega)
  simp only [List.length_cons, List.length_nil, List.cons_append, List.nil_append, Nat.zero_add, Nat.reduceAdd] at hdel
  have hpos : 0 < c.i.l.length := by omega
  obtain ⟨L, hL⟩ : ∃ L, c.i.l.eraseIdx k = L := ⟨_, rfl⟩
  obtain ⟨C, hC⟩ : ∃ C, (L ++ [inz]).flatMap inC = C := ⟨_, rfl⟩
  rw [hL] at hel
  have hCl : C.length = c.i.l.length * 37 := by rw [← hC, hb, List.length_append, hel]; simp; omega
  have hCt : C.take ((c.i.l.length - 1) * 37) = L.flatMap inC := by rw [← hC, fm_take len_inC, ← hel, List.take_left' rfl]
  have hsn : ∀ H k, snapL H k (L.flatMap inC) = some (L.flatMap inC) := fun H k => snapL_clean (fm_pure pure_inC _)
  rw [hL, hel] at ho
  simp only [hL, hC] at hdel
  rw [hL] at hd
  simp (disch := first | omega | (simp [-List.map_take, -List.map_drop, -List.map_set, -List.map_append, -List.drop_one] <;> omega) | fail) [-List.map_take, -List.map_drop, -List.map_set, -List.map_append, -List.drop_one, a31, T400_v, T400_f, T400_c, T400_d, cC1_eq, cCi_eq, validCB, removeB, tv_true hv, hke', hk', cNC_eq, clW, storeO_one, e2, e3, e4, e6, f1, f2, ha, hb, clone_gl, hdel, hCl, hCt, hsn, hd, clC_mk, ho, e7]
end Go.Proofs.YtjhakjeioppijaaDoor
set_option linter.unusedSimpArgs false
set_option linter.unusedVariables false
namespace Go.Proofs.YtjhakjeioppijaaDoor
open Go Go.Am
def a37 : AFn where
  code := (.seq (.region false [⟨none, (some 4), .box (.t 0)⟩,
    ⟨none, (some 6), .box (.t 2)⟩,
    ⟨none, (some 8), .alloc [.nils, .nils, (.int .i64 0)]⟩,
    ⟨none, (some 9), .mov (.k (.int .i64 0))⟩,
    ⟨none, (some 10), .mov (.k (.int .i64 0))⟩])
  (.seq (.seq (.region false [⟨none, (some 12), .load 3 true (.t 4)⟩,
    ⟨none, (some 13), .call (.k (.fn (.func 21) [] [])) [(.t 12)]⟩,
    ⟨none, (some 14), .un .not (.t 13)⟩,
    ⟨none, (some 15), .mov (.t 14)⟩,
    ⟨(some (15, false)), (some 16), .load 32 true (.t 6)⟩,
    ⟨(some (15, false)), (some 17), .build (rep 32 (w8 0#8)) []⟩,
    ⟨(some (15, false)), (some 18), .eqa false [(32, 0)] (.t 16) (.t 17)⟩,
    ⟨none, (some 19), .pick (.t 15) (.k (.bool true)) (.t 18)⟩,
    ⟨none, (some 20), .mov (.t 19)⟩,
    ⟨(some (20, false)), (some 21), .mov (.t 3)⟩,
    ⟨(some (20, false)), (some 22), .call (.k (.fn (.func 77) [] [])) [(.t 21)]⟩,
    ⟨(some (20, false)), (some 23), .un .not (.t 22)⟩,
    ⟨none, (some 24), .pick (.t 20) (.k (.bool true)) (.t 23)⟩])
  (.cond (.t 24) (.seq (.region false [⟨none, (some 25), .build [.nils, .nils, (.int .i64 0)] []⟩,
    ⟨none, none, .store 3 (.t 8) (.t 25)⟩,
    ⟨none, (some 9), .mov (.k (.int .i64 0))⟩,
    ⟨none, (some 10), .mov (.k (.int .i64 1))⟩])
  .ret)
  .skip))
  (.seq (.seq (.region false [⟨none, (some 26), .mov (.t 1)⟩,
    ⟨none, (some 27), .bin .lss (.t 26) (.k (.int .i64 0))⟩,
    ⟨none, (some 28), .mov (.t 27)⟩,
    ⟨(some (28, false)), (some 29), .mov (.t 1)⟩,
    ⟨(some (28, false)), (some 30), .fld 0 (.t 4)⟩,
    ⟨(some (28, false)), (some 31), .load 1 false (.t 30)⟩,
    ⟨(some (28, false)), (some 32), .len (.t 31)⟩,
    ⟨(some (28, false)), (some 33), .bin .geq (.t 29) (.t 32)⟩,
    ⟨none, (some 34), .pick (.t 28) (.k (.bool true)) (.t 33)⟩])
  (.cond (.t 34) (.seq (.region false [⟨none, (some 35), .build [.nils, .nils, (.int .i64 0)] []⟩,
    ⟨none, none, .store 3 (.t 8) (.t 35)⟩,
    ⟨none, (some 9), .mov (.k (.int .i64 0))⟩,
    ⟨none, (some 10), .mov (.k (.int .i64 4))⟩])
  .ret)
  .skip))
  (.seq (.seq (.region false [⟨none, (some 36), .fld 1 (.t 4)⟩,
    ⟨none, (some 37), .load 1 false (.t 36)⟩,
    ⟨none, (some 38), .len (.t 37)⟩,
    ⟨none, (some 39), .bin .geq (.t 38) (.k (.int .i64 200))⟩,
    ⟨none, (some 40), .mov (.t 39)⟩,
    ⟨(some (40, false)), (some 41), .fld 2 (.t 4)⟩,
    ⟨(some (40, false)), (some 42), .load 1 false (.t 41)⟩,
    ⟨(some (40, false)), (some 43), .bin .eql (.t 42) (.k (.int .i64 1099511627776))⟩,
    ⟨none, (some 44), .pick (.t 40) (.k (.bool true)) (.t 43)⟩])
  (.cond (.t 44) (.seq (.region false [⟨none, (some 45), .build [.nils, .nils, (.int .i64 0)] []⟩,
    ⟨none, none, .store 3 (.t 8) (.t 45)⟩,
    ⟨none, (some 9), .mov (.k (.int .i64 0))⟩,
    ⟨none, (some 10), .mov (.k (.int .i64 3))⟩])
  .ret)
  .skip))
  (.seq (.region false [⟨none, (some 46), .load 3 true (.t 4)⟩,
    ⟨none, (some 47), .call (.k (.fn (.func 76) [] [])) [(.t 46)]⟩,
    ⟨none, (some 11), .alloc [.nils, .nils, (.int .i64 0)]⟩,
    ⟨none, none, .store 3 (.t 11) (.t 47)⟩])
  (.seq (.region false [⟨none, (some 48), .fld 1 (.t 11)⟩,
    ⟨none, (some 49), .load 1 false (.t 48)⟩,
    ⟨none, (some 50), .fld 2 (.t 4)⟩,
    ⟨none, (some 51), .load 1 false (.t 50)⟩,
    ⟨none, (some 52), .mov (.t 1)⟩,
    ⟨none, (some 53), .load 32 true (.t 6)⟩,
    ⟨none, (some 54), .mov (.t 3)⟩,
    ⟨none, (some 55), .build [(.int .i64 0), (.int .i64 0), (w8 0#8), (w8 0#8), (w8 0#8), (w8 0#8), (w8 0#8), (w8 0#8), (w8 0#8), (w8 0#8), (w8 0#8), (w8 0#8), (w8 0#8), (w8 0#8), (w8 0#8), (w8 0#8), (w8 0#8), (w8 0#8), (w8 0#8), (w8 0#8), (w8 0#8), (w8 0#8), (w8 0#8), (w8 0#8), (w8 0#8), (w8 0#8), (w8 0#8), (w8 0#8), (w8 0#8), (w8 0#8), (w8 0#8), (w8 0#8), (w8 0#8), (w8 0#8), (.int .i64 0), (.int .i64 0), (.int .i64 0)] [(0, 1, (.t 51)), (1, 1, (.t 52)), (2, 32, (.t 53)), (34, 1, (.k (.int .i64 1))), (35, 1, (.t 54)), (36, 1, (.k (.int .i64 (-1))))]⟩,
    ⟨none, (some 56), .bsl 37 1 [(.int .i64 0), (.int .i64 0), (w8 0#8), (w8 0#8), (w8 0#8), (w8 0#8), (w8 0#8), (w8 0#8), (w8 0#8), (w8 0#8), (w8 0#8), (w8 0#8), (w8 0#8), (w8 0#8), (w8 0#8), (w8 0#8), (w8 0#8), (w8 0#8), (w8 0#8), (w8 0#8), (w8 0#8), (w8 0#8), (w8 0#8), (w8 0#8), (w8 0#8), (w8 0#8), (w8 0#8), (w8 0#8), (w8 0#8), (w8 0#8), (w8 0#8), (w8 0#8), (w8 0#8), (w8 0#8), (.int .i64 0), (.int .i64 0), (.int .i64 0)] [(0, 37, (.t 55))]⟩,
    ⟨none, (some 57), .app 37 72 (.t 49) (.t 56)⟩,
    ⟨none, (some 58), .fld 1 (.t 11)⟩,
    ⟨none, none, .store 1 (.t 58) (.t 57)⟩])
  (.seq (.region false [⟨none, (some 59), .fld 2 (.t 11)⟩,
    ⟨none, (some 60), .load 1 false (.t 59)⟩,
    ⟨none, (some 61), .bin .add (.t 60) (.k (.int .i64 1))⟩,
    ⟨none, (some 62), .fld 2 (.t 11)⟩,
    ⟨none, none, .store 1 (.t 62) (.t 61)⟩])
  (.seq (.region true [⟨none, (some 63), .load 3 true (.t 11)⟩,
    ⟨none, (some 64), .fld 2 (.t 4)⟩,
    ⟨none, (some 65), .load 1 false (.t 64)⟩,
    ⟨none, none, .store 3 (.t 8) (.t 63)⟩,
    ⟨none, (some 9), .mov (.t 65)⟩,
    ⟨none, (some 10), .mov (.k (.int .i64 0))⟩,
    ⟨none, none, .apart (.t 4) (.t 8)⟩,
    ⟨none, none, .apart (.t 64) (.t 8)⟩])
  .ret))))))))
  ntmps := 66
  res := [.cell 8 3 true, .tmp 9, .tmp 10]
theorem a37_ok : compileFn P Tryd.f37 = some a37 := by kernel_rfl
def a80 : AFn where
  code := (.seq (.region false [⟨none, (some 6), .box (.t 0)⟩,
    ⟨none, (some 12), .alloc [.nils, .nils, (.int .i64 0)]⟩,
    ⟨none, (some 13), .mov (.k (.int .i64 0))⟩])
  (.seq (.seq (.region false [⟨none, (some 17), .load 3 true (.t 6)⟩,
    ⟨none, (some 18), .call (.k (.fn (.func 21) [] [])) [(.t 17)]⟩,
    ⟨none, (some 19), .un .not (.t 18)⟩,
    ⟨none, (some 20), .mov (.t 19)⟩,
    ⟨(some (20, false)), (some 21), .mov (.t 2)⟩,
    ⟨(some (20, false)), (some 22), .call (.k (.fn (.func 77) [] [])) [(.t 21)]⟩,
    ⟨(some (20, false)), (some 23), .un .not (.t 22)⟩,
    ⟨none, (some 24), .pick (.t 20) (.k (.bool true)) (.t 23)⟩])
  (.cond (.t 24) (.seq (.region false [⟨none, (some 25), .build [.nils, .nils, (.int .i64 0)] []⟩,
    ⟨none, none, .store 3 (.t 12) (.t 25)⟩,
    ⟨none, (some 13), .mov (.k (.int .i64 1))⟩])
  .ret)
  .skip))
  (.seq (.region false [⟨none, (some 26), .load 3 true (.t 6)⟩,
    ⟨none, (some 27), .mov (.t 1)⟩,
    ⟨none, (some 28), .call (.k (.fn (.func 25) [] [])) [(.t 26), (.t 27)]⟩,
    ⟨none, (some 14), .mov (.t 28)⟩])
  (.seq (.seq (.region false [⟨none, (some 29), .mov (.t 14)⟩,
    ⟨none, (some 30), .bin .lss (.t 29) (.k (.int .i64 0))⟩])
  (.cond (.t 30) (.seq (.region false [⟨none, (some 31), .build [.nils, .nils, (.int .i64 0)] []⟩,
    ⟨none, none, .store 3 (.t 12) (.t 31)⟩,
    ⟨none, (some 13), .mov (.k (.int .i64 4))⟩])
  .ret)
  .skip))
  (.seq (.seq (.region false [⟨none, (some 32), .fld 1 (.t 6)⟩,
    ⟨none, (some 33), .load 1 false (.t 32)⟩,
    ⟨none, (some 34), .mov (.t 14)⟩,
    ⟨none, (some 35), .idxS 37 (.t 33) (.t 34)⟩,
    ⟨none, (some 36), .fld 34 (.t 35)⟩,
    ⟨none, (some 37), .load 1 false (.t 36)⟩,
    ⟨none, (some 15), .mov (.t 37)⟩])
  (.seq (.region false [⟨none, (some 38), .mov (.t 15)⟩,
    ⟨none, (some 39), .mov (.t 3)⟩,
    ⟨none, (some 40), .bin .neq (.t 38) (.t 39)⟩,
    ⟨none, (some 41), .mov (.t 40)⟩,
    ⟨(some (41, true)), (some 42), .mov (.t 15)⟩,
    ⟨(some (41, true)), (some 43), .mov (.t 4)⟩,
    ⟨(some (41, true)), (some 44), .bin .neq (.t 42) (.t 43)⟩,
    ⟨none, (some 45), .pick (.t 41) (.t 44) (.k (.bool false))⟩])
  (.cond (.t 45) (.seq (.region false [⟨none, (some 46), .build [.nils, .nils, (.int .i64 0)] []⟩,
    ⟨none, none, .store 3 (.t 12) (.t 46)⟩,
    ⟨none, (some 13), .mov (.k (.int .i64 30))⟩])
  .ret)
  .skip)))
  (.seq (.region false [⟨none, (some 47), .load 3 true (.t 6)⟩,
    ⟨none, (some 48), .call (.k (.fn (.func 76) [] [])) [(.t 47)]⟩,
    ⟨none, (some 16), .alloc [.nils, .nils, (.int .i64 0)]⟩,
    ⟨none, none, .store 3 (.t 16) (.t 48)⟩])
  (.seq (.region true [⟨none, (some 49), .fld 1 (.t 16)⟩,
    ⟨none, (some 50), .load 1 false (.t 49)⟩,
    ⟨none, (some 51), .mov (.t 14)⟩,
    ⟨none, (some 52), .fld 1 (.t 16)⟩,
    ⟨none, (some 53), .load 1 false (.t 52)⟩,
    ⟨none, (some 54), .mov (.t 14)⟩,
    ⟨none, (some 55), .mov (.t 5)⟩,
    ⟨none, (some 56), .mov (.t 2)⟩,
    ⟨none, (some 57), .idxS 37 (.t 50) (.t 51)⟩,
    ⟨none, (some 58), .fld 34 (.t 57)⟩,
    ⟨none, none, .store 1 (.t 58) (.t 55)⟩,
    ⟨none, (some 59), .idxS 37 (.t 53) (.t 54)⟩,
    ⟨none, (some 60), .fld 35 (.t 59)⟩,
    ⟨none, none, .store 1 (.t 60) (.t 56)⟩,
    ⟨none, none, .apart (.t 16) (.t 58)⟩,
    ⟨none, none, .apart (.t 52) (.t 58)⟩])
  (.seq (.region false [⟨none, (some 61), .load 3 true (.t 16)⟩,
    ⟨none, none, .store 3 (.t 12) (.t 61)⟩,
    ⟨none, (some 13), .mov (.k (.int .i64 0))⟩])
  .ret))))))))
  ntmps := 62
  res := [.cell 12 3 true, .tmp 13]
theorem a80_ok : compileFn P Tryd.f80 = some a80 := by kernel_rfl
def a39 : AFn where
  code := (.seq (.region false [⟨none, (some 3), .box (.t 0)⟩,
    ⟨none, (some 6), .alloc [.nils, .nils, (.int .i64 0)]⟩,
    ⟨none, (some 7), .mov (.k (.int .i64 0))⟩])
  (.seq (.region false [⟨none, (some 8), .load 3 true (.t 3)⟩,
    ⟨none, (some 9), .mov (.t 1)⟩,
    ⟨none, (some 10), .mov (.t 2)⟩,
    ⟨none, (some 11), .call (.k (.fn (.func 80) [] [])) [(.t 8), (.t 9), (.t 10), (.k (.int .i64 1)), (.k (.int .i64 1)), (.k (.int .i64 2))]⟩,
    ⟨none, (some 12), .ext (.t 11) 0⟩,
    ⟨none, (some 13), .ext (.t 11) 1⟩,
    ⟨none, none, .store 3 (.t 6) (.t 12)⟩,
    ⟨none, (some 7), .mov (.t 13)⟩])
  .ret))
  ntmps := 14
  res := [.cell 6 3 true, .tmp 7]
theorem a39_ok : compileFn P Tryd.f39 = some a39 := by kernel_rfl
def a41 : AFn where
  code := (.seq (.region false [⟨none, (some 3), .box (.t 0)⟩,
    ⟨none, (some 6), .alloc [.nils, .nils, (.int .i64 0)]⟩,
    ⟨none, (some 7), .mov (.k (.int .i64 0))⟩])
  (.seq (.region false [⟨none, (some 8), .load 3 true (.t 3)⟩,
    ⟨none, (some 9), .mov (.t 1)⟩,
    ⟨none, (some 10), .mov (.t 2)⟩,
    ⟨none, (some 11), .call (.k (.fn (.func 80) [] [])) [(.t 8), (.t 9), (.t 10), (.k (.int .i64 1)), (.k (.int .i64 2)), (.k (.int .i64 3))]⟩,
    ⟨none, (some 12), .ext (.t 11) 0⟩,
    ⟨none, (some 13), .ext (.t 11) 1⟩,
    ⟨none, none, .store 3 (.t 6) (.t 12)⟩,
    ⟨none, (some 7), .mov (.t 13)⟩])
  .ret))
  ntmps := 14
  res := [.cell 6 3 true, .tmp 7]
theorem a41_ok : compileFn P Tryd.f41 = some a41 := by kernel_rfl
def a42 : AFn where
  code := (.seq (.region false [⟨none, (some 2), .box (.t 0)⟩,
    ⟨none, (some 4), .alloc [.nils, .nils, (.int .i64 0)]⟩,
    ⟨none, (some 5), .mov (.k (.int .i64 0))⟩])
  (.seq (.seq (.region false [⟨none, (some 8), .load 3 true (.t 2)⟩,
    ⟨none, (some 9), .call (.k (.fn (.func 21) [] [])) [(.t 8)]⟩,
    ⟨none, (some 10), .un .not (.t 9)⟩])
  (.cond (.t 10) (.seq (.region false [⟨none, (some 11), .build [.nils, .nils, (.int .i64 0)] []⟩,
    ⟨none, none, .store 3 (.t 4) (.t 11)⟩,
    ⟨none, (some 5), .mov (.k (.int .i64 1))⟩])
  .ret)
  .skip))
  (.seq (.region false [⟨none, (some 12), .load 3 true (.t 2)⟩,
    ⟨none, (some 13), .mov (.t 1)⟩,
    ⟨none, (some 14), .call (.k (.fn (.func 25) [] [])) [(.t 12), (.t 13)]⟩,
    ⟨none, (some 6), .mov (.t 14)⟩])
  (.seq (.seq (.region false [⟨none, (some 15), .mov (.t 6)⟩,
    ⟨none, (some 16), .bin .lss (.t 15) (.k (.int .i64 0))⟩])
  (.cond (.t 16) (.seq (.region false [⟨none, (some 17), .build [.nils, .nils, (.int .i64 0)] []⟩,
    ⟨none, none, .store 3 (.t 4) (.t 17)⟩,
    ⟨none, (some 5), .mov (.k (.int .i64 4))⟩])
  .ret)
  .skip))
  (.seq (.region false [⟨none, (some 18), .load 3 true (.t 2)⟩,
    ⟨none, (some 19), .call (.k (.fn (.func 76) [] [])) [(.t 18)]⟩,
    ⟨none, (some 7), .alloc [.nils, .nils, (.int .i64 0)]⟩,
    ⟨none, none, .store 3 (.t 7) (.t 19)⟩])
  (.seq (.region true [⟨none, (some 20), .fld 1 (.t 2)⟩,
    ⟨none, (some 21), .load 1 false (.t 20)⟩,
    ⟨none, (some 22), .mov (.t 6)⟩,
    ⟨none, (some 23), .slcS 37 (.t 21) none (some (.t 22)) none⟩,
    ⟨none, (some 24), .app 37 72 (.k .nils) (.t 23)⟩,
    ⟨none, (some 25), .fld 1 (.t 2)⟩,
    ⟨none, (some 26), .load 1 false (.t 25)⟩,
    ⟨none, (some 27), .mov (.t 6)⟩,
    ⟨none, (some 28), .bin .add (.t 27) (.k (.int .i64 1))⟩,
    ⟨none, (some 29), .slcS 37 (.t 26) (some (.t 28)) none none⟩,
    ⟨none, (some 30), .app 37 72 (.t 24) (.t 29)⟩,
    ⟨none, (some 31), .fld 1 (.t 7)⟩,
    ⟨none, none, .store 1 (.t 31) (.t 30)⟩,
    ⟨none, none, .apart (.t 2) (.t 24)⟩,
    ⟨none, none, .apart (.t 25) (.t 24)⟩,
    ⟨none, none, .apart (.t 26) (.t 24)⟩])
  (.seq (.region false [⟨none, (some 32), .load 3 true (.t 7)⟩,
    ⟨none, none, .store 3 (.t 4) (.t 32)⟩,
    ⟨none, (some 5), .mov (.k (.int .i64 0))⟩])
  .ret)))))))
  ntmps := 33
  res := [.cell 4 3 true, .tmp 5]
theorem a42_ok : compileFn P Tryd.f42 = some a42 := by kernel_rfl
def a43L0 : ACode :=
  (.seq (.seq (.region false [⟨none, (some 20), .mov (.t 8)⟩,
    ⟨none, (some 21), .fld 1 (.t 7)⟩,
    ⟨none, (some 22), .load 1 false (.t 21)⟩,
    ⟨none, (some 23), .len (.t 22)⟩,
    ⟨none, (some 24), .bin .lss (.t 20) (.t 23)⟩])
  (.cond (.t 24) .skip
  (.exit 0)))
  (.seq (.block 1 (.seq (.region false [⟨none, (some 27), .mov (.t 8)⟩,
    ⟨none, (some 28), .mov (.t 1)⟩,
    ⟨none, (some 29), .len (.t 28)⟩,
    ⟨none, (some 30), .bin .geq (.t 27) (.t 29)⟩,
    ⟨none, (some 31), .mov (.t 30)⟩,
    ⟨(some (31, false)), (some 32), .mov (.t 1)⟩,
    ⟨(some (31, false)), (some 33), .mov (.t 8)⟩,
    ⟨(some (31, false)), (some 34), .idxS 1 (.t 32) (.t 33)⟩,
    ⟨(some (31, false)), (some 35), .load 1 false (.t 34)⟩,
    ⟨(some (31, false)), (some 36), .un .not (.t 35)⟩,
    ⟨none, (some 37), .pick (.t 31) (.k (.bool true)) (.t 36)⟩])
  (.cond (.t 37) (.region false [⟨none, (some 38), .fld 1 (.t 7)⟩,
    ⟨none, (some 39), .load 1 false (.t 38)⟩,
    ⟨none, (some 40), .mov (.t 8)⟩,
    ⟨none, (some 41), .idxS 37 (.t 39) (.t 40)⟩,
    ⟨none, (some 42), .fld 36 (.t 41)⟩,
    ⟨none, none, .store 1 (.t 42) (.k (.int .i64 (-1)))⟩])
  (.seq (.region false [⟨none, (some 43), .fld 1 (.t 7)⟩,
    ⟨none, (some 44), .load 1 false (.t 43)⟩,
    ⟨none, (some 45), .mov (.t 8)⟩,
    ⟨none, (some 46), .idxS 37 (.t 44) (.t 45)⟩,
    ⟨none, (some 47), .fld 36 (.t 46)⟩,
    ⟨none, (some 48), .load 1 false (.t 47)⟩,
    ⟨none, (some 49), .bin .eql (.t 48) (.k (.int .i64 (-1)))⟩])
  (.cond (.t 49) (.region false [⟨none, (some 50), .fld 1 (.t 7)⟩,
    ⟨none, (some 51), .load 1 false (.t 50)⟩,
    ⟨none, (some 52), .mov (.t 8)⟩,
    ⟨none, (some 53), .mov (.t 2)⟩,
    ⟨none, (some 54), .idxS 37 (.t 51) (.t 52)⟩,
    ⟨none, (some 55), .fld 36 (.t 54)⟩,
    ⟨none, none, .store 1 (.t 55) (.t 53)⟩])
  .skip)))))
  (.region false [⟨none, (some 25), .mov (.t 8)⟩,
    ⟨none, (some 26), .bin .add (.t 25) (.k (.int .i64 1))⟩,
    ⟨none, (some 8), .mov (.t 26)⟩])))
def a43S0 (x1 x2 x6 x7 x8 : DV) (h : List AObj) : St := ⟨[.junk, x1, x2, .junk, .junk, .junk, x6, x7, x8] ++ js 48, h⟩
def a43 : AFn where
  code := (.seq (.region false [⟨none, (some 3), .box (.t 0)⟩,
    ⟨none, (some 6), .alloc [.nils, .nils, (.int .i64 0)]⟩])
  (.seq (.seq (.region false [⟨none, (some 9), .load 3 true (.t 3)⟩,
    ⟨none, (some 10), .call (.k (.fn (.func 21) [] [])) [(.t 9)]⟩,
    ⟨none, (some 11), .un .not (.t 10)⟩,
    ⟨none, (some 12), .mov (.t 11)⟩,
    ⟨(some (12, false)), (some 13), .mov (.t 2)⟩,
    ⟨(some (12, false)), (some 14), .call (.k (.fn (.func 77) [] [])) [(.t 13)]⟩,
    ⟨(some (12, false)), (some 15), .un .not (.t 14)⟩,
    ⟨none, (some 16), .pick (.t 12) (.k (.bool true)) (.t 15)⟩])
  (.cond (.t 16) (.seq (.region false [⟨none, (some 17), .load 3 true (.t 3)⟩,
    ⟨none, none, .store 3 (.t 6) (.t 17)⟩])
  .ret)
  .skip))
  (.seq (.region false [⟨none, (some 18), .load 3 true (.t 3)⟩,
    ⟨none, (some 19), .call (.k (.fn (.func 76) [] [])) [(.t 18)]⟩,
    ⟨none, (some 7), .alloc [.nils, .nils, (.int .i64 0)]⟩,
    ⟨none, none, .store 3 (.t 7) (.t 19)⟩])
  (.seq (.seq (.region false [⟨none, (some 8), .mov (.k (.int .i64 0))⟩])
  (.block 0 (.loop a43L0)))
  (.seq (.region false [⟨none, (some 56), .load 3 true (.t 7)⟩,
    ⟨none, none, .store 3 (.t 6) (.t 56)⟩])
  .ret)))))
  ntmps := 57
  res := [.cell 6 3 true]
theorem a43_ok : compileFn P Tryd.f43 = some a43 := by kernel_rfl
def a82 : AFn where
  code := (.seq (.region false [⟨none, (some 2), .box (.t 0)⟩,
    ⟨none, (some 3), .box (.t 1)⟩,
    ⟨none, (some 4), .mov (.k (.bool false))⟩])
  (.seq (.region false [⟨none, (some 5), .fld 0 (.t 2)⟩,
    ⟨none, (some 6), .load 1 false (.t 5)⟩,
    ⟨none, (some 7), .fld 0 (.t 3)⟩,
    ⟨none, (some 8), .load 1 false (.t 7)⟩,
    ⟨none, (some 9), .bin .eql (.t 6) (.t 8)⟩,
    ⟨none, (some 10), .mov (.t 9)⟩,
    ⟨(some (10, true)), (some 11), .fld 1 (.t 2)⟩,
    ⟨(some (10, true)), (some 12), .load 1 false (.t 11)⟩,
    ⟨(some (10, true)), (some 13), .fld 1 (.t 3)⟩,
    ⟨(some (10, true)), (some 14), .load 1 false (.t 13)⟩,
    ⟨(some (10, true)), (some 15), .bin .eql (.t 12) (.t 14)⟩,
    ⟨none, (some 16), .pick (.t 10) (.t 15) (.k (.bool false))⟩,
    ⟨none, (some 17), .mov (.t 16)⟩,
    ⟨(some (17, true)), (some 18), .fld 2 (.t 2)⟩,
    ⟨(some (17, true)), (some 19), .load 1 false (.t 18)⟩,
    ⟨(some (17, true)), (some 20), .fld 2 (.t 3)⟩,
    ⟨(some (17, true)), (some 21), .load 1 false (.t 20)⟩,
    ⟨(some (17, true)), (some 22), .bin .eql (.t 19) (.t 21)⟩,
    ⟨none, (some 23), .pick (.t 17) (.t 22) (.k (.bool false))⟩,
    ⟨none, (some 24), .mov (.t 23)⟩,
    ⟨(some (24, true)), (some 25), .fld 3 (.t 2)⟩,
    ⟨(some (24, true)), (some 26), .load 1 false (.t 25)⟩,
    ⟨(some (24, true)), (some 27), .fld 3 (.t 3)⟩,
    ⟨(some (24, true)), (some 28), .load 1 false (.t 27)⟩,
    ⟨(some (24, true)), (some 29), .bin .eql (.t 26) (.t 28)⟩,
    ⟨none, (some 30), .pick (.t 24) (.t 29) (.k (.bool false))⟩,
    ⟨none, (some 31), .mov (.t 30)⟩,
    ⟨(some (31, true)), (some 32), .fld 4 (.t 2)⟩,
    ⟨(some (31, true)), (some 33), .load 1 false (.t 32)⟩,
    ⟨(some (31, true)), (some 34), .fld 4 (.t 3)⟩,
    ⟨(some (31, true)), (some 35), .load 1 false (.t 34)⟩,
    ⟨(some (31, true)), (some 36), .bin .eql (.t 33) (.t 35)⟩,
    ⟨none, (some 37), .pick (.t 31) (.t 36) (.k (.bool false))⟩,
    ⟨none, (some 38), .mov (.t 37)⟩,
    ⟨(some (38, true)), (some 39), .fld 5 (.t 2)⟩,
    ⟨(some (38, true)), (some 40), .load 1 false (.t 39)⟩,
    ⟨(some (38, true)), (some 41), .fld 5 (.t 3)⟩,
    ⟨(some (38, true)), (some 42), .load 1 false (.t 41)⟩,
    ⟨(some (38, true)), (some 43), .call (.k (.fn (.func 107) [] [])) [(.t 40), (.t 42)]⟩,
    ⟨none, (some 44), .pick (.t 38) (.t 43) (.k (.bool false))⟩,
    ⟨none, (some 4), .mov (.t 44)⟩])
  .ret))
  ntmps := 45
  res := [.tmp 4]
theorem a82_ok : compileFn P Tryd.f82 = some a82 := by kernel_rfl
def a44L0 : ACode :=
  (.seq (.seq (.region false [⟨none, (some 30), .mov (.t 5)⟩,
    ⟨none, (some 31), .fld 0 (.t 2)⟩,
    ⟨none, (some 32), .load 1 false (.t 31)⟩,
    ⟨none, (some 33), .len (.t 32)⟩,
    ⟨none, (some 34), .bin .lss (.t 30) (.t 33)⟩])
  (.cond (.t 34) .skip
  (.exit 0)))
  (.seq (.block 1 (.seq (.region true [⟨none, (some 37), .fld 0 (.t 2)⟩,
    ⟨none, (some 38), .load 1 false (.t 37)⟩,
    ⟨none, (some 39), .mov (.t 5)⟩,
    ⟨none, (some 40), .idxS 6 (.t 38) (.t 39)⟩,
    ⟨none, (some 41), .load 6 true (.t 40)⟩,
    ⟨none, (some 42), .fld 0 (.t 3)⟩,
    ⟨none, (some 43), .load 1 false (.t 42)⟩,
    ⟨none, (some 44), .mov (.t 5)⟩,
    ⟨none, (some 45), .idxS 6 (.t 43) (.t 44)⟩,
    ⟨none, (some 46), .load 6 true (.t 45)⟩,
    ⟨none, (some 47), .callN (.k (.fn (.func 82) [] [])) [(.t 41), (.t 46)]⟩,
    ⟨none, (some 48), .un .not (.t 47)⟩])
  (.cond (.t 48) (.seq (.region false [⟨none, (some 4), .mov (.k (.bool false))⟩])
  .ret)
  .skip)))
  (.region false [⟨none, (some 35), .mov (.t 5)⟩,
    ⟨none, (some 36), .bin .add (.t 35) (.k (.int .i64 1))⟩,
    ⟨none, (some 5), .mov (.t 36)⟩])))
def a44S0 (x2 x3 x5 : DV) (h : List AObj) : St := ⟨[.junk, .junk, x2, x3, .junk, x5] ++ js 61, h⟩
def a44L1 : ACode :=
  (.seq (.seq (.region false [⟨none, (some 49), .mov (.t 6)⟩,
    ⟨none, (some 50), .fld 1 (.t 2)⟩,
    ⟨none, (some 51), .load 1 false (.t 50)⟩,
    ⟨none, (some 52), .len (.t 51)⟩,
    ⟨none, (some 53), .bin .lss (.t 49) (.t 52)⟩])
  (.cond (.t 53) .skip
  (.exit 2)))
  (.seq (.block 3 (.seq (.region true [⟨none, (some 56), .fld 1 (.t 2)⟩,
    ⟨none, (some 57), .load 1 false (.t 56)⟩,
    ⟨none, (some 58), .mov (.t 6)⟩,
    ⟨none, (some 59), .idxS 37 (.t 57) (.t 58)⟩,
    ⟨none, (some 60), .load 37 true (.t 59)⟩,
    ⟨none, (some 61), .fld 1 (.t 3)⟩,
    ⟨none, (some 62), .load 1 false (.t 61)⟩,
    ⟨none, (some 63), .mov (.t 6)⟩,
    ⟨none, (some 64), .idxS 37 (.t 62) (.t 63)⟩,
    ⟨none, (some 65), .load 37 true (.t 64)⟩,
    ⟨none, (some 66), .eqa true [(37, 0)] (.t 60) (.t 65)⟩])
  (.cond (.t 66) (.seq (.region false [⟨none, (some 4), .mov (.k (.bool false))⟩])
  .ret)
  .skip)))
  (.region false [⟨none, (some 54), .mov (.t 6)⟩,
    ⟨none, (some 55), .bin .add (.t 54) (.k (.int .i64 1))⟩,
    ⟨none, (some 6), .mov (.t 55)⟩])))
def a44S1 (x2 x3 x6 : DV) (h : List AObj) : St := ⟨[.junk, .junk, x2, x3, .junk, .junk, x6] ++ js 60, h⟩
def a44 : AFn where
  code := (.seq (.region false [⟨none, (some 2), .box (.t 0)⟩,
    ⟨none, (some 3), .box (.t 1)⟩,
    ⟨none, (some 4), .mov (.k (.bool false))⟩])
  (.seq (.seq (.region false [⟨none, (some 7), .fld 0 (.t 2)⟩,
    ⟨none, (some 8), .load 1 false (.t 7)⟩,
    ⟨none, (some 9), .len (.t 8)⟩,
    ⟨none, (some 10), .fld 0 (.t 3)⟩,
    ⟨none, (some 11), .load 1 false (.t 10)⟩,
    ⟨none, (some 12), .len (.t 11)⟩,
    ⟨none, (some 13), .bin .neq (.t 9) (.t 12)⟩,
    ⟨none, (some 14), .mov (.t 13)⟩,
    ⟨(some (14, false)), (some 15), .fld 1 (.t 2)⟩,
    ⟨(some (14, false)), (some 16), .load 1 false (.t 15)⟩,
    ⟨(some (14, false)), (some 17), .len (.t 16)⟩,
    ⟨(some (14, false)), (some 18), .fld 1 (.t 3)⟩,
    ⟨(some (14, false)), (some 19), .load 1 false (.t 18)⟩,
    ⟨(some (14, false)), (some 20), .len (.t 19)⟩,
    ⟨(some (14, false)), (some 21), .bin .neq (.t 17) (.t 20)⟩,
    ⟨none, (some 22), .pick (.t 14) (.k (.bool true)) (.t 21)⟩,
    ⟨none, (some 23), .mov (.t 22)⟩,
    ⟨(some (23, false)), (some 24), .fld 2 (.t 2)⟩,
    ⟨(some (23, false)), (some 25), .load 1 false (.t 24)⟩,
    ⟨(some (23, false)), (some 26), .fld 2 (.t 3)⟩,
    ⟨(some (23, false)), (some 27), .load 1 false (.t 26)⟩,
    ⟨(some (23, false)), (some 28), .bin .neq (.t 25) (.t 27)⟩,
    ⟨none, (some 29), .pick (.t 23) (.k (.bool true)) (.t 28)⟩])
  (.cond (.t 29) (.seq (.region false [⟨none, (some 4), .mov (.k (.bool false))⟩])
  .ret)
  .skip))
  (.seq (.seq (.region false [⟨none, (some 5), .mov (.k (.int .i64 0))⟩])
  (.block 0 (.loop a44L0)))
  (.seq (.seq (.region false [⟨none, (some 6), .mov (.k (.int .i64 0))⟩])
  (.block 2 (.loop a44L1)))
  (.seq (.region false [⟨none, (some 4), .mov (.k (.bool true))⟩])
  .ret)))))
  ntmps := 67
  res := [.tmp 4]
theorem a44_ok : compileFn P Tryd.f44 = some a44 := by kernel_rfl
end Go.Proofs.YtjhakjeioppijaaDoor
set_option linter.unusedSimpArgs false
set_option linter.unusedVariables false
namespace Go.Proofs.YtjhakjeioppijaaDoor
open Go Go.Am
def a17 : AFn where
  code := (.seq (.region false [⟨none, (some 0), .mov (.k (.bool false))⟩])
  (.seq (.region false [⟨none, (some 11), .build [.nils, .nils, (.int .i64 0)] [(2, 1, (.k (.int .i64 1)))]⟩,
    ⟨none, (some 12), .build (rep 32 (w8 0#8)) [(0, 1, (.k (w8 1#8)))]⟩,
    ⟨none, (some 13), .bsl 32 1 (rep 32 (w8 0#8)) [(0, 32, (.t 12))]⟩,
    ⟨none, (some 14), .build [(.str []), (.str []), (.int .i64 0), (.int .i64 0), (.int .i64 0), .nils] [(0, 1, (.k (.str [97]))), (1, 1, (.k (.str [98]))), (2, 1, (.k (.int .i64 1))), (5, 1, (.t 13))]⟩,
    ⟨none, (some 15), .call (.k (.fn (.func 35) [] [])) [(.t 11), (.t 14)]⟩,
    ⟨none, (some 10), .mov (.t 15)⟩,
    ⟨none, (some 16), .ext (.t 10) 0⟩,
    ⟨none, (some 17), .ext (.t 10) 1⟩,
    ⟨none, (some 1), .alloc [.nils, .nils, (.int .i64 0)]⟩,
    ⟨none, none, .store 3 (.t 1) (.t 16)⟩,
    ⟨none, (some 2), .mov (.t 17)⟩])
  (.seq (.region false [⟨none, (some 19), .load 3 true (.t 1)⟩,
    ⟨none, (some 20), .build (rep 32 (w8 0#8)) [(0, 1, (.k (w8 1#8)))]⟩,
    ⟨none, (some 21), .call (.k (.fn (.func 32) [] [])) [(.t 19), (.k (.int .i64 0)), (.t 20), (.k (.int .i64 5))]⟩,
    ⟨none, (some 18), .mov (.t 21)⟩,
    ⟨none, (some 22), .ext (.t 18) 0⟩,
    ⟨none, (some 23), .ext (.t 18) 1⟩,
    ⟨none, (some 24), .ext (.t 18) 2⟩,
    ⟨none, (some 3), .alloc [.nils, .nils, (.int .i64 0)]⟩,
    ⟨none, none, .store 3 (.t 3) (.t 22)⟩,
    ⟨none, (some 4), .mov (.t 23)⟩,
    ⟨none, (some 5), .mov (.t 24)⟩])
  (.seq (.region false [⟨none, (some 26), .load 3 true (.t 3)⟩,
    ⟨none, (some 27), .call (.k (.fn (.func 38) [] [])) [(.t 26), (.k (.int .i64 1)), (.k (.int .i64 6))]⟩,
    ⟨none, (some 25), .mov (.t 27)⟩,
    ⟨none, (some 28), .ext (.t 25) 0⟩,
    ⟨none, (some 29), .ext (.t 25) 1⟩,
    ⟨none, (some 6), .alloc [.nils, .nils, (.int .i64 0)]⟩,
    ⟨none, none, .store 3 (.t 6) (.t 28)⟩,
    ⟨none, (some 7), .mov (.t 29)⟩])
  (.seq (.region false [⟨none, (some 31), .load 3 true (.t 6)⟩,
    ⟨none, (some 32), .call (.k (.fn (.func 38) [] [])) [(.t 31), (.k (.int .i64 1)), (.k (.int .i64 7))]⟩,
    ⟨none, (some 30), .mov (.t 32)⟩,
    ⟨none, (some 33), .ext (.t 30) 0⟩,
    ⟨none, (some 34), .ext (.t 30) 1⟩,
    ⟨none, (some 8), .alloc [.nils, .nils, (.int .i64 0)]⟩,
    ⟨none, none, .store 3 (.t 8) (.t 33)⟩,
    ⟨none, (some 9), .mov (.t 34)⟩])
  (.seq (.region false [⟨none, (some 35), .mov (.t 2)⟩,
    ⟨none, (some 36), .bin .eql (.t 35) (.k (.int .i64 0))⟩,
    ⟨none, (some 37), .mov (.t 36)⟩,
    ⟨(some (37, true)), (some 38), .mov (.t 5)⟩,
    ⟨(some (37, true)), (some 39), .bin .eql (.t 38) (.k (.int .i64 0))⟩,
    ⟨none, (some 40), .pick (.t 37) (.t 39) (.k (.bool false))⟩,
    ⟨none, (some 41), .mov (.t 40)⟩,
    ⟨(some (41, true)), (some 42), .mov (.t 7)⟩,
    ⟨(some (41, true)), (some 43), .bin .eql (.t 42) (.k (.int .i64 0))⟩,
    ⟨none, (some 44), .pick (.t 41) (.t 43) (.k (.bool false))⟩,
    ⟨none, (some 45), .mov (.t 44)⟩,
    ⟨(some (45, true)), (some 46), .mov (.t 4)⟩,
    ⟨(some (45, true)), (some 47), .bin .eql (.t 46) (.k (.int .i64 1))⟩,
    ⟨none, (some 48), .pick (.t 45) (.t 47) (.k (.bool false))⟩,
    ⟨none, (some 49), .mov (.t 48)⟩,
    ⟨(some (49, true)), (some 50), .fld 1 (.t 6)⟩,
    ⟨(some (49, true)), (some 51), .load 1 false (.t 50)⟩,
    ⟨(some (49, true)), (some 52), .idxS 37 (.t 51) (.k (.int .i64 0))⟩,
    ⟨(some (49, true)), (some 53), .fld 34 (.t 52)⟩,
    ⟨(some (49, true)), (some 54), .load 1 false (.t 53)⟩,
    ⟨(some (49, true)), (some 55), .bin .eql (.t 54) (.k (.int .i64 2))⟩,
    ⟨none, (some 56), .pick (.t 49) (.t 55) (.k (.bool false))⟩,
    ⟨none, (some 57), .mov (.t 56)⟩,
    ⟨(some (57, true)), (some 58), .mov (.t 9)⟩,
    ⟨(some (57, true)), (some 59), .bin .eql (.t 58) (.k (.int .i64 30))⟩,
    ⟨none, (some 60), .pick (.t 57) (.t 59) (.k (.bool false))⟩,
    ⟨none, (some 61), .mov (.t 60)⟩,
    ⟨(some (61, true)), (some 62), .load 3 true (.t 6)⟩,
    ⟨(some (61, true)), (some 63), .call (.k (.fn (.func 20) [] [])) [(.t 62)]⟩,
    ⟨none, (some 64), .pick (.t 61) (.t 63) (.k (.bool false))⟩,
    ⟨none, (some 65), .mov (.t 64)⟩,
    ⟨(some (65, true)), (some 66), .load 3 true (.t 6)⟩,
    ⟨(some (65, true)), (some 67), .call (.k (.fn (.func 24) [] [])) [(.t 66), (.k (.int .i64 1))]⟩,
    ⟨(some (65, true)), (some 68), .bin .eql (.t 67) (.k (.int .i64 0))⟩,
    ⟨none, (some 69), .pick (.t 65) (.t 68) (.k (.bool false))⟩,
    ⟨none, (some 70), .mov (.t 69)⟩,
    ⟨(some (70, true)), (some 71), .load 3 true (.t 6)⟩,
    ⟨(some (70, true)), (some 72), .call (.k (.fn (.func 22) [] [])) [(.t 71), (.k (.str [97])), (.k (.str [98]))]⟩,
    ⟨(some (70, true)), (some 73), .bin .eql (.t 72) (.k (.int .i64 0))⟩,
    ⟨none, (some 74), .pick (.t 70) (.t 73) (.k (.bool false))⟩,
    ⟨none, (some 0), .mov (.t 74)⟩])
  .ret))))))
  ntmps := 75
  res := [.tmp 0]
theorem a17_ok : compileFn P Tryd.f17 = some a17 := by kernel_rfl
def a3 : AFn where
  code := (.seq (.region false [⟨none, (some 5), .box (.t 0)⟩,
    ⟨none, (some 6), .box (.t 1)⟩,
    ⟨none, (some 10), .mov (.k (.bool false))⟩])
  (.seq (.seq (.region false [⟨none, (some 11), .load 3 true (.t 5)⟩,
    ⟨none, (some 12), .call (.k (.fn (.func 15) [] [])) [(.t 11)]⟩,
    ⟨none, (some 13), .un .not (.t 12)⟩,
    ⟨none, (some 14), .mov (.t 13)⟩,
    ⟨(some (14, false)), (some 15), .load 6 true (.t 6)⟩,
    ⟨(some (14, false)), (some 16), .call (.k (.fn (.func 16) [] [])) [(.t 15)]⟩,
    ⟨(some (14, false)), (some 17), .un .not (.t 16)⟩,
    ⟨none, (some 18), .pick (.t 14) (.k (.bool true)) (.t 17)⟩])
  (.cond (.t 18) (.seq (.region false [⟨none, (some 19), .call (.k (.fn (.func 17) [] [])) []⟩,
    ⟨none, (some 10), .mov (.t 19)⟩])
  .ret)
  .skip))
  (.seq (.region true [⟨none, (some 20), .load 6 true (.t 6)⟩,
    ⟨none, (some 22), .load 6 true (.t 6)⟩,
    ⟨none, (some 21), .callN (.k (.fn (.func 18) [] [])) [(.t 20)]⟩,
    ⟨none, (some 23), .callN (.k (.fn (.func 19) [] [])) [(.t 22)]⟩,
    ⟨none, (some 24), .eqb false (.t 21) (.t 23)⟩,
    ⟨none, (some 25), .mov (.t 24)⟩,
    ⟨(some (25, true)), (some 26), .load 3 true (.t 5)⟩,
    ⟨(some (25, true)), (some 28), .load 3 true (.t 5)⟩,
    ⟨(some (25, true)), (some 27), .callN (.k (.fn (.func 20) [] [])) [(.t 26)]⟩,
    ⟨(some (25, true)), (some 29), .callN (.k (.fn (.func 21) [] [])) [(.t 28)]⟩,
    ⟨(some (25, true)), (some 30), .eqb false (.t 27) (.t 29)⟩,
    ⟨none, (some 31), .pick (.t 25) (.t 30) (.k (.bool false))⟩,
    ⟨none, (some 32), .mov (.t 31)⟩,
    ⟨(some (32, true)), (some 33), .load 3 true (.t 5)⟩,
    ⟨(some (32, true)), (some 34), .mov (.t 2)⟩,
    ⟨(some (32, true)), (some 35), .mov (.t 3)⟩,
    ⟨(some (32, true)), (some 37), .load 3 true (.t 5)⟩,
    ⟨(some (32, true)), (some 38), .mov (.t 2)⟩,
    ⟨(some (32, true)), (some 39), .mov (.t 3)⟩,
    ⟨(some (32, true)), (some 36), .callN (.k (.fn (.func 22) [] [])) [(.t 33), (.t 34), (.t 35)]⟩,
    ⟨(some (32, true)), (some 40), .callN (.k (.fn (.func 23) [] [])) [(.t 37), (.t 38), (.t 39)]⟩,
    ⟨(some (32, true)), (some 41), .bin .eql (.t 36) (.t 40)⟩,
    ⟨none, (some 42), .pick (.t 32) (.t 41) (.k (.bool false))⟩,
    ⟨none, (some 43), .mov (.t 42)⟩,
    ⟨(some (43, true)), (some 44), .load 3 true (.t 5)⟩,
    ⟨(some (43, true)), (some 45), .mov (.t 4)⟩,
    ⟨(some (43, true)), (some 47), .load 3 true (.t 5)⟩,
    ⟨(some (43, true)), (some 48), .mov (.t 4)⟩,
    ⟨(some (43, true)), (some 46), .callN (.k (.fn (.func 24) [] [])) [(.t 44), (.t 45)]⟩,
    ⟨(some (43, true)), (some 49), .callN (.k (.fn (.func 25) [] [])) [(.t 47), (.t 48)]⟩,
    ⟨(some (43, true)), (some 50), .bin .eql (.t 46) (.t 49)⟩,
    ⟨none, (some 51), .pick (.t 43) (.t 50) (.k (.bool false))⟩,
    ⟨none, (some 52), .mov (.t 51)⟩,
    ⟨(some (52, true)), (some 53), .callN (.k (.fn (.func 17) [] [])) []⟩,
    ⟨none, (some 54), .pick (.t 52) (.t 53) (.k (.bool false))⟩,
    ⟨none, (some 10), .mov (.t 54)⟩])
  .ret)))
  ntmps := 55
  res := [.tmp 10]
end Go.Proofs.YtjhakjeioppijaaDoor
set_option linter.unusedSimpArgs false
set_option linter.unusedVariables false
namespace Go.Proofs.YtjhakjeioppijaaDoor
open Go Go.Am
noncomputable def cDep (g : Clu → Grp → DV) : List DV → Option DV := con (fun _ => True) (fun p : Clu × Grp => [.agg (clC p.1), .agg (grC p.2)]) (fun p => g p.1 p.2)
theorem cDep_eq {f : Clu → Grp → DV} {c : Clu} {g : Grp} : cDep f [.agg (clC c), .agg (grC g)] = some (f c g) :=
  con_inj (f := fun p : Clu × Grp => [.agg (clC p.1), .agg (grC p.2)]) (by
    rintro ⟨a, b⟩ ⟨a', b'⟩ e
    simp only [List.cons.injEq, DV.agg.injEq, and_true] at e
    rw [clC_inj e.1, grC_inj e.2]) (c, g)
noncomputable def cSta (f : Clu → Int → Dg → Int → DV) : List DV → Option DV := con (fun _ => True) (fun p : Clu × Int × Dg × Int => [.agg (clC p.1), .int .i64 p.2.1, .agg (dgC p.2.2.1), .int .i64 p.2.2.2]) (fun p => f p.1 p.2.1 p.2.2.1 p.2.2.2)
theorem cSta_eq {f : Clu → Int → Dg → Int → DV} {c : Clu} {g t : Int} {d : Dg} : cSta f [.agg (clC c), .int .i64 g, .agg (dgC d), .int .i64 t] = some (f c g d t) :=
  con_inj (f := fun p : Clu × Int × Dg × Int => [.agg (clC p.1), .int .i64 p.2.1, .agg (dgC p.2.2.1), .int .i64 p.2.2.2]) (by
    rintro ⟨a, b, c, d⟩ ⟨a', b', c', d'⟩ e
    simp only [List.cons.injEq, DV.agg.injEq, DV.int.injEq, and_true, true_and] at e
    rw [clC_inj e.1, e.2.1, dgC_inj e.2.2.1, e.2.2.2]) (c, g, d, t)
noncomputable def cCii (f : Clu → Int → Int → DV) : List DV → Option DV := con (fun _ => True) (fun p : Clu × Int × Int => [.agg (clC p.1), .int .i64 p.2.1, .int .i64 p.2.2]) (fun p => f p.1 p.2.1 p.2.2)
theorem cCii_eq {f : Clu → Int → Int → DV} {c : Clu} {g t : Int} : cCii f [.agg (clC c), .int .i64 g, .int .i64 t] = some (f c g t) :=
  con_inj (f := fun p : Clu × Int × Int => [.agg (clC p.1), .int .i64 p.2.1, .int .i64 p.2.2]) (by
    rintro ⟨a, b, d⟩ ⟨a', b', d'⟩ e
    simp only [List.cons.injEq, DV.agg.injEq, DV.int.injEq, and_true, true_and] at e
    rw [clC_inj e.1, e.2.1, e.2.2]) (c, g, t)
noncomputable def T116 : Tbl := addT 35 (.pure (cDep deployB)) (addT 32 (.pure (cSta startB)) (addT 38 (.pure (cCii fun c i t => changeB c i t 2)) (addT 40 (.pure (cCii fun c i t => changeB c i t 3)) (addT 20 (.pure (cC1 validCB)) (addT 24 (.pure (cCi fun c i => .int .i64 (findIx c.i.l i))) (addT 22 (.pure (cCSS grpD)) tbl0))))))
theorem T116_d : T116 35 = .pure (cDep deployB) := by simp [T116]
theorem T116_s : T116 32 = .pure (cSta startB) := by simp [T116]
theorem T116_r : T116 38 = .pure (cCii fun c i t => changeB c i t 2) := by simp [T116]
theorem T116_v : T116 20 = .pure (cC1 validCB) := by simp [T116]
theorem T116_f : T116 24 = .pure (cCi fun c i => .int .i64 (findIx c.i.l i)) := by simp [T116]
theorem T116_g : T116 22 = .pure (cCSS grpD) := by simp [T116]
theorem T116_sound : T116.Sound P := addT_sound (con_sound fun p _ => sem_runs mix T112_sound Tryd.func35 a35_ok (runs_deploy p.1 p.2)) (addT_sound (con_sound fun p _ => sem_runs mix T112_sound Tryd.func32 a32_ok (runs_start p.1 p.2.1 p.2.2.1 p.2.2.2)) (addT_sound (con_sound fun p _ => sem_runs mix T114_sound Tryd.func38 a38_ok (runs_started p.1 p.2.1 p.2.2)) (addT_sound (con_sound fun p _ => sem_runs mix T115_sound Tryd.func40 a40_ok (runs_stop p.1 p.2.1 p.2.2)) (addT_sound (con_sound fun x _ => sem_runs mix T107_sound Tryd.func20 a20_ok (runs_valid x)) (addT_sound (con_sound fun x _ => sem_runs mix T104_sound Tryd.func24 a24_ok (runs_find x.1 x.2)) (addT_sound (con_sound fun x _ => sem_runs mix T102_sound Tryd.func22 a22_ok (runs_group x.1 x.2.1 x.2.2)) tbl0_sound))))))
def d1 : Dg := ⟨1#8 :: rep 31 0#8, by simp⟩
theorem d1_ne : d1 ≠ dg0 := by decide
structure OneG (c : Clu) (x : Grp) : Prop where
  g : c.g.l = [x]
  v : ValidG x
  a : x.ns = [97]
  b : x.im = [98]
theorem okCh_clone {x : Grp} (h : ValidG x) : ValidG x.clone := ⟨h.ns, h.im, h.w0, h.w1, h.l0, h.l1, h.d0, h.d1, h.n, h.ch⟩
theorem valid_one {c : Clu} {x : Grp} (hg : OneG c x) (hi : c.i.l = [] ∨ ∃ y, c.i.l = [y] ∧ SoundI 1 c.next y) (h1 : 1 ≤ c.next) (h2 : c.next ≤ 1099511627776) : ValidC c := by
  obtain ⟨⟨gk, gl, gh, gb⟩, ⟨ik, il, ih, ib⟩, n⟩ := c
  obtain ⟨e, hv, ea, eb⟩ := hg
  simp only at e hi h1 h2
  subst e
  refine ⟨by simp, ?_, h1, h2, fun i h => ?_, fun i h => ?_⟩
  · rcases hi with rfl | ⟨y, rfl, _⟩ <;> simp
  · simp only [List.length_singleton] at h
    obtain rfl : i = 0 := by omega
    exact ⟨hv, by simp [grpIx, ixI, fitG]⟩
  · rcases hi with rfl | ⟨y, rfl, hy⟩
    · simp at h
    · simp only [List.length_singleton] at h
      obtain rfl : i = 0 := by omega
      exact ⟨hy, fun h0 => by omega⟩
def cA : Clu := ⟨⟨none, [], fun _ => rfl, by simp⟩, ⟨none, [], fun _ => rfl, by simp⟩, 1⟩
theorem valid_cA : ValidC cA := ⟨by simp [cA], by simp [cA], by simp [cA], by simp [cA], fun i h => by simp [cA] at h, fun i h => by simp [cA] at h⟩
theorem deploy_one {g : Grp} (hv : ValidG g) (ha : g.ns = [97]) (hb : g.im = [98]) : ∃ c, deployP cA g = (c, 0) ∧ OneG c g.clone ∧ c.i.l = [] ∧ c.next = 1 := by
  refine ⟨⟨own (cA.g.l.map Grp.clone ++ [g.clone]), cA.i.clone, cA.next⟩, ?_, ?_, rfl, rfl⟩
  · rw [deployP, if_neg (by simp [valid_cA, hv]), if_pos (by simp [cA, grpIx, ixI]), if_neg (by simp [cA])]
  · exact ⟨by rw [own_l (by simp [cA])]; simp [cA], okCh_clone hv, ha, hb⟩
theorem start_one {c : Clu} {x : Grp} (hg : OneG c x) (hi : c.i.l = []) (hn : c.next = 1) {t : Int} (ht : timeOK t) : ∃ c', startP c 0 d1 t = (c', 1, 0) ∧ OneG c' x.clone ∧ c'.i.l = [⟨1, 0, d1, 1, t, -1⟩] ∧ c'.next = 2 := by
  have hv : ValidC c := valid_one hg (.inl hi) (by omega) (by omega)
  have hl : c.g.l.length = 1 := by rw [hg.g]; rfl
  refine ⟨⟨c.clone.g, own (c.i.l ++ [newI c 0 d1 t]), c.next + 1⟩, ?_, ?_, ?_, ?_⟩
  · rw [startP, if_neg (by simp [hv, d1_ne, ht]), if_neg (by rw [hl]; decide), if_neg (by rw [hi, hn]; decide), hn]
  · exact ⟨by simp [clone_gl, hg.g], okCh_clone hg.v, hg.a, hg.b⟩
  · rw [hi, own_l (by simp)]; simp [newI, hn]
  · simp [hn]
theorem change_one {c : Clu} {x : Grp} {y : Ins} (hg : OneG c x) (hi : c.i.l = [y]) (hn : c.next = 2) (hy : SoundI 1 2 y) (hid : y.id = 1) {t : Int} (ht : timeOK t) {to : Int} (hto : to = 2 ∨ to = 3) :
    (may to y.state = true ∧ ∃ c', changeP c 1 t to = (c', 0) ∧ OneG c' x.clone ∧ c'.i.l = [(y.st to).si t] ∧ c'.next = 2) ∨ (may to y.state = false ∧ changeP c 1 t to = (clu0, 30)) := by
  have hv : ValidC c := valid_one hg (.inr ⟨y, hi, hn ▸ hy⟩) (by omega) (by omega)
  have hf : findIx c.i.l 1 = 0 := by rw [hi]; simp [findIx, ixI, hid]
  cases hm : may to y.state with
  | true =>
    refine .inl ⟨rfl, ⟨c.clone.g, own (setI c.i.l 0 to t), c.next⟩, ?_, ?_, ?_, hn⟩
    · rw [changeP, if_neg (by simp [hv, ht]), hf, if_neg (by decide), if_pos (by rw [hi]; simp [hm])]
      rfl
    · exact ⟨by simp [clone_gl, hg.g], okCh_clone hg.v, hg.a, hg.b⟩
    · rw [hi, show setI [y] 0 to t = [(y.st to).si t] from rfl, own_l (by simp)]
  | false =>
    refine .inr ⟨rfl, ?_⟩
    rw [changeP, if_neg (by simp [hv, ht]), hf, if_neg (by decide), if_neg (by rw [hi]; simp [hm])]
def gA : Grp := ⟨[97], [98], 1, 0, 0, ⟨some true, [d1], by simp, by simp⟩⟩
theorem valid_gA : ValidG gA := ⟨by decide, by decide, by decide, by decide, by decide, by decide, by decide, by decide, by decide, fun i h => by
  have : i = 0 := by simp [gA] at h; exact h
  subst this
  exact ⟨d1_ne, by simp⟩⟩
end Go.Proofs.YtjhakjeioppijaaDoor
set_option linter.unusedSimpArgs false
set_option linter.unusedVariables false
namespace Go.Proofs.YtjhakjeioppijaaDoor
open Go Go.Am
theorem idx_one {x : Sl Ins} {y : Ins} (h : x.l = [y]) (H : List AObj) : idxSD H 37 (x.dv 37 inC) 0 = some (.ref (inC y)) := by
  have h0 : 0 < x.l.length := by rw [h]; simp
  have := idxSD_dv (h := H) (x := x) len_inC h0
  simp only [h, List.getElem_cons_zero] at this
  exact this
theorem sound_one {st t : Int} (h1 : 1 ≤ st) (h2 : st ≤ 3) (ht : timeOK t) : SoundI 1 2 ⟨1, 0, d1, st, t, -1⟩ := ⟨Int.le_refl _, by show (1 : Int) < 2; decide, Int.le_refl _, by show (0 : Int) < 1; decide, d1_ne, h1, h2, ht, .inl rfl⟩
theorem b0 : buildD [.nils, .nils, .int .i64 0] [(2, 1, .int .i64 1)] = some (.agg [.nils, .nils, .int .i64 1]) := rfl
theorem b1 : buildD (dgC dg0) [(0, 1, w8 1#8)] = some (.agg (dgC d1)) := rfl
theorem b2 : bslD 32 1 (dgC dg0) [(0, 32, .agg (dgC d1))] = some (.sl true 32 1 (dgC d1)) := rfl
set_option maxHeartbeats 2000000 in
theorem runs_awake37 : Runs T116 a17 [] (.bool true) := by
  obtain ⟨c1, e1, g1, i1, n1⟩ := deploy_one valid_gA rfl rfl
  obtain ⟨c2, e2, g2, i2, n2⟩ := start_one g1 i1 n1 (t := 5) (by decide)
  obtain ⟨c3, e3, g3, i3, n3⟩ : ∃ c', changeP c2 1 6 2 = (c', 0) ∧ OneG c' gA.clone.clone.clone ∧ c'.i.l = [⟨1, 0, d1, 2, 6, -1⟩] ∧ c'.next = 2 := by
    rcases change_one g2 i2 n2 (sound_one (by decide) (by decide) (by decide)) rfl (t := 6) (by decide) (to := 2) (.inl rfl) with ⟨_, h⟩ | ⟨h, _⟩
    · exact h
    · simp [may] at h
  have e4 : changeP c3 1 7 2 = (clu0, 30) := by
    rcases change_one g3 i3 n3 (sound_one (by decide) (by decide) (by decide)) rfl (t := 7) (by decide) (to := 2) (.inl rfl) with ⟨h, _⟩ | ⟨_, h⟩
    · simp [may] at h
    · exact h
  have v3 : ValidC c3 := valid_one g3 (.inr ⟨_, i3, by rw [n3]; exact sound_one (by decide) (by decide) (by decide)⟩) (by omega) (by omega)
  have h3 := idx_one i3
  have k1 : findIx c3.i.l 1 = 0 := by rw [i3]; simp [findIx, ixI]
  have k2 : grpIx c3.g.l [97] [98] = 0 := by rw [g3.g]; simp [grpIx, ixI, fitG, g3.a, g3.b]
  have f1 : cDep deployB [.agg [.nils, .nils, .int .i64 1], .agg [.str [97], .str [98], .int .i64 1, .int .i64 0, .int .i64 0, .sl true 32 1 (dgC d1)]] = some (deployB cA gA) := cDep_eq (c := cA) (g := gA)
  have b3 : buildD [.str [], .str [], .int .i64 0, .int .i64 0, .int .i64 0, .nils] [(0, 1, .str [97]), (1, 1, .str [98]), (2, 1, .int .i64 1), (5, 1, .sl true 32 1 (dgC d1))] = some (.agg [.str [97], .str [98], .int .i64 1, .int .i64 0, .int .i64 0, .sl true 32 1 (dgC d1)]) := rfl
  refine ⟨?_⟩
  simp (disch := first | omega | (simp [-List.map_take, -List.map_drop, -List.map_set, -List.map_append, -List.drop_one] <;> omega) | fail) [-List.map_take, -List.map_drop, -List.map_set, -List.map_append, -List.drop_one, a17, T116_d, T116_s, T116_r, T116_v, T116_f, T116_g, b0, b1, b2, b3, f1, cSta_eq, cCii_eq, cC1_eq, cCi_eq, cCSS_eq, deployB, startB, changeB, validCB, grpD, e1, e2, e3, e4, tv_true v3, h3, k1, k2]
noncomputable def cTrue : List DV → Option DV
  | [] => some (.bool true) | _ => none
theorem cTrue_sound {f : Nat} (h : Am.Sem P f [] (.bool true)) : (Con.pure cTrue).Sound P f := by
  intro args v e
  unfold cTrue at e
  split at e
  · simp at e; subst e; exact h
  · simp at e
end Go.Proofs.YtjhakjeioppijaaDoor
set_option linter.unusedSimpArgs false
set_option linter.unusedVariables false
namespace Go.Proofs.YtjhakjeioppijaaDoor
open Go Go.Am
theorem clusterV_next (t : Tp) (m : Int) (h0 : 0 ≤ m) (h1 : m ≤ 200) : (clusterV t m).1.next ≤ 1000000 := by
  obtain ⟨hc, hg⟩ := clD_ok t
  have m1 := tpN_lo (clD t).2 (m + 1)
  have m2 := tpN_hi (clD t).2 (n := m + 1) (by omega)
  have hgl : 1 ≤ (clD t).1.g.l.length := List.length_pos_iff.2 hg
  obtain ⟨-, -, k3, -⟩ := iLoop_ok hgl (tpN (clD t).2 (m + 1)).toNat [] (clD t).1.next ((clD t).2.adv 1) hc.n0 ⟨by simp, by simp⟩
  have hn1 := hc.n1
  show (iLoop (clD t).1.g.l.length (tpN (clD t).2 (m + 1)).toNat [] (clD t).1.next ((clD t).2.adv 1)).2.1 ≤ _
  omega
end Go.Proofs.YtjhakjeioppijaaDoor
set_option linter.unusedSimpArgs false
set_option linter.unusedVariables false
namespace Go.Proofs.YtjhakjeioppijaaDoor
open Go Go.Am
noncomputable def startRB (c : Clu) (gr : Int) (d : Dg) (t : Int) : DV := .tup [.agg (clC (startR c gr d t).1), .int .i64 (startR c gr d t).2.1, .int .i64 (startR c gr d t).2.2]
set_option maxRecDepth 20000 in
set_option maxHeartbeats 4000000 in
theorem runs_refstart (c : Clu) (gr : Int) (d : Dg) (t : Int) : Runs T170 a37 [.agg (clC c), .int .i64 gr, .agg (dgC d), .int .i64 t] (startRB c gr d t) := by
  refine ⟨?_⟩
  by_cases hv : ValidC c
  case neg =>
    have hd : startR c gr d t = (clu0, 0, 1) := by rw [startR, if_pos (.inl hv)]
    simp (disch := first | omega | (simp [-List.map_take, -List.map_drop, -List.map_set, -List.map_append, -List.drop_one] <;> omega) | fail) [-List.map_take, -List.map_drop, -List.map_set, -List.map_append, -List.drop_one, a37, T170_v, cC1_eq, validCB, T170_t, cTm_eq, startRB, tv_false hv, hd, clC_clu0]
  by_cases hz : d = dg0
  · have hd : startR c gr dg0 t = (clu0, 0, 1) := by rw [startR, if_pos (.inr (.inl rfl))]
    subst hz
    simp (disch := first | omega | (simp [-List.map_take, -List.map_drop, -List.map_set, -List.map_append, -List.drop_one] <;> omega) | fail) [-List.map_take, -List.map_drop, -List.map_set, -List.map_append, -List.drop_one, a37, T170_v, cC1_eq, validCB, T170_t, cTm_eq, startRB, tv_true hv, hd, clC_clu0]
  by_cases ht : timeOK t
  case neg =>
    have hd : startR c gr d t = (clu0, 0, 1) := by rw [startR, if_pos (.inr (.inr ht))]
    simp (disch := first | omega | (simp [-List.map_take, -List.map_drop, -List.map_set, -List.map_append, -List.drop_one] <;> omega) | fail) [-List.map_take, -List.map_drop, -List.map_set, -List.map_append, -List.drop_one, a37, T170_v, cC1_eq, validCB, T170_t, cTm_eq, startRB, tv_true hv, hz, tv_false ht, hd, clC_clu0]
  have hnn : ¬ (¬ ValidC c ∨ d = dg0 ∨ ¬ timeOK t) := fun h => h.elim (fun h => h hv) (fun h => h.elim hz (fun h => h ht))
  have hni := hv.ni
  have hn0 := hv.n0
  have hn1 := hv.n1
  by_cases g0 : gr < 0
  · have hd : startR c gr d t = (clu0, 0, 4) := by rw [startR, if_neg hnn, if_pos (.inl g0)]
    simp (disch := first | omega | (simp [-List.map_take, -List.map_drop, -List.map_set, -List.map_append, -List.drop_one] <;> omega) | fail) [-List.map_take, -List.map_drop, -List.map_set, -List.map_append, -List.drop_one, a37, T170_v, cC1_eq, validCB, T170_t, cTm_eq, startRB, tv_true hv, hz, tv_true ht, g0, hd, clC_clu0]
  by_cases g1 : (c.g.l.length : Int) ≤ gr
  · have hd : startR c gr d t = (clu0, 0, 4) := by rw [startR, if_neg hnn, if_pos (.inr g1)]
    simp (disch := first | omega | (simp [-List.map_take, -List.map_drop, -List.map_set, -List.map_append, -List.drop_one] <;> omega) | fail) [-List.map_take, -List.map_drop, -List.map_set, -List.map_append, -List.drop_one, a37, T170_v, cC1_eq, validCB, T170_t, cTm_eq, startRB, tv_true hv, hz, tv_true ht, g0, g1, hd, clC_clu0]
  have hnn2 : ¬ (gr < 0 ∨ (c.g.l.length : Int) ≤ gr) := fun h => h.elim g0 g1
  by_cases l0 : 200 ≤ c.i.l.length
  · have l0' : (200 : Int) ≤ c.i.l.length := by omega
    have hd : startR c gr d t = (clu0, 0, 3) := by rw [startR, if_neg hnn, if_neg hnn2, if_pos (.inl l0)]
    simp (disch := first | omega | (simp [-List.map_take, -List.map_drop, -List.map_set, -List.map_append, -List.drop_one] <;> omega) | fail) [-List.map_take, -List.map_drop, -List.map_set, -List.map_append, -List.drop_one, a37, T170_v, cC1_eq, validCB, T170_t, cTm_eq, startRB, tv_true hv, hz, tv_true ht, g0, g1, l0', l0, hd, clC_clu0]
  have l0' : ¬ (200 : Int) ≤ c.i.l.length := by omega
  by_cases l1 : c.next = 1099511627776
  · have hd : startR c gr d t = (clu0, 0, 3) := by rw [startR, if_neg hnn, if_neg hnn2, if_pos (.inr (by omega))]
    simp (disch := first | omega | (simp [-List.map_take, -List.map_drop, -List.map_set, -List.map_append, -List.drop_one] <;> omega) | fail) [-List.map_take, -List.map_drop, -List.map_set, -List.map_append, -List.drop_one, a37, T170_v, cC1_eq, validCB, T170_t, cTm_eq, startRB, tv_true hv, hz, tv_true ht, g0, g1, l0', l0, l1, hd, clC_clu0]
  have hnn3 : ¬ (200 ≤ c.i.l.length ∨ 1099511627776 ≤ c.next) := fun h => h.elim l0 (fun h => l1 (by omega))
  have hd : startR c gr d t = (⟨c.g.copy, own (c.i.l ++ [newI c gr d t]), c.next + 1⟩, c.next, 0) := by rw [startR, if_neg hnn, if_neg hnn2, if_neg hnn3]
  have ho := own_dv (l := c.i.l ++ [newI c gr d t]) (s := 37) (f := inC) (by simp; omega)
  have ha : ∀ l : List Grp, (l.flatMap grC).length = l.length * 6 := fm_len len_grC
  have hb : ∀ l : List Ins, (l.flatMap inC).length = l.length * 37 := fm_len len_inC
  have e12 : DV.int .i64 c.next :: DV.int .i64 gr :: (dgC d ++ [DV.int .i64 1, DV.int .i64 t, DV.int .i64 (-1)]) = inC (newI c gr d t) := rfl
  have hg : c.g.l ≠ [] := by intro e; rw [e] at g1; simp at g1; omega
  have e2 := mutO_ne (f := grC) hg
  have e3 := fun id => cpD_ne (id := id) (s := 6) hg
  have e5 := copy_dv_ne (s := 6) (f := grC) hg
  have e7 := take_grs (l := c.g.l) (n := c.g.l.length) (Nat.le_refl _)
  by_cases hi : c.i.l = []
  · have f1 := fun id => cpD_nil (id := id) (s := 37) hi
    have f2 := mutO_nil (f := inC) hi
    have ho : (own (c.i.l ++ [newI c gr d t])).dv 37 inC = .sl false 37 1 (inC (newI c gr d t)) := by rw [ho, hi]; simp
    simp (disch := first | omega | (simp [-List.map_take, -List.map_drop, -List.map_set, -List.map_append, -List.drop_one] <;> omega) | fail) [-List.map_take, -List.map_drop, -List.map_set, -List.map_append, -List.drop_one, a37, T170_v, cC1_eq, validCB, T170_t, cTm_eq, startRB, tv_true hv, hz, tv_true ht, g0, g1, l0', l0, l1, T170_c, cNCp_eq, copyW, copyK, storeO_one, bsl_i, e12, hd, clC_mk, ho, e2, e3, e5, e7, f1, f2, ha, hb]
  · have f1 := fun id => cpD_ne (id := id) (s := 37) hi
    have f2 := mutO_ne (f := inC) hi
    have e8 : (c.i.l.flatMap inC ++ inC (newI c gr d t)).take ((c.i.l.length + 1) * 37) = c.i.l.flatMap inC ++ inC (newI c gr d t) := List.take_of_length_le (by rw [List.length_append, hb, len_inC]; omega)
    have e9 : ∀ H k, snapL H k (c.i.l.flatMap inC ++ inC (newI c gr d t)) = some (c.i.l.flatMap inC ++ inC (newI c gr d t)) := fun H k => snapL_clean (pureL_append (fm_pure pure_inC _) (pure_inC _))
    simp (disch := first | omega | (simp [-List.map_take, -List.map_drop, -List.map_set, -List.map_append, -List.drop_one] <;> omega) | fail) [-List.map_take, -List.map_drop, -List.map_set, -List.map_append, -List.drop_one, a37, T170_v, cC1_eq, validCB, T170_t, cTm_eq, startRB, tv_true hv, hz, tv_true ht, g0, g1, l0', l0, l1, T170_c, cNCp_eq, copyW, copyK, storeO_one, bsl_i, e12, hd, clC_mk, ho, e2, e3, e5, e7, e8, e9, f1, f2, ha, hb]
def mayR (a b s : Int) : Bool := decide (s = a) || decide (s = b)
open Classical in
noncomputable def chgR (c : Clu) (id t a b to : Int) : Clu × Int :=
  if ¬ ValidC c ∨ ¬ timeOK t then (clu0, 1)
  else if findIx c.i.l id < 0 then (clu0, 4)
  else if ((c.i.l[(findIx c.i.l id).toNat]?).map fun x => mayR a b x.state) = some true then (⟨c.g.copy, own (setI c.i.l (findIx c.i.l id).toNat to t), c.next⟩, 0)
  else (clu0, 30)
noncomputable def chgRB (c : Clu) (id t a b to : Int) : DV := .tup [.agg (clC (chgR c id t a b to).1), .int .i64 (chgR c id t a b to).2]
set_option maxRecDepth 20000 in
set_option maxHeartbeats 4000000 in
theorem runs_refchange (c : Clu) (id t a b to : Int) : Runs T170 a80 [.agg (clC c), .int .i64 id, .int .i64 t, .int .i64 a, .int .i64 b, .int .i64 to] (chgRB c id t a b to) := by
  refine ⟨?_⟩
  by_cases hv : ValidC c
  case neg =>
    have hd : chgR c id t a b to = (clu0, 1) := by rw [chgR, if_pos (.inl hv)]
    simp (disch := first | omega | (simp [-List.map_take, -List.map_drop, -List.map_set, -List.map_append, -List.drop_one] <;> omega) | fail) [-List.map_take, -List.map_drop, -List.map_set, -List.map_append, -List.drop_one, a80, T170_v, cC1_eq, validCB, T170_t, cTm_eq, T170_f, cCi_eq, chgRB, tv_false hv, hd, clC_clu0]
  by_cases ht : timeOK t
  case neg =>
    have hd : chgR c id t a b to = (clu0, 1) := by rw [chgR, if_pos (.inr ht)]
    simp (disch := first | omega | (simp [-List.map_take, -List.map_drop, -List.map_set, -List.map_append, -List.drop_one] <;> omega) | fail) [-List.map_take, -List.map_drop, -List.map_set, -List.map_append, -List.drop_one, a80, T170_v, cC1_eq, validCB, T170_t, cTm_eq, T170_f, cCi_eq, chgRB, tv_true hv, tv_false ht, hd, clC_clu0]
  have hnn : ¬ (¬ ValidC c ∨ ¬ timeOK t) := fun h => h.elim (fun h => h hv) (fun h => h ht)
  by_cases hx : findIx c.i.l id < 0
  · have hd : chgR c id t a b to = (clu0, 4) := by rw [chgR, if_neg hnn, if_pos hx]
    simp (disch := first | omega | (simp [-List.map_take, -List.map_drop, -List.map_set, -List.map_append, -List.drop_one] <;> omega) | fail) [-List.map_take, -List.map_drop, -List.map_set, -List.map_append, -List.drop_one, a80, T170_v, cC1_eq, validCB, T170_t, cTm_eq, T170_f, cCi_eq, chgRB, tv_true hv, tv_true ht, hx, hd, clC_clu0]
  obtain ⟨k, hk, hke, _, _⟩ := ixI_pos (show 0 ≤ findIx c.i.l id by omega)
  have hke : findIx c.i.l id = k := hke
  have hx' : ¬ (k : Int) < 0 := by omega
  have hk' : (k : Int) < c.i.l.length := by omega
  obtain ⟨x, hxe⟩ : ∃ x, c.i.l[k] = x := ⟨_, rfl⟩
  have hgx : ∀ H, idxSD H 37 (c.i.dv 37 inC) k = some (.ref (inC x)) := fun H => by rw [idxSD_dv len_inC hk, hxe]
  have hopt : c.i.l[k]? = some x := by rw [List.getElem?_eq_getElem hk, hxe]
  by_cases hm : mayR a b x.state = true
  case neg =>
    have hm2 : mayR a b x.state = false := by simpa using hm
    have hd : chgR c id t a b to = (clu0, 30) := by rw [chgR, if_neg hnn, if_neg hx, hke]; simp [hopt, hm2]
    have h1 : ¬ x.state = a := fun e => by simp [mayR, e] at hm2
    have h2 : ¬ x.state = b := fun e => by simp [mayR, e] at hm2
    simp (disch := first | omega | (simp [-List.map_take, -List.map_drop, -List.map_set, -List.map_append, -List.drop_one] <;> omega) | fail) [-List.map_take, -List.map_drop, -List.map_set, -List.map_append, -List.drop_one, a80, T170_v, cC1_eq, validCB, T170_t, cTm_eq, T170_f, cCi_eq, chgRB, tv_true hv, tv_true ht, hke, hx', hk', hk, hgx, h1, h2, hd, clC_clu0]
  have hd : chgR c id t a b to = (⟨c.g.copy, own (c.i.l.set k ((x.st to).si t)), c.next⟩, 0) := by
    rw [chgR, if_neg hnn, if_neg hx, hke, if_pos (by simp [hopt, hm])]
    simp only [Int.toNat_natCast, setI, hopt]
  have ho := own_dv (l := c.i.l.set k ((x.st to).si t)) (s := 37) (f := inC) (by rw [List.length_set]; exact c.i.b)
  have ha : ∀ l : List Grp, (l.flatMap grC).length = l.length * 6 := fm_len len_grC
  have hb : ∀ l : List Ins, (l.flatMap inC).length = l.length * 37 := fm_len len_inC
  have hg := valid_gne hv hk
  have hi : c.i.l ≠ [] := by intro e; rw [e] at hk; simp at hk
  have e2 := mutO_ne (f := grC) hg
  have e3 := fun id => cpD_ne (id := id) (s := 6) hg
  have e5 := copy_dv_ne (s := 6) (f := grC) hg
  have e7 := take_grs (l := c.g.l) (n := c.g.l.length) (Nat.le_refl _)
  have f1 := fun id => cpD_ne (id := id) (s := 37) hi
  have f2 := mutO_ne (f := inC) hi
  have s1 : ∀ H id, storeO H id 1 (k * 37 + 34) (.int .i64 to) (some (c.i.l.flatMap inC)) = some (.junk, H.set id (.cells ((c.i.l.set k (x.st to)).flatMap inC))) := fun H id => by rw [store_st hk, hxe]
  have s2 : ∀ H id, storeO H id 1 (k * 37 + 35) (.int .i64 t) (some ((c.i.l.set k (x.st to)).flatMap inC)) = some (.junk, H.set id (.cells ((c.i.l.set k ((x.st to).si t)).flatMap inC))) := fun H id => by
    rw [store_si (by rw [List.length_set]; exact hk), List.getElem_set_self, List.set_set]
  have e8 := take_ins (l := c.i.l.set k ((x.st to).si t)) (n := c.i.l.length) (by rw [List.length_set]; exact Nat.le_refl _)
  by_cases h1 : x.state = a
  · simp (disch := first | omega | (simp [-List.map_take, -List.map_drop, -List.map_set, -List.map_append, -List.drop_one] <;> omega) | fail) [-List.map_take, -List.map_drop, -List.map_set, -List.map_append, -List.drop_one, a80, T170_v, cC1_eq, validCB, T170_t, cTm_eq, T170_f, cCi_eq, chgRB, tv_true hv, tv_true ht, hke, hx', hk', hk, hgx, h1, T170_c, cNCp_eq, copyW, copyK, e2, e3, e5, e7, e8, f1, f2, ha, hb, storeO_one, s1, s2, hd, clC_mk, ho]
  · have h2 : x.state = b := by simpa [mayR, h1] using hm
    have h3 : ¬ b = a := fun e => h1 (h2.trans e)
    simp (disch := first | omega | (simp [-List.map_take, -List.map_drop, -List.map_set, -List.map_append, -List.drop_one] <;> omega) | fail) [-List.map_take, -List.map_drop, -List.map_set, -List.map_append, -List.drop_one, a80, T170_v, cC1_eq, validCB, T170_t, cTm_eq, T170_f, cCi_eq, chgRB, tv_true hv, tv_true ht, hke, hx', hk', hk, hgx, h3, h2, T170_c, cNCp_eq, copyW, copyK, e2, e3, e5, e7, e8, f1, f2, ha, hb, storeO_one, s1, s2, hd, clC_mk, ho]
end Go.Proofs.YtjhakjeioppijaaDoor
set_option linter.unusedSimpArgs false
set_option linter.unusedVariables false
namespace Go.Proofs.YtjhakjeioppijaaDoor
open Go Go.Am
noncomputable def cChR : List DV → Option DV := con (fun _ => True) (fun p : Clu × Int × Int × Int × Int × Int => [.agg (clC p.1), .int .i64 p.2.1, .int .i64 p.2.2.1, .int .i64 p.2.2.2.1, .int .i64 p.2.2.2.2.1, .int .i64 p.2.2.2.2.2]) (fun p => chgRB p.1 p.2.1 p.2.2.1 p.2.2.2.1 p.2.2.2.2.1 p.2.2.2.2.2)
theorem cChR_eq {c : Clu} {id t a b to : Int} : cChR [.agg (clC c), .int .i64 id, .int .i64 t, .int .i64 a, .int .i64 b, .int .i64 to] = some (chgRB c id t a b to) :=
  con_inj (f := fun p : Clu × Int × Int × Int × Int × Int => [.agg (clC p.1), .int .i64 p.2.1, .int .i64 p.2.2.1, .int .i64 p.2.2.2.1, .int .i64 p.2.2.2.2.1, .int .i64 p.2.2.2.2.2]) (by
    rintro ⟨a, b, c, d, e, f⟩ ⟨a', b', c', d', e', f'⟩ e
    simp only [List.cons.injEq, DV.agg.injEq, DV.int.injEq, and_true, true_and] at e
    obtain ⟨e1, e2, e3, e4, e5, e6⟩ := e
    rw [clC_inj e1, e2, e3, e4, e5, e6]) (c, id, t, a, b, to)
noncomputable def T415 : Tbl := addT 80 (.pure cChR) tbl0
theorem T415_c : T415 80 = .pure cChR := by simp [T415]
theorem T415_sound : T415.Sound P := addT_sound (con_sound fun p _ => sem_runs mix T170_sound Tryd.func80 a80_ok (runs_refchange p.1 p.2.1 p.2.2.1 p.2.2.2.1 p.2.2.2.2.1 p.2.2.2.2.2)) tbl0_sound
theorem runs_refstarted (c : Clu) (id t : Int) : Runs T415 a39 [.agg (clC c), .int .i64 id, .int .i64 t] (chgRB c id t 1 1 2) := by
  refine ⟨?_⟩
  simp (disch := first | omega | (simp [-List.map_take, -List.map_drop, -List.map_set, -List.map_append, -List.drop_one] <;> omega) | fail) [-List.map_take, -List.map_drop, -List.map_set, -List.map_append, -List.drop_one, a39, T415_c, cChR_eq, chgRB]
theorem runs_refstop (c : Clu) (id t : Int) : Runs T415 a41 [.agg (clC c), .int .i64 id, .int .i64 t] (chgRB c id t 1 2 3) := by
  refine ⟨?_⟩
  simp (disch := first | omega | (simp [-List.map_take, -List.map_drop, -List.map_set, -List.map_append, -List.drop_one] <;> omega) | fail) [-List.map_take, -List.map_drop, -List.map_set, -List.map_append, -List.drop_one, a41, T415_c, cChR_eq, chgRB]
open Classical in
noncomputable def removeR (c : Clu) (id : Int) : Clu × Int :=
  if ¬ ValidC c then (clu0, 1)
  else if findIx c.i.l id < 0 then (clu0, 4)
  else (⟨c.g.copy, (own (c.i.l.eraseIdx (findIx c.i.l id).toNat)).copy, c.next⟩, 0)
noncomputable def removeRB (c : Clu) (id : Int) : DV := .tup [.agg (clC (removeR c id).1), .int .i64 (removeR c id).2]
theorem own_copy_nil {α : Type} {s : Nat} {f : α → List DV} {l : List α} (h : l = []) : ((own l).copy).dv s f = .nils := by
  rw [copy_dv_nil]; rw [own_l (by rw [h]; simp), h]
theorem own_copy_ne {α : Type} {s : Nat} {f : α → List DV} {l : List α} (hb : l.length ≤ 4294967296) (h : l ≠ []) : ((own l).copy).dv s f = .sl false s l.length (l.flatMap f) := by
  rw [copy_dv_ne (by rw [own_l hb]; exact h), own_l hb]
theorem apart_dv {α : Type} {x : Sl α} {s : Nat} {f : α → List DV} {b : DV} : apartD (x.dv s f) b = b.known := by
  obtain ⟨k, l, h, hb⟩ := x
  cases k with
  | none => exact apart_nils
  | some c => exact apart_sl
set_option maxRecDepth 20000 in
set_option maxHeartbeats 4000000 in
theorem runs_refremove (c : Clu) (id : Int) : Runs T170 a42 [.agg (clC c), .int .i64 id] (removeRB c id) := by
  refine ⟨?_⟩
  by_cases hv : ValidC c
  case neg =>
    have hd : removeR c id = (clu0, 1) := by rw [removeR, if_pos hv]
    simp (disch := first | omega | (simp [-List.map_take, -List.map_drop, -List.map_set, -List.map_append, -List.drop_one] <;> omega) | fail) [-List.map_take, -List.map_drop, -List.map_set, -List.map_append, -List.drop_one, a42, T170_v, cC1_eq, validCB, removeRB, tv_false hv, hd, clC_clu0]
  by_cases hf : findIx c.i.l id < 0
  · have hd : removeR c id = (clu0, 4) := by rw [removeR, if_neg (fun h => h hv), if_pos hf]
    simp (disch := first | omega | (simp [-List.map_take, -List.map_drop, -List.map_set, -List.map_append, -List.drop_one] <;> omega) | fail) [-List.map_take, -List.map_drop, -List.map_set, -List.map_append, -List.drop_one, a42, T170_v, T170_f, cC1_eq, cCi_eq, validCB, removeRB, tv_true hv, hf, hd, clC_clu0]
  obtain ⟨k, hk, hke, -, -⟩ := ixI_pos (p := fun x => decide (x.id = id)) (l := c.i.l) (by show 0 ≤ findIx c.i.l id; omega)
  have hke' : findIx c.i.l id = k := hke
  have hd : removeR c id = (⟨c.g.copy, (own (c.i.l.eraseIdx k)).copy, c.next⟩, 0) := by rw [removeR, if_neg (fun h => h hv), if_neg hf, hke', Int.toNat_natCast]
  have hni := hv.ni
  have hel : (c.i.l.eraseIdx k).length = c.i.l.length - 1 := by rw [List.length_eraseIdx, if_pos hk]
  have hee : c.i.l.eraseIdx k = c.i.l.take k ++ c.i.l.drop (k + 1) := List.eraseIdx_eq_take_drop_succ _ _
  have hg := valid_gne hv hk
  have hi : c.i.l ≠ [] := fun e => by rw [e] at hk; simp at hk
  have ha : ∀ l : List Grp, (l.flatMap grC).length = l.length * 6 := fm_len len_grC
  have hb : ∀ l : List Ins, (l.flatMap inC).length = l.length * 37 := fm_len len_inC
  have hk' : ¬ (k : Int) < 0 := by omega
  have hpos : 0 < c.i.l.length := by omega
  have e2 := mutO_ne (f := grC) hg
  have e3 := fun id => cpD_ne (id := id) (s := 6) hg
  have e5 := copy_dv_ne (s := 6) (f := grC) hg
  have e7 := take_grs (l := c.g.l) (n := c.g.l.length) (Nat.le_refl _)
  have f1 := fun id => cpD_ne (id := id) (s := 37) hi
  have f2 := mutO_ne (f := inC) hi
  have v1 : ∀ H, slcSD H 37 (c.i.dv 37 inC) none (some (.int .i64 k)) none = some ((c.i.part 0 k (k == c.i.l.length)).dv 37 inC) := fun H => slcSD_dv len_inC (boundsD_h (by omega) (by omega)) (by omega)
  have v2 : ∀ H, slcSD H 37 (c.i.dv 37 inC) (some (.int .i64 ((k : Int) + 1))) none none = some ((c.i.part (k + 1) c.i.l.length true).dv 37 inC) := fun H => by
    have := slcSD_dv (h := H) (x := c.i) (f := inC) len_inC (boundsD_l (k := .i64) (a := (k : Int) + 1) (n := c.i.l.length) (by omega) (by omega)) (Nat.le_refl _)
    have e1 : ((k : Int) + 1).toNat = k + 1 := by omega
    rw [e1, beq_self_eq_true] at this
    exact this
  obtain ⟨p1, hp1⟩ : ∃ x, c.i.part 0 k (k == c.i.l.length) = x := ⟨_, rfl⟩
  obtain ⟨p2, hp2⟩ : ∃ x, c.i.part (k + 1) c.i.l.length true = x := ⟨_, rfl⟩
  have pl1 : p1.l = c.i.l.take k := by rw [← hp1]; simp [Sl.part]
  have pl2 : p2.l = c.i.l.drop (k + 1) := by rw [← hp2]; exact List.take_of_length_le (by simp)
  obtain ⟨A, hA⟩ : ∃ x, c.i.l.take k = x := ⟨_, rfl⟩
  obtain ⟨B, hB⟩ : ∃ x, c.i.l.drop (k + 1) = x := ⟨_, rfl⟩
  have y1 := fun K => visY_dv (h := K) (x := p1) len_inC
  have y2 := fun K => visY_dv (h := K) (x := p2) len_inC
  rw [pl1, hA] at y1
  rw [pl2, hB] at y2
  rw [hp1] at v1
  rw [hp2] at v2
  rw [hA, hB] at hee
  rw [hee] at hel hd
  have hab : A.length + B.length = c.i.l.length - 1 := by rw [← hel, List.length_append]
  have ap := fun a b c d e f g => appX_in (pre := [a, b, c, d, e, f, g]) (L := []) (M := A) (by simp; omega)
  have aq := fun a b c d e f g => appX_in (pre := [a, b, c, d, e, f, g]) (L := A) (M := B) (by omega)
  simp only [List.length_cons, List.length_nil, Nat.zero_add, Nat.reduceAdd, List.nil_append] at ap aq
  have n1 : inV 7 [] = .nils := rfl
  have n2 : ∀ pre, inH pre [] = pre := fun _ => rfl
  rw [n1] at ap
  simp only [n2] at ap
  have hap : ∀ b, apartD (c.i.dv 37 inC) b = b.known := fun b => apart_dv
  by_cases hAe : A = []
  · subst hAe
    simp only [n1, n2, List.nil_append] at ap aq hd hel
    by_cases hBe : B = []
    · subst hBe
      have ho := own_copy_nil (s := 37) (f := inC) (l := ([] : List Ins)) rfl
      simp only [n1, n2] at aq
      simp (disch := first | omega | (simp [-List.map_take, -List.map_drop, -List.map_set, -List.map_append, -List.drop_one] <;> omega) | fail) [-List.map_take, -List.map_drop, -List.map_set, -List.map_append, -List.drop_one, a42, T170_v, T170_f, cC1_eq, cCi_eq, validCB, removeRB, tv_true hv, hke', hk', T170_c, cNCp_eq, copyW, copyK, e2, e3, e5, e7, f1, f2, ha, hb, v1, v2, y1, y2, ap, aq, hap, hd, clC_mk, ho]
    · have ho := own_copy_ne (s := 37) (f := inC) (l := B) (by omega) hBe
      have e8 := take_ins (l := B) (n := B.length) (Nat.le_refl _)
      simp only [inV_ne hBe, inH_ne hBe, List.cons_append, List.nil_append] at aq
      simp (disch := first | omega | (simp [-List.map_take, -List.map_drop, -List.map_set, -List.map_append, -List.drop_one] <;> omega) | fail) [-List.map_take, -List.map_drop, -List.map_set, -List.map_append, -List.drop_one, a42, T170_v, T170_f, cC1_eq, cCi_eq, validCB, removeRB, tv_true hv, hke', hk', T170_c, cNCp_eq, copyW, copyK, e2, e3, e5, e7, e8, f1, f2, ha, hb, v1, v2, y1, y2, ap, aq, hap, hd, clC_mk, ho]
  · have hne : A ++ B ≠ [] := by simp [hAe]
    simp only [inV_ne hAe, inH_ne hAe, List.cons_append, List.nil_append] at ap
    simp only [inV_ne hAe, inH_ne hAe, inV_ne hne, inH_ne hne, List.cons_append, List.nil_append] at aq
    obtain ⟨L, hL⟩ : ∃ x, A ++ B = x := ⟨_, rfl⟩
    rw [hL] at hne hd hel
    simp only [hL] at aq
    have ho := own_copy_ne (s := 37) (f := inC) (l := L) (by omega) hne
    have e8 := take_ins (l := L) (n := L.length) (Nat.le_refl _)
    simp (disch := first | omega | (simp [-List.map_take, -List.map_drop, -List.map_set, -List.map_append, -List.drop_one] <;> omega) | fail) [-List.map_take, -List.map_drop, -List.map_set, -List.map_append, -List.drop_one, a42, T170_v, T170_f, cC1_eq, cCi_eq, validCB, removeRB, tv_true hv, hke', hk', T170_c, cNCp_eq, copyW, copyK, e2, e3, e5, e7, e8, f1, f2, ha, hb, v1, v2, y1, y2, ap, aq, hap, hd, clC_mk, ho]
end Go.Proofs.YtjhakjeioppijaaDoor
set_option linter.unusedSimpArgs false
set_option linter.unusedVariables false
namespace Go.Proofs.YtjhakjeioppijaaDoor
open Go Go.Am
def markSc (den : List Bool) (t : Int) (x : Sl Ins) : Sl Ins := ⟨x.copy.k, markL den t x.l, fun e => markL_nil.2 (x.copy.h e), by rw [markL_len]; exact x.b⟩
open Classical in
noncomputable def markR (c : Clu) (den : List Bool) (t : Int) : Clu := if ¬ ValidC c ∨ ¬ timeOK t then c else ⟨c.g.copy, markSc den t c.i, c.next⟩
theorem markSc_nil {den : List Bool} {t : Int} {x : Sl Ins} (h : x.l = []) : (markSc den t x).dv 37 inC = .nils := by
  have h1 : markL den t x.l = [] := markL_nil.2 h
  simp [markSc, Sl.dv, Sl.copy, slD, h, h1]
theorem markSc_ne {den : List Bool} {t : Int} {x : Sl Ins} (h : x.l ≠ []) : (markSc den t x).dv 37 inC = .sl false 37 x.l.length ((markL den t x.l).flatMap inC) := by
  simp [markSc, Sl.dv, Sl.copy, h, slD, markL_len]
def S192 (c : Clu) (den : Sl Bool) (t : Int) (gd : DV) (gO : List AObj) (i : Nat) : St :=
  a43S0 (den.dv 1 inB) (.int .i64 t) (.mp 1 3 0) (.mp 6 3 0) (.int .i64 i) ([.cells (clC c), .cells [.nils, .nils, .int .i64 0], .cells (clC c), .cells [gd, .ms 5 (c.i.l.length * 37) 0 37 c.i.l.length (c.i.l.length * 37), .int .i64 c.next]] ++ gO ++ [.cells ((mkI den.l t c.i.l i).flatMap inC), .cells [gd, .ms 5 (c.i.l.length * 37) 0 37 c.i.l.length (c.i.l.length * 37), .int .i64 c.next]])
def S193 (c : Clu) (den : Sl Bool) (t : Int) (p : Nat) (gd : DV) (gO : List AObj) : St :=
  a43S0 (den.dv 1 inB) (.int .i64 t) (.mp 1 3 0) (.mp p 3 0) (.int .i64 0) ([.cells (clC c), .cells [.nils, .nils, .int .i64 0], .cells (clC c), .cells [gd, .nils, .int .i64 c.next]] ++ gO ++ [.cells [gd, .nils, .int .i64 c.next]])
set_option maxRecDepth 20000 in
set_option maxHeartbeats 4000000 in
theorem runs_refmark (c : Clu) (den : Sl Bool) (t : Int) : Runs T170 a43 [.agg (clC c), den.dv 1 inB, .int .i64 t] (.agg (clC (markR c den.l t))) := by
  refine ⟨?_⟩
  have hbd := den.b
  have ha : ∀ l : List Grp, (l.flatMap grC).length = l.length * 6 := fm_len len_grC
  have hb : ∀ l : List Ins, (l.flatMap inC).length = l.length * 37 := fm_len len_inC
  have hpd : pureD (den.dv 1 inB) = true := dv_pure pure_inB den
  by_cases hv : ValidC c
  case neg =>
    have hd : markR c den.l t = c := by rw [markR, if_pos (.inl hv)]
    simp (disch := first | omega | (simp [-List.map_take, -List.map_drop, -List.map_set, -List.map_append, -List.drop_one] <;> omega) | fail) [-List.map_take, -List.map_drop, -List.map_set, -List.map_append, -List.drop_one, a43, T170_v, cC1_eq, validCB, tv_false hv, hd]
  by_cases ht : timeOK t
  case neg =>
    have hd : markR c den.l t = c := by rw [markR, if_pos (.inr ht)]
    simp (disch := first | omega | (simp [-List.map_take, -List.map_drop, -List.map_set, -List.map_append, -List.drop_one] <;> omega) | fail) [-List.map_take, -List.map_drop, -List.map_set, -List.map_append, -List.drop_one, a43, T170_v, cC1_eq, validCB, T170_t, cTm_eq, tv_true hv, tv_false ht, hd]
  have hd : markR c den.l t = ⟨c.g.copy, markSc den.l t c.i, c.next⟩ := by rw [markR, if_neg fun h => h.elim (fun h => h hv) (fun h => h ht)]
  have h1 := tv_true hv
  have h2 := tv_true ht
  by_cases hi : c.i.l = []
  · have f1 := fun id => cpD_nil (id := id) (s := 37) hi
    have f2 := mutO_nil (f := inC) hi
    have f3 := markSc_nil (den := den.l) (t := t) hi
    by_cases hg : c.g.l = []
    · have e2 := mutO_nil (f := grC) hg
      have e3 := fun id => cpD_nil (id := id) (s := 6) hg
      have e5 := copy_dv_nil (s := 6) (f := grC) hg
      simp (disch := first | omega | (simp [-List.map_take, -List.map_drop, -List.map_set, -List.map_append, -List.drop_one] <;> omega) | fail) [-List.map_take, -List.map_drop, -List.map_set, -List.map_append, -List.drop_one, a43, T170_v, cC1_eq, validCB, T170_t, cTm_eq, h1, h2, T170_c, cNCp_eq, copyW, copyK, e2, e3, f1, f2]
      refine W_loop (fun _ : Nat => S193 c den t 4 .nils []) (fun _ => 0) (fun _ => True) 0 (weak_same (by simp (disch := first | omega | (simp [-List.map_take, -List.map_drop, -List.map_set, -List.map_append, -List.drop_one] <;> omega) | fail) [-List.map_take, -List.map_drop, -List.map_set, -List.map_append, -List.drop_one, S193, a43S0]) (by simp (disch := first | omega | (simp [-List.map_take, -List.map_drop, -List.map_set, -List.map_append, -List.drop_one] <;> omega) | fail) [-List.map_take, -List.map_drop, -List.map_set, -List.map_append, -List.drop_one, S193])) trivial (fun _ _ => ?_)
      simp (disch := first | omega | (simp [-List.map_take, -List.map_drop, -List.map_set, -List.map_append, -List.drop_one] <;> omega) | fail) [-List.map_take, -List.map_drop, -List.map_set, -List.map_append, -List.drop_one, a43L0, a43S0, S193, hd, clC_mk, f3, e5]
    · have e2 := mutO_ne (f := grC) hg
      have e3 := fun id => cpD_ne (id := id) (s := 6) hg
      have e5 := copy_dv_ne (s := 6) (f := grC) hg
      have e7 := take_grs (l := c.g.l) (n := c.g.l.length) (Nat.le_refl _)
      simp (disch := first | omega | (simp [-List.map_take, -List.map_drop, -List.map_set, -List.map_append, -List.drop_one] <;> omega) | fail) [-List.map_take, -List.map_drop, -List.map_set, -List.map_append, -List.drop_one, a43, T170_v, cC1_eq, validCB, T170_t, cTm_eq, h1, h2, T170_c, cNCp_eq, copyW, copyK, e2, e3, f1, f2]
      refine W_loop (fun _ : Nat => S193 c den t 5 (.ms 4 (c.g.l.length * 6) 0 6 c.g.l.length (c.g.l.length * 6)) [.cells (c.g.l.flatMap grC)]) (fun _ => 0) (fun _ => True) 0 (weak_same (by simp (disch := first | omega | (simp [-List.map_take, -List.map_drop, -List.map_set, -List.map_append, -List.drop_one] <;> omega) | fail) [-List.map_take, -List.map_drop, -List.map_set, -List.map_append, -List.drop_one, S193, a43S0]) (by simp (disch := first | omega | (simp [-List.map_take, -List.map_drop, -List.map_set, -List.map_append, -List.drop_one] <;> omega) | fail) [-List.map_take, -List.map_drop, -List.map_set, -List.map_append, -List.drop_one, S193])) trivial (fun _ _ => ?_)
      simp (disch := first | omega | (simp [-List.map_take, -List.map_drop, -List.map_set, -List.map_append, -List.drop_one] <;> omega) | fail) [-List.map_take, -List.map_drop, -List.map_set, -List.map_append, -List.drop_one, a43L0, a43S0, S193, hd, clC_mk, f3, e5, e7, ha]
  · have hg := valid_gne hv (List.length_pos_iff.2 hi)
    have f1 := fun id => cpD_ne (id := id) (s := 37) hi
    have f2 := mutO_ne (f := inC) hi
    have f3 := markSc_ne (den := den.l) (t := t) hi
    have e2 := mutO_ne (f := grC) hg
    have e3 := fun id => cpD_ne (id := id) (s := 6) hg
    have e5 := copy_dv_ne (s := 6) (f := grC) hg
    have e7 := take_grs (l := c.g.l) (n := c.g.l.length) (Nat.le_refl _)
    have hib := c.i.b
    simp (disch := first | omega | (simp [-List.map_take, -List.map_drop, -List.map_set, -List.map_append, -List.drop_one] <;> omega) | fail) [-List.map_take, -List.map_drop, -List.map_set, -List.map_append, -List.drop_one, a43, T170_v, cC1_eq, validCB, T170_t, cTm_eq, h1, h2, T170_c, cNCp_eq, copyW, copyK, e2, e3, f1, f2]
    refine W_loop (S192 c den t (.ms 4 (c.g.l.length * 6) 0 6 c.g.l.length (c.g.l.length * 6)) [.cells (c.g.l.flatMap grC)]) (fun i => c.i.l.length - i) (fun i => i ≤ c.i.l.length) 0 (weak_same (by simp (disch := first | omega | (simp [-List.map_take, -List.map_drop, -List.map_set, -List.map_append, -List.drop_one] <;> omega) | fail) [-List.map_take, -List.map_drop, -List.map_set, -List.map_append, -List.drop_one, S192, a43S0]) (by simp (disch := first | omega | (simp [-List.map_take, -List.map_drop, -List.map_set, -List.map_append, -List.drop_one] <;> omega) | fail) [-List.map_take, -List.map_drop, -List.map_set, -List.map_append, -List.drop_one, S192, mkI_zero])) (by omega) (fun i hile => ?_)
    have hml := mkI_len (den := den.l) (t := t) (l := c.i.l) (i := i)
    have hmf := hb (mkI den.l t c.i.l i)
    rw [hml] at hmf
    simp (disch := first | omega | (simp [-List.map_take, -List.map_drop, -List.map_set, -List.map_append, -List.drop_one] <;> omega) | fail) [-List.map_take, -List.map_drop, -List.map_set, -List.map_append, -List.drop_one, a43L0, a43S0, S192, hmf]
    by_cases h : i < c.i.l.length
    · have h' : (i : Int) < c.i.l.length := by omega
      have hi2 : i < (mkI den.l t c.i.l i).length := by omega
      have k1 := fun H id v => store_de (H := H) (id := id) (v := v) hi2
      have k2 := one_den hi2
      rw [mkI_get h hi2] at k1 k2
      have fin : ∀ x, markI den.l t i c.i.l[i] = x → (mkI den.l t c.i.l i).set i x = mkI den.l t c.i.l (i + 1) := fun x e => by rw [← e]; exact mkI_set h
      by_cases hdl : i < den.l.length
      · have hdl' : (i : Int) < den.l.length := by omega
        have hdl2 : ¬ (den.l.length : Int) ≤ i := by omega
        have hgd : ∀ H, idxSD H 1 (den.dv 1 inB) i = some (.ref (inB den.l[i])) := fun H => idxSD_dv len_inB hdl
        have hob : ∀ b, one 1 false (inB b) = some (.bool b) := fun b => rfl
        have hgb : den.l.getD i false = den.l[i] := by rw [List.getD_eq_getElem?_getD, List.getElem?_eq_getElem hdl]; rfl
        cases hbv : den.l[i] with
        | false =>
          have hm : markI den.l t i c.i.l[i] = c.i.l[i].de (-1) := by rw [markI, hgb, hbv]; rfl
          have := fin _ hm
          simp (disch := first | omega | (simp [-List.map_take, -List.map_drop, -List.map_set, -List.map_append, -List.drop_one] <;> omega) | fail) [-List.map_take, -List.map_drop, -List.map_set, -List.map_append, -List.drop_one, h', h, hdl, hdl', hdl2, hgd, hob, hbv, hmf, k1, k2, this]
          exact ⟨i + 1, weak_same (by simp (disch := first | omega | (simp [-List.map_take, -List.map_drop, -List.map_set, -List.map_append, -List.drop_one] <;> omega) | fail) [-List.map_take, -List.map_drop, -List.map_set, -List.map_append, -List.drop_one]) (by simp (disch := first | omega | (simp [-List.map_take, -List.map_drop, -List.map_set, -List.map_append, -List.drop_one] <;> omega) | fail) [-List.map_take, -List.map_drop, -List.map_set, -List.map_append, -List.drop_one]), by omega, by omega⟩
        | true =>
          by_cases hx : c.i.l[i].den = -1
          · have hm : markI den.l t i c.i.l[i] = c.i.l[i].de t := by rw [markI, hgb, hbv, if_pos rfl, if_pos hx]
            have := fin _ hm
            simp (disch := first | omega | (simp [-List.map_take, -List.map_drop, -List.map_set, -List.map_append, -List.drop_one] <;> omega) | fail) [-List.map_take, -List.map_drop, -List.map_set, -List.map_append, -List.drop_one, h', h, hdl, hdl', hdl2, hgd, hob, hbv, hmf, k1, k2, hx, this]
            exact ⟨i + 1, weak_same (by simp (disch := first | omega | (simp [-List.map_take, -List.map_drop, -List.map_set, -List.map_append, -List.drop_one] <;> omega) | fail) [-List.map_take, -List.map_drop, -List.map_set, -List.map_append, -List.drop_one]) (by simp (disch := first | omega | (simp [-List.map_take, -List.map_drop, -List.map_set, -List.map_append, -List.drop_one] <;> omega) | fail) [-List.map_take, -List.map_drop, -List.map_set, -List.map_append, -List.drop_one]), by omega, by omega⟩
          · have hm : markI den.l t i c.i.l[i] = c.i.l[i] := by rw [markI, hgb, hbv, if_pos rfl, if_neg hx]
            have := mkI_same h hm
            simp (disch := first | omega | (simp [-List.map_take, -List.map_drop, -List.map_set, -List.map_append, -List.drop_one] <;> omega) | fail) [-List.map_take, -List.map_drop, -List.map_set, -List.map_append, -List.drop_one, h', h, hdl, hdl', hdl2, hgd, hob, hbv, hmf, k1, k2, hx]
            exact ⟨i + 1, weak_same (by simp (disch := first | omega | (simp [-List.map_take, -List.map_drop, -List.map_set, -List.map_append, -List.drop_one] <;> omega) | fail) [-List.map_take, -List.map_drop, -List.map_set, -List.map_append, -List.drop_one]) (by simp (disch := first | omega | (simp [-List.map_take, -List.map_drop, -List.map_set, -List.map_append, -List.drop_one] <;> omega) | fail) [-List.map_take, -List.map_drop, -List.map_set, -List.map_append, -List.drop_one, this]), by omega, by omega⟩
      · have hdl' : ¬ (i : Int) < den.l.length := by omega
        have hdl2 : (den.l.length : Int) ≤ i := by omega
        have hgb : den.l.getD i false = false := by rw [List.getD_eq_getElem?_getD, List.getElem?_eq_none (by omega)]; rfl
        have hm : markI den.l t i c.i.l[i] = c.i.l[i].de (-1) := by rw [markI, hgb]; rfl
        have := fin _ hm
        simp (disch := first | omega | (simp [-List.map_take, -List.map_drop, -List.map_set, -List.map_append, -List.drop_one] <;> omega) | fail) [-List.map_take, -List.map_drop, -List.map_set, -List.map_append, -List.drop_one, h', h, hdl, hdl', hdl2, hmf, k1, k2, this]
        exact ⟨i + 1, weak_same (by simp (disch := first | omega | (simp [-List.map_take, -List.map_drop, -List.map_set, -List.map_append, -List.drop_one] <;> omega) | fail) [-List.map_take, -List.map_drop, -List.map_set, -List.map_append, -List.drop_one]) (by simp (disch := first | omega | (simp [-List.map_take, -List.map_drop, -List.map_set, -List.map_append, -List.drop_one] <;> omega) | fail) [-List.map_take, -List.map_drop, -List.map_set, -List.map_append, -List.drop_one]), by omega, by omega⟩
    · have h' : ¬ (i : Int) < c.i.l.length := by omega
      have hma := mkI_all (den := den.l) (t := t) (l := c.i.l) (i := i) (by omega)
      have htk := take_mk (den := den.l) (t := t) (l := c.i.l) (i := i)
      have hmb := hmf
      rw [hma] at htk hmb
      simp (disch := first | omega | (simp [-List.map_take, -List.map_drop, -List.map_set, -List.map_append, -List.drop_one] <;> omega) | fail) [-List.map_take, -List.map_drop, -List.map_set, -List.map_append, -List.drop_one, h, h', hma, htk, hmb, hd, clC_mk, f3, e5, e7, ha, hb]
end Go.Proofs.YtjhakjeioppijaaDoor
set_option linter.unusedSimpArgs false
set_option linter.unusedVariables false
namespace Go.Proofs.YtjhakjeioppijaaDoor
open Go Go.Am
noncomputable def cDD : List DV → Option DV := con (fun _ => True) (fun p : Sl Dg × Sl Dg => [p.1.dv 32 dgC, p.2.dv 32 dgC]) (fun p => .bool (tv (p.1.l = p.2.l)))
theorem cDD_eq {a b : Sl Dg} : cDD [a.dv 32 dgC, b.dv 32 dgC] = some (.bool (tv (a.l = b.l))) :=
  con_inj (f := fun p : Sl Dg × Sl Dg => [p.1.dv 32 dgC, p.2.dv 32 dgC]) (by
    rintro ⟨a, b⟩ ⟨a', b'⟩ e
    simp only [List.cons.injEq, and_true] at e
    rw [dv_inj len_dgC (by decide) (fun _ _ => dgC_inj) e.1, dv_inj len_dgC (by decide) (fun _ _ => dgC_inj) e.2]) (a, b)
def S390 (a b : Sl Dg) (i : Nat) : St := a107S0 (a.dv 32 dgC) (b.dv 32 dgC) (.int .i64 i) []
theorem runs_samedg (a b : Sl Dg) : Runs tbl0 a107 [a.dv 32 dgC, b.dv 32 dgC] (.bool (tv (a.l = b.l))) := by
  refine ⟨?_⟩
  have ha := a.b
  have hb := b.b
  by_cases hl : a.l.length = b.l.length
  · have hl' : (a.l.length : Int) = b.l.length := by omega
    simp (disch := first | omega | (simp [-List.map_take, -List.map_drop, -List.map_set, -List.map_append, -List.drop_one] <;> omega) | fail) [-List.map_take, -List.map_drop, -List.map_set, -List.map_append, -List.drop_one, a107, hl, hl']
    refine W_loop (S390 a b) (fun i => a.l.length - i) (fun i => i ≤ a.l.length ∧ a.l.take i = b.l.take i) 0 (weak_same (by simp (disch := first | omega | (simp [-List.map_take, -List.map_drop, -List.map_set, -List.map_append, -List.drop_one] <;> omega) | fail) [-List.map_take, -List.map_drop, -List.map_set, -List.map_append, -List.drop_one, S390, a107S0]) (by simp (disch := first | omega | (simp [-List.map_take, -List.map_drop, -List.map_set, -List.map_append, -List.drop_one] <;> omega) | fail) [-List.map_take, -List.map_drop, -List.map_set, -List.map_append, -List.drop_one, S390, a107S0])) ⟨by omega, by simp⟩ (fun i hi => ?_)
    obtain ⟨h1, h2⟩ := hi
    simp (disch := first | omega | (simp [-List.map_take, -List.map_drop, -List.map_set, -List.map_append, -List.drop_one] <;> omega) | fail) [-List.map_take, -List.map_drop, -List.map_set, -List.map_append, -List.drop_one, a107L0, a107S0, S390]
    by_cases h : i < a.l.length
    · have h' : (i : Int) < a.l.length := by omega
      have hx := fun H => idxSD_dv (x := a) (h := H) len_dgC h
      have hy := fun H => idxSD_dv (x := b) (h := H) len_dgC (i := i) (by omega)
      by_cases e : a.l[i] = b.l[i]
      · simp (disch := first | omega | (simp [-List.map_take, -List.map_drop, -List.map_set, -List.map_append, -List.drop_one] <;> omega) | fail) [-List.map_take, -List.map_drop, -List.map_set, -List.map_append, -List.drop_one, h, h', hx, hy, e]
        refine ⟨i + 1, weak_same (by simp (disch := first | omega | (simp [-List.map_take, -List.map_drop, -List.map_set, -List.map_append, -List.drop_one] <;> omega) | fail) [-List.map_take, -List.map_drop, -List.map_set, -List.map_append, -List.drop_one, S390, a107S0]) (by simp (disch := first | omega | (simp [-List.map_take, -List.map_drop, -List.map_set, -List.map_append, -List.drop_one] <;> omega) | fail) [-List.map_take, -List.map_drop, -List.map_set, -List.map_append, -List.drop_one, S390, a107S0]), by omega, by omega, ?_⟩
        rw [List.take_succ_eq_append_getElem h, List.take_succ_eq_append_getElem (by omega), h2, e]
      · have hr : tv (a.l = b.l) = false := tv_false fun q => e (by simp only [q])
        simp (disch := first | omega | (simp [-List.map_take, -List.map_drop, -List.map_set, -List.map_append, -List.drop_one] <;> omega) | fail) [-List.map_take, -List.map_drop, -List.map_set, -List.map_append, -List.drop_one, h, h', hx, hy, e, hr]
    · have h' : ¬ (i : Int) < a.l.length := by omega
      have hr : tv (a.l = b.l) = true := tv_true (by
        rw [List.take_of_length_le (by omega), List.take_of_length_le (by omega)] at h2
        exact h2)
      simp (disch := first | omega | (simp [-List.map_take, -List.map_drop, -List.map_set, -List.map_append, -List.drop_one] <;> omega) | fail) [-List.map_take, -List.map_drop, -List.map_set, -List.map_append, -List.drop_one, h, h', hr]
  · have hl' : ¬ (a.l.length : Int) = b.l.length := by omega
    have hr : tv (a.l = b.l) = false := tv_false fun q => hl (by rw [q])
    simp (disch := first | omega | (simp [-List.map_take, -List.map_drop, -List.map_set, -List.map_append, -List.drop_one] <;> omega) | fail) [-List.map_take, -List.map_drop, -List.map_set, -List.map_append, -List.drop_one, a107, hl, hl', hr]
noncomputable def T420 : Tbl := addT 107 (.pure cDD) tbl0
theorem T420_s : T420 107 = .pure cDD := by simp [T420]
theorem T420_sound : T420.Sound P := addT_sound (con_sound fun p _ => sem_runs mix tbl0_sound Tryd.func107 a107_ok (runs_samedg p.1 p.2)) tbl0_sound
theorem runs_samegroup (a b : Grp) : Runs T420 a82 [.agg (grC a), .agg (grC b)] (.bool (tv (gl a = gl b))) := by
  refine ⟨?_⟩
  by_cases h1 : a.ns = b.ns
  case neg =>
    have hr : tv (gl a = gl b) = false := tv_false fun q => h1 (by simp only [gl, Prod.mk.injEq] at q; exact q.1)
    simp (disch := first | omega | (simp [-List.map_take, -List.map_drop, -List.map_set, -List.map_append, -List.drop_one] <;> omega) | fail) [-List.map_take, -List.map_drop, -List.map_set, -List.map_append, -List.drop_one, a82, h1, hr]
  by_cases h2 : a.im = b.im
  case neg =>
    have hr : tv (gl a = gl b) = false := tv_false fun q => h2 (by simp only [gl, Prod.mk.injEq] at q; exact q.2.1)
    simp (disch := first | omega | (simp [-List.map_take, -List.map_drop, -List.map_set, -List.map_append, -List.drop_one] <;> omega) | fail) [-List.map_take, -List.map_drop, -List.map_set, -List.map_append, -List.drop_one, a82, h1, h2, hr]
  by_cases h3 : a.want = b.want
  case neg =>
    have hr : tv (gl a = gl b) = false := tv_false fun q => h3 (by simp only [gl, Prod.mk.injEq] at q; exact q.2.2.1)
    simp (disch := first | omega | (simp [-List.map_take, -List.map_drop, -List.map_set, -List.map_append, -List.drop_one] <;> omega) | fail) [-List.map_take, -List.map_drop, -List.map_set, -List.map_append, -List.drop_one, a82, h1, h2, h3, hr]
  by_cases h4 : a.least = b.least
  case neg =>
    have hr : tv (gl a = gl b) = false := tv_false fun q => h4 (by simp only [gl, Prod.mk.injEq] at q; exact q.2.2.2.1)
    simp (disch := first | omega | (simp [-List.map_take, -List.map_drop, -List.map_set, -List.map_append, -List.drop_one] <;> omega) | fail) [-List.map_take, -List.map_drop, -List.map_set, -List.map_append, -List.drop_one, a82, h1, h2, h3, h4, hr]
  by_cases h5 : a.down = b.down
  case neg =>
    have hr : tv (gl a = gl b) = false := tv_false fun q => h5 (by simp only [gl, Prod.mk.injEq] at q; exact q.2.2.2.2.1)
    simp (disch := first | omega | (simp [-List.map_take, -List.map_drop, -List.map_set, -List.map_append, -List.drop_one] <;> omega) | fail) [-List.map_take, -List.map_drop, -List.map_set, -List.map_append, -List.drop_one, a82, h1, h2, h3, h4, h5, hr]
  have hr : tv (gl a = gl b) = tv (a.ch.l = b.ch.l) := tv_iff (by simp only [gl, Prod.mk.injEq, h1, h2, h3, h4, h5, true_and])
  simp (disch := first | omega | (simp [-List.map_take, -List.map_drop, -List.map_set, -List.map_append, -List.drop_one] <;> omega) | fail) [-List.map_take, -List.map_drop, -List.map_set, -List.map_append, -List.drop_one, a82, h1, h2, h3, h4, h5, T420_s, cDD_eq, hr]
noncomputable def cGG : List DV → Option DV := con (fun _ => True) (fun p : Grp × Grp => [.agg (grC p.1), .agg (grC p.2)]) (fun p => .bool (tv (gl p.1 = gl p.2)))
theorem cGG_eq {a b : Grp} : cGG [.agg (grC a), .agg (grC b)] = some (.bool (tv (gl a = gl b))) :=
  con_inj (f := fun p : Grp × Grp => [.agg (grC p.1), .agg (grC p.2)]) (by
    rintro ⟨a, b⟩ ⟨a', b'⟩ e
    simp only [List.cons.injEq, DV.agg.injEq, and_true] at e
    rw [grC_inj e.1, grC_inj e.2]) (a, b)
noncomputable def T421 : Tbl := addT 82 (.pure cGG) tbl0
theorem T421_s : T421 82 = .pure cGG := by simp [T421]
theorem T421_sound : T421.Sound P := addT_sound (con_sound fun p _ => sem_runs mix T420_sound Tryd.func82 a82_ok (runs_samegroup p.1 p.2)) tbl0_sound
def S391 (a b : Clu) (i : Nat) : St := a44S0 (.mp 0 3 0) (.mp 1 3 0) (.int .i64 i) [.cells (clC a), .cells (clC b)]
def S392 (a b : Clu) (i : Nat) : St := a44S1 (.mp 0 3 0) (.mp 1 3 0) (.int .i64 i) [.cells (clC a), .cells (clC b)]
noncomputable def sameB (a b : Clu) : Bool := tv (SameC a b)
set_option maxRecDepth 20000 in
set_option maxHeartbeats 2000000 in
theorem runs_same (a b : Clu) : Runs T421 a44 [.agg (clC a), .agg (clC b)] (.bool (sameB a b)) := by
  refine ⟨?_⟩
  have ha1 := a.g.b
  have ha2 := a.i.b
  have hb1 := b.g.b
  have hb2 := b.i.b
  by_cases g1 : a.g.l.length = b.g.l.length
  case neg =>
    have g1' : ¬ (a.g.l.length : Int) = b.g.l.length := by omega
    have hr : sameB a b = false := tv_false fun q => g1 (by simpa using congrArg List.length q.g)
    simp (disch := first | omega | (simp [-List.map_take, -List.map_drop, -List.map_set, -List.map_append, -List.drop_one] <;> omega) | fail) [-List.map_take, -List.map_drop, -List.map_set, -List.map_append, -List.drop_one, a44, g1, g1', hr]
  have g1' : (a.g.l.length : Int) = b.g.l.length := by omega
  by_cases g2 : a.i.l.length = b.i.l.length
  case neg =>
    have g2' : ¬ (a.i.l.length : Int) = b.i.l.length := by omega
    have hr : sameB a b = false := tv_false fun q => g2 (by simpa using congrArg List.length q.i)
    simp (disch := first | omega | (simp [-List.map_take, -List.map_drop, -List.map_set, -List.map_append, -List.drop_one] <;> omega) | fail) [-List.map_take, -List.map_drop, -List.map_set, -List.map_append, -List.drop_one, a44, g1, g1', g2, g2', hr]
  have g2' : (a.i.l.length : Int) = b.i.l.length := by omega
  by_cases g3 : a.next = b.next
  case neg =>
    have hr : sameB a b = false := tv_false fun q => g3 q.n
    simp (disch := first | omega | (simp [-List.map_take, -List.map_drop, -List.map_set, -List.map_append, -List.drop_one] <;> omega) | fail) [-List.map_take, -List.map_drop, -List.map_set, -List.map_append, -List.drop_one, a44, g1, g1', g2, g2', g3, hr]
  simp (disch := first | omega | (simp [-List.map_take, -List.map_drop, -List.map_set, -List.map_append, -List.drop_one] <;> omega) | fail) [-List.map_take, -List.map_drop, -List.map_set, -List.map_append, -List.drop_one, a44, g1, g1', g2, g2', g3]
  refine W_loop (S391 a b) (fun i => a.g.l.length - i) (fun i => i ≤ a.g.l.length ∧ (a.g.l.take i).map gl = (b.g.l.take i).map gl) 0 (weak_same (by simp (disch := first | omega | (simp [-List.map_take, -List.map_drop, -List.map_set, -List.map_append, -List.drop_one] <;> omega) | fail) [-List.map_take, -List.map_drop, -List.map_set, -List.map_append, -List.drop_one, S391, a44S0]) (by simp (disch := first | omega | (simp [-List.map_take, -List.map_drop, -List.map_set, -List.map_append, -List.drop_one] <;> omega) | fail) [-List.map_take, -List.map_drop, -List.map_set, -List.map_append, -List.drop_one, S391, a44S0])) ⟨by omega, by simp⟩ (fun i hi => ?_)
  obtain ⟨h1, h2⟩ := hi
  simp (disch := first | omega | (simp [-List.map_take, -List.map_drop, -List.map_set, -List.map_append, -List.drop_one] <;> omega) | fail) [-List.map_take, -List.map_drop, -List.map_set, -List.map_append, -List.drop_one, a44L0, a44S0, S391]
  by_cases h : i < a.g.l.length
  · have h' : (i : Int) < a.g.l.length := by omega
    have hx := fun H => idxSD_dv (x := a.g) (h := H) len_grC h
    have hy := fun H => idxSD_dv (x := b.g) (h := H) len_grC (i := i) (by omega)
    by_cases e : gl a.g.l[i] = gl b.g.l[i]
    · simp (disch := first | omega | (simp [-List.map_take, -List.map_drop, -List.map_set, -List.map_append, -List.drop_one] <;> omega) | fail) [-List.map_take, -List.map_drop, -List.map_set, -List.map_append, -List.drop_one, h, h', hx, hy, T421_s, cGG_eq, tv_true e]
      refine ⟨i + 1, weak_same (by simp (disch := first | omega | (simp [-List.map_take, -List.map_drop, -List.map_set, -List.map_append, -List.drop_one] <;> omega) | fail) [-List.map_take, -List.map_drop, -List.map_set, -List.map_append, -List.drop_one, S391, a44S0]) (by simp (disch := first | omega | (simp [-List.map_take, -List.map_drop, -List.map_set, -List.map_append, -List.drop_one] <;> omega) | fail) [-List.map_take, -List.map_drop, -List.map_set, -List.map_append, -List.drop_one, S391, a44S0]), by omega, by omega, ?_⟩
      rw [List.take_succ_eq_append_getElem h, List.take_succ_eq_append_getElem (by omega), List.map_append, List.map_append, h2, List.map_cons, List.map_cons, e]
    · have hr : sameB a b = false := tv_false fun q => e (by
        have hq := q.g
        have e1 : (a.g.l.map gl)[i]? = (b.g.l.map gl)[i]? := by rw [hq]
        rw [List.getElem?_map, List.getElem?_map, List.getElem?_eq_getElem h, List.getElem?_eq_getElem (by omega)] at e1
        simpa using e1)
      simp (disch := first | omega | (simp [-List.map_take, -List.map_drop, -List.map_set, -List.map_append, -List.drop_one] <;> omega) | fail) [-List.map_take, -List.map_drop, -List.map_set, -List.map_append, -List.drop_one, h, h', hx, hy, T421_s, cGG_eq, tv_false e, hr]
  · have h' : ¬ (i : Int) < a.g.l.length := by omega
    have hgl : a.g.l.map gl = b.g.l.map gl := by
      rw [List.take_of_length_le (by omega), List.take_of_length_le (by omega)] at h2
      exact h2
    simp (disch := first | omega | (simp [-List.map_take, -List.map_drop, -List.map_set, -List.map_append, -List.drop_one] <;> omega) | fail) [-List.map_take, -List.map_drop, -List.map_set, -List.map_append, -List.drop_one, h, h']
    refine W_loop (S392 a b) (fun i => a.i.l.length - i) (fun i => i ≤ a.i.l.length ∧ a.i.l.take i = b.i.l.take i) 0 (weak_same (by simp (disch := first | omega | (simp [-List.map_take, -List.map_drop, -List.map_set, -List.map_append, -List.drop_one] <;> omega) | fail) [-List.map_take, -List.map_drop, -List.map_set, -List.map_append, -List.drop_one, S392, a44S1]) (by simp (disch := first | omega | (simp [-List.map_take, -List.map_drop, -List.map_set, -List.map_append, -List.drop_one] <;> omega) | fail) [-List.map_take, -List.map_drop, -List.map_set, -List.map_append, -List.drop_one, S392, a44S1])) ⟨by omega, by simp⟩ (fun j hj => ?_)
    obtain ⟨h3, h4⟩ := hj
    simp (disch := first | omega | (simp [-List.map_take, -List.map_drop, -List.map_set, -List.map_append, -List.drop_one] <;> omega) | fail) [-List.map_take, -List.map_drop, -List.map_set, -List.map_append, -List.drop_one, a44L1, a44S1, S392]
    by_cases q : j < a.i.l.length
    · have q' : (j : Int) < a.i.l.length := by omega
      have hx := fun H => idxSD_dv (x := a.i) (h := H) len_inC q
      have hy := fun H => idxSD_dv (x := b.i) (h := H) len_inC (i := j) (by omega)
      by_cases e : a.i.l[j] = b.i.l[j]
      · simp (disch := first | omega | (simp [-List.map_take, -List.map_drop, -List.map_set, -List.map_append, -List.drop_one] <;> omega) | fail) [-List.map_take, -List.map_drop, -List.map_set, -List.map_append, -List.drop_one, q, q', hx, hy, e]
        refine ⟨j + 1, weak_same (by simp (disch := first | omega | (simp [-List.map_take, -List.map_drop, -List.map_set, -List.map_append, -List.drop_one] <;> omega) | fail) [-List.map_take, -List.map_drop, -List.map_set, -List.map_append, -List.drop_one, S392, a44S1]) (by simp (disch := first | omega | (simp [-List.map_take, -List.map_drop, -List.map_set, -List.map_append, -List.drop_one] <;> omega) | fail) [-List.map_take, -List.map_drop, -List.map_set, -List.map_append, -List.drop_one, S392, a44S1]), by omega, by omega, ?_⟩
        rw [List.take_succ_eq_append_getElem q, List.take_succ_eq_append_getElem (by omega), h4, e]
      · have hr : sameB a b = false := tv_false fun z => e (by have := z.i; simp only [this])
        simp (disch := first | omega | (simp [-List.map_take, -List.map_drop, -List.map_set, -List.map_append, -List.drop_one] <;> omega) | fail) [-List.map_take, -List.map_drop, -List.map_set, -List.map_append, -List.drop_one, q, q', hx, hy, e, hr]
    · have q' : ¬ (j : Int) < a.i.l.length := by omega
      have hr : sameB a b = true := tv_true ⟨hgl, by
        rw [List.take_of_length_le (by omega), List.take_of_length_le (by omega)] at h4
        exact h4, g3⟩
      simp (disch := first | omega | (simp [-List.map_take, -List.map_drop, -List.map_set, -List.map_append, -List.drop_one] <;> omega) | fail) [-List.map_take, -List.map_drop, -List.map_set, -List.map_append, -List.drop_one, q, q', hr]
noncomputable def cCC : List DV → Option DV := con (fun _ => True) (fun p : Clu × Clu => [.agg (clC p.1), .agg (clC p.2)]) (fun p => .bool (sameB p.1 p.2))
theorem cCC_eq {a b : Clu} : cCC [.agg (clC a), .agg (clC b)] = some (.bool (sameB a b)) :=
  con_inj (f := fun p : Clu × Clu => [.agg (clC p.1), .agg (clC p.2)]) (by
    rintro ⟨a, b⟩ ⟨a', b'⟩ e
    simp only [List.cons.injEq, DV.agg.injEq, and_true] at e
    rw [clC_inj e.1, clC_inj e.2]) (a, b)
theorem same_sound : (Con.pure cCC).Sound P 44 := con_sound fun p _ => sem_runs mix T421_sound Tryd.func44 a44_ok (runs_same p.1 p.2)
end Go.Proofs.YtjhakjeioppijaaDoor
set_option linter.unusedSimpArgs false
set_option linter.unusedVariables false
namespace Go.Proofs.YtjhakjeioppijaaDoor
open Go Go.Am
theorem sameB_true {a b : Clu} (h : SameC a b) : sameB a b = true := tv_true h
theorem gl_fun : gl ∘ Grp.clone = gl := rfl
theorem clone_g_gl (c : Clu) : c.clone.g.l.map gl = c.g.l.map gl := by
  show (c.g.l.map Grp.clone).map gl = _
  rw [List.map_map, gl_fun]
theorem same_deploy (c : Clu) (g : Grp) : (deployP c g).2 = (deployR c g).2 ∧ SameC (deployP c g).1 (deployR c g).1 := by
  unfold deployP deployR
  by_cases h : ¬ ValidC c ∨ ¬ ValidG g
  · rw [if_pos h, if_pos h]; exact ⟨rfl, .refl _⟩
  rw [if_neg h, if_neg h]
  have hv : ValidC c := Classical.not_not.1 fun q => h (.inl q)
  have hn := hv.ng
  by_cases h1 : grpIx c.g.l g.ns g.im < 0
  · rw [if_pos h1, if_pos h1]
    by_cases h2 : 16 ≤ c.g.l.length
    · rw [if_pos h2, if_pos h2]; exact ⟨rfl, .refl _⟩
    · rw [if_neg h2, if_neg h2]
      refine ⟨rfl, ?_, rfl, rfl⟩
      show (own (c.g.l.map Grp.clone ++ [g.clone])).l.map gl = (own (c.g.l ++ [g])).l.map gl
      rw [own_l (by simp; omega), own_l (by simp; omega), List.map_append, List.map_append, List.map_map, gl_fun]
      rfl
  · rw [if_neg h1, if_neg h1]
    refine ⟨rfl, ?_, rfl, rfl⟩
    show (own ((c.g.l.map Grp.clone).set _ g.clone)).l.map gl = (own (c.g.l.set _ g)).l.map gl
    rw [own_l (by simp; omega), own_l (by simp; omega), List.map_set, List.map_set, List.map_map, gl_fun]
    rfl
theorem same_start (c : Clu) (gr : Int) (d : Dg) (t : Int) : (startP c gr d t).2 = (startR c gr d t).2 ∧ SameC (startP c gr d t).1 (startR c gr d t).1 := by
  unfold startP startR
  by_cases h : ¬ ValidC c ∨ d = dg0 ∨ ¬ timeOK t
  · rw [if_pos h, if_pos h]; exact ⟨rfl, .refl _⟩
  rw [if_neg h, if_neg h]
  by_cases h1 : gr < 0 ∨ (c.g.l.length : Int) ≤ gr
  · rw [if_pos h1, if_pos h1]; exact ⟨rfl, .refl _⟩
  rw [if_neg h1, if_neg h1]
  by_cases h2 : 200 ≤ c.i.l.length ∨ 1099511627776 ≤ c.next
  · rw [if_pos h2, if_pos h2]; exact ⟨rfl, .refl _⟩
  rw [if_neg h2, if_neg h2]
  exact ⟨rfl, clone_g_gl c, rfl, rfl⟩
theorem same_change (c : Clu) (id t a b to : Int) (hm : ∀ s, 1 ≤ s → s ≤ 3 → may to s = mayR a b s) : (changeP c id t to).2 = (chgR c id t a b to).2 ∧ SameC (changeP c id t to).1 (chgR c id t a b to).1 := by
  unfold changeP chgR
  by_cases h : ¬ ValidC c ∨ ¬ timeOK t
  · rw [if_pos h, if_pos h]; exact ⟨rfl, .refl _⟩
  rw [if_neg h, if_neg h]
  have hv : ValidC c := Classical.not_not.1 fun q => h (.inl q)
  by_cases h1 : findIx c.i.l id < 0
  · rw [if_pos h1, if_pos h1]; exact ⟨rfl, .refl _⟩
  rw [if_neg h1, if_neg h1]
  obtain ⟨k, hk, hke, _, _⟩ := ixI_pos (show 0 ≤ findIx c.i.l id by omega)
  have hke : findIx c.i.l id = k := hke
  have hs := (hv.i k hk).1
  have e : ((c.i.l[(findIx c.i.l id).toNat]?).map fun x => may to x.state) = ((c.i.l[(findIx c.i.l id).toNat]?).map fun x => mayR a b x.state) := by
    rw [hke, Int.toNat_natCast, List.getElem?_eq_getElem hk, Option.map_some, Option.map_some, hm _ hs.s0 hs.s1]
  rw [e]
  split
  · exact ⟨rfl, clone_g_gl c, rfl, rfl⟩
  · exact ⟨rfl, .refl _⟩
theorem same_started (c : Clu) (id t : Int) : (changeP c id t 2).2 = (chgR c id t 1 1 2).2 ∧ SameC (changeP c id t 2).1 (chgR c id t 1 1 2).1 :=
  same_change c id t 1 1 2 fun s _ _ => by by_cases h : s = 1 <;> simp [may, mayR, h]
theorem same_stop (c : Clu) (id t : Int) : (changeP c id t 3).2 = (chgR c id t 1 2 3).2 ∧ SameC (changeP c id t 3).1 (chgR c id t 1 2 3).1 :=
  same_change c id t 1 2 3 fun s h1 h2 => by
    have : s = 1 ∨ s = 2 ∨ s = 3 := by omega
    rcases this with rfl | rfl | rfl <;> simp [may, mayR]
theorem same_remove (c : Clu) (id : Int) : (removeP c id).2 = (removeR c id).2 ∧ SameC (removeP c id).1 (removeR c id).1 := by
  unfold removeP removeR
  by_cases h : ¬ ValidC c
  · rw [if_pos h, if_pos h]; exact ⟨rfl, .refl _⟩
  rw [if_neg h, if_neg h]
  by_cases h1 : findIx c.i.l id < 0
  · rw [if_pos h1, if_pos h1]; exact ⟨rfl, .refl _⟩
  rw [if_neg h1, if_neg h1]
  exact ⟨rfl, clone_g_gl c, rfl, rfl⟩
theorem same_mark (c : Clu) (den : List Bool) (t : Int) : SameC (markP c den t) (markR c den t) := by
  unfold markP markR
  by_cases h : ¬ ValidC c ∨ ¬ timeOK t
  · rw [if_pos h, if_pos h]; exact ⟨clone_g_gl c, rfl, rfl⟩
  · rw [if_neg h, if_neg h]; exact ⟨clone_g_gl c, rfl, rfl⟩
noncomputable def cMkF (f : Clu → List Bool → Int → Clu) : List DV → Option DV := con (fun _ => True) (fun p : Clu × Sl Bool × Int => [.agg (clC p.1), p.2.1.dv 1 inB, .int .i64 p.2.2]) (fun p => .agg (clC (f p.1 p.2.1.l p.2.2)))
theorem cMkF_eq {f : Clu → List Bool → Int → Clu} {c : Clu} {d : Sl Bool} {t : Int} : cMkF f [.agg (clC c), d.dv 1 inB, .int .i64 t] = some (.agg (clC (f c d.l t))) :=
  con_inj (f := fun p : Clu × Sl Bool × Int => [.agg (clC p.1), p.2.1.dv 1 inB, .int .i64 p.2.2]) (by
    rintro ⟨a, b, c⟩ ⟨a', b', c'⟩ e
    simp only [List.cons.injEq, DV.agg.injEq, DV.int.injEq, and_true, true_and] at e
    rw [clC_inj e.1, dv_inj len_inB (by decide) (fun _ _ q => by simpa [inB] using q) e.2.1, e.2.2]) (c, d, t)
theorem refdeploy_sound : (Con.pure (cDep deployRB)).Sound P 36 := con_sound fun p _ => sem_runs mix T170_sound Tryd.func36 a36_ok (runs_refdeploy p.1 p.2)
theorem refstart_sound : (Con.pure (cSta startRB)).Sound P 37 := con_sound fun p _ => sem_runs mix T170_sound Tryd.func37 a37_ok (runs_refstart p.1 p.2.1 p.2.2.1 p.2.2.2)
theorem refstarted_sound : (Con.pure (cCii fun c i t => chgRB c i t 1 1 2)).Sound P 39 := con_sound fun p _ => sem_runs mix T415_sound Tryd.func39 a39_ok (runs_refstarted p.1 p.2.1 p.2.2)
theorem refstop_sound : (Con.pure (cCii fun c i t => chgRB c i t 1 2 3)).Sound P 41 := con_sound fun p _ => sem_runs mix T415_sound Tryd.func41 a41_ok (runs_refstop p.1 p.2.1 p.2.2)
theorem refremove_sound : (Con.pure (cCi removeRB)).Sound P 42 := con_sound fun p _ => sem_runs mix T170_sound Tryd.func42 a42_ok (runs_refremove p.1 p.2)
theorem refmark_sound : (Con.pure (cMkF markR)).Sound P 43 := con_sound fun p _ => sem_runs mix T170_sound Tryd.func43 a43_ok (runs_refmark p.1 p.2.1 p.2.2)
theorem deploy_sound37 : (Con.pure (cDep deployB)).Sound P 35 := con_sound fun p _ => sem_runs mix T112_sound Tryd.func35 a35_ok (runs_deploy p.1 p.2)
theorem start_sound37 : (Con.pure (cSta startB)).Sound P 32 := con_sound fun p _ => sem_runs mix T112_sound Tryd.func32 a32_ok (runs_start p.1 p.2.1 p.2.2.1 p.2.2.2)
theorem started_sound37 : (Con.pure (cCii fun c i t => changeB c i t 2)).Sound P 38 := con_sound fun p _ => sem_runs mix T114_sound Tryd.func38 a38_ok (runs_started p.1 p.2.1 p.2.2)
theorem stop_sound37 : (Con.pure (cCii fun c i t => changeB c i t 3)).Sound P 40 := con_sound fun p _ => sem_runs mix T115_sound Tryd.func40 a40_ok (runs_stop p.1 p.2.1 p.2.2)
theorem remove_sound37 : (Con.pure (cCi removeB)).Sound P 31 := con_sound fun p _ => sem_runs mix T400_sound Tryd.func31 a31_ok (runs_remove p.1 p.2)
theorem mark_sound37 : (Con.pure (cMkF markP)).Sound P 30 := con_sound fun p _ => sem_runs mix T112_sound Tryd.func30 a30_ok (runs_mark p.1 p.2.1 p.2.2)
theorem awake_sound37 : (Con.pure cTrue).Sound P 17 := cTrue_sound (sem_runs mix T116_sound Tryd.func17 a17_ok runs_awake37)
end Go.Proofs.YtjhakjeioppijaaDoor
set_option linter.unusedSimpArgs false
set_option linter.unusedVariables false
namespace Go.Proofs.YtjhakjeioppijaaDoor
open Go Go.Am
theorem ixI_map {α β : Type} {q : β → Bool} {f : α → β} : ∀ l : List α, ixI (fun x => q (f x)) l = ixI q (l.map f)
  | [] => rfl
  | a :: l => by simp only [List.map_cons, ixI, ixI_map l]
theorem fitG_gl (ns im : List UInt8) : fitG ns im = fun g => (fun p : List UInt8 × List UInt8 × Int × Int × Int × List Dg => decide (p.1 = ns) && decide (p.2.1 = im)) (gl g) := rfl
theorem grpIx_gl {l m : List Grp} (h : l.map gl = m.map gl) (ns im : List UInt8) : grpIx l ns im = grpIx m ns im := by
  unfold grpIx
  rw [fitG_gl, ixI_map (q := fun p : List UInt8 × List UInt8 × Int × Int × Int × List Dg => decide (p.1 = ns) && decide (p.2.1 = im)) (f := gl), ixI_map (q := fun p : List UInt8 × List UInt8 × Int × Int × Int × List Dg => decide (p.1 = ns) && decide (p.2.1 = im)) (f := gl), h]
theorem validG_gl {g h : Grp} (e : gl g = gl h) (v : ValidG g) : ValidG h := by
  simp only [gl, Prod.mk.injEq] at e
  obtain ⟨e1, e2, e3, e4, e5, e6⟩ := e
  obtain ⟨v1, v2, v3, v4, v5, v6, v7, v8, v9, v10⟩ := v
  exact ⟨e1 ▸ v1, e2 ▸ v2, by omega, by omega, by omega, by omega, by omega, by omega, by rw [← e6]; exact v9, by rw [← e6]; exact v10⟩
theorem SameC.symm {a b : Clu} (h : SameC a b) : SameC b a := ⟨h.g.symm, h.i.symm, h.n.symm⟩
theorem SameC.trans {a b c : Clu} (h : SameC a b) (k : SameC b c) : SameC a c := ⟨h.g.trans k.g, h.i.trans k.i, h.n.trans k.n⟩
theorem SameC.gn {a b : Clu} (h : SameC a b) : a.g.l.length = b.g.l.length := by simpa using congrArg List.length h.g
theorem SameC.at' {a b : Clu} (h : SameC a b) {i : Nat} (h1 : i < a.g.l.length) (h2 : i < b.g.l.length) : gl a.g.l[i] = gl b.g.l[i] := by
  have e1 : (a.g.l.map gl)[i]? = (b.g.l.map gl)[i]? := by rw [h.g]
  rw [List.getElem?_map, List.getElem?_map, List.getElem?_eq_getElem h1, List.getElem?_eq_getElem h2] at e1
  simpa using e1
theorem valid_same {a b : Clu} (h : SameC a b) (v : ValidC a) : ValidC b := by
  have hn := h.gn
  refine ⟨by rw [← hn]; exact v.ng, by rw [← h.i]; exact v.ni, by rw [← h.n]; exact v.n0, by rw [← h.n]; exact v.n1, fun i hi => ?_, fun i hi => ?_⟩
  · have hi' : i < a.g.l.length := by omega
    have e := h.at' hi' hi
    obtain ⟨v1, v2⟩ := v.g i hi'
    refine ⟨validG_gl e v1, ?_⟩
    rw [← grpIx_gl h.g]
    simp only [gl, Prod.mk.injEq] at e
    rw [← e.1, ← e.2.1]
    exact v2
  · have hi' : i < a.i.l.length := by rw [h.i]; exact hi
    obtain ⟨v1, v2⟩ := v.i i hi'
    have e : ∀ j (hj : j < b.i.l.length), b.i.l[j] = a.i.l[j]'(by rw [h.i]; exact hj) := fun j hj => by simp only [h.i]
    rw [e i hi, ← hn, ← h.n]
    refine ⟨v1, fun h0 => ?_⟩
    rw [e (i - 1) (by omega)]
    exact v2 h0
theorem valid_iff {a b : Clu} (h : SameC a b) : ValidC a ↔ ValidC b := ⟨valid_same h, valid_same h.symm⟩
theorem set_map_gl {l m : List Grp} (h : l.map gl = m.map gl) (k : Nat) (g : Grp) : (l.set k g).map gl = (m.set k g).map gl := by rw [List.map_set, List.map_set, h]
theorem cong_deploy {a b : Clu} (h : SameC a b) (g : Grp) : (deployR a g).2 = (deployR b g).2 ∧ SameC (deployR a g).1 (deployR b g).1 := by
  unfold deployR
  rw [valid_iff h]
  by_cases q : ¬ ValidC b ∨ ¬ ValidG g
  · rw [if_pos q, if_pos q]; exact ⟨rfl, .refl _⟩
  rw [if_neg q, if_neg q]
  have hv : ValidC b := Classical.not_not.1 fun z => q (.inl z)
  have hn := hv.ng
  have hl := h.gn
  rw [grpIx_gl h.g, hl]
  by_cases h1 : grpIx b.g.l g.ns g.im < 0
  · rw [if_pos h1, if_pos h1]
    by_cases h2 : 16 ≤ b.g.l.length
    · rw [if_pos h2, if_pos h2]; exact ⟨rfl, .refl _⟩
    · rw [if_neg h2, if_neg h2]
      refine ⟨rfl, ?_, h.i, h.n⟩
      show (own (a.g.l ++ [g])).l.map gl = (own (b.g.l ++ [g])).l.map gl
      rw [own_l (by simp; omega), own_l (by simp; omega), List.map_append, List.map_append, h.g]
  · rw [if_neg h1, if_neg h1]
    refine ⟨rfl, ?_, h.i, h.n⟩
    show (own (a.g.l.set _ g)).l.map gl = (own (b.g.l.set _ g)).l.map gl
    rw [own_l (by simp; omega), own_l (by simp; omega), set_map_gl h.g]
theorem cong_start {a b : Clu} (h : SameC a b) (gr : Int) (d : Dg) (t : Int) : (startR a gr d t).2 = (startR b gr d t).2 ∧ SameC (startR a gr d t).1 (startR b gr d t).1 := by
  unfold startR
  rw [valid_iff h, h.gn, h.i, h.n]
  by_cases q : ¬ ValidC b ∨ d = dg0 ∨ ¬ timeOK t
  · rw [if_pos q, if_pos q]; exact ⟨rfl, .refl _⟩
  rw [if_neg q, if_neg q]
  by_cases h1 : gr < 0 ∨ (b.g.l.length : Int) ≤ gr
  · rw [if_pos h1, if_pos h1]; exact ⟨rfl, .refl _⟩
  rw [if_neg h1, if_neg h1]
  by_cases h2 : 200 ≤ b.i.l.length ∨ 1099511627776 ≤ b.next
  · rw [if_pos h2, if_pos h2]; exact ⟨rfl, .refl _⟩
  rw [if_neg h2, if_neg h2]
  refine ⟨rfl, h.g, ?_, rfl⟩
  have e : newI a gr d t = newI b gr d t := by rw [newI, newI, h.n]
  rw [e]
theorem cong_change {a b : Clu} (h : SameC a b) (id t s1 s2 to : Int) : (chgR a id t s1 s2 to).2 = (chgR b id t s1 s2 to).2 ∧ SameC (chgR a id t s1 s2 to).1 (chgR b id t s1 s2 to).1 := by
  unfold chgR
  rw [valid_iff h, h.i, h.n]
  by_cases q : ¬ ValidC b ∨ ¬ timeOK t
  · rw [if_pos q, if_pos q]; exact ⟨rfl, .refl _⟩
  rw [if_neg q, if_neg q]
  by_cases h1 : findIx b.i.l id < 0
  · rw [if_pos h1, if_pos h1]; exact ⟨rfl, .refl _⟩
  rw [if_neg h1, if_neg h1]
  split
  · exact ⟨rfl, h.g, rfl, rfl⟩
  · exact ⟨rfl, .refl _⟩
theorem cong_remove {a b : Clu} (h : SameC a b) (id : Int) : (removeR a id).2 = (removeR b id).2 ∧ SameC (removeR a id).1 (removeR b id).1 := by
  unfold removeR
  rw [valid_iff h, h.i, h.n]
  by_cases q : ¬ ValidC b
  · rw [if_pos q, if_pos q]; exact ⟨rfl, .refl _⟩
  rw [if_neg q, if_neg q]
  by_cases h1 : findIx b.i.l id < 0
  · rw [if_pos h1, if_pos h1]; exact ⟨rfl, .refl _⟩
  rw [if_neg h1, if_neg h1]
  exact ⟨rfl, h.g, rfl, rfl⟩
theorem cong_mark {a b : Clu} (h : SameC a b) (den : List Bool) (t : Int) : SameC (markR a den t) (markR b den t) := by
  unfold markR
  rw [valid_iff h]
  by_cases q : ¬ ValidC b ∨ ¬ timeOK t
  · rw [if_pos q, if_pos q]; exact h
  · rw [if_neg q, if_neg q]
    refine ⟨h.g, ?_, h.n⟩
    show markL den t a.i.l = markL den t b.i.l
    rw [h.i]
structure StpC (a : Clu) (p r : DV) (x y : Clu) (e : Int) : Prop where
  p : p = .tup [.agg (clC x), .int .i64 e]
  r : r = .tup [.agg (clC y), .int .i64 e]
  s : SameC x y
  n0 : e = 0 → 1 ≤ x.next
  n1 : e = 0 → x.next ≤ a.next + 1
theorem next_deploy {c : Clu} {g : Grp} (h : (deployP c g).2 = 0) : (deployP c g).1.next = c.next := by
  unfold deployP at h ⊢
  split at h
  · simp at h
  rename_i h1
  rw [if_neg h1]
  split at h
  · rename_i h2
    rw [if_pos h2]
    split at h
    · simp at h
    · rename_i h3; rw [if_neg h3]
  · rename_i h2; rw [if_neg h2]
theorem next_change {c : Clu} {id t to : Int} (h : (changeP c id t to).2 = 0) : (changeP c id t to).1.next = c.next := by
  unfold changeP at h ⊢
  split at h
  · simp at h
  rename_i h1
  rw [if_neg h1]
  split at h
  · simp at h
  rename_i h2
  rw [if_neg h2]
  split at h
  · rename_i h3; rw [if_pos h3]
  · simp at h
theorem next_remove {c : Clu} {id : Int} (h : (removeP c id).2 = 0) : (removeP c id).1.next = c.next := by
  unfold removeP at h ⊢
  split at h
  · simp at h
  rename_i h1
  rw [if_neg h1]
  split at h
  · simp at h
  rename_i h2
  rw [if_neg h2]
theorem next_start {c : Clu} {gr t : Int} {d : Dg} (h : (startP c gr d t).2.2 = 0) : (startP c gr d t).1.next = c.next + 1 := by
  unfold startP at h ⊢
  split at h
  · simp at h
  rename_i h1
  rw [if_neg h1]
  split at h
  · simp at h
  rename_i h2
  rw [if_neg h2]
  split at h
  · simp at h
  rename_i h3
  rw [if_neg h3]
theorem stp_deploy {a b : Clu} (h : SameC a b) (hn : 1 ≤ a.next) (g : Grp) : ∃ x y e, StpC a (deployB a g) (deployRB b g) x y e := by
  obtain ⟨h1, h2⟩ := same_deploy a g
  obtain ⟨h3, h4⟩ := cong_deploy h g
  exact ⟨_, _, _, rfl, by rw [deployRB, h1, h3], h2.trans h4, fun e => by rw [next_deploy e]; exact hn, fun e => by rw [next_deploy e]; omega⟩
theorem stp_started {a b : Clu} (h : SameC a b) (hn : 1 ≤ a.next) (id t : Int) : ∃ x y e, StpC a (changeB a id t 2) (chgRB b id t 1 1 2) x y e := by
  obtain ⟨h1, h2⟩ := same_started a id t
  obtain ⟨h3, h4⟩ := cong_change h id t 1 1 2
  exact ⟨_, _, _, rfl, by rw [chgRB, h1, h3], h2.trans h4, fun e => by rw [next_change e]; exact hn, fun e => by rw [next_change e]; omega⟩
theorem stp_stop {a b : Clu} (h : SameC a b) (hn : 1 ≤ a.next) (id t : Int) : ∃ x y e, StpC a (changeB a id t 3) (chgRB b id t 1 2 3) x y e := by
  obtain ⟨h1, h2⟩ := same_stop a id t
  obtain ⟨h3, h4⟩ := cong_change h id t 1 2 3
  exact ⟨_, _, _, rfl, by rw [chgRB, h1, h3], h2.trans h4, fun e => by rw [next_change e]; exact hn, fun e => by rw [next_change e]; omega⟩
theorem stp_remove {a b : Clu} (h : SameC a b) (hn : 1 ≤ a.next) (id : Int) : ∃ x y e, StpC a (removeB a id) (removeRB b id) x y e := by
  obtain ⟨h1, h2⟩ := same_remove a id
  obtain ⟨h3, h4⟩ := cong_remove h id
  exact ⟨_, _, _, rfl, by rw [removeRB, h1, h3], h2.trans h4, fun e => by rw [next_remove e]; exact hn, fun e => by rw [next_remove e]; omega⟩
structure Stp3 (a : Clu) (p r : DV) (x y : Clu) (i e : Int) : Prop where
  p : p = .tup [.agg (clC x), .int .i64 i, .int .i64 e]
  r : r = .tup [.agg (clC y), .int .i64 i, .int .i64 e]
  s : SameC x y
  n0 : e = 0 → 1 ≤ x.next
  n1 : e = 0 → x.next ≤ a.next + 1
theorem stp_start {a b : Clu} (h : SameC a b) (hn : 1 ≤ a.next) (gr : Int) (d : Dg) (t : Int) : ∃ x y i e, Stp3 a (startB a gr d t) (startRB b gr d t) x y i e := by
  obtain ⟨h1, h2⟩ := same_start a gr d t
  obtain ⟨h3, h4⟩ := cong_start h gr d t
  exact ⟨_, _, _, _, rfl, by rw [startRB, h1, h3], h2.trans h4, fun e => by rw [next_start e]; omega, fun e => by rw [next_start e]; omega⟩
structure StpM (a : Clu) (p r x y : Clu) : Prop where
  p : p = x
  r : r = y
  s : SameC x y
  n0 : 1 ≤ x.next
  n1 : x.next ≤ a.next + 1
theorem next_mark (c : Clu) (den : List Bool) (t : Int) : (markP c den t).next = c.next := by unfold markP; split <;> rfl
theorem stp_mark {a b : Clu} (h : SameC a b) (hn : 1 ≤ a.next) (den : List Bool) (t : Int) : ∃ x y, StpM a (markP a den t) (markR b den t) x y :=
  ⟨_, _, rfl, rfl, (same_mark a den t).trans (cong_mark h den t), by rw [next_mark]; exact hn, by rw [next_mark]; omega⟩
end Go.Proofs.YtjhakjeioppijaaDoor
set_option linter.unusedSimpArgs false
set_option linter.unusedVariables false
namespace Go.Proofs.YtjhakjeioppijaaDoor
open Go Go.Am
def a7L0 : ACode :=
  (.seq (.seq (.region false [⟨none, (some 30), .mov (.t 8)⟩,
    ⟨none, (some 31), .bin .gtr (.t 30) (.k (.int .i64 0))⟩])
  (.cond (.t 31) .skip
  (.exit 0)))
  (.seq (.block 1 (.seq (.region false [⟨none, (some 34), .mov (.t 5)⟩,
    ⟨none, (some 35), .call (.k (.fn (.func 28) [] [])) [(.t 34), (.k (.int .i64 60))]⟩,
    ⟨none, (some 9), .mov (.t 35)⟩])
  (.seq (.seq (.region false [⟨none, (some 36), .mov (.t 5)⟩,
    ⟨none, (some 37), .call (.k (.fn (.func 28) [] [])) [(.t 36), (.k (.int .i64 20))]⟩,
    ⟨none, (some 10), .mov (.t 37)⟩])
  (.seq (.region false [⟨none, (some 38), .mov (.t 10)⟩,
    ⟨none, (some 39), .mov (.t 1)⟩,
    ⟨none, (some 40), .len (.t 39)⟩,
    ⟨none, (some 41), .bin .lss (.t 38) (.t 40)⟩])
  (.cond (.t 41) (.region false [⟨none, (some 42), .mov (.t 1)⟩,
    ⟨none, (some 43), .mov (.t 10)⟩,
    ⟨none, (some 44), .idxS 1 (.t 42) (.t 43)⟩,
    ⟨none, (some 45), .load 1 false (.t 44)⟩,
    ⟨none, (some 9), .mov (.t 45)⟩])
  .skip)))
  (.seq (.region false [⟨none, (some 46), .mov (.t 5)⟩,
    ⟨none, (some 47), .fld 2 (.t 6)⟩,
    ⟨none, (some 48), .load 1 false (.t 47)⟩,
    ⟨none, (some 49), .bin .add (.t 48) (.k (.int .i64 2))⟩,
    ⟨none, (some 50), .call (.k (.fn (.func 28) [] [])) [(.t 46), (.t 49)]⟩,
    ⟨none, (some 51), .mov (.t 5)⟩,
    ⟨none, (some 52), .call (.k (.fn (.func 28) [] [])) [(.t 51), (.k (.int .i64 4))]⟩,
    ⟨none, (some 53), .bin .sub (.t 52) (.k (.int .i64 1))⟩,
    ⟨none, (some 54), .mov (.t 5)⟩,
    ⟨none, (some 55), .call (.k (.fn (.func 28) [] [])) [(.t 54), (.k (.int .i64 4))]⟩,
    ⟨none, (some 56), .conv .u8 (.t 55)⟩,
    ⟨none, (some 57), .build (rep 32 (w8 0#8)) [(0, 1, (.t 56))]⟩,
    ⟨none, (some 13), .alloc (rep 32 (w8 0#8))⟩,
    ⟨none, (some 11), .mov (.t 50)⟩,
    ⟨none, (some 12), .mov (.t 53)⟩,
    ⟨none, none, .store 32 (.t 13) (.t 57)⟩])
  (.seq (.region false [⟨none, (some 14), .alloc [.nils, .nils, (.int .i64 0)]⟩,
    ⟨none, (some 15), .alloc [.nils, .nils, (.int .i64 0)]⟩])
  (.seq (.region false [⟨none, (some 16), .mov (.k (.int .i64 0))⟩,
    ⟨none, (some 17), .mov (.k (.int .i64 0))⟩])
  (.seq (.region false [⟨none, (some 18), .mov (.k (.int .i64 0))⟩,
    ⟨none, (some 19), .mov (.k (.int .i64 0))⟩])
  (.seq (.seq (.region false [⟨none, (some 58), .mov (.t 5)⟩,
    ⟨none, (some 59), .call (.k (.fn (.func 28) [] [])) [(.t 58), (.k (.int .i64 6))]⟩])
  (.block 2 (.seq (.region false [⟨none, (some 79), .bin .eql (.t 59) (.k (.int .i64 0))⟩,
    ⟨none, (some 78), .mov (.t 79)⟩])
  (.cond (.t 78) (.seq (.region false [⟨none, (some 80), .mov (.t 5)⟩,
    ⟨none, (some 81), .build (rep 32 (w8 0#8)) [(0, 1, (.k (w8 1#8)))]⟩,
    ⟨none, (some 82), .build (rep 32 (w8 0#8)) [(0, 1, (.k (w8 2#8)))]⟩,
    ⟨none, (some 83), .bsl 32 2 (rep 32 (w8 0#8)) [(0, 32, (.t 81)), (32, 32, (.t 82))]⟩,
    ⟨none, (some 84), .call (.k (.fn (.func 34) [] [])) [(.t 80), (.t 83)]⟩,
    ⟨none, (some 20), .alloc [(.str []), (.str []), (.int .i64 0), (.int .i64 0), (.int .i64 0), .nils]⟩,
    ⟨none, none, .store 6 (.t 20) (.t 84)⟩])
  (.seq (.region true [⟨none, (some 85), .fld 2 (.t 20)⟩,
    ⟨none, (some 86), .load 1 false (.t 85)⟩,
    ⟨none, (some 87), .mov (.t 5)⟩,
    ⟨none, (some 88), .callT (.k (.fn (.func 28) [] [])) [(.t 87), (.k (.int .i64 3))]⟩,
    ⟨none, (some 89), .bin .add (.t 86) (.t 88)⟩,
    ⟨none, (some 90), .fld 2 (.t 20)⟩,
    ⟨none, none, .store 1 (.t 90) (.t 89)⟩,
    ⟨none, none, .apart (.t 20) (.t 87)⟩,
    ⟨none, none, .apart (.t 85) (.t 87)⟩])
  (.seq (.region false [⟨none, (some 92), .load 3 true (.t 6)⟩,
    ⟨none, (some 93), .load 6 true (.t 20)⟩,
    ⟨none, (some 94), .call (.k (.fn (.func 35) [] [])) [(.t 92), (.t 93)]⟩,
    ⟨none, (some 91), .mov (.t 94)⟩,
    ⟨none, (some 95), .ext (.t 91) 0⟩,
    ⟨none, (some 96), .ext (.t 91) 1⟩,
    ⟨none, none, .store 3 (.t 14) (.t 95)⟩,
    ⟨none, (some 16), .mov (.t 96)⟩])
  (.region false [⟨none, (some 98), .load 3 true (.t 7)⟩,
    ⟨none, (some 99), .load 6 true (.t 20)⟩,
    ⟨none, (some 100), .call (.k (.fn (.func 36) [] [])) [(.t 98), (.t 99)]⟩,
    ⟨none, (some 97), .mov (.t 100)⟩,
    ⟨none, (some 101), .ext (.t 97) 0⟩,
    ⟨none, (some 102), .ext (.t 97) 1⟩,
    ⟨none, none, .store 3 (.t 15) (.t 101)⟩,
    ⟨none, (some 17), .mov (.t 102)⟩]))))
  (.seq (.region false [⟨none, (some 104), .bin .eql (.t 59) (.k (.int .i64 1))⟩,
    ⟨none, (some 103), .mov (.t 104)⟩])
  (.cond (.t 103) (.seq (.region false [⟨none, (some 106), .load 3 true (.t 6)⟩,
    ⟨none, (some 107), .mov (.t 12)⟩,
    ⟨none, (some 108), .load 32 true (.t 13)⟩,
    ⟨none, (some 109), .mov (.t 9)⟩,
    ⟨none, (some 110), .call (.k (.fn (.func 32) [] [])) [(.t 106), (.t 107), (.t 108), (.t 109)]⟩,
    ⟨none, (some 105), .mov (.t 110)⟩,
    ⟨none, (some 111), .ext (.t 105) 0⟩,
    ⟨none, (some 112), .ext (.t 105) 1⟩,
    ⟨none, (some 113), .ext (.t 105) 2⟩,
    ⟨none, none, .store 3 (.t 14) (.t 111)⟩,
    ⟨none, (some 18), .mov (.t 112)⟩,
    ⟨none, (some 16), .mov (.t 113)⟩])
  (.region false [⟨none, (some 115), .load 3 true (.t 7)⟩,
    ⟨none, (some 116), .mov (.t 12)⟩,
    ⟨none, (some 117), .load 32 true (.t 13)⟩,
    ⟨none, (some 118), .mov (.t 9)⟩,
    ⟨none, (some 119), .call (.k (.fn (.func 37) [] [])) [(.t 115), (.t 116), (.t 117), (.t 118)]⟩,
    ⟨none, (some 114), .mov (.t 119)⟩,
    ⟨none, (some 120), .ext (.t 114) 0⟩,
    ⟨none, (some 121), .ext (.t 114) 1⟩,
    ⟨none, (some 122), .ext (.t 114) 2⟩,
    ⟨none, none, .store 3 (.t 15) (.t 120)⟩,
    ⟨none, (some 19), .mov (.t 121)⟩,
    ⟨none, (some 17), .mov (.t 122)⟩]))
  (.seq (.region false [⟨none, (some 124), .bin .eql (.t 59) (.k (.int .i64 2))⟩,
    ⟨none, (some 123), .mov (.t 124)⟩])
  (.cond (.t 123) (.seq (.region false [⟨none, (some 126), .load 3 true (.t 6)⟩,
    ⟨none, (some 127), .mov (.t 11)⟩,
    ⟨none, (some 128), .mov (.t 9)⟩,
    ⟨none, (some 129), .call (.k (.fn (.func 38) [] [])) [(.t 126), (.t 127), (.t 128)]⟩,
    ⟨none, (some 125), .mov (.t 129)⟩,
    ⟨none, (some 130), .ext (.t 125) 0⟩,
    ⟨none, (some 131), .ext (.t 125) 1⟩,
    ⟨none, none, .store 3 (.t 14) (.t 130)⟩,
    ⟨none, (some 16), .mov (.t 131)⟩])
  (.region false [⟨none, (some 133), .load 3 true (.t 7)⟩,
    ⟨none, (some 134), .mov (.t 11)⟩,
    ⟨none, (some 135), .mov (.t 9)⟩,
    ⟨none, (some 136), .call (.k (.fn (.func 39) [] [])) [(.t 133), (.t 134), (.t 135)]⟩,
    ⟨none, (some 132), .mov (.t 136)⟩,
    ⟨none, (some 137), .ext (.t 132) 0⟩,
    ⟨none, (some 138), .ext (.t 132) 1⟩,
    ⟨none, none, .store 3 (.t 15) (.t 137)⟩,
    ⟨none, (some 17), .mov (.t 138)⟩]))
  (.seq (.region false [⟨none, (some 140), .bin .eql (.t 59) (.k (.int .i64 3))⟩,
    ⟨none, (some 139), .mov (.t 140)⟩])
  (.cond (.t 139) (.seq (.region false [⟨none, (some 142), .load 3 true (.t 6)⟩,
    ⟨none, (some 143), .mov (.t 11)⟩,
    ⟨none, (some 144), .mov (.t 9)⟩,
    ⟨none, (some 145), .call (.k (.fn (.func 40) [] [])) [(.t 142), (.t 143), (.t 144)]⟩,
    ⟨none, (some 141), .mov (.t 145)⟩,
    ⟨none, (some 146), .ext (.t 141) 0⟩,
    ⟨none, (some 147), .ext (.t 141) 1⟩,
    ⟨none, none, .store 3 (.t 14) (.t 146)⟩,
    ⟨none, (some 16), .mov (.t 147)⟩])
  (.region false [⟨none, (some 149), .load 3 true (.t 7)⟩,
    ⟨none, (some 150), .mov (.t 11)⟩,
    ⟨none, (some 151), .mov (.t 9)⟩,
    ⟨none, (some 152), .call (.k (.fn (.func 41) [] [])) [(.t 149), (.t 150), (.t 151)]⟩,
    ⟨none, (some 148), .mov (.t 152)⟩,
    ⟨none, (some 153), .ext (.t 148) 0⟩,
    ⟨none, (some 154), .ext (.t 148) 1⟩,
    ⟨none, none, .store 3 (.t 15) (.t 153)⟩,
    ⟨none, (some 17), .mov (.t 154)⟩]))
  (.seq (.region false [⟨none, (some 156), .bin .eql (.t 59) (.k (.int .i64 4))⟩,
    ⟨none, (some 155), .mov (.t 156)⟩])
  (.cond (.t 155) (.seq (.region false [⟨none, (some 158), .load 3 true (.t 6)⟩,
    ⟨none, (some 159), .mov (.t 11)⟩,
    ⟨none, (some 160), .call (.k (.fn (.func 31) [] [])) [(.t 158), (.t 159)]⟩,
    ⟨none, (some 157), .mov (.t 160)⟩,
    ⟨none, (some 161), .ext (.t 157) 0⟩,
    ⟨none, (some 162), .ext (.t 157) 1⟩,
    ⟨none, none, .store 3 (.t 14) (.t 161)⟩,
    ⟨none, (some 16), .mov (.t 162)⟩])
  (.region false [⟨none, (some 164), .load 3 true (.t 7)⟩,
    ⟨none, (some 165), .mov (.t 11)⟩,
    ⟨none, (some 166), .call (.k (.fn (.func 42) [] [])) [(.t 164), (.t 165)]⟩,
    ⟨none, (some 163), .mov (.t 166)⟩,
    ⟨none, (some 167), .ext (.t 163) 0⟩,
    ⟨none, (some 168), .ext (.t 163) 1⟩,
    ⟨none, none, .store 3 (.t 15) (.t 167)⟩,
    ⟨none, (some 17), .mov (.t 168)⟩]))
  (.seq (.region false [⟨none, (some 60), .mov (.t 5)⟩,
    ⟨none, (some 61), .call (.k (.fn (.func 28) [] [])) [(.t 60), (.k (.int .i64 2))]⟩,
    ⟨none, (some 62), .bin .eql (.t 61) (.k (.int .i64 0))⟩,
    ⟨none, (some 63), .mov (.t 5)⟩,
    ⟨none, (some 64), .call (.k (.fn (.func 28) [] [])) [(.t 63), (.k (.int .i64 2))]⟩,
    ⟨none, (some 65), .bin .eql (.t 64) (.k (.int .i64 0))⟩,
    ⟨none, (some 66), .mov (.t 5)⟩,
    ⟨none, (some 67), .call (.k (.fn (.func 28) [] [])) [(.t 66), (.k (.int .i64 2))]⟩,
    ⟨none, (some 68), .bin .eql (.t 67) (.k (.int .i64 0))⟩,
    ⟨none, (some 69), .bsl 1 3 [(.bool false)] [(0, 1, (.t 62)), (1, 1, (.t 65)), (2, 1, (.t 68))]⟩,
    ⟨none, (some 21), .mov (.t 69)⟩])
  (.region true [⟨none, (some 70), .load 3 true (.t 6)⟩,
    ⟨none, (some 71), .mov (.t 21)⟩,
    ⟨none, (some 72), .mov (.t 9)⟩,
    ⟨none, (some 74), .load 3 true (.t 7)⟩,
    ⟨none, (some 75), .mov (.t 21)⟩,
    ⟨none, (some 76), .mov (.t 9)⟩,
    ⟨none, (some 73), .callN (.k (.fn (.func 30) [] [])) [(.t 70), (.t 71), (.t 72)]⟩,
    ⟨none, (some 77), .callN (.k (.fn (.func 43) [] [])) [(.t 74), (.t 75), (.t 76)]⟩,
    ⟨none, none, .store 3 (.t 14) (.t 73)⟩,
    ⟨none, none, .store 3 (.t 15) (.t 77)⟩]))))))))))))))
  (.seq (.seq (.region false [⟨none, (some 169), .mov (.t 16)⟩,
    ⟨none, (some 170), .mov (.t 17)⟩,
    ⟨none, (some 171), .bin .neq (.t 169) (.t 170)⟩,
    ⟨none, (some 172), .mov (.t 171)⟩,
    ⟨(some (172, false)), (some 173), .mov (.t 18)⟩,
    ⟨(some (172, false)), (some 174), .mov (.t 19)⟩,
    ⟨(some (172, false)), (some 175), .bin .neq (.t 173) (.t 174)⟩,
    ⟨none, (some 176), .pick (.t 172) (.k (.bool true)) (.t 175)⟩,
    ⟨none, (some 177), .mov (.t 176)⟩,
    ⟨(some (177, false)), (some 178), .load 3 true (.t 14)⟩,
    ⟨(some (177, false)), (some 179), .load 3 true (.t 15)⟩,
    ⟨(some (177, false)), (some 180), .call (.k (.fn (.func 44) [] [])) [(.t 178), (.t 179)]⟩,
    ⟨(some (177, false)), (some 181), .un .not (.t 180)⟩,
    ⟨none, (some 182), .pick (.t 177) (.k (.bool true)) (.t 181)⟩])
  (.cond (.t 182) (.seq (.region false [⟨none, (some 4), .mov (.k (.bool false))⟩])
  .ret)
  .skip))
  (.seq (.region false [⟨none, (some 183), .mov (.t 16)⟩,
    ⟨none, (some 184), .bin .eql (.t 183) (.k (.int .i64 0))⟩])
  (.cond (.t 184) (.region true [⟨none, (some 185), .load 3 true (.t 14)⟩,
    ⟨none, (some 186), .load 3 true (.t 15)⟩,
    ⟨none, none, .store 3 (.t 6) (.t 185)⟩,
    ⟨none, none, .store 3 (.t 7) (.t 186)⟩,
    ⟨none, none, .apart (.t 15) (.t 6)⟩])
  .skip)))))))))))
  (.region false [⟨none, (some 32), .mov (.t 8)⟩,
    ⟨none, (some 33), .bin .sub (.t 32) (.k (.int .i64 1))⟩,
    ⟨none, (some 8), .mov (.t 33)⟩])))
def a7S0 (x1 x5 x6 x7 x8 : DV) (h : List AObj) : St := ⟨[.junk, x1, .junk, .junk, .junk, x5, x6, x7, x8] ++ js 179, h⟩
def a7 : AFn where
  code := (.seq (.region false [⟨none, (some 4), .mov (.k (.bool false))⟩])
  (.seq (.region false [⟨none, (some 22), .mov (.t 0)⟩,
    ⟨none, (some 23), .call (.k (.fn (.func 26) [] [])) [(.t 22), (.k (.int .i64 250))]⟩,
    ⟨none, (some 5), .mov (.t 23)⟩])
  (.seq (.region false [⟨none, (some 24), .mov (.t 5)⟩,
    ⟨none, (some 25), .call (.k (.fn (.func 27) [] [])) [(.t 24), (.k (.int .i64 5))]⟩,
    ⟨none, (some 6), .alloc [.nils, .nils, (.int .i64 0)]⟩,
    ⟨none, none, .store 3 (.t 6) (.t 25)⟩])
  (.seq (.region false [⟨none, (some 26), .load 3 true (.t 6)⟩,
    ⟨none, (some 7), .alloc [.nils, .nils, (.int .i64 0)]⟩,
    ⟨none, none, .store 3 (.t 7) (.t 26)⟩])
  (.seq (.seq (.region false [⟨none, (some 27), .mov (.t 5)⟩,
    ⟨none, (some 28), .call (.k (.fn (.func 28) [] [])) [(.t 27), (.k (.int .i64 8))]⟩,
    ⟨none, (some 29), .bin .add (.k (.int .i64 2)) (.t 28)⟩,
    ⟨none, (some 8), .mov (.t 29)⟩])
  (.block 0 (.loop a7L0)))
  (.seq (.region false [⟨none, (some 187), .call (.k (.fn (.func 17) [] [])) []⟩,
    ⟨none, (some 4), .mov (.t 187)⟩])
  .ret))))))
  ntmps := 188
  res := [.tmp 4]
theorem a7_ok : compileFn P Tryd.f7 = some a7 := by kernel_rfl
end Go.Proofs.YtjhakjeioppijaaDoor
set_option linter.unusedSimpArgs false
set_option linter.unusedVariables false
namespace Go.Proofs.YtjhakjeioppijaaDoor
open Go Go.Am
def arts2 : Sl Dg := ⟨some true, [dgW 1#8, dgW 2#8], by simp, by simp⟩
theorem bsl_arts2 : bslD 32 2 (dgC dg0) [(0, 32, .agg (dgC (dgW 1#8))), (32, 32, .agg (dgC (dgW 2#8)))] = some (arts2.dv 32 dgC) := by
  rw [bslD_of (by simp [DV.known]) (by simp [seqD, DV.cells])]; simp [seqD, DV.cells, arts2, Sl.dv, slD]
theorem arts2_dv : arts2.dv 32 dgC = .sl true 32 2 (dgC (dgW 1#8) ++ dgC (dgW 2#8)) := by simp [arts2, Sl.dv, slD]
def Grp.up (g : Grp) (r : Int) : Grp := { g with want := g.want + r }
theorem grC_up {g : Grp} {r : Int} : [DV.str g.ns, .str g.im, .int .i64 (g.want + r), .int .i64 g.least, .int .i64 g.down, g.ch.dv 32 dgC] = grC (g.up r) := rfl
theorem grC_form {g : Grp} : grC g = [DV.str g.ns, .str g.im, .int .i64 g.want, .int .i64 g.least, .int .i64 g.down, g.ch.dv 32 dgC] := rfl
theorem arts2_ne : ∀ d ∈ arts2.l, d ≠ dg0 := by
  intro d hd
  have : d = dgW 1#8 ∨ d = dgW 2#8 := by simpa [arts2] using hd
  rcases this with rfl | rfl <;> (intro e; exact absurd (congrArg (fun z : Dg => z.1.head?) e) (by decide))
theorem bsl_m3 {a b c : Bool} : bslD 1 3 [.bool false] [(0, 1, .bool a), (1, 1, .bool b), (2, 1, .bool c)] = some (.sl true 1 3 [.bool a, .bool b, .bool c]) := rfl
structure CaS where
  n : Nat
  t : Tp
  a : Clu
  b : Clu
structure CaI (q : CaS) : Prop where
  s : SameC q.a q.b
  n0 : 1 ≤ q.a.next
  n1 : q.a.next + q.n ≤ 2000000
  t : q.t.at_ + 100 * q.n ≤ 4000
noncomputable def S450 (w : Nl) (s : CaS) : St := a7S0 w.dv (.mp 0 2 0) (.mp 1 3 0) (.mp 2 3 0) (.int .i64 s.n) [.cells (tpC s.t), .cells (clC s.a), .cells (clC s.b)]
noncomputable def T450 : Tbl := addT 26 (.new cTape) (addT 27 (.tch cClu) (addT 34 (.tch cGrp) (addT 28 (.tch cNext) (addT 17 (.pure cTrue) (addT 36 (.pure (cDep deployRB)) (addT 37 (.pure (cSta startRB)) (addT 39 (.pure (cCii fun c i t => chgRB c i t 1 1 2)) (addT 41 (.pure (cCii fun c i t => chgRB c i t 1 2 3)) (addT 42 (.pure (cCi removeRB)) (addT 43 (.pure (cMkF markR)) (addT 35 (.pure (cDep deployB)) (addT 32 (.pure (cSta startB)) (addT 38 (.pure (cCii fun c i t => changeB c i t 2)) (addT 40 (.pure (cCii fun c i t => changeB c i t 3)) (addT 31 (.pure (cCi removeB)) (addT 30 (.pure (cMkF markP)) (addT 44 (.pure cCC) tbl0)))))))))))))))))
theorem T450_ta : T450 26 = .new cTape := by simp [T450]
theorem T450_cl : T450 27 = .tch cClu := by simp [T450]
theorem T450_gr : T450 34 = .tch cGrp := by simp [T450]
theorem T450_n : T450 28 = .tch cNext := by simp [T450]
theorem T450_aw : T450 17 = .pure cTrue := by simp [T450]
theorem T450_rd : T450 36 = .pure (cDep deployRB) := by simp [T450]
theorem T450_rs : T450 37 = .pure (cSta startRB) := by simp [T450]
theorem T450_re : T450 39 = .pure (cCii fun c i t => chgRB c i t 1 1 2) := by simp [T450]
theorem T450_rt : T450 41 = .pure (cCii fun c i t => chgRB c i t 1 2 3) := by simp [T450]
theorem T450_rr : T450 42 = .pure (cCi removeRB) := by simp [T450]
theorem T450_rm : T450 43 = .pure (cMkF markR) := by simp [T450]
theorem T450_pd : T450 35 = .pure (cDep deployB) := by simp [T450]
theorem T450_ps : T450 32 = .pure (cSta startB) := by simp [T450]
theorem T450_pe : T450 38 = .pure (cCii fun c i t => changeB c i t 2) := by simp [T450]
theorem T450_pt : T450 40 = .pure (cCii fun c i t => changeB c i t 3) := by simp [T450]
theorem T450_pr : T450 31 = .pure (cCi removeB) := by simp [T450]
theorem T450_pm : T450 30 = .pure (cMkF markP) := by simp [T450]
theorem T450_sa : T450 44 = .pure cCC := by simp [T450]
theorem T450_sound : T450.Sound P := addT_sound tape_sound (addT_sound clu_sound (addT_sound grp_sound (addT_sound next_sound (addT_sound awake_sound37 (addT_sound refdeploy_sound (addT_sound refstart_sound (addT_sound refstarted_sound (addT_sound refstop_sound (addT_sound refremove_sound (addT_sound refmark_sound (addT_sound deploy_sound37 (addT_sound start_sound37 (addT_sound started_sound37 (addT_sound stop_sound37 (addT_sound remove_sound37 (addT_sound mark_sound37 (addT_sound same_sound tbl0_sound)))))))))))))))))
set_option maxRecDepth 20000 in
set_option maxHeartbeats 16000000 in
theorem runs_lawcalls (x w : Nl) : Runs T450 a7 [x.dv, w.dv] (.bool true) := by
  refine ⟨?_⟩
  obtain ⟨u, hu⟩ : ∃ u, tp0 x 250 = u := ⟨_, rfl⟩
  have hua : u.at_ = 0 := by rw [← hu]; rfl
  obtain ⟨hv, hg⟩ := clusterV_ok u 5 (by decide) (by decide)
  have hat := clusterV_at u 5 (by decide) (by decide)
  have hnx := clusterV_next u 5 (by decide) (by decide)
  obtain ⟨c, hc⟩ : ∃ c, (clusterV u 5).1 = c := ⟨_, rfl⟩
  obtain ⟨z, hz⟩ : ∃ w, (clusterV u 5).2 = w := ⟨_, rfl⟩
  rw [hc] at hv hg hnx
  rw [hz] at hat
  have hT := fun m => cTape_eq (x := x) (n := 250) (by decide) m
  rw [hu] at hT
  simp only [show ((250 : Nat) : Int) = 250 from rfl] at hT
  have hC : cClu [.int .i64 5] (tpC u) = some (.agg (clC c), tpC z) := by rw [cClu_eq (by omega) (by decide) (by decide), hc, hz]
  have hN := cNext_pos (t := z) (n := 8) (by omega) (by decide) (by decide)
  have k0 := tpN_lo z 8
  have k1 := tpN_hi z (n := 8) (by decide)
  obtain ⟨k, hk⟩ : ∃ k : Nat, tpN z 8 = k := ⟨(tpN z 8).toNat, by omega⟩
  rw [hk] at hN k0 k1
  have hx := nl_pure x
  have hw := nl_pure w
  have hwl := fun H => nl_len H w
  simp (disch := first | omega | (simp [-List.map_take, -List.map_drop, -List.map_set, -List.map_append, -List.drop_one] <;> omega) | fail) [-List.map_take, -List.map_drop, -List.map_set, -List.map_append, -List.drop_one, a7, T450_ta, T450_cl, hT, hC, T450_n, hN]
  refine W_loop (S450 w) (fun a => a.n) CaI ⟨k + 2, z.adv 1, c, c⟩ (weak_same (by simp (disch := first | omega | (simp [-List.map_take, -List.map_drop, -List.map_set, -List.map_append, -List.drop_one] <;> omega) | fail) [-List.map_take, -List.map_drop, -List.map_set, -List.map_append, -List.drop_one, S450, a7S0, show (2 : Int) + (k : Int) = (k : Int) + 2 from Int.add_comm _ _]) (by simp (disch := first | omega | (simp [-List.map_take, -List.map_drop, -List.map_set, -List.map_append, -List.drop_one] <;> omega) | fail) [-List.map_take, -List.map_drop, -List.map_set, -List.map_append, -List.drop_one, S450, a7S0])) ⟨.refl _, hv.n0, by simp only; omega, by have : (z.adv 1).at_ = z.at_ + 1 := rfl; simp only; omega⟩ (fun q hq => ?_)
  clear hv hg hnx hN hC hT
  obtain ⟨m, t, a, b⟩ := q
  obtain ⟨q1, q2, q3, q4⟩ := hq
  simp only at q1 q2 q3 q4
  simp (disch := first | omega | (simp [-List.map_take, -List.map_drop, -List.map_set, -List.map_append, -List.drop_one] <;> omega) | fail) [-List.map_take, -List.map_drop, -List.map_set, -List.map_append, -List.drop_one, a7L0, a7S0, S450]
  rcases m with _ | m
  · simp (disch := first | omega | (simp [-List.map_take, -List.map_drop, -List.map_set, -List.map_append, -List.drop_one] <;> omega) | fail) [-List.map_take, -List.map_drop, -List.map_set, -List.map_append, -List.drop_one, T450_aw, cTrue]
  have hm : (0 : Int) < (m : Int) + 1 := by omega
  have hA : ∀ j, j < 60 → (t.adv j).at_ < 4294967296 := fun j hj => by show t.at_ + j < _; omega
  have hN1 := cNext_pos (t := t) (n := 60) (by omega) (by decide) (by decide)
  have hN2 := cNext_pos (t := t.adv 1) (n := 20) (hA _ (by decide)) (by decide) (by decide)
  have hN3 := cNext_pos (t := t.adv 2) (n := a.next + 2) (hA _ (by decide)) (by omega) (by omega)
  have hN4 := cNext_pos (t := t.adv 3) (n := 4) (hA _ (by decide)) (by decide) (by decide)
  have hN5 := cNext_pos (t := t.adv 4) (n := 4) (hA _ (by decide)) (by decide) (by decide)
  have hN6 := cNext_pos (t := t.adv 5) (n := 6) (hA _ (by decide)) (by decide) (by decide)
  rw [adv_adv] at hN2 hN3 hN4 hN5 hN6
  have b2 := tpN_lo (t.adv 1) 20
  have b4 := tpN_lo (t.adv 3) 4
  have c4 := tpN_hi (t.adv 3) (n := 4) (by decide)
  have b6 := tpN_lo (t.adv 5) 6
  have c6 := tpN_hi (t.adv 5) (n := 6) (by decide)
  obtain ⟨T0, hT0⟩ : ∃ g, tpN t 60 = g := ⟨_, rfl⟩
  obtain ⟨K, hK⟩ : ∃ g : Nat, tpN (t.adv 1) 20 = g := ⟨(tpN (t.adv 1) 20).toNat, by omega⟩
  obtain ⟨id, hid⟩ : ∃ g, tpN (t.adv 2) (a.next + 2) = g := ⟨_, rfl⟩
  obtain ⟨gr, hgr⟩ : ∃ g, tpN (t.adv 3) 4 = g := ⟨_, rfl⟩
  obtain ⟨zd, hzd⟩ : ∃ g, tpN (t.adv 4) 4 = g := ⟨_, rfl⟩
  obtain ⟨op, hop⟩ : ∃ g, tpN (t.adv 5) 6 = g := ⟨_, rfl⟩
  rw [hT0] at hN1
  rw [hK] at hN2 b2
  rw [hid] at hN3
  rw [hgr] at hN4 b4 c4
  rw [hzd] at hN5
  rw [hop] at hN6 b6 c6
  obtain ⟨D, hD⟩ : ∃ D, dgB zd = D := ⟨_, rfl⟩
  have hDl := len_dgC D
  have inv : ∀ (j : Nat) (X Y : Clu), j ≤ 90 → SameC X Y → 1 ≤ X.next → X.next ≤ a.next + 1 → CaI ⟨m, t.adv j, X, Y⟩ := fun j X Y h1 h2 h3 h4 => ⟨h2, h3, by simp only; omega, by have : (t.adv j).at_ = t.at_ + j := rfl; simp only; omega⟩
  have hbw : ∀ n, Am.below n w.dv = true := fun n => below_pure n _ hw
  have hop6 : op = 0 ∨ op = 1 ∨ op = 2 ∨ op = 3 ∨ op = 4 ∨ op = 5 := by omega
  by_cases hKl : K < w.l.length
  · have hKl' : (K : Int) < w.l.length := by omega
    have hwi := fun H => nl_idx H w hKl
    obtain ⟨at1, hat1⟩ : ∃ g, w.l[K] = g := ⟨_, rfl⟩
    simp only [hat1] at hwi
    rcases hop6 with rfl | rfl | rfl | rfl | rfl | rfl
    · skip
      have hGA := groupV_at (t.adv 6) arts2
      have hGO := groupV_ok (t.adv 6) (x := arts2) arts2_ne (by decide)
      have hG := cGrp_eq (t := t.adv 6) (x := arts2) (by show t.at_ + 6 < _; omega) (by decide)
      obtain ⟨G, hGe⟩ : ∃ G, (groupV (t.adv 6) arts2).1 = G := ⟨_, rfl⟩
      obtain ⟨V, hVe⟩ : ∃ G, (groupV (t.adv 6) arts2).2 = G := ⟨_, rfl⟩
      rw [hGe, hVe, arts2_dv] at hG
      rw [hVe] at hGA
      rw [hGe] at hGO
      have hGA' : V.at_ ≤ t.at_ + 6 + 15 := hGA
      have hN7 := cNext_pos (t := V) (n := 3) (by omega) (by decide) (by decide)
      have w1 := hGO.w0
      have w2 := hGO.w1
      have w3 := tpN_lo V 3
      have w4 := tpN_hi V (n := 3) (by decide)
      obtain ⟨r, hr0⟩ : ∃ g, tpN V 3 = g := ⟨_, rfl⟩
      rw [hr0] at hN7 w3 w4
      obtain ⟨X, Y, e, hS⟩ := stp_deploy q1 q2 (G.up r)
      have hd1 : ∀ f : Clu → Grp → DV, ∀ c : Clu, cDep f [.agg (clC c), .agg [DV.str G.ns, .str G.im, .int .i64 (G.want + r), .int .i64 G.least, .int .i64 G.down, G.ch.dv 32 dgC]] = some (f c (G.up r)) := fun f c => by rw [grC_up]; exact cDep_eq
      have inv' : ∀ (X Y : Clu), SameC X Y → 1 ≤ X.next → X.next ≤ a.next + 1 → CaI ⟨m, V.adv 1, X, Y⟩ := fun X Y h2 h3 h4 => ⟨h2, h3, by simp only; omega, by have : (V.adv 1).at_ = V.at_ + 1 := rfl; simp only; omega⟩
      have hSB := sameB_true hS.s
      have hp := hS.p
      have hr := hS.r
      by_cases he : e = 0
      · have hn0 := hS.n0 he
        have hn1 := hS.n1 he
        simp (disch := first | omega | (simp [-List.map_take, -List.map_drop, -List.map_set, -List.map_append, -List.drop_one] <;> omega) | fail) [-List.map_take, -List.map_drop, -List.map_set, -List.map_append, -List.drop_one, hm, T450_n, hN1, hN2, hN3, hN4, hN5, hN6, hwl, hKl, hKl', hwi, conv_i_w8, build_dg, hD, T450_sa, cCC_eq, T450_gr, T450_pd, T450_rd, bsl_arts2, hG, grC_form, one_agg6, hN7, hd1, hp, hr, hSB, he]
        exact ⟨⟨m, V.adv 1, X, Y⟩, weak_drop (tail := [.cells (dgC D), .cells (clC X), .cells (clC Y), .cells [DV.str G.ns, .str G.im, .int .i64 (G.want + r), .int .i64 G.least, .int .i64 G.down, G.ch.dv 32 dgC]]) (by simp (disch := first | omega | (simp [-List.map_take, -List.map_drop, -List.map_set, -List.map_append, -List.drop_one] <;> omega) | fail) [-List.map_take, -List.map_drop, -List.map_set, -List.map_append, -List.drop_one, S450, a7S0]) (by simp (disch := first | omega | (simp [-List.map_take, -List.map_drop, -List.map_set, -List.map_append, -List.drop_one] <;> omega) | fail) [-List.map_take, -List.map_drop, -List.map_set, -List.map_append, -List.drop_one, S450, a7S0]) (Nat.zero_le _) (by simp (disch := first | omega | (simp [-List.map_take, -List.map_drop, -List.map_set, -List.map_append, -List.drop_one] <;> omega) | fail) [-List.map_take, -List.map_drop, -List.map_set, -List.map_append, -List.drop_one, S450, a7S0, belowL, Am.below, hbw]) (by simp only [S450, a7S0]; exact belowH_pure ((PureH.one (pure_tpC _)).app ((PureH.one (pure_clC _)).app (PureH.one (pure_clC _))))), by simp only; omega, inv' _ _ hS.s hn0 hn1⟩
      · simp (disch := first | omega | (simp [-List.map_take, -List.map_drop, -List.map_set, -List.map_append, -List.drop_one] <;> omega) | fail) [-List.map_take, -List.map_drop, -List.map_set, -List.map_append, -List.drop_one, hm, T450_n, hN1, hN2, hN3, hN4, hN5, hN6, hwl, hKl, hKl', hwi, conv_i_w8, build_dg, hD, T450_sa, cCC_eq, T450_gr, T450_pd, T450_rd, bsl_arts2, hG, grC_form, one_agg6, hN7, hd1, hp, hr, hSB, he]
        exact ⟨⟨m, V.adv 1, a, b⟩, weak_drop (tail := [.cells (dgC D), .cells (clC X), .cells (clC Y), .cells [DV.str G.ns, .str G.im, .int .i64 (G.want + r), .int .i64 G.least, .int .i64 G.down, G.ch.dv 32 dgC]]) (by simp (disch := first | omega | (simp [-List.map_take, -List.map_drop, -List.map_set, -List.map_append, -List.drop_one] <;> omega) | fail) [-List.map_take, -List.map_drop, -List.map_set, -List.map_append, -List.drop_one, S450, a7S0]) (by simp (disch := first | omega | (simp [-List.map_take, -List.map_drop, -List.map_set, -List.map_append, -List.drop_one] <;> omega) | fail) [-List.map_take, -List.map_drop, -List.map_set, -List.map_append, -List.drop_one, S450, a7S0]) (Nat.zero_le _) (by simp (disch := first | omega | (simp [-List.map_take, -List.map_drop, -List.map_set, -List.map_append, -List.drop_one] <;> omega) | fail) [-List.map_take, -List.map_drop, -List.map_set, -List.map_append, -List.drop_one, S450, a7S0, belowL, Am.below, hbw]) (by simp only [S450, a7S0]; exact belowH_pure ((PureH.one (pure_tpC _)).app ((PureH.one (pure_clC _)).app (PureH.one (pure_clC _))))), by simp only; omega, inv' _ _ q1 q2 (by omega)⟩
    · skip
      obtain ⟨X, Y, i, e, hS⟩ := stp_start q1 q2 (gr - 1) D at1
      have hSB := sameB_true hS.s
      have hp := hS.p
      have hr := hS.r
      by_cases he : e = 0
      · have hn0 := hS.n0 he
        have hn1 := hS.n1 he
        simp (disch := first | omega | (simp [-List.map_take, -List.map_drop, -List.map_set, -List.map_append, -List.drop_one] <;> omega) | fail) [-List.map_take, -List.map_drop, -List.map_set, -List.map_append, -List.drop_one, hm, T450_n, hN1, hN2, hN3, hN4, hN5, hN6, hwl, hKl, hKl', hwi, conv_i_w8, build_dg, hD, T450_sa, cCC_eq, T450_ps, T450_rs, cSta_eq, hp, hr, hSB, he]
        exact ⟨⟨m, t.adv 6, X, Y⟩, weak_drop (tail := [.cells (dgC D), .cells (clC X), .cells (clC Y)]) (by simp (disch := first | omega | (simp [-List.map_take, -List.map_drop, -List.map_set, -List.map_append, -List.drop_one] <;> omega) | fail) [-List.map_take, -List.map_drop, -List.map_set, -List.map_append, -List.drop_one, S450, a7S0]) (by simp (disch := first | omega | (simp [-List.map_take, -List.map_drop, -List.map_set, -List.map_append, -List.drop_one] <;> omega) | fail) [-List.map_take, -List.map_drop, -List.map_set, -List.map_append, -List.drop_one, S450, a7S0]) (Nat.zero_le _) (by simp (disch := first | omega | (simp [-List.map_take, -List.map_drop, -List.map_set, -List.map_append, -List.drop_one] <;> omega) | fail) [-List.map_take, -List.map_drop, -List.map_set, -List.map_append, -List.drop_one, S450, a7S0, belowL, Am.below, hbw]) (by simp only [S450, a7S0]; exact belowH_pure ((PureH.one (pure_tpC _)).app ((PureH.one (pure_clC _)).app (PureH.one (pure_clC _))))), by simp only; omega, inv _ _ _ (by decide) hS.s hn0 hn1⟩
      · simp (disch := first | omega | (simp [-List.map_take, -List.map_drop, -List.map_set, -List.map_append, -List.drop_one] <;> omega) | fail) [-List.map_take, -List.map_drop, -List.map_set, -List.map_append, -List.drop_one, hm, T450_n, hN1, hN2, hN3, hN4, hN5, hN6, hwl, hKl, hKl', hwi, conv_i_w8, build_dg, hD, T450_sa, cCC_eq, T450_ps, T450_rs, cSta_eq, hp, hr, hSB, he]
        exact ⟨⟨m, t.adv 6, a, b⟩, weak_drop (tail := [.cells (dgC D), .cells (clC X), .cells (clC Y)]) (by simp (disch := first | omega | (simp [-List.map_take, -List.map_drop, -List.map_set, -List.map_append, -List.drop_one] <;> omega) | fail) [-List.map_take, -List.map_drop, -List.map_set, -List.map_append, -List.drop_one, S450, a7S0]) (by simp (disch := first | omega | (simp [-List.map_take, -List.map_drop, -List.map_set, -List.map_append, -List.drop_one] <;> omega) | fail) [-List.map_take, -List.map_drop, -List.map_set, -List.map_append, -List.drop_one, S450, a7S0]) (Nat.zero_le _) (by simp (disch := first | omega | (simp [-List.map_take, -List.map_drop, -List.map_set, -List.map_append, -List.drop_one] <;> omega) | fail) [-List.map_take, -List.map_drop, -List.map_set, -List.map_append, -List.drop_one, S450, a7S0, belowL, Am.below, hbw]) (by simp only [S450, a7S0]; exact belowH_pure ((PureH.one (pure_tpC _)).app ((PureH.one (pure_clC _)).app (PureH.one (pure_clC _))))), by simp only; omega, inv _ _ _ (by decide) q1 q2 (by omega)⟩
    · skip
      obtain ⟨X, Y, e, hS⟩ := stp_started q1 q2 id at1
      have hSB := sameB_true hS.s
      have hp := hS.p
      have hr := hS.r
      by_cases he : e = 0
      · have hn0 := hS.n0 he
        have hn1 := hS.n1 he
        simp (disch := first | omega | (simp [-List.map_take, -List.map_drop, -List.map_set, -List.map_append, -List.drop_one] <;> omega) | fail) [-List.map_take, -List.map_drop, -List.map_set, -List.map_append, -List.drop_one, hm, T450_n, hN1, hN2, hN3, hN4, hN5, hN6, hwl, hKl, hKl', hwi, conv_i_w8, build_dg, hD, T450_sa, cCC_eq, T450_pe, T450_re, cCii_eq, hp, hr, hSB, he]
        exact ⟨⟨m, t.adv 6, X, Y⟩, weak_drop (tail := [.cells (dgC D), .cells (clC X), .cells (clC Y)]) (by simp (disch := first | omega | (simp [-List.map_take, -List.map_drop, -List.map_set, -List.map_append, -List.drop_one] <;> omega) | fail) [-List.map_take, -List.map_drop, -List.map_set, -List.map_append, -List.drop_one, S450, a7S0]) (by simp (disch := first | omega | (simp [-List.map_take, -List.map_drop, -List.map_set, -List.map_append, -List.drop_one] <;> omega) | fail) [-List.map_take, -List.map_drop, -List.map_set, -List.map_append, -List.drop_one, S450, a7S0]) (Nat.zero_le _) (by simp (disch := first | omega | (simp [-List.map_take, -List.map_drop, -List.map_set, -List.map_append, -List.drop_one] <;> omega) | fail) [-List.map_take, -List.map_drop, -List.map_set, -List.map_append, -List.drop_one, S450, a7S0, belowL, Am.below, hbw]) (by simp only [S450, a7S0]; exact belowH_pure ((PureH.one (pure_tpC _)).app ((PureH.one (pure_clC _)).app (PureH.one (pure_clC _))))), by simp only; omega, inv _ _ _ (by decide) hS.s hn0 hn1⟩
      · simp (disch := first | omega | (simp [-List.map_take, -List.map_drop, -List.map_set, -List.map_append, -List.drop_one] <;> omega) | fail) [-List.map_take, -List.map_drop, -List.map_set, -List.map_append, -List.drop_one, hm, T450_n, hN1, hN2, hN3, hN4, hN5, hN6, hwl, hKl, hKl', hwi, conv_i_w8, build_dg, hD, T450_sa, cCC_eq, T450_pe, T450_re, cCii_eq, hp, hr, hSB, he]
        exact ⟨⟨m, t.adv 6, a, b⟩, weak_drop (tail := [.cells (dgC D), .cells (clC X), .cells (clC Y)]) (by simp (disch := first | omega | (simp [-List.map_take, -List.map_drop, -List.map_set, -List.map_append, -List.drop_one] <;> omega) | fail) [-List.map_take, -List.map_drop, -List.map_set, -List.map_append, -List.drop_one, S450, a7S0]) (by simp (disch := first | omega | (simp [-List.map_take, -List.map_drop, -List.map_set, -List.map_append, -List.drop_one] <;> omega) | fail) [-List.map_take, -List.map_drop, -List.map_set, -List.map_append, -List.drop_one, S450, a7S0]) (Nat.zero_le _) (by simp (disch := first | omega | (simp [-List.map_take, -List.map_drop, -List.map_set, -List.map_append, -List.drop_one] <;> omega) | fail) [-List.map_take, -List.map_drop, -List.map_set, -List.map_append, -List.drop_one, S450, a7S0, belowL, Am.below, hbw]) (by simp only [S450, a7S0]; exact belowH_pure ((PureH.one (pure_tpC _)).app ((PureH.one (pure_clC _)).app (PureH.one (pure_clC _))))), by simp only; omega, inv _ _ _ (by decide) q1 q2 (by omega)⟩
    · skip
      obtain ⟨X, Y, e, hS⟩ := stp_stop q1 q2 id at1
      have hSB := sameB_true hS.s
      have hp := hS.p
      have hr := hS.r
      by_cases he : e = 0
      · have hn0 := hS.n0 he
        have hn1 := hS.n1 he
        simp (disch := first | omega | (simp [-List.map_take, -List.map_drop, -List.map_set, -List.map_append, -List.drop_one] <;> omega) | fail) [-List.map_take, -List.map_drop, -List.map_set, -List.map_append, -List.drop_one, hm, T450_n, hN1, hN2, hN3, hN4, hN5, hN6, hwl, hKl, hKl', hwi, conv_i_w8, build_dg, hD, T450_sa, cCC_eq, T450_pt, T450_rt, cCii_eq, hp, hr, hSB, he]
        exact ⟨⟨m, t.adv 6, X, Y⟩, weak_drop (tail := [.cells (dgC D), .cells (clC X), .cells (clC Y)]) (by simp (disch := first | omega | (simp [-List.map_take, -List.map_drop, -List.map_set, -List.map_append, -List.drop_one] <;> omega) | fail) [-List.map_take, -List.map_drop, -List.map_set, -List.map_append, -List.drop_one, S450, a7S0]) (by simp (disch := first | omega | (simp [-List.map_take, -List.map_drop, -List.map_set, -List.map_append, -List.drop_one] <;> omega) | fail) [-List.map_take, -List.map_drop, -List.map_set, -List.map_append, -List.drop_one, S450, a7S0]) (Nat.zero_le _) (by simp (disch := first | omega | (simp [-List.map_take, -List.map_drop, -List.map_set, -List.map_append, -List.drop_one] <;> omega) | fail) [-List.map_take, -List.map_drop, -List.map_set, -List.map_append, -List.drop_one, S450, a7S0, belowL, Am.below, hbw]) (by simp only [S450, a7S0]; exact belowH_pure ((PureH.one (pure_tpC _)).app ((PureH.one (pure_clC _)).app (PureH.one (pure_clC _))))), by simp only; omega, inv _ _ _ (by decide) hS.s hn0 hn1⟩
      · simp (disch := first | omega | (simp [-List.map_take, -List.map_drop, -List.map_set, -List.map_append, -List.drop_one] <;> omega) | fail) [-List.map_take, -List.map_drop, -List.map_set, -List.map_append, -List.drop_one, hm, T450_n, hN1, hN2, hN3, hN4, hN5, hN6, hwl, hKl, hKl', hwi, conv_i_w8, build_dg, hD, T450_sa, cCC_eq, T450_pt, T450_rt, cCii_eq, hp, hr, hSB, he]
        exact ⟨⟨m, t.adv 6, a, b⟩, weak_drop (tail := [.cells (dgC D), .cells (clC X), .cells (clC Y)]) (by simp (disch := first | omega | (simp [-List.map_take, -List.map_drop, -List.map_set, -List.map_append, -List.drop_one] <;> omega) | fail) [-List.map_take, -List.map_drop, -List.map_set, -List.map_append, -List.drop_one, S450, a7S0]) (by simp (disch := first | omega | (simp [-List.map_take, -List.map_drop, -List.map_set, -List.map_append, -List.drop_one] <;> omega) | fail) [-List.map_take, -List.map_drop, -List.map_set, -List.map_append, -List.drop_one, S450, a7S0]) (Nat.zero_le _) (by simp (disch := first | omega | (simp [-List.map_take, -List.map_drop, -List.map_set, -List.map_append, -List.drop_one] <;> omega) | fail) [-List.map_take, -List.map_drop, -List.map_set, -List.map_append, -List.drop_one, S450, a7S0, belowL, Am.below, hbw]) (by simp only [S450, a7S0]; exact belowH_pure ((PureH.one (pure_tpC _)).app ((PureH.one (pure_clC _)).app (PureH.one (pure_clC _))))), by simp only; omega, inv _ _ _ (by decide) q1 q2 (by omega)⟩
    · skip
      obtain ⟨X, Y, e, hS⟩ := stp_remove q1 q2 id
      have hSB := sameB_true hS.s
      have hp := hS.p
      have hr := hS.r
      by_cases he : e = 0
      · have hn0 := hS.n0 he
        have hn1 := hS.n1 he
        simp (disch := first | omega | (simp [-List.map_take, -List.map_drop, -List.map_set, -List.map_append, -List.drop_one] <;> omega) | fail) [-List.map_take, -List.map_drop, -List.map_set, -List.map_append, -List.drop_one, hm, T450_n, hN1, hN2, hN3, hN4, hN5, hN6, hwl, hKl, hKl', hwi, conv_i_w8, build_dg, hD, T450_sa, cCC_eq, T450_pr, T450_rr, cCi_eq, hp, hr, hSB, he]
        exact ⟨⟨m, t.adv 6, X, Y⟩, weak_drop (tail := [.cells (dgC D), .cells (clC X), .cells (clC Y)]) (by simp (disch := first | omega | (simp [-List.map_take, -List.map_drop, -List.map_set, -List.map_append, -List.drop_one] <;> omega) | fail) [-List.map_take, -List.map_drop, -List.map_set, -List.map_append, -List.drop_one, S450, a7S0]) (by simp (disch := first | omega | (simp [-List.map_take, -List.map_drop, -List.map_set, -List.map_append, -List.drop_one] <;> omega) | fail) [-List.map_take, -List.map_drop, -List.map_set, -List.map_append, -List.drop_one, S450, a7S0]) (Nat.zero_le _) (by simp (disch := first | omega | (simp [-List.map_take, -List.map_drop, -List.map_set, -List.map_append, -List.drop_one] <;> omega) | fail) [-List.map_take, -List.map_drop, -List.map_set, -List.map_append, -List.drop_one, S450, a7S0, belowL, Am.below, hbw]) (by simp only [S450, a7S0]; exact belowH_pure ((PureH.one (pure_tpC _)).app ((PureH.one (pure_clC _)).app (PureH.one (pure_clC _))))), by simp only; omega, inv _ _ _ (by decide) hS.s hn0 hn1⟩
      · simp (disch := first | omega | (simp [-List.map_take, -List.map_drop, -List.map_set, -List.map_append, -List.drop_one] <;> omega) | fail) [-List.map_take, -List.map_drop, -List.map_set, -List.map_append, -List.drop_one, hm, T450_n, hN1, hN2, hN3, hN4, hN5, hN6, hwl, hKl, hKl', hwi, conv_i_w8, build_dg, hD, T450_sa, cCC_eq, T450_pr, T450_rr, cCi_eq, hp, hr, hSB, he]
        exact ⟨⟨m, t.adv 6, a, b⟩, weak_drop (tail := [.cells (dgC D), .cells (clC X), .cells (clC Y)]) (by simp (disch := first | omega | (simp [-List.map_take, -List.map_drop, -List.map_set, -List.map_append, -List.drop_one] <;> omega) | fail) [-List.map_take, -List.map_drop, -List.map_set, -List.map_append, -List.drop_one, S450, a7S0]) (by simp (disch := first | omega | (simp [-List.map_take, -List.map_drop, -List.map_set, -List.map_append, -List.drop_one] <;> omega) | fail) [-List.map_take, -List.map_drop, -List.map_set, -List.map_append, -List.drop_one, S450, a7S0]) (Nat.zero_le _) (by simp (disch := first | omega | (simp [-List.map_take, -List.map_drop, -List.map_set, -List.map_append, -List.drop_one] <;> omega) | fail) [-List.map_take, -List.map_drop, -List.map_set, -List.map_append, -List.drop_one, S450, a7S0, belowL, Am.below, hbw]) (by simp only [S450, a7S0]; exact belowH_pure ((PureH.one (pure_tpC _)).app ((PureH.one (pure_clC _)).app (PureH.one (pure_clC _))))), by simp only; omega, inv _ _ _ (by decide) q1 q2 (by omega)⟩
    · skip
      have hN7 := cNext_pos (t := t.adv 6) (n := 2) (hA _ (by decide)) (by decide) (by decide)
      have hN8 := cNext_pos (t := t.adv 7) (n := 2) (hA _ (by decide)) (by decide) (by decide)
      have hN9 := cNext_pos (t := t.adv 8) (n := 2) (hA _ (by decide)) (by decide) (by decide)
      rw [adv_adv] at hN7 hN8 hN9
      obtain ⟨m1, hm1⟩ : ∃ g, decide (tpN (t.adv 6) 2 = 0) = g := ⟨_, rfl⟩
      obtain ⟨m2, hm2⟩ : ∃ g, decide (tpN (t.adv 7) 2 = 0) = g := ⟨_, rfl⟩
      obtain ⟨m3, hm3⟩ : ∃ g, decide (tpN (t.adv 8) 2 = 0) = g := ⟨_, rfl⟩
      obtain ⟨X, Y, hS⟩ := stp_mark q1 q2 [m1, m2, m3] at1
      have hmk : ∀ (f : Clu → List Bool → Int → Clu) (c : Clu) (tt : Int), cMkF f [.agg (clC c), .sl true 1 3 [.bool m1, .bool m2, .bool m3], .int .i64 tt] = some (.agg (clC (f c [m1, m2, m3] tt))) := fun f c tt => cMkF_eq (d := ⟨some true, [m1, m2, m3], by simp, by simp⟩)
      have hSB := sameB_true hS.s
      have hp := hS.p
      have hr := hS.r
      simp (disch := first | omega | (simp [-List.map_take, -List.map_drop, -List.map_set, -List.map_append, -List.drop_one] <;> omega) | fail) [-List.map_take, -List.map_drop, -List.map_set, -List.map_append, -List.drop_one, hm, T450_n, hN1, hN2, hN3, hN4, hN5, hN6, hwl, hKl, hKl', hwi, conv_i_w8, build_dg, hD, T450_sa, cCC_eq, T450_pm, T450_rm, hN7, hN8, hN9, hm1, hm2, hm3, bsl_m3, hmk, hp, hr, hSB]
      exact ⟨⟨m, t.adv 9, X, Y⟩, weak_drop (tail := [.cells (dgC D), .cells (clC X), .cells (clC Y)]) (by simp (disch := first | omega | (simp [-List.map_take, -List.map_drop, -List.map_set, -List.map_append, -List.drop_one] <;> omega) | fail) [-List.map_take, -List.map_drop, -List.map_set, -List.map_append, -List.drop_one, S450, a7S0]) (by simp (disch := first | omega | (simp [-List.map_take, -List.map_drop, -List.map_set, -List.map_append, -List.drop_one] <;> omega) | fail) [-List.map_take, -List.map_drop, -List.map_set, -List.map_append, -List.drop_one, S450, a7S0]) (Nat.zero_le _) (by simp (disch := first | omega | (simp [-List.map_take, -List.map_drop, -List.map_set, -List.map_append, -List.drop_one] <;> omega) | fail) [-List.map_take, -List.map_drop, -List.map_set, -List.map_append, -List.drop_one, S450, a7S0, belowL, Am.below, hbw]) (by simp only [S450, a7S0]; exact belowH_pure ((PureH.one (pure_tpC _)).app ((PureH.one (pure_clC _)).app (PureH.one (pure_clC _))))), by simp only; omega, inv _ _ _ (by decide) hS.s hS.n0 hS.n1⟩
  · have hKl' : ¬ (K : Int) < w.l.length := by omega
    rcases hop6 with rfl | rfl | rfl | rfl | rfl | rfl
    · skip
      have hGA := groupV_at (t.adv 6) arts2
      have hGO := groupV_ok (t.adv 6) (x := arts2) arts2_ne (by decide)
      have hG := cGrp_eq (t := t.adv 6) (x := arts2) (by show t.at_ + 6 < _; omega) (by decide)
      obtain ⟨G, hGe⟩ : ∃ G, (groupV (t.adv 6) arts2).1 = G := ⟨_, rfl⟩
      obtain ⟨V, hVe⟩ : ∃ G, (groupV (t.adv 6) arts2).2 = G := ⟨_, rfl⟩
      rw [hGe, hVe, arts2_dv] at hG
      rw [hVe] at hGA
      rw [hGe] at hGO
      have hGA' : V.at_ ≤ t.at_ + 6 + 15 := hGA
      have hN7 := cNext_pos (t := V) (n := 3) (by omega) (by decide) (by decide)
      have w1 := hGO.w0
      have w2 := hGO.w1
      have w3 := tpN_lo V 3
      have w4 := tpN_hi V (n := 3) (by decide)
      obtain ⟨r, hr0⟩ : ∃ g, tpN V 3 = g := ⟨_, rfl⟩
      rw [hr0] at hN7 w3 w4
      obtain ⟨X, Y, e, hS⟩ := stp_deploy q1 q2 (G.up r)
      have hd1 : ∀ f : Clu → Grp → DV, ∀ c : Clu, cDep f [.agg (clC c), .agg [DV.str G.ns, .str G.im, .int .i64 (G.want + r), .int .i64 G.least, .int .i64 G.down, G.ch.dv 32 dgC]] = some (f c (G.up r)) := fun f c => by rw [grC_up]; exact cDep_eq
      have inv' : ∀ (X Y : Clu), SameC X Y → 1 ≤ X.next → X.next ≤ a.next + 1 → CaI ⟨m, V.adv 1, X, Y⟩ := fun X Y h2 h3 h4 => ⟨h2, h3, by simp only; omega, by have : (V.adv 1).at_ = V.at_ + 1 := rfl; simp only; omega⟩
      have hSB := sameB_true hS.s
      have hp := hS.p
      have hr := hS.r
      by_cases he : e = 0
      · have hn0 := hS.n0 he
        have hn1 := hS.n1 he
        simp (disch := first | omega | (simp [-List.map_take, -List.map_drop, -List.map_set, -List.map_append, -List.drop_one] <;> omega) | fail) [-List.map_take, -List.map_drop, -List.map_set, -List.map_append, -List.drop_one, hm, T450_n, hN1, hN2, hN3, hN4, hN5, hN6, hwl, hKl, hKl', conv_i_w8, build_dg, hD, T450_sa, cCC_eq, T450_gr, T450_pd, T450_rd, bsl_arts2, hG, grC_form, one_agg6, hN7, hd1, hp, hr, hSB, he]
        exact ⟨⟨m, V.adv 1, X, Y⟩, weak_drop (tail := [.cells (dgC D), .cells (clC X), .cells (clC Y), .cells [DV.str G.ns, .str G.im, .int .i64 (G.want + r), .int .i64 G.least, .int .i64 G.down, G.ch.dv 32 dgC]]) (by simp (disch := first | omega | (simp [-List.map_take, -List.map_drop, -List.map_set, -List.map_append, -List.drop_one] <;> omega) | fail) [-List.map_take, -List.map_drop, -List.map_set, -List.map_append, -List.drop_one, S450, a7S0]) (by simp (disch := first | omega | (simp [-List.map_take, -List.map_drop, -List.map_set, -List.map_append, -List.drop_one] <;> omega) | fail) [-List.map_take, -List.map_drop, -List.map_set, -List.map_append, -List.drop_one, S450, a7S0]) (Nat.zero_le _) (by simp (disch := first | omega | (simp [-List.map_take, -List.map_drop, -List.map_set, -List.map_append, -List.drop_one] <;> omega) | fail) [-List.map_take, -List.map_drop, -List.map_set, -List.map_append, -List.drop_one, S450, a7S0, belowL, Am.below, hbw]) (by simp only [S450, a7S0]; exact belowH_pure ((PureH.one (pure_tpC _)).app ((PureH.one (pure_clC _)).app (PureH.one (pure_clC _))))), by simp only; omega, inv' _ _ hS.s hn0 hn1⟩
      · simp (disch := first | omega | (simp [-List.map_take, -List.map_drop, -List.map_set, -List.map_append, -List.drop_one] <;> omega) | fail) [-List.map_take, -List.map_drop, -List.map_set, -List.map_append, -List.drop_one, hm, T450_n, hN1, hN2, hN3, hN4, hN5, hN6, hwl, hKl, hKl', conv_i_w8, build_dg, hD, T450_sa, cCC_eq, T450_gr, T450_pd, T450_rd, bsl_arts2, hG, grC_form, one_agg6, hN7, hd1, hp, hr, hSB, he]
        exact ⟨⟨m, V.adv 1, a, b⟩, weak_drop (tail := [.cells (dgC D), .cells (clC X), .cells (clC Y), .cells [DV.str G.ns, .str G.im, .int .i64 (G.want + r), .int .i64 G.least, .int .i64 G.down, G.ch.dv 32 dgC]]) (by simp (disch := first | omega | (simp [-List.map_take, -List.map_drop, -List.map_set, -List.map_append, -List.drop_one] <;> omega) | fail) [-List.map_take, -List.map_drop, -List.map_set, -List.map_append, -List.drop_one, S450, a7S0]) (by simp (disch := first | omega | (simp [-List.map_take, -List.map_drop, -List.map_set, -List.map_append, -List.drop_one] <;> omega) | fail) [-List.map_take, -List.map_drop, -List.map_set, -List.map_append, -List.drop_one, S450, a7S0]) (Nat.zero_le _) (by simp (disch := first | omega | (simp [-List.map_take, -List.map_drop, -List.map_set, -List.map_append, -List.drop_one] <;> omega) | fail) [-List.map_take, -List.map_drop, -List.map_set, -List.map_append, -List.drop_one, S450, a7S0, belowL, Am.below, hbw]) (by simp only [S450, a7S0]; exact belowH_pure ((PureH.one (pure_tpC _)).app ((PureH.one (pure_clC _)).app (PureH.one (pure_clC _))))), by simp only; omega, inv' _ _ q1 q2 (by omega)⟩
    · skip
      obtain ⟨X, Y, i, e, hS⟩ := stp_start q1 q2 (gr - 1) D T0
      have hSB := sameB_true hS.s
      have hp := hS.p
      have hr := hS.r
      by_cases he : e = 0
      · have hn0 := hS.n0 he
        have hn1 := hS.n1 he
        simp (disch := first | omega | (simp [-List.map_take, -List.map_drop, -List.map_set, -List.map_append, -List.drop_one] <;> omega) | fail) [-List.map_take, -List.map_drop, -List.map_set, -List.map_append, -List.drop_one, hm, T450_n, hN1, hN2, hN3, hN4, hN5, hN6, hwl, hKl, hKl', conv_i_w8, build_dg, hD, T450_sa, cCC_eq, T450_ps, T450_rs, cSta_eq, hp, hr, hSB, he]
        exact ⟨⟨m, t.adv 6, X, Y⟩, weak_drop (tail := [.cells (dgC D), .cells (clC X), .cells (clC Y)]) (by simp (disch := first | omega | (simp [-List.map_take, -List.map_drop, -List.map_set, -List.map_append, -List.drop_one] <;> omega) | fail) [-List.map_take, -List.map_drop, -List.map_set, -List.map_append, -List.drop_one, S450, a7S0]) (by simp (disch := first | omega | (simp [-List.map_take, -List.map_drop, -List.map_set, -List.map_append, -List.drop_one] <;> omega) | fail) [-List.map_take, -List.map_drop, -List.map_set, -List.map_append, -List.drop_one, S450, a7S0]) (Nat.zero_le _) (by simp (disch := first | omega | (simp [-List.map_take, -List.map_drop, -List.map_set, -List.map_append, -List.drop_one] <;> omega) | fail) [-List.map_take, -List.map_drop, -List.map_set, -List.map_append, -List.drop_one, S450, a7S0, belowL, Am.below, hbw]) (by simp only [S450, a7S0]; exact belowH_pure ((PureH.one (pure_tpC _)).app ((PureH.one (pure_clC _)).app (PureH.one (pure_clC _))))), by simp only; omega, inv _ _ _ (by decide) hS.s hn0 hn1⟩
      · simp (disch := first | omega | (simp [-List.map_take, -List.map_drop, -List.map_set, -List.map_append, -List.drop_one] <;> omega) | fail) [-List.map_take, -List.map_drop, -List.map_set, -List.map_append, -List.drop_one, hm, T450_n, hN1, hN2, hN3, hN4, hN5, hN6, hwl, hKl, hKl', conv_i_w8, build_dg, hD, T450_sa, cCC_eq, T450_ps, T450_rs, cSta_eq, hp, hr, hSB, he]
        exact ⟨⟨m, t.adv 6, a, b⟩, weak_drop (tail := [.cells (dgC D), .cells (clC X), .cells (clC Y)]) (by simp (disch := first | omega | (simp [-List.map_take, -List.map_drop, -List.map_set, -List.map_append, -List.drop_one] <;> omega) | fail) [-List.map_take, -List.map_drop, -List.map_set, -List.map_append, -List.drop_one, S450, a7S0]) (by simp (disch := first | omega | (simp [-List.map_take, -List.map_drop, -List.map_set, -List.map_append, -List.drop_one] <;> omega) | fail) [-List.map_take, -List.map_drop, -List.map_set, -List.map_append, -List.drop_one, S450, a7S0]) (Nat.zero_le _) (by simp (disch := first | omega | (simp [-List.map_take, -List.map_drop, -List.map_set, -List.map_append, -List.drop_one] <;> omega) | fail) [-List.map_take, -List.map_drop, -List.map_set, -List.map_append, -List.drop_one, S450, a7S0, belowL, Am.below, hbw]) (by simp only [S450, a7S0]; exact belowH_pure ((PureH.one (pure_tpC _)).app ((PureH.one (pure_clC _)).app (PureH.one (pure_clC _))))), by simp only; omega, inv _ _ _ (by decide) q1 q2 (by omega)⟩
    · skip
      obtain ⟨X, Y, e, hS⟩ := stp_started q1 q2 id T0
      have hSB := sameB_true hS.s
      have hp := hS.p
      have hr := hS.r
      by_cases he : e = 0
      · have hn0 := hS.n0 he
        have hn1 := hS.n1 he
        simp (disch := first | omega | (simp [-List.map_take, -List.map_drop, -List.map_set, -List.map_append, -List.drop_one] <;> omega) | fail) [-List.map_take, -List.map_drop, -List.map_set, -List.map_append, -List.drop_one, hm, T450_n, hN1, hN2, hN3, hN4, hN5, hN6, hwl, hKl, hKl', conv_i_w8, build_dg, hD, T450_sa, cCC_eq, T450_pe, T450_re, cCii_eq, hp, hr, hSB, he]
        exact ⟨⟨m, t.adv 6, X, Y⟩, weak_drop (tail := [.cells (dgC D), .cells (clC X), .cells (clC Y)]) (by simp (disch := first | omega | (simp [-List.map_take, -List.map_drop, -List.map_set, -List.map_append, -List.drop_one] <;> omega) | fail) [-List.map_take, -List.map_drop, -List.map_set, -List.map_append, -List.drop_one, S450, a7S0]) (by simp (disch := first | omega | (simp [-List.map_take, -List.map_drop, -List.map_set, -List.map_append, -List.drop_one] <;> omega) | fail) [-List.map_take, -List.map_drop, -List.map_set, -List.map_append, -List.drop_one, S450, a7S0]) (Nat.zero_le _) (by simp (disch := first | omega | (simp [-List.map_take, -List.map_drop, -List.map_set, -List.map_append, -List.drop_one] <;> omega) | fail) [-List.map_take, -List.map_drop, -List.map_set, -List.map_append, -List.drop_one, S450, a7S0, belowL, Am.below, hbw]) (by simp only [S450, a7S0]; exact belowH_pure ((PureH.one (pure_tpC _)).app ((PureH.one (pure_clC _)).app (PureH.one (pure_clC _))))), by simp only; omega, inv _ _ _ (by decide) hS.s hn0 hn1⟩
      · simp (disch := first | omega | (simp [-List.map_take, -List.map_drop, -List.map_set, -List.map_append, -List.drop_one] <;> omega) | fail) [-List.map_take, -List.map_drop, -List.map_set, -List.map_append, -List.drop_one, hm, T450_n, hN1, hN2, hN3, hN4, hN5, hN6, hwl, hKl, hKl', conv_i_w8, build_dg, hD, T450_sa, cCC_eq, T450_pe, T450_re, cCii_eq, hp, hr, hSB, he]
        exact ⟨⟨m, t.adv 6, a, b⟩, weak_drop (tail := [.cells (dgC D), .cells (clC X), .cells (clC Y)]) (by simp (disch := first | omega | (simp [-List.map_take, -List.map_drop, -List.map_set, -List.map_append, -List.drop_one] <;> omega) | fail) [-List.map_take, -List.map_drop, -List.map_set, -List.map_append, -List.drop_one, S450, a7S0]) (by simp (disch := first | omega | (simp [-List.map_take, -List.map_drop, -List.map_set, -List.map_append, -List.drop_one] <;> omega) | fail) [-List.map_take, -List.map_drop, -List.map_set, -List.map_append, -List.drop_one, S450, a7S0]) (Nat.zero_le _) (by simp (disch := first | omega | (simp [-List.map_take, -List.map_drop, -List.map_set, -List.map_append, -List.drop_one] <;> omega) | fail) [-List.map_take, -List.map_drop, -List.map_set, -List.map_append, -List.drop_one, S450, a7S0, belowL, Am.below, hbw]) (by simp only [S450, a7S0]; exact belowH_pure ((PureH.one (pure_tpC _)).app ((PureH.one (pure_clC _)).app (PureH.one (pure_clC _))))), by simp only; omega, inv _ _ _ (by decide) q1 q2 (by omega)⟩
    · skip
      obtain ⟨X, Y, e, hS⟩ := stp_stop q1 q2 id T0
      have hSB := sameB_true hS.s
      have hp := hS.p
      have hr := hS.r
      by_cases he : e = 0
      · have hn0 := hS.n0 he
        have hn1 := hS.n1 he
        simp (disch := first | omega | (simp [-List.map_take, -List.map_drop, -List.map_set, -List.map_append, -List.drop_one] <;> omega) | fail) [-List.map_take, -List.map_drop, -List.map_set, -List.map_append, -List.drop_one, hm, T450_n, hN1, hN2, hN3, hN4, hN5, hN6, hwl, hKl, hKl', conv_i_w8, build_dg, hD, T450_sa, cCC_eq, T450_pt, T450_rt, cCii_eq, hp, hr, hSB, he]
        exact ⟨⟨m, t.adv 6, X, Y⟩, weak_drop (tail := [.cells (dgC D), .cells (clC X), .cells (clC Y)]) (by simp (disch := first | omega | (simp [-List.map_take, -List.map_drop, -List.map_set, -List.map_append, -List.drop_one] <;> omega) | fail) [-List.map_take, -List.map_drop, -List.map_set, -List.map_append, -List.drop_one, S450, a7S0]) (by simp (disch := first | omega | (simp [-List.map_take, -List.map_drop, -List.map_set, -List.map_append, -List.drop_one] <;> omega) | fail) [-List.map_take, -List.map_drop, -List.map_set, -List.map_append, -List.drop_one, S450, a7S0]) (Nat.zero_le _) (by simp (disch := first | omega | (simp [-List.map_take, -List.map_drop, -List.map_set, -List.map_append, -List.drop_one] <;> omega) | fail) [-List.map_take, -List.map_drop, -List.map_set, -List.map_append, -List.drop_one, S450, a7S0, belowL, Am.below, hbw]) (by simp only [S450, a7S0]; exact belowH_pure ((PureH.one (pure_tpC _)).app ((PureH.one (pure_clC _)).app (PureH.one (pure_clC _))))), by simp only; omega, inv _ _ _ (by decide) hS.s hn0 hn1⟩
      · simp (disch := first | omega | (simp [-List.map_take, -List.map_drop, -List.map_set, -List.map_append, -List.drop_one] <;> omega) | fail) [-List.map_take, -List.map_drop, -List.map_set, -List.map_append, -List.drop_one, hm, T450_n, hN1, hN2, hN3, hN4, hN5, hN6, hwl, hKl, hKl', conv_i_w8, build_dg, hD, T450_sa, cCC_eq, T450_pt, T450_rt, cCii_eq, hp, hr, hSB, he]
        exact ⟨⟨m, t.adv 6, a, b⟩, weak_drop (tail := [.cells (dgC D), .cells (clC X), .cells (clC Y)]) (by simp (disch := first | omega | (simp [-List.map_take, -List.map_drop, -List.map_set, -List.map_append, -List.drop_one] <;> omega) | fail) [-List.map_take, -List.map_drop, -List.map_set, -List.map_append, -List.drop_one, S450, a7S0]) (by simp (disch := first | omega | (simp [-List.map_take, -List.map_drop, -List.map_set, -List.map_append, -List.drop_one] <;> omega) | fail) [-List.map_take, -List.map_drop, -List.map_set, -List.map_append, -List.drop_one, S450, a7S0]) (Nat.zero_le _) (by simp (disch := first | omega | (simp [-List.map_take, -List.map_drop, -List.map_set, -List.map_append, -List.drop_one] <;> omega) | fail) [-List.map_take, -List.map_drop, -List.map_set, -List.map_append, -List.drop_one, S450, a7S0, belowL, Am.below, hbw]) (by simp only [S450, a7S0]; exact belowH_pure ((PureH.one (pure_tpC _)).app ((PureH.one (pure_clC _)).app (PureH.one (pure_clC _))))), by simp only; omega, inv _ _ _ (by decide) q1 q2 (by omega)⟩
    · skip
      obtain ⟨X, Y, e, hS⟩ := stp_remove q1 q2 id
      have hSB := sameB_true hS.s
      have hp := hS.p
      have hr := hS.r
      by_cases he : e = 0
      · have hn0 := hS.n0 he
        have hn1 := hS.n1 he
        simp (disch := first | omega | (simp [-List.map_take, -List.map_drop, -List.map_set, -List.map_append, -List.drop_one] <;> omega) | fail) [-List.map_take, -List.map_drop, -List.map_set, -List.map_append, -List.drop_one, hm, T450_n, hN1, hN2, hN3, hN4, hN5, hN6, hwl, hKl, hKl', conv_i_w8, build_dg, hD, T450_sa, cCC_eq, T450_pr, T450_rr, cCi_eq, hp, hr, hSB, he]
        exact ⟨⟨m, t.adv 6, X, Y⟩, weak_drop (tail := [.cells (dgC D), .cells (clC X), .cells (clC Y)]) (by simp (disch := first | omega | (simp [-List.map_take, -List.map_drop, -List.map_set, -List.map_append, -List.drop_one] <;> omega) | fail) [-List.map_take, -List.map_drop, -List.map_set, -List.map_append, -List.drop_one, S450, a7S0]) (by simp (disch := first | omega | (simp [-List.map_take, -List.map_drop, -List.map_set, -List.map_append, -List.drop_one] <;> omega) | fail) [-List.map_take, -List.map_drop, -List.map_set, -List.map_append, -List.drop_one, S450, a7S0]) (Nat.zero_le _) (by simp (disch := first | omega | (simp [-List.map_take, -List.map_drop, -List.map_set, -List.map_append, -List.drop_one] <;> omega) | fail) [-List.map_take, -List.map_drop, -List.map_set, -List.map_append, -List.drop_one, S450, a7S0, belowL, Am.below, hbw]) (by simp only [S450, a7S0]; exact belowH_pure ((PureH.one (pure_tpC _)).app ((PureH.one (pure_clC _)).app (PureH.one (pure_clC _))))), by simp only; omega, inv _ _ _ (by decide) hS.s hn0 hn1⟩
      · simp (disch := first | omega | (simp [-List.map_take, -List.map_drop, -List.map_set, -List.map_append, -List.drop_one] <;> omega) | fail) [-List.map_take, -List.map_drop, -List.map_set, -List.map_append, -List.drop_one, hm, T450_n, hN1, hN2, hN3, hN4, hN5, hN6, hwl, hKl, hKl', conv_i_w8, build_dg, hD, T450_sa, cCC_eq, T450_pr, T450_rr, cCi_eq, hp, hr, hSB, he]
        exact ⟨⟨m, t.adv 6, a, b⟩, weak_drop (tail := [.cells (dgC D), .cells (clC X), .cells (clC Y)]) (by simp (disch := first | omega | (simp [-List.map_take, -List.map_drop, -List.map_set, -List.map_append, -List.drop_one] <;> omega) | fail) [-List.map_take, -List.map_drop, -List.map_set, -List.map_append, -List.drop_one, S450, a7S0]) (by simp (disch := first | omega | (simp [-List.map_take, -List.map_drop, -List.map_set, -List.map_append, -List.drop_one] <;> omega) | fail) [-List.map_take, -List.map_drop, -List.map_set, -List.map_append, -List.drop_one, S450, a7S0]) (Nat.zero_le _) (by simp (disch := first | omega | (simp [-List.map_take, -List.map_drop, -List.map_set, -List.map_append, -List.drop_one] <;> omega) | fail) [-List.map_take, -List.map_drop, -List.map_set, -List.map_append, -List.drop_one, S450, a7S0, belowL, Am.below, hbw]) (by simp only [S450, a7S0]; exact belowH_pure ((PureH.one (pure_tpC _)).app ((PureH.one (pure_clC _)).app (PureH.one (pure_clC _))))), by simp only; omega, inv _ _ _ (by decide) q1 q2 (by omega)⟩
    · skip
      have hN7 := cNext_pos (t := t.adv 6) (n := 2) (hA _ (by decide)) (by decide) (by decide)
      have hN8 := cNext_pos (t := t.adv 7) (n := 2) (hA _ (by decide)) (by decide) (by decide)
      have hN9 := cNext_pos (t := t.adv 8) (n := 2) (hA _ (by decide)) (by decide) (by decide)
      rw [adv_adv] at hN7 hN8 hN9
      obtain ⟨m1, hm1⟩ : ∃ g, decide (tpN (t.adv 6) 2 = 0) = g := ⟨_, rfl⟩
      obtain ⟨m2, hm2⟩ : ∃ g, decide (tpN (t.adv 7) 2 = 0) = g := ⟨_, rfl⟩
      obtain ⟨m3, hm3⟩ : ∃ g, decide (tpN (t.adv 8) 2 = 0) = g := ⟨_, rfl⟩
      obtain ⟨X, Y, hS⟩ := stp_mark q1 q2 [m1, m2, m3] T0
      have hmk : ∀ (f : Clu → List Bool → Int → Clu) (c : Clu) (tt : Int), cMkF f [.agg (clC c), .sl true 1 3 [.bool m1, .bool m2, .bool m3], .int .i64 tt] = some (.agg (clC (f c [m1, m2, m3] tt))) := fun f c tt => cMkF_eq (d := ⟨some true, [m1, m2, m3], by simp, by simp⟩)
      have hSB := sameB_true hS.s
      have hp := hS.p
      have hr := hS.r
      simp (disch := first | omega | (simp [-List.map_take, -List.map_drop, -List.map_set, -List.map_append, -List.drop_one] <;> omega) | fail) [-List.map_take, -List.map_drop, -List.map_set, -List.map_append, -List.drop_one, hm, T450_n, hN1, hN2, hN3, hN4, hN5, hN6, hwl, hKl, hKl', conv_i_w8, build_dg, hD, T450_sa, cCC_eq, T450_pm, T450_rm, hN7, hN8, hN9, hm1, hm2, hm3, bsl_m3, hmk, hp, hr, hSB]
      exact ⟨⟨m, t.adv 9, X, Y⟩, weak_drop (tail := [.cells (dgC D), .cells (clC X), .cells (clC Y)]) (by simp (disch := first | omega | (simp [-List.map_take, -List.map_drop, -List.map_set, -List.map_append, -List.drop_one] <;> omega) | fail) [-List.map_take, -List.map_drop, -List.map_set, -List.map_append, -List.drop_one, S450, a7S0]) (by simp (disch := first | omega | (simp [-List.map_take, -List.map_drop, -List.map_set, -List.map_append, -List.drop_one] <;> omega) | fail) [-List.map_take, -List.map_drop, -List.map_set, -List.map_append, -List.drop_one, S450, a7S0]) (Nat.zero_le _) (by simp (disch := first | omega | (simp [-List.map_take, -List.map_drop, -List.map_set, -List.map_append, -List.drop_one] <;> omega) | fail) [-List.map_take, -List.map_drop, -List.map_set, -List.map_append, -List.drop_one, S450, a7S0, belowL, Am.below, hbw]) (by simp only [S450, a7S0]; exact belowH_pure ((PureH.one (pure_tpC _)).app ((PureH.one (pure_clC _)).app (PureH.one (pure_clC _))))), by simp only; omega, inv _ _ _ (by decide) hS.s hS.n0 hS.n1⟩
namespace workloadCalls
theorem law_holds (dvs) (h : Ty.Args [.sl (.int .i64), .sl (.int .i64)] dvs) : Am.Sem P 7 dvs (.bool true) := by
  obtain ⟨d1, l1, rfl, h1, d2, l2, rfl, h2, rfl⟩ := h
  obtain ⟨x, _, hx⟩ := ok_nl h1
  obtain ⟨w, _, hw⟩ := ok_nl h2
  cases hx
  cases hw
  exact sem_runs mix T450_sound Tryd.func7 a7_ok (runs_lawcalls x w)
end workloadCalls
end Go.Proofs.YtjhakjeioppijaaDoor
