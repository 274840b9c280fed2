/-
  12 texts of mine in one.
-/
import Derived.Test.YtdnhbfmlklaldaaGreatC5f0ea989
import Derived.Test.YtdnhbfmlklaldaaGreatC7ec6da1e
import Derived.Test.YtdnhbfmlklaldaaGreatCd2e92958
import Derived.Test.YtdnhbfmlklaldaaGreatC320c5261
import Derived.Test.YtdnhbfmlklaldaaGreatC46c66ab9
import Derived.Test.YtdnhbfmlklaldaaGreatC3fc9cd0c
set_option linter.unusedSimpArgs false
set_option linter.unusedVariables false
namespace Go.Proofs.YtdnhbfmlklaldaaGreat
open Go Go.Am
def naS (all : Sl Fct) : Sl Fct := if all.l = [] then all.clone else own (kp Fp.agr.p all.l)
theorem naS_l {all : Sl Fct} : (naS all).l = all.l.filter fun f => !f.agr := by
  unfold naS
  split
  · rename_i h; show all.l = _; rw [h]; rfl
  · have := kp_len (p := Fp.agr.p) all.l
    rw [own_l (by have := all.b; omega)]; rfl
theorem naS_own {all : Sl Fct} : ownersS (naS all).l = againstS all.l := by rw [naS_l]; rfl
def nmS (l : List Fct) : Sl Str := if l = [] then nilS else own (ownersS l)
theorem nmS_l {l : List Fct} (h : l.length ≤ 1000000) : (nmS l).l = ownersS l := by
  unfold nmS
  split
  · rename_i e; subst e; rfl
  · have := own_len l; exact own_l (by omega)
def nmC (l : List Fct) : List DV := (compO [] (sortR Op.bytesLess (nms l))).map .str
theorem nmO_cons {f : Fct} {r : List Fct} : nmO (f :: r) = [.cells (faC f), .cells (nmC (f :: r))] := rfl
theorem nmC_len {l : List Fct} : (nmC l).length = l.length := by rw [nmC, List.length_map, compO_len, sortR_len, nms_len]
theorem nmV_cons {p : Nat} {f : Fct} {r : List Fct} : nmV p (f :: r) = .ms (p + 1) (f :: r).length 0 1 (ownersS (f :: r)).length (f :: r).length := if_neg (by simp)
theorem objAt_mid {A B : List AObj} {c : List DV} : objAt (A ++ .cells c :: B) A.length = some c := by simp [objAt]
theorem objAt_mid1 {A B : List AObj} {o : AObj} {c : List DV} : objAt (A ++ o :: .cells c :: B) (A.length + 1) = some c := by
  have := objAt_mid (A := A ++ [o]) (B := B) (c := c)
  rw [List.append_assoc, List.length_append] at this
  exact this
theorem nmC_take {l : List Fct} : (nmC l).take (ownersS l).length = (ownersS l).flatMap stC := by
  rw [fm_st, nmC, ← List.map_take, ← nms_comp, compO_take]
theorem snap_nm {A B : List AObj} {l : List Fct} {k : Nat} (h : l.length ≤ 1000000) : snap (A ++ nmO l ++ B) (k + 1) (nmV A.length l) = some ((nmS l).dv 1 stC) := by
  cases l with
  | nil => exact snap_clean rfl
  | cons f r =>
    have hl := own_len (f :: r)
    rw [nmO_cons, nmV_cons, snap_ms, List.append_assoc]
    have ho : objV (A ++ ([.cells (faC f), .cells (nmC (f :: r))] ++ B)) (A.length + 1) (f :: r).length = some (nmC (f :: r)) := objV_of objAt_mid1 nmC_len
    rw [ho, Option.bind_some, List.drop_zero, Nat.mul_one, nmC_take, snapL_clean (by rw [fm_st]; exact pureL_str _), nmS, if_neg (by simp), own_dv (by omega)]
    rfl
theorem lenD_nm {A B : List AObj} {l : List Fct} : lenD (A ++ nmO l ++ B) (nmV A.length l) = some (.int .i64 (ownersS l).length) := by
  cases l with
  | nil => rfl
  | cons f r =>
    rw [nmO_cons, nmV_cons, lenD_ms, List.append_assoc]
    have ho : objV (A ++ ([.cells (faC f), .cells (nmC (f :: r))] ++ B)) (A.length + 1) (f :: r).length = some (nmC (f :: r)) := objV_of objAt_mid1 nmC_len
    rw [ho]; rfl
def agD (shown all : List Fct) : Sl Str := if shown = [] then nilS else own (agreeS shown all)
theorem agree_len (s a : List Fct) : (agreeS s a).length ≤ s.length := by have := own_len s; have := List.length_filter_le (fun n => !decide (n ∈ againstS a)) (ownersS s); unfold agreeS; omega
theorem agD_l {s a : List Fct} (h : s.length ≤ 1000000) : (agD s a).l = agreeS s a := by
  unfold agD
  split
  · rename_i e; subst e; rfl
  · have := agree_len s a; exact own_l (by omega)
def nmP (l : List Fct) : List AObj := match l with
  | [] => []
  | f :: _ => [.cells (faC f)]
def nmT (l : List Fct) : List Str := List.replicate (l.length - (ownersS l).length) []
theorem own_ne {l : List Fct} (h : l ≠ []) : ownersS l ≠ [] := fun e => by
  cases l with
  | nil => exact h rfl
  | cons f r => have : f.own ∈ ownersS (f :: r) := own_mem.2 ⟨f, by simp, rfl⟩; rw [e] at this; simp at this
theorem nmC_eq {l : List Fct} : nmC l = (ownersS l ++ nmT l).map .str := by rw [nmC, compO, nms_comp, sortR_len, nms_len]; rfl
theorem nm_dsH {A : List AObj} {l : List Fct} : A ++ nmO l = dsH (A ++ nmP l) (ownersS l) (nmT l) := by
  cases l with
  | nil => rfl
  | cons f r => rw [nmO_cons, nmC_eq, dsH, if_neg (own_ne (by simp)), nmP]; simp
theorem nm_dsV {A : List AObj} {l : List Fct} : nmV A.length l = dsV (A ++ nmP l).length (ownersS l) (nmT l) (ownersS l).length := by
  cases l with
  | nil => rfl
  | cons f r =>
    have hl := own_len (f :: r)
    rw [nmV_cons, dsV, if_neg (own_ne (by simp)), nmP, List.length_append, List.length_append, nmT, List.length_replicate]
    congr 1 <;> omega
theorem snap_ds {pre : List AObj} {l z : List Str} {k m : Nat} (hm : m ≤ l.length) : snap (dsH pre l z) (k + 1) (dsV pre.length l z m) = some (if l = [] then .nils else .sl false 1 m ((l.take m).flatMap stC)) := by
  by_cases e : l = []
  · rw [dsH, dsV, if_pos e, if_pos e, if_pos e]; exact snap_clean rfl
  · rw [dsH, dsV, if_neg e, if_neg e, if_neg e, snap_ms, objV_pre0, objV_zero, if_pos (by rw [List.length_map]), Option.bind_some, List.drop_zero, Nat.mul_one, ← List.map_take, List.take_append_of_le_length hm, snapL_clean (pureL_str _), fm_st]
    rfl
noncomputable def T580 : Tbl := addT 50 (.new cNF) (addT 49 (.heap cDelF) (addT 105 (.heap cOwnH) (addT 129 (.heap cDelS) tbl0)))
theorem T580_c : T580 50 = .new cNF := by simp [T580]
theorem T580_d : T580 49 = .heap cDelF := by simp [T580]
theorem T580_o : T580 105 = .heap cOwnH := by simp [T580]
theorem T580_s : T580 129 = .heap cDelS := by simp [T580]
theorem T580_sound : T580.Sound P := addT_sound cloneF_sound (addT_sound delF_sound (addT_sound ownersH_sound (addT_sound delS_sound tbl0_sound)))
def rebD (shown all : List Fct) : DV := .tup [(agD shown all).dv 1 stC, .int .i64 (againstS all).length]
theorem runs_rebuilds (s all : Sl Fct) (h1 : s.l.length ≤ 12) (h2 : all.l.length ≤ 12) : Runs T580 a109 [s.dv 71 faC, all.dv 71 faC] (rebD s.l all.l) := by
  refine ⟨?_⟩
  -- the clone, without those who agree
  have c1 := cNF_eq (x := all) (n := 0)
  have c2 := cDelF_eq (d := ⟨[], [], .agr, all⟩) ⟨fun X => rfl, rfl, rfl, by simp only; omega⟩
  simp only [List.length_nil, List.nil_append, show Fp.agr.fid = 128 from rfl] at c2
  obtain ⟨V0, hV0⟩ : ∃ V, mutD 0 71 all faC = V := ⟨_, rfl⟩
  obtain ⟨H0, hH0⟩ : ∃ H, mo faC all.l = H := ⟨_, rfl⟩
  have hs1 : snap (mo faC (delO fct0 Fp.agr.p all.l)) 3 (dlD 0 .agr all) = some ((naS all).dv 71 faC) := by
    by_cases e : all.l = []
    · rw [dlD, naS, if_pos e, if_pos e]; exact snap_dv pure_faC
    · have hk := kp_len (p := Fp.agr.p) all.l
      have hs := snap_mo (f := faC) len_faC pure_faC (pre := []) (l := delO fct0 Fp.agr.p all.l) (m := (kp Fp.agr.p all.l).length)
      rw [delO_len, delO_take] at hs
      rw [dlD, naS, if_neg e, if_neg e, mo_ne (delO_ne e), own_dv (by omega)]
      exact hs
  have hnl : (naS all).l.length ≤ 12 := by rw [naS_l]; have := List.length_filter_le (fun f : Fct => !f.agr) all.l; omega
  have c3 : cOwnH [dlD 0 Fp.agr all] (mo faC (delO fct0 Fp.agr.p all.l)) = some (nmV (mo faC (delO fct0 Fp.agr.p all.l)).length (naS all).l, mo faC (delO fct0 Fp.agr.p all.l) ++ nmO (naS all).l) := by
    by_cases e : all.l = []
    · rw [dlD, naS, if_pos e, if_pos e]
      exact cOwnH_frz (x := all.clone) (by show all.l.length ≤ 12; omega)
    · have hk := kp_len (p := Fp.agr.p) all.l
      have h := cOwnH_live (a := ⟨mo faC (delO fct0 Fp.agr.p all.l), 0, delO fct0 Fp.agr.p all.l, (kp Fp.agr.p all.l).length⟩) ⟨by rw [mo_ne (delO_ne e)]; rfl, by simp only [delO_len]; omega, by simp only; omega, by rw [mo_ne (delO_ne e)]; simp only [belowH, Bool.and_true]; exact belowL_pure _ _ (fm_pure pure_faC _)⟩
      simp only [OL.v, OL.l, delO_take, delO_len] at h
      rw [dlD, naS, if_neg e, if_neg e, own_l (by omega)]
      exact h
  obtain ⟨H1, hH1⟩ : ∃ H, mo faC (delO fct0 Fp.agr.p all.l) = H := ⟨_, rfl⟩
  obtain ⟨V1, hV1⟩ : ∃ V, dlD 0 Fp.agr all = V := ⟨_, rfl⟩
  rw [hH1, hV1] at c3
  rw [hV0, hH0] at c1 c2
  rw [hV1, hH1] at c2 hs1
  obtain ⟨L, hL⟩ : ∃ L, (naS all).l = L := ⟨_, rfl⟩
  rw [hL] at c3 hnl
  have hag : ownersS L = againstS all.l := by rw [← hL]; exact naS_own
  -- their owners
  obtain ⟨A, hA⟩ : ∃ A, H1 ++ (nmO L ++ [.cells [nmV H1.length L]]) = A := ⟨_, rfl⟩
  have hAl : A.length = (H1 ++ nmO L).length + 1 := by rw [← hA, ← List.append_assoc, List.length_append]; rfl
  have c4 := cOwnH_frz (pre := A) (x := s) h1
  have hcell : ∀ X, objV (A ++ X) (H1 ++ nmO L).length 1 = some [nmV H1.length L] := fun X => by
    rw [← hA]
    refine objV_of ?_ rfl
    have := objAt_mid (A := H1 ++ nmO L) (B := X) (c := [nmV H1.length L])
    simpa using this
  have hsn : ∀ X k, snap (A ++ X) (k + 1) (nmV H1.length L) = some ((nmS L).dv 1 stC) := fun X k => by
    have := snap_nm (A := H1) (B := [.cells [nmV H1.length L]] ++ X) (l := L) (k := k) (by omega)
    rw [← hA]; simpa using this
  have hln : ∀ X, lenD (A ++ X) (nmV H1.length L) = some (.int .i64 (ownersS L).length) := fun X => by
    have := lenD_nm (A := H1) (B := [.cells [nmV H1.length L]] ++ X) (l := L)
    rw [← hA]; simpa using this
  have hsr : ∀ X, snapL (A ++ X) 3 [.mp (H1 ++ nmO L).length 1 0] = some [.ref [(nmS L).dv 1 stC]] := fun X => by
    rw [snapL_cons, snap_mp, hcell, Option.bind_some, List.drop_zero, snapL_cons, hsn, snapL_nil, snapL_nil]
    rfl
  have c5 := cDelS_eq (d := ⟨A ++ nmP s.l, [.mp (H1 ++ nmO L).length 1 0], nmS L, ownersS s.l, nmT s.l⟩) ⟨fun X => by simp only [List.append_assoc]; exact hsr _, by have := own_len s.l; simp only; omega, fun e => by
    simp only at e ⊢
    by_cases e2 : s.l = []
    · rw [e2]; rfl
    · exact absurd e (own_ne e2)⟩
  simp only [← nm_dsV, ← nm_dsH] at c5
  have hp : DS.p ⟨A ++ nmP s.l, [.mp (H1 ++ nmO L).length 1 0], nmS L, ownersS s.l, nmT s.l⟩ = fun n => decide (n ∈ againstS all.l) := by
    funext d
    show decide (d ∈ (nmS L).l) = _
    rw [nmS_l (by omega), hag]
  rw [hp] at c5
  have hkp : kp (fun n => decide (n ∈ againstS all.l)) (ownersS s.l) = agreeS s.l all.l := rfl
  rw [hkp] at c5
  have hw : ∀ c : List DV, H1 ++ (nmO L ++ [AObj.cells c]) = (H1 ++ nmO L) ++ [AObj.cells c] := fun c => by rw [List.append_assoc]
  have hst : objV (H1 ++ (nmO L ++ [AObj.cells [.nils]])) (H1 ++ nmO L).length 1 = some [.nils] := by
    rw [hw]; exact objV_of objAt_mid rfl
  have hset : (H1 ++ (nmO L ++ [AObj.cells [.nils]])).set (H1 ++ nmO L).length (.cells [nmV H1.length L]) = A := by
    rw [hw, ← hA, hw, List.set_append_right _ _ (by omega), Nat.sub_self]; rfl
  have hone : (nmV H1.length L).one = true := by unfold nmV; split <;> rfl
  have hcl : (nmV H1.length L).cells = [nmV H1.length L] := by unfold nmV; split <;> rfl
  have hsto := storeO_1 (h := H1 ++ (nmO L ++ [AObj.cells [.nils]])) (id := (H1 ++ nmO L).length) (off := 0) (l := [.nils]) (y := nmV H1.length L) hcl hone (by decide)
  rw [show ([DV.nils] : List DV).set 0 (nmV H1.length L) = [nmV H1.length L] from rfl, hset] at hsto
  have hl2 : (H1 ++ nmO L).length = H1.length + (nmO L).length := List.length_append
  rw [hl2] at hst hsto hcell c5 hAl
  obtain ⟨V2, hV2⟩ : ∃ V, nmV H1.length L = V := ⟨_, rfl⟩
  rw [hV2] at c3 hcell hsn hln hsto hcl hone
  have hs5 : snap (dsH (A ++ nmP s.l) (delO [] (fun n => decide (n ∈ againstS all.l)) (ownersS s.l)) (nmT s.l)) 3 (dsV (A ++ nmP s.l).length (ownersS s.l) (nmT s.l) (agreeS s.l all.l).length) = some ((agD s.l all.l).dv 1 stC) := by
    have hkl := kp_len (p := fun n => decide (n ∈ againstS all.l)) (ownersS s.l)
    rw [hkp] at hkl
    have hdl := delO_len (p := fun n => decide (n ∈ againstS all.l)) [] (ownersS s.l)
    have := snap_ds (pre := A ++ nmP s.l) (l := delO [] (fun n => decide (n ∈ againstS all.l)) (ownersS s.l)) (z := nmT s.l) (k := 2) (m := (agreeS s.l all.l).length) (by rw [hdl]; exact hkl)
    have ht := delO_take (p := fun n => decide (n ∈ againstS all.l)) (z := []) (l := ownersS s.l)
    rw [hkp] at ht
    rw [ht] at this
    have hal := agree_len s.l all.l
    by_cases e : s.l = []
    · rw [e] at this ⊢; exact this
    · have e2 := own_ne e
      have e3 := delO_nnil (p := fun n => decide (n ∈ againstS all.l)) e2
      rw [if_neg e3] at this
      rw [agD, if_neg e, own_dv (by omega), ← this]
      have e4 : (ownersS s.l ++ nmT s.l).length = (delO [] (fun n => decide (n ∈ againstS all.l)) (ownersS s.l) ++ nmT s.l).length := by rw [List.length_append, List.length_append, hdl]
      congr 1
      rw [dsV, if_neg e2, dsV, if_neg e3, e4]
  obtain ⟨X5, hX5⟩ : ∃ X, dsH (A ++ nmP s.l) (delO [] (fun n => decide (n ∈ againstS all.l)) (ownersS s.l)) (nmT s.l) = A ++ X := by
    unfold dsH; split
    · exact ⟨_, rfl⟩
    · exact ⟨_, List.append_assoc ..⟩
  rw [hX5] at c5 hs5
  obtain ⟨V5, hV5⟩ : ∃ V, dsV (A ++ nmP s.l).length (ownersS s.l) (nmT s.l) (agreeS s.l all.l).length = V := ⟨_, rfl⟩
  rw [hV5] at c5 hs5
  obtain ⟨V4, hV4⟩ : ∃ V, nmV A.length s.l = V := ⟨_, rfl⟩
  rw [hV4] at c4 c5
  obtain ⟨H4, hH4⟩ : ∃ H, A ++ nmO s.l = H := ⟨_, rfl⟩
  rw [hH4] at c4 c5
  have hcell5 := hcell X5
  have hln5 := hln X5
  rw [hag] at hln5
  obtain ⟨H5, hH5⟩ : ∃ H, A ++ X5 = H := ⟨_, rfl⟩
  rw [hH5] at c5 hs5 hcell5 hln5
  simp (disch := first | omega | (simp [-List.map_take, -List.map_drop, -List.map_set, -List.map_append, -List.drop_one] <;> omega) | fail) [-List.map_take, -List.map_drop, -List.map_set, -List.map_append, -List.drop_one, a109, T580_c, T580_d, T580_o, T580_s, c1, c2, c3, hst, hsto, c4, c5, hcell5, hln5, hs5, rebD]
noncomputable def cReb : List DV → Option DV := con (fun a : Sl Fct × Sl Fct => a.1.l.length ≤ 12 ∧ a.2.l.length ≤ 12) (fun a => [a.1.dv 71 faC, a.2.dv 71 faC]) (fun a => rebD a.1.l a.2.l)
theorem cReb_eq {x y : Sl Fct} (h1 : x.l.length ≤ 12) (h2 : y.l.length ≤ 12) : cReb [x.dv 71 faC, y.dv 71 faC] = some (rebD x.l y.l) :=
  con_eq (f := fun a : Sl Fct × Sl Fct => [a.1.dv 71 faC, a.2.dv 71 faC]) (g := fun a => rebD a.1.l a.2.l) (by
    rintro ⟨a, b⟩ ⟨c, d⟩ e
    simp only [List.cons.injEq, and_true] at e
    rw [fas_inj e.1, fas_inj e.2]) (x, y) ⟨h1, h2⟩
theorem reb_sound : (Con.pure cReb).Sound P 109 := con_sound fun a h => sem_runs mix T580_sound Tryz.func109 a109_ok (runs_rebuilds a.1 a.2 h.1 h.2)
end Go.Proofs.YtdnhbfmlklaldaaGreat
set_option linter.unusedSimpArgs false
set_option linter.unusedVariables false
namespace Go.Proofs.YtdnhbfmlklaldaaGreat
open Go Go.Am
def mmD (mx : Bool) : DV → DV → Option DV
  | .int .i64 a, .int .i64 b => some (.int .i64 (if mx then max a b else min a b))
  | _, _ => none
theorem E_mm2 {T : Tbl} {dr mx : Bool} {t : List DV} {h : List AObj} {x y : Opd} : evAll T dr (.mm mx [x, y]) t h = pr (mmD mx (ev t x) (ev t y)) h := by
  simp only [evAll, evOp, mapAll]
  cases hx : ev t x with
  | int k a =>
    cases k <;> first
      | rfl
      | (cases hy : ev t y with
         | int k b => cases k <;> rfl
         | _ => rfl)
  | _ => rfl
theorem mmD_i {mx : Bool} {a b : Int} : mmD mx (.int .i64 a) (.int .i64 b) = some (.int .i64 (if mx then max a b else min a b)) := rfl
attribute [simp] E_mm2 mmD_i
theorem docOK_take {x : Sl Fct} {y : Sl Str} (hx : x.l.length ≤ 1000) (hd : ∀ f ∈ x.l, f.docs.l.length ≤ 1000) (hy : ∀ n ∈ y.l, n ∈ ownersS x.l) (hl : y.l.length ≤ 1000) : DocOK x y := ⟨hl, hd, fun n hn => own_mem.1 (hy n hn)⟩
structure EnOK (l : List Fct) (n : Int) : Prop where
  kl : l.length ≤ 12
  n0 : 0 ≤ n
  n1 : n ≤ 4611686018427387904
  kd : ∀ f ∈ l, f.docs.l.length ≤ 1000
  ks : (docsS l ((ownersS l).take n.toNat)).length ≤ 12
noncomputable def cOwnP : List DV → Option DV := con (fun x : Sl Fct => x.l.length ≤ 12) (fun x => [x.dv 71 faC]) (fun x => (nmS x.l).dv 1 stC)
theorem cOwnP_eq {x : Sl Fct} (h : x.l.length ≤ 12) : cOwnP [x.dv 71 faC] = some ((nmS x.l).dv 1 stC) :=
  con_eq (f := fun x : Sl Fct => [x.dv 71 faC]) (g := fun x => (nmS x.l).dv 1 stC) (fun a b e => by simp only [List.cons.injEq, and_true] at e; rw [fas_inj e]) x h
theorem ownP_sound : (Con.pure cOwnP).Sound P 105 := con_sound fun x h => sem_of_calls ((calls_runs mix T570_sound Tryz.func105 a105_ok (runs_owners x h)).mono fun d h' e => by
  obtain ⟨rfl, rfl⟩ := e
  have := snap_nm (A := []) (B := []) (l := x.l) (k := 2) (by omega)
  simpa using this)
noncomputable def T590 : Tbl := addT 105 (.pure cOwnP) (addT 108 (.pure cDoc) (addT 107 (.pure cHeld) (addT 106 (.pure cLack) (addT 109 (.pure cReb) tbl0))))
theorem T590_o : T590 105 = .pure cOwnP := by simp [T590]
theorem T590_d : T590 108 = .pure cDoc := by simp [T590]
theorem T590_h : T590 107 = .pure cHeld := by simp [T590]
theorem T590_l : T590 106 = .pure cLack := by simp [T590]
theorem T590_r : T590 109 = .pure cReb := by simp [T590]
theorem T590_sound : T590.Sound P := addT_sound ownP_sound (addT_sound doc_sound (addT_sound held_sound (addT_sound lack_sound (addT_sound reb_sound tbl0_sound))))
theorem runs_enough (x : Sl Fct) (n : Int) (ok : EnOK x.l n) : Runs T590 a69 [x.dv 71 faC, .int .i64 n] (.agg (suC (enoughS x.l n))) := by
  refine ⟨?_⟩
  obtain ⟨k1, k2, k3, k4, k5⟩ := ok
  have c1 := cOwnP_eq k1
  have hol := own_len x.l
  have hgl := nmS_l (l := x.l) (by omega)
  obtain ⟨m, hm⟩ : ∃ m, (ownersS x.l).length = m := ⟨_, rfl⟩
  rw [hm] at hol
  have hl : ∀ H, lenD H ((nmS x.l).dv 1 stC) = some (.int .i64 m) := fun H => by rw [lenD_dv, hgl, hm]
  have hw : IntKind.i64.wrap (n - (m : Int)) = n - m := by rw [IntKind.wrap_i64]; omega
  by_cases h : (m : Int) < n
  · have h1 : 0 < n - (m : Int) := by omega
    have hs : enoughS x.l n = lackS (n - m) := by unfold enoughS; rw [hm, if_pos h]
    simp (disch := first | omega | (simp [-List.map_take, -List.map_drop, -List.map_set, -List.map_append, -List.drop_one] <;> omega) | fail) [-List.map_take, -List.map_drop, -List.map_set, -List.map_append, -List.drop_one, a69, T590_o, T590_l, c1, hl, hw, h1, h, cLack_eq, hs]
  · have h1 : ¬ 0 < n - (m : Int) := by omega
    have hs : enoughS x.l n = heldS (ownN (docsS x.l ((ownersS x.l).take n.toNat))) := by unfold enoughS; rw [hm, if_neg h]
    obtain ⟨k, rfl⟩ : ∃ k : Nat, n = k := ⟨n.toNat, by omega⟩
    rw [Int.toNat_natCast] at k5 hs
    have hsl : ∀ H, slcSD H 1 ((nmS x.l).dv 1 stC) none (some (.int .i64 k)) none = some (((nmS x.l).part 0 k (k == (nmS x.l).l.length)).dv 1 stC) := fun H => slcSD_dv len_stC (by simp [boundsD, iD, hgl, hm]; omega) (by rw [hgl, hm]; omega)
    obtain ⟨Y, hY⟩ : ∃ Y, (nmS x.l).part 0 k (k == (nmS x.l).l.length) = Y := ⟨_, rfl⟩
    have hYl : Y.l = (ownersS x.l).take k := by rw [← hY]; show ((nmS x.l).l.drop 0).take (k - 0) = _; rw [hgl]; rfl
    rw [hY] at hsl
    have hok : DocOK x Y := docOK_take (by omega) k4 (fun s hs => List.mem_of_mem_take (hYl ▸ hs)) (by rw [hYl, List.length_take]; omega)
    have c2 := cDoc_eq hok
    rw [hYl] at c2
    have c3 := cHeld_eq (x := ownN (docsS x.l ((ownersS x.l).take k))) (by rw [ownN_l (by omega)]; exact k5)
    simp (disch := first | omega | (simp [-List.map_take, -List.map_drop, -List.map_set, -List.map_append, -List.drop_one] <;> omega) | fail) [-List.map_take, -List.map_drop, -List.map_set, -List.map_append, -List.drop_one, a69, T590_o, T590_d, T590_h, c1, hl, hw, h1, h, hsl, c2, c3, hs]
noncomputable def cEn : List DV → Option DV := con (fun a : Sl Fct × Int => EnOK a.1.l a.2) (fun a => [a.1.dv 71 faC, .int .i64 a.2]) (fun a => .agg (suC (enoughS a.1.l a.2)))
theorem cEn_eq {x : Sl Fct} {n : Int} (h : EnOK x.l n) : cEn [x.dv 71 faC, .int .i64 n] = some (.agg (suC (enoughS x.l n))) :=
  con_eq (f := fun a : Sl Fct × Int => [a.1.dv 71 faC, .int .i64 a.2]) (g := fun a => .agg (suC (enoughS a.1.l a.2))) (by
    rintro ⟨a, b⟩ ⟨c, d⟩ e
    simp only [List.cons.injEq, DV.int.injEq, and_true, true_and] at e
    rw [fas_inj e.1, e.2]) (x, n) h
theorem en_sound : (Con.pure cEn).Sound P 69 := con_sound fun a h => sem_runs mix T590_sound Tryz.func69 a69_ok (runs_enough a.1 a.2 h)
theorem runs_one (x : Sl Fct) (h : ∀ f ∈ x.l, f.docs.l.length ≤ 12) : Runs T590 a70 [x.dv 71 faC] (.agg (suC (oneS x.l))) := by
  refine ⟨?_⟩
  cases e : x.l with
  | nil =>
    have e0 : x.l.length = 0 := by rw [e]; rfl
    simp (disch := first | omega | (simp [-List.map_take, -List.map_drop, -List.map_set, -List.map_append, -List.drop_one] <;> omega) | fail) [-List.map_take, -List.map_drop, -List.map_set, -List.map_append, -List.drop_one, a70, e0, T590_l, cLack_eq, oneS]
  | cons f r =>
    have e0 : ¬ x.l = [] := by rw [e]; simp
    have hg : ∀ H, idxSD H 71 (x.dv 71 faC) 0 = some (.ref (faC f)) := fun H => by
      have := idxSD_dv (h := H) (x := x) (i := 0) len_faC (by rw [e]; simp)
      rw [show ((0 : Nat) : Int) = 0 from rfl] at this
      rw [this]; simp [e]
    have c := cHeld_eq (x := f.docs) (h f (by rw [e]; simp))
    have hs : oneS (f :: r) = heldS f.docs := rfl
    simp (disch := first | omega | (simp [-List.map_take, -List.map_drop, -List.map_set, -List.map_append, -List.drop_one] <;> omega) | fail) [-List.map_take, -List.map_drop, -List.map_set, -List.map_append, -List.drop_one, a70, e0, hg, T590_h, c, hs]
noncomputable def cOne : List DV → Option DV := con (fun x : Sl Fct => ∀ f ∈ x.l, f.docs.l.length ≤ 12) (fun x => [x.dv 71 faC]) (fun x => .agg (suC (oneS x.l)))
theorem cOne_eq {x : Sl Fct} (h : ∀ f ∈ x.l, f.docs.l.length ≤ 12) : cOne [x.dv 71 faC] = some (.agg (suC (oneS x.l))) :=
  con_eq (f := fun x : Sl Fct => [x.dv 71 faC]) (g := fun x => .agg (suC (oneS x.l))) (fun a b e => by simp only [List.cons.injEq, and_true] at e; rw [fas_inj e]) x h
theorem one_sound : (Con.pure cOne).Sound P 70 := con_sound fun x h => sem_runs mix T590_sound Tryz.func70 a70_ok (runs_one x h)
structure RbOK (s a : List Fct) (q : Req) : Prop where
  ks : s.length ≤ 12
  ka : a.length ≤ 12
  n0 : 0 ≤ q.n
  n1 : q.n ≤ 1000000
  m0 : 0 ≤ q.m
  m1 : q.m ≤ 1000000
  kd : ∀ f ∈ s, f.docs.l.length ≤ 1000
  kh : (docsS s ((agreeS s a).take q.n.toNat)).length ≤ 12
theorem runs_rebuilt (x y : Sl Fct) (q : Req) (ok : RbOK x.l y.l q) : Runs T590 a72 [x.dv 71 faC, y.dv 71 faC, .agg (rqC q)] (.agg (suC (rebuiltS x.l y.l q))) := by
  refine ⟨?_⟩
  obtain ⟨k1, k2, k3, k4, k5, k6, k7, k8⟩ := ok
  have c1 := cReb_eq k1 k2
  have hal := agree_len x.l y.l
  have hag : (againstS y.l).length ≤ 12 := by
    have h1 := own_len (y.l.filter fun f => !f.agr)
    have h2 := List.length_filter_le (fun f : Fct => !f.agr) y.l
    unfold againstS; omega
  have hgl := agD_l (s := x.l) (a := y.l) (by omega)
  obtain ⟨m, hm⟩ : ∃ m, (agreeS x.l y.l).length = m := ⟨_, rfl⟩
  obtain ⟨w, hw⟩ : ∃ w, (againstS y.l).length = w := ⟨_, rfl⟩
  rw [hm] at hal
  rw [hw] at hag
  have hln : ∀ H, lenD H ((agD x.l y.l).dv 1 stC) = some (.int .i64 m) := fun H => by rw [lenD_dv, hgl, hm]
  have w1 : IntKind.i64.wrap (q.n - (m : Int)) = q.n - m := by rw [IntKind.wrap_i64]; omega
  have w2 : IntKind.i64.wrap ((w : Int) - q.m) = w - q.m := by rw [IntKind.wrap_i64]; omega
  obtain ⟨Z, hZ⟩ : ∃ Z, rebMiss x.l y.l q = Z := ⟨_, rfl⟩
  have hZ' := hZ
  unfold rebMiss at hZ'
  rw [hm, hw] at hZ'
  have w3 : IntKind.i64.wrap (max (q.n - (m : Int)) 0 + max ((w : Int) - q.m) 0) = Z := by rw [hZ', IntKind.wrap_i64]; omega
  unfold rebD at c1
  rw [hw] at c1
  by_cases h : 0 < Z
  · have hs : rebuiltS x.l y.l q = lackS Z := by unfold rebuiltS; rw [hZ, if_pos h]
    simp (disch := first | omega | (simp [-List.map_take, -List.map_drop, -List.map_set, -List.map_append, -List.drop_one] <;> omega) | fail) [-List.map_take, -List.map_drop, -List.map_set, -List.map_append, -List.drop_one, a72, T590_r, T590_l, c1, hln, w1, w2, w3, h, cLack_eq, hs]
  · have hs : rebuiltS x.l y.l q = heldS (ownN (docsS x.l ((agreeS x.l y.l).take q.n.toNat))) := by unfold rebuiltS; rw [hZ, if_neg h]
    obtain ⟨k, hk⟩ : ∃ k : Nat, q.n = k := ⟨q.n.toNat, by omega⟩
    have hkm : k ≤ m := by omega
    have hsl : ∀ H, slcSD H 1 ((agD x.l y.l).dv 1 stC) none (some (.int .i64 k)) none = some (((agD x.l y.l).part 0 k (k == (agD x.l y.l).l.length)).dv 1 stC) := fun H => slcSD_dv len_stC (by simp [boundsD, iD, hgl, hm]; omega) (by rw [hgl, hm]; exact hkm)
    obtain ⟨Y, hY⟩ : ∃ Y, (agD x.l y.l).part 0 k (k == (agD x.l y.l).l.length) = Y := ⟨_, rfl⟩
    have hYl : Y.l = (agreeS x.l y.l).take k := by rw [← hY]; show ((agD x.l y.l).l.drop 0).take (k - 0) = _; rw [hgl]; rfl
    rw [hY] at hsl
    have hok : DocOK x Y := ⟨by rw [hYl, List.length_take]; omega, k7, fun n hn => (agree_mem.1 (List.mem_of_mem_take (hYl ▸ hn))).1⟩
    have c2 := cDoc_eq hok
    rw [hYl] at c2
    rw [hk, Int.toNat_natCast] at k8 hs
    have c3 := cHeld_eq (x := ownN (docsS x.l ((agreeS x.l y.l).take k))) (by rw [ownN_l (by omega)]; exact k8)
    rw [hk] at w1 w3
    simp (disch := first | omega | (simp [-List.map_take, -List.map_drop, -List.map_set, -List.map_append, -List.drop_one] <;> omega) | fail) [-List.map_take, -List.map_drop, -List.map_set, -List.map_append, -List.drop_one, a72, T590_r, T590_d, T590_h, c1, hln, hk, w1, w2, w3, h, hsl, c2, c3, hs]
noncomputable def cRbt : List DV → Option DV := con (fun a : Sl Fct × Sl Fct × Req => RbOK a.1.l a.2.1.l a.2.2) (fun a => [a.1.dv 71 faC, a.2.1.dv 71 faC, .agg (rqC a.2.2)]) (fun a => .agg (suC (rebuiltS a.1.l a.2.1.l a.2.2)))
theorem cRbt_eq {x y : Sl Fct} {q : Req} (h : RbOK x.l y.l q) : cRbt [x.dv 71 faC, y.dv 71 faC, .agg (rqC q)] = some (.agg (suC (rebuiltS x.l y.l q))) :=
  con_eq (f := fun a : Sl Fct × Sl Fct × Req => [a.1.dv 71 faC, a.2.1.dv 71 faC, .agg (rqC a.2.2)]) (g := fun a => .agg (suC (rebuiltS a.1.l a.2.1.l a.2.2))) (by
    rintro ⟨a, b, c⟩ ⟨a', b', c'⟩ e
    simp only [List.cons.injEq, DV.agg.injEq, and_true] at e
    rw [fas_inj e.1, fas_inj e.2.1, rqC_inj e.2.2]) (x, y, q) h
theorem rbt_sound : (Con.pure cRbt).Sound P 72 := con_sound fun a h => sem_runs mix T590_sound Tryz.func72 a72_ok (runs_rebuilt a.1 a.2.1 a.2.2 h)
end Go.Proofs.YtdnhbfmlklaldaaGreat
set_option linter.unusedSimpArgs false
set_option linter.unusedVariables false
namespace Go.Proofs.YtdnhbfmlklaldaaGreat
open Go Go.Am
theorem decS_snoc {l : List Fnd} {s : Int} {i : Nat} (h : i < l.length) : decS (l.take (i + 1)) s = decS (l.take i) s ++ (if s ≤ l[i].sev then l[i].dd.l else []) := by
  rw [List.take_succ_eq_append_getElem h, decS, List.filter_append, List.flatMap_append, ← decS]
  congr 1
  by_cases e : s ≤ l[i].sev <;> simp [e]
def fnd0 : Fnd := ⟨dg0, 0, [], 0, nilS, 0, nilS, false⟩
structure FN where
  i : Nat
  o : Fnd
def S600 (x : Sl Fnd) (s : Int) (a : FN) : St := a48S0 (.int .i64 s) (gV 32 (decS (x.l.take a.i) s)) (x.dv 39 fnC) (.int .i64 x.l.length) (.int .i64 a.i) (gH dgC (.cells (fnC a.o)) (decS (x.l.take a.i) s))
structure SmN (l : List Fnd) : Prop where
  n : l.length ≤ 1000
  d : ∀ f ∈ l, f.dd.l.length ≤ 1000
theorem decS_le {l : List Fnd} {s : Int} {i : Nat} (h : SmN l) : (decS (l.take i) s).length ≤ 1000000 := by
  refine dec_len (by rw [List.length_take]; have := h.n; omega) fun f hf => h.d f (List.mem_of_mem_take hf)
set_option maxRecDepth 20000 in
theorem runs_decisions (x : Sl Fnd) (s : Int) (ok : SmN x.l) : Runs tbl0 a48 [x.dv 39 fnC, .int .i64 s] ((ownN (decS x.l s)).dv 32 dgC) := by
  refine ⟨?_⟩
  have hb := x.b
  simp (disch := first | omega | (simp [-List.map_take, -List.map_drop, -List.map_set, -List.map_append, -List.drop_one] <;> omega) | fail) [-List.map_take, -List.map_drop, -List.map_set, -List.map_append, -List.drop_one, a48]
  refine W_loop (S600 x s) (fun a => x.l.length - a.i) (fun a => a.i ≤ x.l.length) ⟨0, fnd0⟩ (weak_same (by simp (disch := first | omega | (simp [-List.map_take, -List.map_drop, -List.map_set, -List.map_append, -List.drop_one] <;> omega) | fail) [-List.map_take, -List.map_drop, -List.map_set, -List.map_append, -List.drop_one, S600, a48S0, decS, gV]) (by simp (disch := first | omega | (simp [-List.map_take, -List.map_drop, -List.map_set, -List.map_append, -List.drop_one] <;> omega) | fail) [-List.map_take, -List.map_drop, -List.map_set, -List.map_append, -List.drop_one, S600, a48S0, decS, gH])) (by simp) (fun a hi => ?_)
  obtain ⟨i, o⟩ := a
  simp only at hi
  simp only [S600]
  have hlen := decS_le (s := s) (i := i) ok
  obtain ⟨L, hL⟩ : ∃ L, decS (x.l.take i) s = L := ⟨_, rfl⟩
  by_cases h : i < x.l.length
  · have h' : (i : Int) < x.l.length := by omega
    have hg : ∀ H, idxSD H 39 (x.dv 39 fnC) i = some (.ref (fnC x.l[i])) := fun H => idxSD_dv len_fnC h
    have hs := decS_snoc (s := s) h
    have hdd := ok.d x.l[i] (List.getElem_mem h)
    obtain ⟨F, hF⟩ : ∃ F, x.l[i] = F := ⟨_, rfl⟩
    rw [hF] at hg hs hdd
    rw [hL] at hs hlen ⊢
    have hv : ∀ H, visY H (F.dd.dv 32 dgC) = some (F.dd.l.length, F.dd.l.flatMap dgC) := fun H => visY_dv len_dgC
    by_cases hq : s ≤ F.sev
    case neg =>
      rw [if_neg hq, List.append_nil] at hs
      simp (disch := first | omega | (simp [-List.map_take, -List.map_drop, -List.map_set, -List.map_append, -List.drop_one] <;> omega) | fail) [-List.map_take, -List.map_drop, -List.map_set, -List.map_append, -List.drop_one, a48L0, a48S0, h, h', hg, hq]
      exact ⟨⟨i + 1, o⟩, weak_drop (tail := [.cells (fnC F)]) (by simp (disch := first | omega | (simp [-List.map_take, -List.map_drop, -List.map_set, -List.map_append, -List.drop_one] <;> omega) | fail) [-List.map_take, -List.map_drop, -List.map_set, -List.map_append, -List.drop_one, S600, a48S0, hs]) (by simp (disch := first | omega | (simp [-List.map_take, -List.map_drop, -List.map_set, -List.map_append, -List.drop_one] <;> omega) | fail) [-List.map_take, -List.map_drop, -List.map_set, -List.map_append, -List.drop_one, S600, a48S0, hs]) (Nat.zero_le _) (by simp (disch := first | omega | (simp [-List.map_take, -List.map_drop, -List.map_set, -List.map_append, -List.drop_one] <;> omega) | fail) [-List.map_take, -List.map_drop, -List.map_set, -List.map_append, -List.drop_one, S600, a48S0, hs, belowL, Am.below, below_gV]) (by simp only [S600, a48S0, hs]; exact belowH_g pure_dgC (pure_fnC _)), by simp only; omega, by simp only; omega⟩
    rw [if_pos hq] at hs
    by_cases e : L = []
    · subst e
      rw [List.nil_append] at hs
      by_cases e2 : F.dd.l = []
      · have hap := appX_nils0 (h := [AObj.cells (fnC F)]) (s := 32) (b := 32) (by decide) (by decide)
        have hv2 : ∀ H, visY H (F.dd.dv 32 dgC) = some (0, []) := fun H => by rw [hv, e2]; rfl
        rw [e2] at hs
        simp (disch := first | omega | (simp [-List.map_take, -List.map_drop, -List.map_set, -List.map_append, -List.drop_one] <;> omega) | fail) [-List.map_take, -List.map_drop, -List.map_set, -List.map_append, -List.drop_one, a48L0, a48S0, h, h', hg, hq, gV_nil, gH_nil, hv2, hap]
        exact ⟨⟨i + 1, o⟩, weak_drop (tail := [.cells (fnC F)]) (by simp (disch := first | omega | (simp [-List.map_take, -List.map_drop, -List.map_set, -List.map_append, -List.drop_one] <;> omega) | fail) [-List.map_take, -List.map_drop, -List.map_set, -List.map_append, -List.drop_one, S600, a48S0, hs, gV_nil]) (by simp (disch := first | omega | (simp [-List.map_take, -List.map_drop, -List.map_set, -List.map_append, -List.drop_one] <;> omega) | fail) [-List.map_take, -List.map_drop, -List.map_set, -List.map_append, -List.drop_one, S600, a48S0, hs, gH_nil]) (Nat.zero_le _) (by simp (disch := first | omega | (simp [-List.map_take, -List.map_drop, -List.map_set, -List.map_append, -List.drop_one] <;> omega) | fail) [-List.map_take, -List.map_drop, -List.map_set, -List.map_append, -List.drop_one, S600, a48S0, hs, gV_nil, belowL, Am.below]) (by simp (disch := first | omega | (simp [-List.map_take, -List.map_drop, -List.map_set, -List.map_append, -List.drop_one] <;> omega) | fail) [-List.map_take, -List.map_drop, -List.map_set, -List.map_append, -List.drop_one, S600, a48S0, hs, gH_nil, belowH]), by simp only; omega, by simp only; omega⟩
      · have hpos : 0 < F.dd.l.length := List.length_pos_iff.2 e2
        have hcl : (F.dd.l.flatMap dgC).length = F.dd.l.length * 32 := fm_len len_dgC _
        have hap := appX_nils (h := [AObj.cells (fnC F)]) (s := 32) (b := 32) (m := F.dd.l.length) (cs := F.dd.l.flatMap dgC) (by decide) (by decide) hcl.symm hpos (by omega)
        rw [hcl] at hap
        have e3 := gV_ne (K := 32) e2
        have e4 := gH_ne (f := dgC) (o := .cells (fnC F)) e2
        have e5 : fl dgC F.dd.l = F.dd.l.flatMap dgC := rfl
        simp only [List.length_cons, List.length_nil, Nat.zero_add] at hap
        simp (disch := first | omega | (simp [-List.map_take, -List.map_drop, -List.map_set, -List.map_append, -List.drop_one] <;> omega) | fail) [-List.map_take, -List.map_drop, -List.map_set, -List.map_append, -List.drop_one, a48L0, a48S0, h, h', hg, hq, gV_nil, gH_nil, hv, hap]
        exact ⟨⟨i + 1, F⟩, weak_same (by simp (disch := first | omega | (simp [-List.map_take, -List.map_drop, -List.map_set, -List.map_append, -List.drop_one] <;> omega) | fail) [-List.map_take, -List.map_drop, -List.map_set, -List.map_append, -List.drop_one, S600, a48S0, hs, e3]) (by simp (disch := first | omega | (simp [-List.map_take, -List.map_drop, -List.map_set, -List.map_append, -List.drop_one] <;> omega) | fail) [-List.map_take, -List.map_drop, -List.map_set, -List.map_append, -List.drop_one, S600, a48S0, hs, e4, e5]), by simp only; omega, by simp only; omega⟩
    · have hap := appX_fl (h := [AObj.cells (fnC o), .cells (fl dgC L), .cells (fnC F)]) (id := 1) (b := 32) (l := L) (m := F.dd.l.length) (cs := F.dd.l) len_dgC (by decide) (by decide) (fun _ => all_dgC) rfl (by omega) (by simp [objV, objAt, fl_len len_dgC])
      have e1 := gV_ne (K := 32) e
      have e2 := gH_ne (f := dgC) (o := .cells (fnC o)) e
      have e0 : L ++ F.dd.l ≠ [] := by simp [e]
      have e3 := gV_ne (K := 32) e0
      have e4 := gH_ne (f := dgC) (o := .cells (fnC o)) e0
      rw [List.length_append] at e3
      simp (disch := first | omega | (simp [-List.map_take, -List.map_drop, -List.map_set, -List.map_append, -List.drop_one] <;> omega) | fail) [-List.map_take, -List.map_drop, -List.map_set, -List.map_append, -List.drop_one, a48L0, a48S0, h, h', hg, hq, e1, e2, hv, hap]
      exact ⟨⟨i + 1, o⟩, weak_drop (tail := [.cells (fnC F)]) (by simp (disch := first | omega | (simp [-List.map_take, -List.map_drop, -List.map_set, -List.map_append, -List.drop_one] <;> omega) | fail) [-List.map_take, -List.map_drop, -List.map_set, -List.map_append, -List.drop_one, S600, a48S0, hs, e3]) (by simp (disch := first | omega | (simp [-List.map_take, -List.map_drop, -List.map_set, -List.map_append, -List.drop_one] <;> omega) | fail) [-List.map_take, -List.map_drop, -List.map_set, -List.map_append, -List.drop_one, S600, a48S0, hs, e4]) (Nat.zero_le _) (by simp (disch := first | omega | (simp [-List.map_take, -List.map_drop, -List.map_set, -List.map_append, -List.drop_one] <;> omega) | fail) [-List.map_take, -List.map_drop, -List.map_set, -List.map_append, -List.drop_one, S600, a48S0, hs, e3, e4, belowL, Am.below]) (by simp only [S600, a48S0, hs]; exact belowH_g pure_dgC (pure_fnC _)), by simp only; omega, by simp only; omega⟩
  · have h' : ¬ (i : Int) < x.l.length := by omega
    have ht : x.l.take i = x.l := List.take_of_length_le (by omega)
    rw [ht] at hlen ⊢
    have hsn := snap_g (f := dgC) (o := .cells (fnC o)) (l := decS x.l s) (X := []) len_dgC pure_dgC (by omega)
    rw [List.append_nil] at hsn
    simp (disch := first | omega | (simp [-List.map_take, -List.map_drop, -List.map_set, -List.map_append, -List.drop_one] <;> omega) | fail) [-List.map_take, -List.map_drop, -List.map_set, -List.map_append, -List.drop_one, a48L0, a48S0, h, h', hsn]
noncomputable def cFnI (A : List Fnd → Prop) (g : List Fnd → Int → DV) : List DV → Option DV := con (fun a : Sl Fnd × Int => A a.1.l) (fun a => [a.1.dv 39 fnC, .int .i64 a.2]) (fun a => g a.1.l a.2)
theorem cFnI_eq {A : List Fnd → Prop} {g : List Fnd → Int → DV} {x : Sl Fnd} {s : Int} (h : A x.l) : cFnI A g [x.dv 39 fnC, .int .i64 s] = some (g x.l s) :=
  con_eq (A := fun a : Sl Fnd × Int => A a.1.l) (f := fun a : Sl Fnd × Int => [a.1.dv 39 fnC, .int .i64 a.2]) (g := fun a => g a.1.l a.2) (by
    rintro ⟨a, b⟩ ⟨c, d⟩ e
    simp only [List.cons.injEq, DV.int.injEq, and_true, true_and] at e
    rw [fns_inj e.1, e.2]) (x, s) h
noncomputable def gDec (l : List Fnd) (s : Int) : DV := (ownN (decS l s)).dv 32 dgC
theorem dec_sound : (Con.pure (cFnI SmN gDec)).Sound P 48 := con_sound fun a h => sem_runs mix tbl0_sound Tryz.func48 a48_ok (runs_decisions a.1 a.2 h)
theorem cont_snoc {l : List Fnd} {i : Nat} (h : i < l.length) : contS (l.take (i + 1)) = contS (l.take i) + (if l[i].con then 1 else 0) := by
  rw [List.take_succ_eq_append_getElem h, contS, contS, List.filter_append, List.length_append]
  by_cases e : l[i].con = true <;> simp [e]
theorem cont_le {l : List Fnd} {i : Nat} : 0 ≤ contS (l.take i) ∧ contS (l.take i) ≤ i := by
  have := List.length_filter_le (fun f : Fnd => f.con) (l.take i)
  rw [List.length_take] at this
  unfold contS; omega
def S601 (x : Sl Fnd) (i : Nat) : St := a78S0 (.int .i64 (contS (x.l.take i))) (x.dv 39 fnC) (.int .i64 x.l.length) (.int .i64 i) []
set_option maxRecDepth 20000 in
theorem runs_contradicted (x : Sl Fnd) : Runs tbl0 a78 [x.dv 39 fnC] (.int .i64 (contS x.l)) := by
  refine ⟨?_⟩
  have hb := x.b
  simp (disch := first | omega | (simp [-List.map_take, -List.map_drop, -List.map_set, -List.map_append, -List.drop_one] <;> omega) | fail) [-List.map_take, -List.map_drop, -List.map_set, -List.map_append, -List.drop_one, a78]
  refine W_loop (S601 x) (fun i => x.l.length - i) (fun i => i ≤ x.l.length) 0 (weak_same (by simp (disch := first | omega | (simp [-List.map_take, -List.map_drop, -List.map_set, -List.map_append, -List.drop_one] <;> omega) | fail) [-List.map_take, -List.map_drop, -List.map_set, -List.map_append, -List.drop_one, S601, a78S0, contS]) (by simp (disch := first | omega | (simp [-List.map_take, -List.map_drop, -List.map_set, -List.map_append, -List.drop_one] <;> omega) | fail) [-List.map_take, -List.map_drop, -List.map_set, -List.map_append, -List.drop_one, S601, a78S0])) (by simp) (fun i hi => ?_)
  simp only [S601]
  have hc := cont_le (l := x.l) (i := i)
  by_cases h : i < x.l.length
  · have h' : (i : Int) < x.l.length := by omega
    have hg : ∀ H, idxSD H 39 (x.dv 39 fnC) i = some (.ref (fnC x.l[i])) := fun H => idxSD_dv len_fnC h
    have hs := cont_snoc h
    obtain ⟨F, hF⟩ : ∃ F, x.l[i] = F := ⟨_, rfl⟩
    rw [hF] at hg hs
    obtain ⟨C, hC⟩ : ∃ C, contS (x.l.take i) = C := ⟨_, rfl⟩
    rw [hC] at hs hc ⊢
    cases hq : F.con with
    | true =>
      rw [hq, if_pos rfl] at hs
      simp (disch := first | omega | (simp [-List.map_take, -List.map_drop, -List.map_set, -List.map_append, -List.drop_one] <;> omega) | fail) [-List.map_take, -List.map_drop, -List.map_set, -List.map_append, -List.drop_one, a78L0, a78S0, h, h', hg, hq]
      exact ⟨i + 1, weak_drop (tail := [.cells (fnC F)]) (by simp (disch := first | omega | (simp [-List.map_take, -List.map_drop, -List.map_set, -List.map_append, -List.drop_one] <;> omega) | fail) [-List.map_take, -List.map_drop, -List.map_set, -List.map_append, -List.drop_one, S601, a78S0, hs]) (by simp (disch := first | omega | (simp [-List.map_take, -List.map_drop, -List.map_set, -List.map_append, -List.drop_one] <;> omega) | fail) [-List.map_take, -List.map_drop, -List.map_set, -List.map_append, -List.drop_one, S601, a78S0]) (Nat.zero_le _) (by simp (disch := first | omega | (simp [-List.map_take, -List.map_drop, -List.map_set, -List.map_append, -List.drop_one] <;> omega) | fail) [-List.map_take, -List.map_drop, -List.map_set, -List.map_append, -List.drop_one, S601, a78S0, belowL, Am.below]) (by simp (disch := first | omega | (simp [-List.map_take, -List.map_drop, -List.map_set, -List.map_append, -List.drop_one] <;> omega) | fail) [-List.map_take, -List.map_drop, -List.map_set, -List.map_append, -List.drop_one, S601, a78S0, belowH]), by omega, by omega⟩
    | false =>
      rw [hq, if_neg (by simp), Int.add_zero] at hs
      simp (disch := first | omega | (simp [-List.map_take, -List.map_drop, -List.map_set, -List.map_append, -List.drop_one] <;> omega) | fail) [-List.map_take, -List.map_drop, -List.map_set, -List.map_append, -List.drop_one, a78L0, a78S0, h, h', hg, hq]
      exact ⟨i + 1, weak_drop (tail := [.cells (fnC F)]) (by simp (disch := first | omega | (simp [-List.map_take, -List.map_drop, -List.map_set, -List.map_append, -List.drop_one] <;> omega) | fail) [-List.map_take, -List.map_drop, -List.map_set, -List.map_append, -List.drop_one, S601, a78S0, hs]) (by simp (disch := first | omega | (simp [-List.map_take, -List.map_drop, -List.map_set, -List.map_append, -List.drop_one] <;> omega) | fail) [-List.map_take, -List.map_drop, -List.map_set, -List.map_append, -List.drop_one, S601, a78S0]) (Nat.zero_le _) (by simp (disch := first | omega | (simp [-List.map_take, -List.map_drop, -List.map_set, -List.map_append, -List.drop_one] <;> omega) | fail) [-List.map_take, -List.map_drop, -List.map_set, -List.map_append, -List.drop_one, S601, a78S0, belowL, Am.below]) (by simp (disch := first | omega | (simp [-List.map_take, -List.map_drop, -List.map_set, -List.map_append, -List.drop_one] <;> omega) | fail) [-List.map_take, -List.map_drop, -List.map_set, -List.map_append, -List.drop_one, S601, a78S0, belowH]), by omega, by omega⟩
  · have h' : ¬ (i : Int) < x.l.length := by omega
    have ht : x.l.take i = x.l := List.take_of_length_le (by omega)
    simp (disch := first | omega | (simp [-List.map_take, -List.map_drop, -List.map_set, -List.map_append, -List.drop_one] <;> omega) | fail) [-List.map_take, -List.map_drop, -List.map_set, -List.map_append, -List.drop_one, a78L0, a78S0, h, h', ht]
noncomputable def cCon : List DV → Option DV := con (fun _ => True) (fun x : Sl Fnd => [x.dv 39 fnC]) (fun x => .int .i64 (contS x.l))
theorem cCon_eq {x : Sl Fnd} : cCon [x.dv 39 fnC] = some (.int .i64 (contS x.l)) := con_inj (f := fun x : Sl Fnd => [x.dv 39 fnC]) (g := fun x => .int .i64 (contS x.l)) (fun a b e => by simp only [List.cons.injEq, and_true] at e; exact fns_inj e) x
theorem con_c_sound : (Con.pure cCon).Sound P 78 := con_sound fun x _ => sem_runs mix tbl0_sound Tryz.func78 a78_ok (runs_contradicted x)
theorem runs_open (f : Fnd) : Runs tbl0 a113 [.agg (fnC f)] (.bool (isOpen f)) := by
  refine ⟨?_⟩
  by_cases h : f.st = 3
  · simp (disch := first | omega | (simp [-List.map_take, -List.map_drop, -List.map_set, -List.map_append, -List.drop_one] <;> omega) | fail) [-List.map_take, -List.map_drop, -List.map_set, -List.map_append, -List.drop_one, a113, h, isOpen]
  · simp (disch := first | omega | (simp [-List.map_take, -List.map_drop, -List.map_set, -List.map_append, -List.drop_one] <;> omega) | fail) [-List.map_take, -List.map_drop, -List.map_set, -List.map_append, -List.drop_one, a113, h, isOpen]
noncomputable def cOpen : List DV → Option DV := con (fun _ => True) (fun f : Fnd => [.agg (fnC f)]) (fun f => .bool (isOpen f))
theorem cOpen_eq {f : Fnd} : cOpen [.agg (fnC f)] = some (.bool (isOpen f)) := con_inj (f := fun f : Fnd => [.agg (fnC f)]) (g := fun f => .bool (isOpen f)) (fun a b e => by simp only [List.cons.injEq, DV.agg.injEq, and_true] at e; exact fnC_inj e) f
noncomputable def cCD : List DV → Option DV := con (fun _ => True) (fun x : Sl Dg => [x.dv 32 dgC]) (fun x => x.clone.dv 32 dgC)
theorem cCD_eq {x : Sl Dg} : cCD [x.dv 32 dgC] = some (x.clone.dv 32 dgC) :=
  con_inj (f := fun x : Sl Dg => [x.dv 32 dgC]) (fun a b e => by simp only [List.cons.injEq, and_true] at e; exact dgs_inj e) x
theorem cloneDp_sound : (Con.pure cCD).Sound P 114 := con_sound fun x _ =>
  sem_of_calls ((calls_runs mix tbl0_sound Tryz.func114 a114_ok (runs_cloneD x)).mono fun d h' e => by
    obtain ⟨rfl, rfl⟩ := e
    by_cases h : x.l = []
    · rw [mutD_nil h]; exact snap_dv32
    · have hs := snap_mo (f := dgC) len_dgC pure_dgC (pre := []) (l := x.l) (m := x.l.length)
      rw [List.take_length] at hs
      rw [mutD_ne h, mo_ne h]
      refine hs.trans ?_
      simp [Sl.clone, Sl.dv, slD, h])
noncomputable def T601 : Tbl := addT 113 (.pure cOpen) (addT 114 (.pure cCD) tbl0)
theorem T601_o : T601 113 = .pure cOpen := by simp [T601]
theorem T601_c : T601 114 = .pure cCD := by simp [T601]
theorem T601_sound : T601.Sound P := addT_sound (con_sound fun f _ => sem_runs mix tbl0_sound Tryz.func113 a113_ok (runs_open f)) (addT_sound cloneDp_sound tbl0_sound)
def Fnd.cl (f : Fnd) : Fnd := { f with hd := f.hd.clone, dd := f.dd.clone }
def opL (l : List Fnd) (s : Int) : List Fnd := (openL l s).map Fnd.cl
theorem opL_snoc {l : List Fnd} {s : Int} {i : Nat} (h : i < l.length) : opL (l.take (i + 1)) s = opL (l.take i) s ++ (if isOpen l[i] && decide (s ≤ l[i].sev) then [l[i].cl] else []) := by
  rw [List.take_succ_eq_append_getElem h, opL, openL, List.filter_append, List.map_append, ← openL, ← opL]
  congr 1
  by_cases e : (isOpen l[i] && decide (s ≤ l[i].sev)) = true <;> simp [e]
def S602 (x : Sl Fnd) (s : Int) (a : FN) : St := a75S0 (.int .i64 s) (gV 39 (opL (x.l.take a.i) s)) (x.dv 39 fnC) (.int .i64 x.l.length) (.int .i64 a.i) (gH fnC (.cells (fnC a.o)) (opL (x.l.take a.i) s))
theorem fn_sp1 {f : Fnd} {y : Sl Dg} : splice (fnC f) 35 [y.dv 32 dgC] = fnC { f with hd := y } := by
  unfold splice
  rw [show (fnC f).take 35 = dgC f.inv ++ [.int .i64 f.comp, .str f.id, .int .i64 f.sev] from ?_, show (fnC f).drop (35 + [y.dv 32 dgC].length) = [.int .i64 f.st, f.dd.dv 32 dgC, .bool f.con] from ?_]
  · simp [fnC]
  · show (fnC f).drop 36 = _
    rw [show (36 : Nat) = 32 + 4 from rfl, ← List.drop_drop, fn_32]; rfl
  · rw [fnC, List.take_append, List.take_of_length_le (by rw [len_dgC]; decide), len_dgC]; rfl
theorem fn_sp2 {f : Fnd} {y : Sl Dg} : splice (fnC f) 37 [y.dv 32 dgC] = fnC { f with dd := y } := by
  unfold splice
  rw [show (fnC f).take 37 = dgC f.inv ++ [.int .i64 f.comp, .str f.id, .int .i64 f.sev, f.hd.dv 32 dgC, .int .i64 f.st] from ?_, show (fnC f).drop (37 + [y.dv 32 dgC].length) = [.bool f.con] from ?_]
  · simp [fnC]
  · show (fnC f).drop 38 = _
    rw [show (38 : Nat) = 32 + 6 from rfl, ← List.drop_drop, fn_32]; rfl
  · rw [fnC, List.take_append, List.take_of_length_le (by rw [len_dgC]; decide), len_dgC]; rfl
theorem storeO_one {h : List AObj} {id off : Nat} {v : DV} {l : List DV} (hc : v.cells = [v]) (ho : v.one = true) (hl : off < l.length) : storeO h id 1 off v (some l) = some (.junk, h.set id (.cells (splice l off [v]))) := by
  simp only [storeO, hc, List.length_cons, List.length_nil, List.all_cons, List.all_nil, ho, Bool.and_self]
  first | done | rw [if_pos ⟨trivial, by omega, trivial⟩]
theorem st_hd {h : List AObj} {id : Nat} {f : Fnd} {y : Sl Dg} : storeO h id 1 35 (y.dv 32 dgC) (some (fnC f)) = some (.junk, h.set id (.cells (fnC { f with hd := y }))) := by
  rw [storeO_one (dv_cells y) (dv_one y) (by rw [len_fnC]; decide), fn_sp1]
theorem st_dd {h : List AObj} {id : Nat} {f : Fnd} {y : Sl Dg} : storeO h id 1 37 (y.dv 32 dgC) (some (fnC f)) = some (.junk, h.set id (.cells (fnC { f with dd := y }))) := by
  rw [storeO_one (dv_cells y) (dv_one y) (by rw [len_fnC]; decide), fn_sp2]
set_option maxRecDepth 20000 in
theorem runs_Open (x : Sl Fnd) (s : Int) (hn : x.l.length ≤ 1000000) : Runs T601 a75 [x.dv 39 fnC, .int .i64 s] ((ownN (opL x.l s)).dv 39 fnC) := by
  refine ⟨?_⟩
  have hb := x.b
  simp (disch := first | omega | (simp [-List.map_take, -List.map_drop, -List.map_set, -List.map_append, -List.drop_one] <;> omega) | fail) [-List.map_take, -List.map_drop, -List.map_set, -List.map_append, -List.drop_one, a75]
  refine W_loop (S602 x s) (fun a => x.l.length - a.i) (fun a => a.i ≤ x.l.length) ⟨0, fnd0⟩ (weak_same (by simp (disch := first | omega | (simp [-List.map_take, -List.map_drop, -List.map_set, -List.map_append, -List.drop_one] <;> omega) | fail) [-List.map_take, -List.map_drop, -List.map_set, -List.map_append, -List.drop_one, S602, a75S0, opL, openL, gV]) (by simp (disch := first | omega | (simp [-List.map_take, -List.map_drop, -List.map_set, -List.map_append, -List.drop_one] <;> omega) | fail) [-List.map_take, -List.map_drop, -List.map_set, -List.map_append, -List.drop_one, S602, a75S0, opL, openL, gH])) (by simp) (fun a hi => ?_)
  obtain ⟨i, o⟩ := a
  simp only at hi
  simp only [S602]
  have hlen : (opL (x.l.take i) s).length ≤ i := by
    have := List.length_filter_le (fun f => isOpen f && decide (s ≤ f.sev)) (x.l.take i)
    rw [List.length_take] at this
    unfold opL openL; rw [List.length_map]; omega
  obtain ⟨L, hL⟩ : ∃ L, opL (x.l.take i) s = L := ⟨_, rfl⟩
  by_cases h : i < x.l.length
  · have h' : (i : Int) < x.l.length := by omega
    have hg : ∀ H, idxSD H 39 (x.dv 39 fnC) i = some (.ref (fnC x.l[i])) := fun H => idxSD_dv len_fnC h
    have hs := opL_snoc (s := s) h
    obtain ⟨F, hF⟩ : ∃ F, x.l[i] = F := ⟨_, rfl⟩
    rw [hF] at hg hs
    rw [hL] at hs hlen ⊢
    by_cases hq : (isOpen F && decide (s ≤ F.sev)) = true
    case neg =>
      rw [if_neg hq, List.append_nil] at hs
      cases ho : isOpen F with
      | false =>
        simp (disch := first | omega | (simp [-List.map_take, -List.map_drop, -List.map_set, -List.map_append, -List.drop_one] <;> omega) | fail) [-List.map_take, -List.map_drop, -List.map_set, -List.map_append, -List.drop_one, a75L0, a75S0, h, h', hg, T601_o, cOpen_eq, ho]
        exact ⟨⟨i + 1, o⟩, weak_drop (tail := [.cells (fnC F)]) (by simp (disch := first | omega | (simp [-List.map_take, -List.map_drop, -List.map_set, -List.map_append, -List.drop_one] <;> omega) | fail) [-List.map_take, -List.map_drop, -List.map_set, -List.map_append, -List.drop_one, S602, a75S0, hs]) (by simp (disch := first | omega | (simp [-List.map_take, -List.map_drop, -List.map_set, -List.map_append, -List.drop_one] <;> omega) | fail) [-List.map_take, -List.map_drop, -List.map_set, -List.map_append, -List.drop_one, S602, a75S0, hs]) (Nat.zero_le _) (by simp (disch := first | omega | (simp [-List.map_take, -List.map_drop, -List.map_set, -List.map_append, -List.drop_one] <;> omega) | fail) [-List.map_take, -List.map_drop, -List.map_set, -List.map_append, -List.drop_one, S602, a75S0, hs, belowL, Am.below, below_gV]) (by simp only [S602, a75S0, hs]; exact belowH_g pure_fnC (pure_fnC _)), by simp only; omega, by simp only; omega⟩
      | true =>
        have hq2 : ¬ s ≤ F.sev := fun q => hq (by simp [ho, q])
        simp (disch := first | omega | (simp [-List.map_take, -List.map_drop, -List.map_set, -List.map_append, -List.drop_one] <;> omega) | fail) [-List.map_take, -List.map_drop, -List.map_set, -List.map_append, -List.drop_one, a75L0, a75S0, h, h', hg, T601_o, cOpen_eq, ho, hq2]
        exact ⟨⟨i + 1, o⟩, weak_drop (tail := [.cells (fnC F)]) (by simp (disch := first | omega | (simp [-List.map_take, -List.map_drop, -List.map_set, -List.map_append, -List.drop_one] <;> omega) | fail) [-List.map_take, -List.map_drop, -List.map_set, -List.map_append, -List.drop_one, S602, a75S0, hs]) (by simp (disch := first | omega | (simp [-List.map_take, -List.map_drop, -List.map_set, -List.map_append, -List.drop_one] <;> omega) | fail) [-List.map_take, -List.map_drop, -List.map_set, -List.map_append, -List.drop_one, S602, a75S0, hs]) (Nat.zero_le _) (by simp (disch := first | omega | (simp [-List.map_take, -List.map_drop, -List.map_set, -List.map_append, -List.drop_one] <;> omega) | fail) [-List.map_take, -List.map_drop, -List.map_set, -List.map_append, -List.drop_one, S602, a75S0, hs, belowL, Am.below, below_gV]) (by simp only [S602, a75S0, hs]; exact belowH_g pure_fnC (pure_fnC _)), by simp only; omega, by simp only; omega⟩
    rw [if_pos hq] at hs
    rw [Bool.and_eq_true, decide_eq_true_eq] at hq
    obtain ⟨ho, hq⟩ := hq
    have hcl : fnC { F with hd := F.hd.clone, dd := F.dd.clone } = fnC F.cl := rfl
    obtain ⟨G, hG⟩ : ∃ G, F.cl = G := ⟨_, rfl⟩
    rw [hG] at hs hcl
    by_cases e : L = []
    · subst e
      rw [List.nil_append] at hs
      have hap := appX_nils (h := [AObj.cells (fnC G)]) (s := 39) (b := 128) (m := 1) (cs := fnC G) (by decide) (by decide) (by rw [len_fnC]) (by decide) (by decide)
      simp only [len_fnC, List.length_cons, List.length_nil] at hap
      simp (disch := first | omega | (simp [-List.map_take, -List.map_drop, -List.map_set, -List.map_append, -List.drop_one] <;> omega) | fail) [-List.map_take, -List.map_drop, -List.map_set, -List.map_append, -List.drop_one, a75L0, a75S0, h, h', hg, T601_o, T601_c, cOpen_eq, cCD_eq, ho, hq, gV_nil, gH_nil, st_hd, st_dd, hcl, hap]
      have e1 : gV 39 [G] = .ms 1 39 0 39 1 39 := rfl
      have e2 : gH fnC (.cells (fnC G)) [G] = [.cells (fnC G), .cells (fnC G)] := by rw [gH_ne (by simp), fl_one]
      exact ⟨⟨i + 1, G⟩, weak_same (by simp (disch := first | omega | (simp [-List.map_take, -List.map_drop, -List.map_set, -List.map_append, -List.drop_one] <;> omega) | fail) [-List.map_take, -List.map_drop, -List.map_set, -List.map_append, -List.drop_one, S602, a75S0, hs, e1]) (by simp (disch := first | omega | (simp [-List.map_take, -List.map_drop, -List.map_set, -List.map_append, -List.drop_one] <;> omega) | fail) [-List.map_take, -List.map_drop, -List.map_set, -List.map_append, -List.drop_one, S602, a75S0, hs, e2]), by simp only; omega, by simp only; omega⟩
    · have hap := appX_fl1 (h := [AObj.cells (fnC o), .cells (fl fnC L), .cells (fnC G)]) (id := 1) (b := 128) (l := L) (x := G) len_fnC (by decide) (by decide) (fun _ => all_fnC) (by omega) (by simp [objV, objAt, fl_len len_fnC])
      have q1 := gV_ne (K := 39) e
      have q2 := gH_ne (f := fnC) (o := .cells (fnC o)) e
      simp (disch := first | omega | (simp [-List.map_take, -List.map_drop, -List.map_set, -List.map_append, -List.drop_one] <;> omega) | fail) [-List.map_take, -List.map_drop, -List.map_set, -List.map_append, -List.drop_one, a75L0, a75S0, h, h', hg, T601_o, T601_c, cOpen_eq, cCD_eq, ho, hq, q1, q2, st_hd, st_dd, hcl, hap]
      have e1 := gV_snoc (K := 39) (l := L) (x := G)
      have e2 := gH_snoc (f := fnC) (o := .cells (fnC o)) (l := L) (x := G)
      exact ⟨⟨i + 1, o⟩, weak_drop (tail := [.cells (fnC G)]) (by simp (disch := first | omega | (simp [-List.map_take, -List.map_drop, -List.map_set, -List.map_append, -List.drop_one] <;> omega) | fail) [-List.map_take, -List.map_drop, -List.map_set, -List.map_append, -List.drop_one, S602, a75S0, hs, e1]) (by simp (disch := first | omega | (simp [-List.map_take, -List.map_drop, -List.map_set, -List.map_append, -List.drop_one] <;> omega) | fail) [-List.map_take, -List.map_drop, -List.map_set, -List.map_append, -List.drop_one, S602, a75S0, hs, e2]) (Nat.zero_le _) (by simp (disch := first | omega | (simp [-List.map_take, -List.map_drop, -List.map_set, -List.map_append, -List.drop_one] <;> omega) | fail) [-List.map_take, -List.map_drop, -List.map_set, -List.map_append, -List.drop_one, S602, a75S0, hs, belowL, Am.below, e1, e2]) (by simp only [S602, a75S0, hs]; exact belowH_g pure_fnC (pure_fnC _)), by simp only; omega, by simp only; omega⟩
  · have h' : ¬ (i : Int) < x.l.length := by omega
    have ht : x.l.take i = x.l := List.take_of_length_le (by omega)
    rw [ht] at hlen ⊢
    have hsn := snap_g (f := fnC) (o := .cells (fnC o)) (l := opL x.l s) (X := []) len_fnC pure_fnC (by omega)
    rw [List.append_nil] at hsn
    simp (disch := first | omega | (simp [-List.map_take, -List.map_drop, -List.map_set, -List.map_append, -List.drop_one] <;> omega) | fail) [-List.map_take, -List.map_drop, -List.map_set, -List.map_append, -List.drop_one, a75L0, a75S0, h, h', hsn]
noncomputable def gOpn (l : List Fnd) (s : Int) : DV := (ownN (opL l s)).dv 39 fnC
theorem opn_sound : (Con.pure (cFnI (fun l => l.length ≤ 1000000) gOpn)).Sound P 75 := con_sound fun a h => sem_runs mix T601_sound Tryz.func75 a75_ok (runs_Open a.1 a.2 h)
end Go.Proofs.YtdnhbfmlklaldaaGreat
set_option linter.unusedSimpArgs false
set_option linter.unusedVariables false
namespace Go.Proofs.YtdnhbfmlklaldaaGreat
open Go Go.Am
theorem nameB_iff {s : Str} : nameB s = true ↔ 1 ≤ s.length ∧ s.length ≤ 64 ∧ ∀ j (h : j < s.length), nameChar (decide (j = 0)) s[j] = true := by
  unfold nameB
  cases s with
  | nil => simp
  | cons b r =>
    simp only [Bool.and_eq_true, decide_eq_true_eq, List.all_eq_true, and_assoc]
    refine and_congr_right fun _ => and_congr_right fun _ => ⟨fun ⟨h1, h2⟩ j hj => ?_, fun h => ⟨h 0 (by simp), fun x hx => ?_⟩⟩
    · cases j with
      | zero => simpa using h1
      | succ j => simpa using h2 _ (List.getElem_mem (by simpa using hj))
    · obtain ⟨j, hj, e⟩ := List.getElem_of_mem hx
      have := h (j + 1) (by simpa using hj)
      simpa [e] using this
def S610 (s : Str) (i : Nat) : St := a139S0 (.str s) (.int .i64 i) []
theorem runs_name (s : Str) : Runs tbl0 a139 [.str s] (.bool (nameB s)) := by
  refine ⟨?_⟩
  by_cases h1 : s.length < 1
  · have h1' : (s.length : Int) < 1 := by omega
    have hr : nameB s = false := by
      cases h : nameB s with
      | false => rfl
      | true => have := nameB_iff.1 h; omega
    simp (disch := first | omega | (simp [-List.map_take, -List.map_drop, -List.map_set, -List.map_append, -List.drop_one] <;> omega) | fail) [-List.map_take, -List.map_drop, -List.map_set, -List.map_append, -List.drop_one, a139, h1, h1', hr]
  by_cases h2 : 64 < s.length
  · have h1' : ¬ (s.length : Int) < 1 := by omega
    have h2' : (64 : Int) < s.length := by omega
    have hr : nameB s = false := by
      cases h : nameB s with
      | false => rfl
      | true => have := nameB_iff.1 h; omega
    simp (disch := first | omega | (simp [-List.map_take, -List.map_drop, -List.map_set, -List.map_append, -List.drop_one] <;> omega) | fail) [-List.map_take, -List.map_drop, -List.map_set, -List.map_append, -List.drop_one, a139, h1, h1', h2, h2', hr]
  have h1' : ¬ (s.length : Int) < 1 := by omega
  have h2' : ¬ (64 : Int) < s.length := by omega
  simp (disch := first | omega | (simp [-List.map_take, -List.map_drop, -List.map_set, -List.map_append, -List.drop_one] <;> omega) | fail) [-List.map_take, -List.map_drop, -List.map_set, -List.map_append, -List.drop_one, a139, h1, h1', h2, h2']
  refine W_loop (S610 s) (fun i => s.length - i) (fun i => i ≤ s.length ∧ ∀ j (h : j < s.length), j < i → nameChar (decide (j = 0)) s[j] = true) 0 (weak_same (by simp (disch := first | omega | (simp [-List.map_take, -List.map_drop, -List.map_set, -List.map_append, -List.drop_one] <;> omega) | fail) [-List.map_take, -List.map_drop, -List.map_set, -List.map_append, -List.drop_one, S610, a139S0]) (by simp (disch := first | omega | (simp [-List.map_take, -List.map_drop, -List.map_set, -List.map_append, -List.drop_one] <;> omega) | fail) [-List.map_take, -List.map_drop, -List.map_set, -List.map_append, -List.drop_one, S610, a139S0])) ⟨by omega, fun j _ h => by omega⟩ (fun i hi => ?_)
  obtain ⟨k1, k2⟩ := hi
  simp only [S610]
  by_cases h : i < s.length
  case neg =>
    have h' : ¬ (i : Int) < s.length := by omega
    have hr : nameB s = true := nameB_iff.2 ⟨by omega, by omega, fun j hj => k2 j hj (by omega)⟩
    simp (disch := first | omega | (simp [-List.map_take, -List.map_drop, -List.map_set, -List.map_append, -List.drop_one] <;> omega) | fail) [-List.map_take, -List.map_drop, -List.map_set, -List.map_append, -List.drop_one, a139L0, a139S0, h, h', hr]
  have h' : (i : Int) < s.length := by omega
  obtain ⟨c, hc⟩ : ∃ c, s[i].toBitVec = c := ⟨_, rfl⟩
  have hn : nameChar (decide (i = 0)) s[i] = (((decide (97#8 ≤ c) && decide (c ≤ 122#8)) || (decide (48#8 ≤ c) && decide (c ≤ 57#8))) || (!decide (i = 0) && (decide (c = 46#8) || decide (c = 95#8) || decide (c = 45#8)))) := by unfold nameChar; rw [hc]
  have acc : nameChar (decide (i = 0)) s[i] = true → ∀ j (h : j < s.length), j < i + 1 → nameChar (decide (j = 0)) s[j] = true := fun e j hj hlt => by
    by_cases q : j = i
    · subst q; exact e
    · exact k2 j hj (by omega)
  have rej : nameChar (decide (i = 0)) s[i] = false → nameB s = false := fun e => by
    cases q : nameB s with
    | false => rfl
    | true => have := (nameB_iff.1 q).2.2 i h; rw [e] at this; cases this
  by_cases a1 : 97#8 ≤ c
  case neg =>
    by_cases a3 : 48#8 ≤ c
    case neg =>
      by_cases z : i = 0
      case pos =>
        subst z
        have hne : ¬ s = [] := fun q => by rw [q] at h; simp at h
        have e := rej (by rw [hn]; simp [a1, a3, hne])
        simp (disch := first | omega | (simp [-List.map_take, -List.map_drop, -List.map_set, -List.map_append, -List.drop_one] <;> omega) | fail) [-List.map_take, -List.map_drop, -List.map_set, -List.map_append, -List.drop_one, a139L0, a139S0, h, h', hc, e, a1, a3, hne]
      have zi : (0 : Int) < i := by omega
      have zn : 0 < i := by omega
      by_cases b46 : c = 46#8
      case pos =>
        have d46 : (c == 46#8) = true := by simp [b46]
        have e := acc (by rw [hn]; simp [a1, a3, z, zi, zn, b46])
        simp (disch := first | omega | (simp [-List.map_take, -List.map_drop, -List.map_set, -List.map_append, -List.drop_one] <;> omega) | fail) [-List.map_take, -List.map_drop, -List.map_set, -List.map_append, -List.drop_one, a139L0, a139S0, h, h', hc, a1, a3, z, zi, zn, b46]
        exact ⟨i + 1, weak_same (by simp (disch := first | omega | (simp [-List.map_take, -List.map_drop, -List.map_set, -List.map_append, -List.drop_one] <;> omega) | fail) [-List.map_take, -List.map_drop, -List.map_set, -List.map_append, -List.drop_one, S610, a139S0]) (by simp (disch := first | omega | (simp [-List.map_take, -List.map_drop, -List.map_set, -List.map_append, -List.drop_one] <;> omega) | fail) [-List.map_take, -List.map_drop, -List.map_set, -List.map_append, -List.drop_one, S610, a139S0]), by omega, ⟨by omega, e⟩⟩
      have d46 : (c == 46#8) = false := by simp [b46]
      by_cases b95 : c = 95#8
      case pos =>
        have d95 : (c == 95#8) = true := by simp [b95]
        have e := acc (by rw [hn]; simp [a1, a3, z, zi, zn, b46, d46, b95])
        simp (disch := first | omega | (simp [-List.map_take, -List.map_drop, -List.map_set, -List.map_append, -List.drop_one] <;> omega) | fail) [-List.map_take, -List.map_drop, -List.map_set, -List.map_append, -List.drop_one, a139L0, a139S0, h, h', hc, a1, a3, z, zi, zn, b46, d46, b95]
        exact ⟨i + 1, weak_same (by simp (disch := first | omega | (simp [-List.map_take, -List.map_drop, -List.map_set, -List.map_append, -List.drop_one] <;> omega) | fail) [-List.map_take, -List.map_drop, -List.map_set, -List.map_append, -List.drop_one, S610, a139S0]) (by simp (disch := first | omega | (simp [-List.map_take, -List.map_drop, -List.map_set, -List.map_append, -List.drop_one] <;> omega) | fail) [-List.map_take, -List.map_drop, -List.map_set, -List.map_append, -List.drop_one, S610, a139S0]), by omega, ⟨by omega, e⟩⟩
      have d95 : (c == 95#8) = false := by simp [b95]
      by_cases b45 : c = 45#8
      case pos =>
        have d45 : (c == 45#8) = true := by simp [b45]
        have e := acc (by rw [hn]; simp [a1, a3, z, zi, zn, b46, d46, b95, d95, b45])
        simp (disch := first | omega | (simp [-List.map_take, -List.map_drop, -List.map_set, -List.map_append, -List.drop_one] <;> omega) | fail) [-List.map_take, -List.map_drop, -List.map_set, -List.map_append, -List.drop_one, a139L0, a139S0, h, h', hc, a1, a3, z, zi, zn, b46, d46, b95, d95, b45]
        exact ⟨i + 1, weak_same (by simp (disch := first | omega | (simp [-List.map_take, -List.map_drop, -List.map_set, -List.map_append, -List.drop_one] <;> omega) | fail) [-List.map_take, -List.map_drop, -List.map_set, -List.map_append, -List.drop_one, S610, a139S0]) (by simp (disch := first | omega | (simp [-List.map_take, -List.map_drop, -List.map_set, -List.map_append, -List.drop_one] <;> omega) | fail) [-List.map_take, -List.map_drop, -List.map_set, -List.map_append, -List.drop_one, S610, a139S0]), by omega, ⟨by omega, e⟩⟩
      have d45 : (c == 45#8) = false := by simp [b45]
      have e := rej (by rw [hn]; simp [a1, a3, z, zi, zn, b46, d46, b95, d95, b45, d45])
      simp (disch := first | omega | (simp [-List.map_take, -List.map_drop, -List.map_set, -List.map_append, -List.drop_one] <;> omega) | fail) [-List.map_take, -List.map_drop, -List.map_set, -List.map_append, -List.drop_one, a139L0, a139S0, h, h', hc, e, a1, a3, z, zi, zn, b46, d46, b95, d95, b45, d45]
    by_cases a4 : c ≤ 57#8
    case neg =>
      by_cases z : i = 0
      case pos =>
        subst z
        have hne : ¬ s = [] := fun q => by rw [q] at h; simp at h
        have e := rej (by rw [hn]; simp [a1, a3, a4, hne])
        simp (disch := first | omega | (simp [-List.map_take, -List.map_drop, -List.map_set, -List.map_append, -List.drop_one] <;> omega) | fail) [-List.map_take, -List.map_drop, -List.map_set, -List.map_append, -List.drop_one, a139L0, a139S0, h, h', hc, e, a1, a3, a4, hne]
      have zi : (0 : Int) < i := by omega
      have zn : 0 < i := by omega
      by_cases b46 : c = 46#8
      case pos =>
        have d46 : (c == 46#8) = true := by simp [b46]
        have e := acc (by rw [hn]; simp [a1, a3, a4, z, zi, zn, b46])
        simp (disch := first | omega | (simp [-List.map_take, -List.map_drop, -List.map_set, -List.map_append, -List.drop_one] <;> omega) | fail) [-List.map_take, -List.map_drop, -List.map_set, -List.map_append, -List.drop_one, a139L0, a139S0, h, h', hc, a1, a3, a4, z, zi, zn, b46]
        exact ⟨i + 1, weak_same (by simp (disch := first | omega | (simp [-List.map_take, -List.map_drop, -List.map_set, -List.map_append, -List.drop_one] <;> omega) | fail) [-List.map_take, -List.map_drop, -List.map_set, -List.map_append, -List.drop_one, S610, a139S0]) (by simp (disch := first | omega | (simp [-List.map_take, -List.map_drop, -List.map_set, -List.map_append, -List.drop_one] <;> omega) | fail) [-List.map_take, -List.map_drop, -List.map_set, -List.map_append, -List.drop_one, S610, a139S0]), by omega, ⟨by omega, e⟩⟩
      have d46 : (c == 46#8) = false := by simp [b46]
      by_cases b95 : c = 95#8
      case pos =>
        have d95 : (c == 95#8) = true := by simp [b95]
        have e := acc (by rw [hn]; simp [a1, a3, a4, z, zi, zn, b46, d46, b95])
        simp (disch := first | omega | (simp [-List.map_take, -List.map_drop, -List.map_set, -List.map_append, -List.drop_one] <;> omega) | fail) [-List.map_take, -List.map_drop, -List.map_set, -List.map_append, -List.drop_one, a139L0, a139S0, h, h', hc, a1, a3, a4, z, zi, zn, b46, d46, b95]
        exact ⟨i + 1, weak_same (by simp (disch := first | omega | (simp [-List.map_take, -List.map_drop, -List.map_set, -List.map_append, -List.drop_one] <;> omega) | fail) [-List.map_take, -List.map_drop, -List.map_set, -List.map_append, -List.drop_one, S610, a139S0]) (by simp (disch := first | omega | (simp [-List.map_take, -List.map_drop, -List.map_set, -List.map_append, -List.drop_one] <;> omega) | fail) [-List.map_take, -List.map_drop, -List.map_set, -List.map_append, -List.drop_one, S610, a139S0]), by omega, ⟨by omega, e⟩⟩
      have d95 : (c == 95#8) = false := by simp [b95]
      by_cases b45 : c = 45#8
      case pos =>
        have d45 : (c == 45#8) = true := by simp [b45]
        have e := acc (by rw [hn]; simp [a1, a3, a4, z, zi, zn, b46, d46, b95, d95, b45])
        simp (disch := first | omega | (simp [-List.map_take, -List.map_drop, -List.map_set, -List.map_append, -List.drop_one] <;> omega) | fail) [-List.map_take, -List.map_drop, -List.map_set, -List.map_append, -List.drop_one, a139L0, a139S0, h, h', hc, a1, a3, a4, z, zi, zn, b46, d46, b95, d95, b45]
        exact ⟨i + 1, weak_same (by simp (disch := first | omega | (simp [-List.map_take, -List.map_drop, -List.map_set, -List.map_append, -List.drop_one] <;> omega) | fail) [-List.map_take, -List.map_drop, -List.map_set, -List.map_append, -List.drop_one, S610, a139S0]) (by simp (disch := first | omega | (simp [-List.map_take, -List.map_drop, -List.map_set, -List.map_append, -List.drop_one] <;> omega) | fail) [-List.map_take, -List.map_drop, -List.map_set, -List.map_append, -List.drop_one, S610, a139S0]), by omega, ⟨by omega, e⟩⟩
      have d45 : (c == 45#8) = false := by simp [b45]
      have e := rej (by rw [hn]; simp [a1, a3, a4, z, zi, zn, b46, d46, b95, d95, b45, d45])
      simp (disch := first | omega | (simp [-List.map_take, -List.map_drop, -List.map_set, -List.map_append, -List.drop_one] <;> omega) | fail) [-List.map_take, -List.map_drop, -List.map_set, -List.map_append, -List.drop_one, a139L0, a139S0, h, h', hc, e, a1, a3, a4, z, zi, zn, b46, d46, b95, d95, b45, d45]
    have e := acc (by rw [hn]; simp [a1, a3, a4])
    simp (disch := first | omega | (simp [-List.map_take, -List.map_drop, -List.map_set, -List.map_append, -List.drop_one] <;> omega) | fail) [-List.map_take, -List.map_drop, -List.map_set, -List.map_append, -List.drop_one, a139L0, a139S0, h, h', hc, a1, a3, a4]
    exact ⟨i + 1, weak_same (by simp (disch := first | omega | (simp [-List.map_take, -List.map_drop, -List.map_set, -List.map_append, -List.drop_one] <;> omega) | fail) [-List.map_take, -List.map_drop, -List.map_set, -List.map_append, -List.drop_one, S610, a139S0]) (by simp (disch := first | omega | (simp [-List.map_take, -List.map_drop, -List.map_set, -List.map_append, -List.drop_one] <;> omega) | fail) [-List.map_take, -List.map_drop, -List.map_set, -List.map_append, -List.drop_one, S610, a139S0]), by omega, ⟨by omega, e⟩⟩
  by_cases a2 : c ≤ 122#8
  case neg =>
    by_cases a3 : 48#8 ≤ c
    case neg =>
      by_cases z : i = 0
      case pos =>
        subst z
        have hne : ¬ s = [] := fun q => by rw [q] at h; simp at h
        have e := rej (by rw [hn]; simp [a1, a2, a3, hne])
        simp (disch := first | omega | (simp [-List.map_take, -List.map_drop, -List.map_set, -List.map_append, -List.drop_one] <;> omega) | fail) [-List.map_take, -List.map_drop, -List.map_set, -List.map_append, -List.drop_one, a139L0, a139S0, h, h', hc, e, a1, a2, a3, hne]
      have zi : (0 : Int) < i := by omega
      have zn : 0 < i := by omega
      by_cases b46 : c = 46#8
      case pos =>
        have d46 : (c == 46#8) = true := by simp [b46]
        have e := acc (by rw [hn]; simp [a1, a2, a3, z, zi, zn, b46])
        simp (disch := first | omega | (simp [-List.map_take, -List.map_drop, -List.map_set, -List.map_append, -List.drop_one] <;> omega) | fail) [-List.map_take, -List.map_drop, -List.map_set, -List.map_append, -List.drop_one, a139L0, a139S0, h, h', hc, a1, a2, a3, z, zi, zn, b46]
        exact ⟨i + 1, weak_same (by simp (disch := first | omega | (simp [-List.map_take, -List.map_drop, -List.map_set, -List.map_append, -List.drop_one] <;> omega) | fail) [-List.map_take, -List.map_drop, -List.map_set, -List.map_append, -List.drop_one, S610, a139S0]) (by simp (disch := first | omega | (simp [-List.map_take, -List.map_drop, -List.map_set, -List.map_append, -List.drop_one] <;> omega) | fail) [-List.map_take, -List.map_drop, -List.map_set, -List.map_append, -List.drop_one, S610, a139S0]), by omega, ⟨by omega, e⟩⟩
      have d46 : (c == 46#8) = false := by simp [b46]
      by_cases b95 : c = 95#8
      case pos =>
        have d95 : (c == 95#8) = true := by simp [b95]
        have e := acc (by rw [hn]; simp [a1, a2, a3, z, zi, zn, b46, d46, b95])
        simp (disch := first | omega | (simp [-List.map_take, -List.map_drop, -List.map_set, -List.map_append, -List.drop_one] <;> omega) | fail) [-List.map_take, -List.map_drop, -List.map_set, -List.map_append, -List.drop_one, a139L0, a139S0, h, h', hc, a1, a2, a3, z, zi, zn, b46, d46, b95]
        exact ⟨i + 1, weak_same (by simp (disch := first | omega | (simp [-List.map_take, -List.map_drop, -List.map_set, -List.map_append, -List.drop_one] <;> omega) | fail) [-List.map_take, -List.map_drop, -List.map_set, -List.map_append, -List.drop_one, S610, a139S0]) (by simp (disch := first | omega | (simp [-List.map_take, -List.map_drop, -List.map_set, -List.map_append, -List.drop_one] <;> omega) | fail) [-List.map_take, -List.map_drop, -List.map_set, -List.map_append, -List.drop_one, S610, a139S0]), by omega, ⟨by omega, e⟩⟩
      have d95 : (c == 95#8) = false := by simp [b95]
      by_cases b45 : c = 45#8
      case pos =>
        have d45 : (c == 45#8) = true := by simp [b45]
        have e := acc (by rw [hn]; simp [a1, a2, a3, z, zi, zn, b46, d46, b95, d95, b45])
        simp (disch := first | omega | (simp [-List.map_take, -List.map_drop, -List.map_set, -List.map_append, -List.drop_one] <;> omega) | fail) [-List.map_take, -List.map_drop, -List.map_set, -List.map_append, -List.drop_one, a139L0, a139S0, h, h', hc, a1, a2, a3, z, zi, zn, b46, d46, b95, d95, b45]
        exact ⟨i + 1, weak_same (by simp (disch := first | omega | (simp [-List.map_take, -List.map_drop, -List.map_set, -List.map_append, -List.drop_one] <;> omega) | fail) [-List.map_take, -List.map_drop, -List.map_set, -List.map_append, -List.drop_one, S610, a139S0]) (by simp (disch := first | omega | (simp [-List.map_take, -List.map_drop, -List.map_set, -List.map_append, -List.drop_one] <;> omega) | fail) [-List.map_take, -List.map_drop, -List.map_set, -List.map_append, -List.drop_one, S610, a139S0]), by omega, ⟨by omega, e⟩⟩
      have d45 : (c == 45#8) = false := by simp [b45]
      have e := rej (by rw [hn]; simp [a1, a2, a3, z, zi, zn, b46, d46, b95, d95, b45, d45])
      simp (disch := first | omega | (simp [-List.map_take, -List.map_drop, -List.map_set, -List.map_append, -List.drop_one] <;> omega) | fail) [-List.map_take, -List.map_drop, -List.map_set, -List.map_append, -List.drop_one, a139L0, a139S0, h, h', hc, e, a1, a2, a3, z, zi, zn, b46, d46, b95, d95, b45, d45]
    by_cases a4 : c ≤ 57#8
    case neg =>
      by_cases z : i = 0
      case pos =>
        subst z
        have hne : ¬ s = [] := fun q => by rw [q] at h; simp at h
        have e := rej (by rw [hn]; simp [a1, a2, a3, a4, hne])
        simp (disch := first | omega | (simp [-List.map_take, -List.map_drop, -List.map_set, -List.map_append, -List.drop_one] <;> omega) | fail) [-List.map_take, -List.map_drop, -List.map_set, -List.map_append, -List.drop_one, a139L0, a139S0, h, h', hc, e, a1, a2, a3, a4, hne]
      have zi : (0 : Int) < i := by omega
      have zn : 0 < i := by omega
      by_cases b46 : c = 46#8
      case pos =>
        have d46 : (c == 46#8) = true := by simp [b46]
        have e := acc (by rw [hn]; simp [a1, a2, a3, a4, z, zi, zn, b46])
        simp (disch := first | omega | (simp [-List.map_take, -List.map_drop, -List.map_set, -List.map_append, -List.drop_one] <;> omega) | fail) [-List.map_take, -List.map_drop, -List.map_set, -List.map_append, -List.drop_one, a139L0, a139S0, h, h', hc, a1, a2, a3, a4, z, zi, zn, b46]
        exact ⟨i + 1, weak_same (by simp (disch := first | omega | (simp [-List.map_take, -List.map_drop, -List.map_set, -List.map_append, -List.drop_one] <;> omega) | fail) [-List.map_take, -List.map_drop, -List.map_set, -List.map_append, -List.drop_one, S610, a139S0]) (by simp (disch := first | omega | (simp [-List.map_take, -List.map_drop, -List.map_set, -List.map_append, -List.drop_one] <;> omega) | fail) [-List.map_take, -List.map_drop, -List.map_set, -List.map_append, -List.drop_one, S610, a139S0]), by omega, ⟨by omega, e⟩⟩
      have d46 : (c == 46#8) = false := by simp [b46]
      by_cases b95 : c = 95#8
      case pos =>
        have d95 : (c == 95#8) = true := by simp [b95]
        have e := acc (by rw [hn]; simp [a1, a2, a3, a4, z, zi, zn, b46, d46, b95])
        simp (disch := first | omega | (simp [-List.map_take, -List.map_drop, -List.map_set, -List.map_append, -List.drop_one] <;> omega) | fail) [-List.map_take, -List.map_drop, -List.map_set, -List.map_append, -List.drop_one, a139L0, a139S0, h, h', hc, a1, a2, a3, a4, z, zi, zn, b46, d46, b95]
        exact ⟨i + 1, weak_same (by simp (disch := first | omega | (simp [-List.map_take, -List.map_drop, -List.map_set, -List.map_append, -List.drop_one] <;> omega) | fail) [-List.map_take, -List.map_drop, -List.map_set, -List.map_append, -List.drop_one, S610, a139S0]) (by simp (disch := first | omega | (simp [-List.map_take, -List.map_drop, -List.map_set, -List.map_append, -List.drop_one] <;> omega) | fail) [-List.map_take, -List.map_drop, -List.map_set, -List.map_append, -List.drop_one, S610, a139S0]), by omega, ⟨by omega, e⟩⟩
      have d95 : (c == 95#8) = false := by simp [b95]
      by_cases b45 : c = 45#8
      case pos =>
        have d45 : (c == 45#8) = true := by simp [b45]
        have e := acc (by rw [hn]; simp [a1, a2, a3, a4, z, zi, zn, b46, d46, b95, d95, b45])
        simp (disch := first | omega | (simp [-List.map_take, -List.map_drop, -List.map_set, -List.map_append, -List.drop_one] <;> omega) | fail) [-List.map_take, -List.map_drop, -List.map_set, -List.map_append, -List.drop_one, a139L0, a139S0, h, h', hc, a1, a2, a3, a4, z, zi, zn, b46, d46, b95, d95, b45]
        exact ⟨i + 1, weak_same (by simp (disch := first | omega | (simp [-List.map_take, -List.map_drop, -List.map_set, -List.map_append, -List.drop_one] <;> omega) | fail) [-List.map_take, -List.map_drop, -List.map_set, -List.map_append, -List.drop_one, S610, a139S0]) (by simp (disch := first | omega | (simp [-List.map_take, -List.map_drop, -List.map_set, -List.map_append, -List.drop_one] <;> omega) | fail) [-List.map_take, -List.map_drop, -List.map_set, -List.map_append, -List.drop_one, S610, a139S0]), by omega, ⟨by omega, e⟩⟩
      have d45 : (c == 45#8) = false := by simp [b45]
      have e := rej (by rw [hn]; simp [a1, a2, a3, a4, z, zi, zn, b46, d46, b95, d95, b45, d45])
      simp (disch := first | omega | (simp [-List.map_take, -List.map_drop, -List.map_set, -List.map_append, -List.drop_one] <;> omega) | fail) [-List.map_take, -List.map_drop, -List.map_set, -List.map_append, -List.drop_one, a139L0, a139S0, h, h', hc, e, a1, a2, a3, a4, z, zi, zn, b46, d46, b95, d95, b45, d45]
    have e := acc (by rw [hn]; simp [a1, a2, a3, a4])
    simp (disch := first | omega | (simp [-List.map_take, -List.map_drop, -List.map_set, -List.map_append, -List.drop_one] <;> omega) | fail) [-List.map_take, -List.map_drop, -List.map_set, -List.map_append, -List.drop_one, a139L0, a139S0, h, h', hc, a1, a2, a3, a4]
    exact ⟨i + 1, weak_same (by simp (disch := first | omega | (simp [-List.map_take, -List.map_drop, -List.map_set, -List.map_append, -List.drop_one] <;> omega) | fail) [-List.map_take, -List.map_drop, -List.map_set, -List.map_append, -List.drop_one, S610, a139S0]) (by simp (disch := first | omega | (simp [-List.map_take, -List.map_drop, -List.map_set, -List.map_append, -List.drop_one] <;> omega) | fail) [-List.map_take, -List.map_drop, -List.map_set, -List.map_append, -List.drop_one, S610, a139S0]), by omega, ⟨by omega, e⟩⟩
  have e := acc (by rw [hn]; simp [a1, a2])
  simp (disch := first | omega | (simp [-List.map_take, -List.map_drop, -List.map_set, -List.map_append, -List.drop_one] <;> omega) | fail) [-List.map_take, -List.map_drop, -List.map_set, -List.map_append, -List.drop_one, a139L0, a139S0, h, h', hc, a1, a2]
  exact ⟨i + 1, weak_same (by simp (disch := first | omega | (simp [-List.map_take, -List.map_drop, -List.map_set, -List.map_append, -List.drop_one] <;> omega) | fail) [-List.map_take, -List.map_drop, -List.map_set, -List.map_append, -List.drop_one, S610, a139S0]) (by simp (disch := first | omega | (simp [-List.map_take, -List.map_drop, -List.map_set, -List.map_append, -List.drop_one] <;> omega) | fail) [-List.map_take, -List.map_drop, -List.map_set, -List.map_append, -List.drop_one, S610, a139S0]), by omega, ⟨by omega, e⟩⟩
end Go.Proofs.YtdnhbfmlklaldaaGreat
set_option linter.unusedSimpArgs false
set_option linter.unusedVariables false
namespace Go.Proofs.YtdnhbfmlklaldaaGreat
open Go Go.Am
theorem runs_pwithin (n a b : Int) : Runs tbl0 a138 [.int .i64 n, .int .i64 a, .int .i64 b] (.bool (inB n a b)) := by
  refine ⟨?_⟩
  by_cases h0 : a ≤ n
  · by_cases h1 : n ≤ b
    · simp (disch := first | omega | (simp [-List.map_take, -List.map_drop, -List.map_set, -List.map_append, -List.drop_one] <;> omega) | fail) [-List.map_take, -List.map_drop, -List.map_set, -List.map_append, -List.drop_one, a138, h0, h1, inB]
    · simp (disch := first | omega | (simp [-List.map_take, -List.map_drop, -List.map_set, -List.map_append, -List.drop_one] <;> omega) | fail) [-List.map_take, -List.map_drop, -List.map_set, -List.map_append, -List.drop_one, a138, h0, h1, inB]
  · simp (disch := first | omega | (simp [-List.map_take, -List.map_drop, -List.map_set, -List.map_append, -List.drop_one] <;> omega) | fail) [-List.map_take, -List.map_drop, -List.map_set, -List.map_append, -List.drop_one, a138, h0, inB]
noncomputable def cPw : List DV → Option DV
  | [.int .i64 n, .int .i64 a, .int .i64 b] => some (.bool (inB n a b)) | _ => none
theorem cPw_eq {n a b : Int} : cPw [.int .i64 n, .int .i64 a, .int .i64 b] = some (.bool (inB n a b)) := rfl
theorem pw_sound : (Con.pure cPw).Sound P 138 := by
  intro args v e
  unfold cPw at e
  split at e
  · simp at e; subst e; exact sem_runs mix tbl0_sound Tryz.func138 a138_ok (runs_pwithin _ _ _)
  · simp at e
noncomputable def cNm : List DV → Option DV
  | [.str s] => some (.bool (nameB s)) | _ => none
theorem cNm_eq {s : Str} : cNm [.str s] = some (.bool (nameB s)) := rfl
theorem nm_sound : (Con.pure cNm).Sound P 139 := by
  intro args v e
  unfold cNm at e
  split at e
  · simp at e; subst e; exact sem_runs mix tbl0_sound Tryz.func139 a139_ok (runs_name _)
  · simp at e
noncomputable def T610 : Tbl := addT 138 (.pure cPw) (addT 139 (.pure cNm) tbl0)
theorem T610_w : T610 138 = .pure cPw := by simp [T610]
theorem T610_n : T610 139 = .pure cNm := by simp [T610]
theorem T610_sound : T610.Sound P := addT_sound pw_sound (addT_sound nm_sound tbl0_sound)
theorem cellsEq_rq' {a b : Req} : cellsEq (kindsOf [(3, 0), (1, 1)]) (rqC a) (rqC b) = some (decide (a = b)) := cellsEq_rq
attribute [simp] cellsEq_rq'
theorem build_rq {k : Int} : buildD [.int .i64 0, .int .i64 0, .int .i64 0, .str []] [(0, 1, .int .i64 k)] = some (.agg (rqC ⟨k, 0, 0, []⟩)) := rfl
theorem storeO_1 {h : List AObj} {id off : Nat} {v : DV} {l : List DV} (hc : v.cells = [v]) (ho : v.one = true) (hl : off < l.length) : storeO h id 1 off v (some l) = some (.junk, h.set id (.cells (splice l off [v]))) := by
  simp only [storeO, hc, List.length_cons, List.length_nil, List.all_cons, List.all_nil, ho, Bool.and_self]
  first | done | rw [if_pos ⟨trivial, by omega, trivial⟩]
theorem st_rq1 {h : List AObj} {id : Nat} {q : Req} {n : Int} : storeO h id 1 1 (.int .i64 n) (some (rqC q)) = some (.junk, h.set id (.cells (rqC { q with n := n }))) := by rw [storeO_1 rfl rfl (by rw [len_rqC]; decide)]; rfl
theorem st_rq2 {h : List AObj} {id : Nat} {q : Req} {n : Int} : storeO h id 1 2 (.int .i64 n) (some (rqC q)) = some (.junk, h.set id (.cells (rqC { q with m := n }))) := by rw [storeO_1 rfl rfl (by rw [len_rqC]; decide)]; rfl
theorem st_rq3 {h : List AObj} {id : Nat} {q : Req} {s : Str} : storeO h id 1 3 (.str s) (some (rqC q)) = some (.junk, h.set id (.cells (rqC { q with text := s }))) := by rw [storeO_1 rfl rfl (by rw [len_rqC]; decide)]; rfl
set_option maxRecDepth 20000 in
theorem runs_required (q : Req) : Runs T610 a124 [.agg (rqC q)] (.bool (reqB q)) := by
  refine ⟨?_⟩
  obtain ⟨k, n, m, t⟩ := q
  have g0 : ∀ {x : Req} {k' : Int}, (({ x with n := k' } : Req)) = ⟨x.kind, k', x.m, x.text⟩ := fun {x k'} => rfl
  by_cases e1 : k = 1
  · subst e1
    have hr : reqB ⟨1, n, m, t⟩ = (inB n 1 32 && decide ((⟨1, n, m, t⟩ : Req) = ⟨1, n, 0, []⟩)) := by simp [reqB, Bool.and_assoc]
    cases hb : inB n 1 32 <;> (rw [hb] at hr; simp (disch := first | omega | (simp [-List.map_take, -List.map_drop, -List.map_set, -List.map_append, -List.drop_one] <;> omega) | fail) [-List.map_take, -List.map_drop, -List.map_set, -List.map_append, -List.drop_one, a124, T610_w, cPw_eq, build_rq, st_rq1, hb, hr])
  by_cases e3 : k = 3
  · subst e3
    have hr : reqB ⟨3, n, m, t⟩ = (inB n 1 32 && decide ((⟨3, n, m, t⟩ : Req) = ⟨3, n, 0, []⟩)) := by simp [reqB, Bool.and_assoc]
    cases hb : inB n 1 32 <;> (rw [hb] at hr; simp (disch := first | omega | (simp [-List.map_take, -List.map_drop, -List.map_set, -List.map_append, -List.drop_one] <;> omega) | fail) [-List.map_take, -List.map_drop, -List.map_set, -List.map_append, -List.drop_one, a124, T610_w, cPw_eq, build_rq, st_rq1, hb, hr])
  by_cases e5 : k = 5
  · subst e5
    have hr : reqB ⟨5, n, m, t⟩ = (inB n 1 32 && decide ((⟨5, n, m, t⟩ : Req) = ⟨5, n, 0, []⟩)) := by simp [reqB, Bool.and_assoc]
    cases hb : inB n 1 32 <;> (rw [hb] at hr; simp (disch := first | omega | (simp [-List.map_take, -List.map_drop, -List.map_set, -List.map_append, -List.drop_one] <;> omega) | fail) [-List.map_take, -List.map_drop, -List.map_set, -List.map_append, -List.drop_one, a124, T610_w, cPw_eq, build_rq, st_rq1, hb, hr])
  by_cases e4 : k = 4
  · subst e4
    have hr : reqB ⟨4, n, m, t⟩ = ((inB n 1 32 && inB m 0 32) && decide ((⟨4, n, m, t⟩ : Req) = ⟨4, n, m, []⟩)) := by simp [reqB, Bool.and_assoc]
    cases hb : inB n 1 32 <;> cases hc : inB m 0 32 <;> (rw [hb, hc] at hr; simp (disch := first | omega | (simp [-List.map_take, -List.map_drop, -List.map_set, -List.map_append, -List.drop_one] <;> omega) | fail) [-List.map_take, -List.map_drop, -List.map_set, -List.map_append, -List.drop_one, a124, T610_w, cPw_eq, build_rq, st_rq1, st_rq2, hb, hc, hr])
  by_cases e2 : k = 2
  · subst e2
    have hr : reqB ⟨2, n, m, t⟩ = (nameB t && decide ((⟨2, n, m, t⟩ : Req) = ⟨2, 0, 0, t⟩)) := by simp [reqB, Bool.and_assoc, Bool.and_comm, Bool.and_left_comm]
    cases hb : nameB t <;> (rw [hb] at hr; simp (disch := first | omega | (simp [-List.map_take, -List.map_drop, -List.map_set, -List.map_append, -List.drop_one] <;> omega) | fail) [-List.map_take, -List.map_drop, -List.map_set, -List.map_append, -List.drop_one, a124, T610_n, cNm_eq, build_rq, st_rq3, hb, hr])
  by_cases e6 : k = 6
  · subst e6
    have hr : reqB ⟨6, n, m, t⟩ = (inB n 1 10 && decide ((⟨6, n, m, t⟩ : Req) = ⟨6, n, 0, []⟩)) := by simp [reqB, Bool.and_assoc]
    cases hb : inB n 1 10 <;> (rw [hb] at hr; simp (disch := first | omega | (simp [-List.map_take, -List.map_drop, -List.map_set, -List.map_append, -List.drop_one] <;> omega) | fail) [-List.map_take, -List.map_drop, -List.map_set, -List.map_append, -List.drop_one, a124, T610_w, cPw_eq, build_rq, st_rq1, hb, hr])
  by_cases e7 : k = 7
  · subst e7
    have hr : reqB ⟨7, n, m, t⟩ = (inB n 0 1099511627776 && decide ((⟨7, n, m, t⟩ : Req) = ⟨7, n, 0, []⟩)) := by simp [reqB, Bool.and_assoc]
    cases hb : inB n 0 1099511627776 <;> (rw [hb] at hr; simp (disch := first | omega | (simp [-List.map_take, -List.map_drop, -List.map_set, -List.map_append, -List.drop_one] <;> omega) | fail) [-List.map_take, -List.map_drop, -List.map_set, -List.map_append, -List.drop_one, a124, T610_w, cPw_eq, build_rq, st_rq1, hb, hr])
  by_cases e8 : k = 8
  · subst e8
    have hr : reqB ⟨8, n, m, t⟩ = decide ((⟨8, n, m, t⟩ : Req) = ⟨8, 0, 0, []⟩) := by simp [reqB, Bool.and_assoc]
    simp (disch := first | omega | (simp [-List.map_take, -List.map_drop, -List.map_set, -List.map_append, -List.drop_one] <;> omega) | fail) [-List.map_take, -List.map_drop, -List.map_set, -List.map_append, -List.drop_one, a124, build_rq, hr]
  · have hr : reqB ⟨k, n, m, t⟩ = false := by simp [reqB, e1, e2, e3, e4, e5, e6, e7, e8]
    simp (disch := first | omega | (simp [-List.map_take, -List.map_drop, -List.map_set, -List.map_append, -List.drop_one] <;> omega) | fail) [-List.map_take, -List.map_drop, -List.map_set, -List.map_append, -List.drop_one, a124, build_rq, e1, e2, e3, e4, e5, e6, e7, e8, hr]
theorem rq_arg {a b : Req} (e : [DV.agg (rqC a)] = [DV.agg (rqC b)]) : a = b := by simp only [List.cons.injEq, DV.agg.injEq, and_true] at e; exact rqC_inj e
noncomputable def cReq : List DV → Option DV := con (fun _ => True) (fun q : Req => [.agg (rqC q)]) (fun q => .bool (reqB q))
theorem cReq_eq {q : Req} : cReq [.agg (rqC q)] = some (.bool (reqB q)) := con_inj (f := fun q : Req => [.agg (rqC q)]) (g := fun q => .bool (reqB q)) (fun a b e => rq_arg e) q
theorem req_sound : (Con.pure cReq).Sound P 124 := con_sound fun q _ => sem_runs mix T610_sound Tryz.func124 a124_ok (runs_required q)
def ndC (q : Req) : List DV := .int .i64 1 :: .int .i64 0 :: .int .i64 0 :: rqC q
theorem len_ndC (q : Req) : (ndC q).length = 7 := rfl
theorem pure_ndC (q : Req) : pureL (ndC q) = true := by simp [ndC, pureL, pureD, pure_rqC]
theorem nd_inj {a b : Req} (e : ndC a = ndC b) : a = b := by simp only [ndC, List.cons.injEq, true_and] at e; exact rqC_inj e
theorem one_nd0 {q : Req} : one 1 false (ndC q) = some (.int .i64 1) := rfl
theorem one_nd1 {q : Req} : one 1 false ((ndC q).drop 1) = some (.int .i64 0) := rfl
theorem one_nd2 {q : Req} : one 1 false ((ndC q).drop 2) = some (.int .i64 0) := rfl
theorem one_nd3 {q : Req} : one 4 true ((ndC q).drop 3) = some (.agg (rqC q)) := rfl
theorem one_nd {q : Req} : one 7 true (ndC q) = some (.agg (ndC q)) := rfl
theorem all_ndC {q : Req} : (ndC q).all DV.one = true := by simp only [ndC, List.all_cons, all_rqC, one_int, Bool.and_self]
theorem storeO_nd {x : Req} {h : List AObj} {id : Nat} {l : List DV} (hl : l.length = 7) : storeO h id 7 0 (.agg (ndC x)) (some l) = some (.junk, h.set id (.cells (ndC x))) := storeO_agg (len_ndC x) hl all_ndC
attribute [simp] pure_ndC one_nd0 one_nd1 one_nd2 one_nd3 one_nd storeO_nd
noncomputable def T611 : Tbl := addT 124 (.pure cReq) tbl0
theorem T611_r : T611 124 = .pure cReq := by simp [T611]
theorem T611_sound : T611.Sound P := addT_sound req_sound tbl0_sound
theorem runs_psound (q : Req) : Runs T611 a104 [.agg (ndC q)] (.bool (reqB q)) := by
  refine ⟨?_⟩
  have hl := len_ndC q
  simp (disch := first | omega | (simp [-List.map_take, -List.map_drop, -List.map_set, -List.map_append, -List.drop_one] <;> omega) | fail) [-List.map_take, -List.map_drop, -List.map_set, -List.map_append, -List.drop_one, a104, T611_r, cReq_eq, hl]
noncomputable def cNd (k : Nat) : List DV → Option DV := con (fun _ => True) (fun q : Req => [.agg (ndC q)]) (fun q => .bool (reqB q))
theorem cNd_eq {k : Nat} {q : Req} : cNd k [.agg (ndC q)] = some (.bool (reqB q)) := con_inj (f := fun q : Req => [.agg (ndC q)]) (g := fun q => .bool (reqB q)) (fun a b e => by simp only [List.cons.injEq, DV.agg.injEq, and_true] at e; exact nd_inj e) q
noncomputable def T612 : Tbl := addT 104 (.pure (cNd 0)) tbl0
theorem T612_s : T612 104 = .pure (cNd 0) := by simp [T612]
theorem T612_sound : T612.Sound P := addT_sound (con_sound fun q _ => sem_runs mix T611_sound Tryz.func104 a104_ok (runs_psound q)) tbl0_sound
structure TI where
  i : Nat
def S612 (q : Req) (i : Nat) : St := a64S0 (.int .i64 (1 - (i : Int))) (.int .i64 i) (.sl true 7 1 (ndC q)) (.int .i64 1) (.int .i64 i) (if i = 0 then [] else [.cells (ndC q)])
theorem runs_tree (q : Req) : Runs T612 a64 [.sl true 7 1 (ndC q)] (.bool (reqB q)) := by
  refine ⟨?_⟩
  have hl := len_ndC q
  have hd : (ndC q).take 7 = ndC q := rfl
  simp (disch := first | omega | (simp [-List.map_take, -List.map_drop, -List.map_set, -List.map_append, -List.drop_one] <;> omega) | fail) [-List.map_take, -List.map_drop, -List.map_set, -List.map_append, -List.drop_one, a64]
  refine W_loop (S612 q) (fun i => 1 - i) (fun i => i = 0 ∨ (i = 1 ∧ reqB q = true)) 0 (weak_same (by simp (disch := first | omega | (simp [-List.map_take, -List.map_drop, -List.map_set, -List.map_append, -List.drop_one] <;> omega) | fail) [-List.map_take, -List.map_drop, -List.map_set, -List.map_append, -List.drop_one, S612, a64S0]) (by simp (disch := first | omega | (simp [-List.map_take, -List.map_drop, -List.map_set, -List.map_append, -List.drop_one] <;> omega) | fail) [-List.map_take, -List.map_drop, -List.map_set, -List.map_append, -List.drop_one, S612, a64S0])) (.inl rfl) (fun i hi => ?_)
  rcases hi with rfl | ⟨rfl, hq⟩
  · simp only [S612]
    cases hq : reqB q with
    | false => simp (disch := first | omega | (simp [-List.map_take, -List.map_drop, -List.map_set, -List.map_append, -List.drop_one] <;> omega) | fail) [-List.map_take, -List.map_drop, -List.map_set, -List.map_append, -List.drop_one, a64L0, a64S0, T612_s, cNd_eq, hq, hl, hd]
    | true =>
      simp (disch := first | omega | (simp [-List.map_take, -List.map_drop, -List.map_set, -List.map_append, -List.drop_one] <;> omega) | fail) [-List.map_take, -List.map_drop, -List.map_set, -List.map_append, -List.drop_one, a64L0, a64S0, T612_s, cNd_eq, hq, hl, hd]
      exact ⟨1, weak_same (by simp (disch := first | omega | (simp [-List.map_take, -List.map_drop, -List.map_set, -List.map_append, -List.drop_one] <;> omega) | fail) [-List.map_take, -List.map_drop, -List.map_set, -List.map_append, -List.drop_one, S612, a64S0]) (by simp (disch := first | omega | (simp [-List.map_take, -List.map_drop, -List.map_set, -List.map_append, -List.drop_one] <;> omega) | fail) [-List.map_take, -List.map_drop, -List.map_set, -List.map_append, -List.drop_one, S612, a64S0]), by omega, .inr rfl⟩
  · simp only [S612]
    simp (disch := first | omega | (simp [-List.map_take, -List.map_drop, -List.map_set, -List.map_append, -List.drop_one] <;> omega) | fail) [-List.map_take, -List.map_drop, -List.map_set, -List.map_append, -List.drop_one, a64L0, a64S0, T612_s, cNd_eq, hq, hl, hd]
noncomputable def cTr : List DV → Option DV := con (fun _ => True) (fun q : Req => [.sl true 7 1 (ndC q)]) (fun q => .bool (reqB q))
theorem cTr_eq {q : Req} : cTr [.sl true 7 1 (ndC q)] = some (.bool (reqB q)) := con_inj (f := fun q : Req => [.sl true 7 1 (ndC q)]) (g := fun q => .bool (reqB q)) (fun a b e => by simp only [List.cons.injEq, DV.sl.injEq, and_true, true_and] at e; exact nd_inj e) q
noncomputable def T613 : Tbl := addT 64 (.pure cTr) tbl0
theorem T613_t : T613 64 = .pure cTr := by simp [T613]
theorem T613_sound : T613.Sound P := addT_sound (con_sound fun q _ => sem_runs mix T612_sound Tryz.func64 a64_ok (runs_tree q)) tbl0_sound
theorem runs_valid (q : Req) : Runs T613 a41 [.agg (rqC q)] (.bool (reqB q)) := by
  refine ⟨?_⟩
  have e1 : buildD [.int .i64 0, .int .i64 0, .int .i64 0, .int .i64 0, .int .i64 0, .int .i64 0, .str []] [(0, 1, .int .i64 1), (3, 4, .agg (rqC q))] = some (.agg (ndC q)) := rfl
  have e2 : bslD 7 1 [.int .i64 0, .int .i64 0, .int .i64 0, .int .i64 0, .int .i64 0, .int .i64 0, .str []] [(0, 7, .agg (ndC q))] = some (.sl true 7 1 (ndC q)) := rfl
  simp (disch := first | omega | (simp [-List.map_take, -List.map_drop, -List.map_set, -List.map_append, -List.drop_one] <;> omega) | fail) [-List.map_take, -List.map_drop, -List.map_set, -List.map_append, -List.drop_one, a41, T613_t, cTr_eq, e1, e2]
theorem val_sound : (Con.pure cReq).Sound P 41 := con_sound fun q _ => sem_runs mix T613_sound Tryz.func41 a41_ok (runs_valid q)
end Go.Proofs.YtdnhbfmlklaldaaGreat
set_option linter.unusedSimpArgs false
set_option linter.unusedVariables false
namespace Go.Proofs.YtdnhbfmlklaldaaGreat
open Go Go.Am
noncomputable def T620 : Tbl := addT 106 (.pure cLack) (addT 107 (.pure cHeld) (addT 112 (.pure cCat) tbl0))
theorem T620_l : T620 106 = .pure cLack := by simp [T620]
theorem T620_h : T620 107 = .pure cHeld := by simp [T620]
theorem T620_c : T620 112 = .pure cCat := by simp [T620]
theorem T620_sound : T620.Sound P := addT_sound lack_sound (addT_sound held_sound (addT_sound cat_sound tbl0_sound))
def InOK (l : List Fct) (y : List Dg) : Prop := ∀ f ∈ l, f.docs.l.length + y.length ≤ 12
theorem runs_inspected (x : Sl Fct) (n : Int) (y : Sl Dg) (ok : InOK x.l y.l) : Runs T620 a74 [x.dv 71 faC, .int .i64 n, y.dv 32 dgC] (.agg (suC (inspS x.l n y.l))) := by
  refine ⟨?_⟩
  cases e : x.l with
  | nil =>
    have e0 : x.l.length = 0 := by rw [e]; rfl
    have hs : inspS [] n y.l = lackS 1 := rfl
    simp (disch := first | omega | (simp [-List.map_take, -List.map_drop, -List.map_set, -List.map_append, -List.drop_one] <;> omega) | fail) [-List.map_take, -List.map_drop, -List.map_set, -List.map_append, -List.drop_one, a74, e0, e, T620_l, cLack_eq, hs]
  | cons f r =>
    have e0 : ¬ x.l = [] := by rw [e]; simp
    have e1 : ¬ x.l.length = 0 := by rw [e]; simp
    have hg : ∀ H, idxSD H 71 (x.dv 71 faC) 0 = some (.ref (faC f)) := fun H => by
      have := idxSD_dv (h := H) (x := x) (i := 0) len_faC (by rw [e]; simp)
      rw [show ((0 : Nat) : Int) = 0 from rfl] at this
      rw [this]; simp [e]
    have hf := ok f (by rw [e]; simp)
    by_cases h : 0 < n
    · have hs : inspS (f :: r) n y.l = lackS n := by simp only [inspS]; rw [if_pos h]
      simp (disch := first | omega | (simp [-List.map_take, -List.map_drop, -List.map_set, -List.map_append, -List.drop_one] <;> omega) | fail) [-List.map_take, -List.map_drop, -List.map_set, -List.map_append, -List.drop_one, a74, e0, e1, h, T620_l, cLack_eq, hs]
    · have hs : inspS (f :: r) n y.l = heldS (ownN (f.docs.l ++ y.l)) := by simp only [inspS]; rw [if_neg h]
      have c1 := cCat_eq (x := f.docs) (y := y) (by omega)
      have c2 := cHeld_eq (x := ownN (f.docs.l ++ y.l)) (by rw [ownN_l (by rw [List.length_append]; omega), List.length_append]; omega)
      simp (disch := first | omega | (simp [-List.map_take, -List.map_drop, -List.map_set, -List.map_append, -List.drop_one] <;> omega) | fail) [-List.map_take, -List.map_drop, -List.map_set, -List.map_append, -List.drop_one, a74, e0, e1, h, hg, T620_c, T620_h, c1, c2, hs]
noncomputable def cInsp : List DV → Option DV := con (fun a : Sl Fct × Int × Sl Dg => InOK a.1.l a.2.2.l) (fun a => [a.1.dv 71 faC, .int .i64 a.2.1, a.2.2.dv 32 dgC]) (fun a => .agg (suC (inspS a.1.l a.2.1 a.2.2.l)))
theorem cInsp_eq {x : Sl Fct} {n : Int} {y : Sl Dg} (h : InOK x.l y.l) : cInsp [x.dv 71 faC, .int .i64 n, y.dv 32 dgC] = some (.agg (suC (inspS x.l n y.l))) :=
  con_eq (A := fun a : Sl Fct × Int × Sl Dg => InOK a.1.l a.2.2.l) (f := fun a : Sl Fct × Int × Sl Dg => [a.1.dv 71 faC, .int .i64 a.2.1, a.2.2.dv 32 dgC]) (g := fun a => .agg (suC (inspS a.1.l a.2.1 a.2.2.l))) (by
    rintro ⟨a, b, c⟩ ⟨a', b', c'⟩ e
    simp only [List.cons.injEq, DV.int.injEq, and_true, true_and] at e
    rw [fas_inj e.1, e.2.1, dgs_inj e.2.2]) (x, n, y) h
theorem insp_sound : (Con.pure cInsp).Sound P 74 := con_sound fun a h => sem_runs mix T620_sound Tryz.func74 a74_ok (runs_inspected a.1 a.2.1 a.2.2 h)
noncomputable def T621 : Tbl := addT 106 (.pure cLack) (addT 110 (.pure cSrtd) (addT 68 (.pure cFct) (addT 69 (.pure cEn) tbl0)))
theorem T621_l : T621 106 = .pure cLack := by simp [T621]
theorem T621_s : T621 110 = .pure cSrtd := by simp [T621]
theorem T621_f : T621 68 = .pure cFct := by simp [T621]
theorem T621_e : T621 69 = .pure cEn := by simp [T621]
theorem T621_sound : T621.Sound P := addT_sound lack_sound (addT_sound sorted_sound (addT_sound facts_sound (addT_sound en_sound tbl0_sound)))
theorem mk1_71 {K : Nat → Bool} {h : List AObj} {x : Sl Fct} : mk1 K h (x.dv 71 faC) = x.dv 71 faC := mk1_clean (dv_pure pure_faC x)
theorem mk1_39 {K : Nat → Bool} {h : List AObj} {x : Sl Fnd} : mk1 K h (x.dv 39 fnC) = x.dv 39 fnC := mk1_clean (dv_pure pure_fnC x)
theorem mk1_32 {K : Nat → Bool} {h : List AObj} {x : Sl Dg} : mk1 K h (x.dv 32 dgC) = x.dv 32 dgC := mk1_clean (dv_pure pure_dgC x)
theorem mk1_1s {K : Nat → Bool} {h : List AObj} {x : Sl Str} : mk1 K h (x.dv 1 stC) = x.dv 1 stC := mk1_clean (dv_pure pure_stC x)
attribute [simp] mk1_71 mk1_39 mk1_32 mk1_1s
def su0 : List DV := [.bool false, .nils, .int .i64 0]
theorem len_su0 : su0.length = 3 := by simp [su0]
theorem pure_su0 : pureL su0 = true := by simp [su0, pureL, pureD]
attribute [simp] len_su0 pure_su0 pure_suC pure_faC pure_fnC pure_orC pure_rqC pure_caC
def lV (l : List Dg) : DV := if l = [] then .nils else .ms 2 (l.length * 32) 0 32 l.length (l.length * 32)
def lH (o : AObj) (l : List Dg) : List AObj := .cells su0 :: (if l = [] then [] else [o, .cells (fl dgC l)])
theorem lV_ne {l : List Dg} (h : l ≠ []) : lV l = .ms 2 (l.length * 32) 0 32 l.length (l.length * 32) := if_neg h
theorem lH_ne {o : AObj} {l : List Dg} (h : l ≠ []) : lH o l = [.cells su0, o, .cells (fl dgC l)] := by rw [lH, if_neg h]
def tgS (l : List Fct) : List Dg := l.map (·.tgt)
def S620 (x : Sl Fct) (n : Int) (a : FP) : St := a73S0 (x.dv 71 faC) (.int .i64 n) (.mp 0 3 0) (lV (tgS (x.l.take a.i))) (x.dv 71 faC) (.int .i64 x.l.length) (.int .i64 a.i) (lH (.cells (faC a.o)) (tgS (x.l.take a.i)))
structure ListOK (l : List Fct) (n : Int) : Prop where
  k : l.length ≤ 12
  e : ∀ d, EnOK (factsS l 5 (.target d)) n
  n0 : 0 ≤ n
structure LM where
  i : Nat
  m : Int
def S621 (x : Sl Fct) (n : Int) (Y : Sl Dg) (pre : List AObj) (a : LM) : St := a73S1 (x.dv 71 faC) (.int .i64 n) (.mp 0 3 0) (.mp (pre.length + 1) 3 0) (Y.dv 32 dgC) (.int .i64 Y.l.length) (.int .i64 a.i) (.cells su0 :: pre ++ [.cells (suC (lackS a.m))])
theorem st_miss {h : List AObj} {id : Nat} {m v : Int} : storeO h id 1 2 (.int .i64 v) (some (suC (lackS m))) = some (.junk, h.set id (.cells (suC (lackS v)))) := by rw [storeO_1 rfl rfl (by rw [len_suC]; decide)]; rfl
set_option maxRecDepth 20000 in
theorem runs_listed (x : Sl Fct) (n : Int) (ok : ListOK x.l n) : V P 0 a73.code (retK a73.res (.agg (suC (listedS x.l n)))) ⟨startT a73.ntmps [x.dv 71 faC, .int .i64 n], []⟩ := by
  have hk := ok.k
  have hb := x.b
  obtain ⟨R, hR⟩ : ∃ R, listedS x.l n = R := ⟨_, rfl⟩
  have htl : (tgS x.l).length = x.l.length := by simp [tgS]
  rw [hR]
  refine V_seq (V_W mix T621_sound ?_)
  simp (disch := first | omega | (simp [-List.map_take, -List.map_drop, -List.map_set, -List.map_append, -List.drop_one] <;> omega) | fail) [-List.map_take, -List.map_drop, -List.map_set, -List.map_append, -List.drop_one, a73]
  refine V_seq (V_W mix T621_sound ?_)
  simp (disch := first | omega | (simp [-List.map_take, -List.map_drop, -List.map_set, -List.map_append, -List.drop_one] <;> omega) | fail) [-List.map_take, -List.map_drop, -List.map_set, -List.map_append, -List.drop_one]
  refine V_seq (V_W mix T621_sound ?_)
  simp (disch := first | omega | (simp [-List.map_take, -List.map_drop, -List.map_set, -List.map_append, -List.drop_one] <;> omega) | fail) [-List.map_take, -List.map_drop, -List.map_set, -List.map_append, -List.drop_one]
  refine W_loop (S620 x n) (fun a => x.l.length - a.i) (fun a => a.i ≤ x.l.length) ⟨0, fct0⟩ (weak_same (by simp (disch := first | omega | (simp [-List.map_take, -List.map_drop, -List.map_set, -List.map_append, -List.drop_one] <;> omega) | fail) [-List.map_take, -List.map_drop, -List.map_set, -List.map_append, -List.drop_one, S620, a73S0, tgS, lV]) (by simp (disch := first | omega | (simp [-List.map_take, -List.map_drop, -List.map_set, -List.map_append, -List.drop_one] <;> omega) | fail) [-List.map_take, -List.map_drop, -List.map_set, -List.map_append, -List.drop_one, S620, a73S0, tgS, lH, su0])) (by simp) (fun a hi => ?_)
  obtain ⟨i, o⟩ := a
  simp only at hi
  simp only [S620]
  by_cases h : i < x.l.length
  · have h' : (i : Int) < x.l.length := by omega
    have hg : ∀ H, idxSD H 71 (x.dv 71 faC) i = some (.ref (faC x.l[i])) := fun H => idxSD_dv len_faC h
    have hs : tgS (x.l.take (i + 1)) = tgS (x.l.take i) ++ [x.l[i].tgt] := by rw [List.take_succ_eq_append_getElem h, tgS, List.map_append]; rfl
    have hlen : (tgS (x.l.take i)).length ≤ i := by simp [tgS]; omega
    obtain ⟨F, hF⟩ : ∃ F, x.l[i] = F := ⟨_, rfl⟩
    rw [hF] at hg hs
    obtain ⟨L, hL⟩ : ∃ L, tgS (x.l.take i) = L := ⟨_, rfl⟩
    rw [hL] at hs hlen ⊢
    by_cases e : L = []
    · subst e
      rw [List.nil_append] at hs
      have hap := appX_nils (h := [AObj.cells su0, .cells (faC F)]) (s := 32) (b := 32) (m := 1) (cs := dgC F.tgt) (by decide) (by decide) (by rw [len_dgC]) (by decide) (by decide)
      simp only [len_dgC, List.length_cons, List.length_nil] at hap
      have q1 : lV [] = .nils := rfl
      have q2 : lH (.cells (faC o)) [] = [.cells su0] := rfl
      simp (disch := first | omega | (simp [-List.map_take, -List.map_drop, -List.map_set, -List.map_append, -List.drop_one] <;> omega) | fail) [-List.map_take, -List.map_drop, -List.map_set, -List.map_append, -List.drop_one, a73L0, a73S0, h, h', hg, q1, q2, hap]
      have e1 : lV [F.tgt] = .ms 2 32 0 32 1 32 := rfl
      have e2 : lH (.cells (faC F)) [F.tgt] = [.cells su0, .cells (faC F), .cells (dgC F.tgt)] := by rw [lH_ne (by simp), fl_one]
      exact ⟨⟨i + 1, F⟩, weak_same (by simp (disch := first | omega | (simp [-List.map_take, -List.map_drop, -List.map_set, -List.map_append, -List.drop_one] <;> omega) | fail) [-List.map_take, -List.map_drop, -List.map_set, -List.map_append, -List.drop_one, S620, a73S0, hs, e1]) (by simp (disch := first | omega | (simp [-List.map_take, -List.map_drop, -List.map_set, -List.map_append, -List.drop_one] <;> omega) | fail) [-List.map_take, -List.map_drop, -List.map_set, -List.map_append, -List.drop_one, S620, a73S0, hs, e2]), by simp only; omega, by simp only; omega⟩
    · have hap := appX_fl1 (h := [AObj.cells su0, .cells (faC o), .cells (fl dgC L), .cells (faC F)]) (id := 2) (b := 32) (l := L) (x := F.tgt) len_dgC (by decide) (by decide) (fun _ => all_dgC) (by omega) (by simp [objV, objAt, fl_len len_dgC])
      have q1 := lV_ne e
      have q2 := lH_ne (o := .cells (faC o)) e
      simp (disch := first | omega | (simp [-List.map_take, -List.map_drop, -List.map_set, -List.map_append, -List.drop_one] <;> omega) | fail) [-List.map_take, -List.map_drop, -List.map_set, -List.map_append, -List.drop_one, a73L0, a73S0, h, h', hg, q1, q2, hap]
      have e0 : L ++ [F.tgt] ≠ [] := by simp
      have e1 := lV_ne e0
      have e2 := lH_ne (o := .cells (faC o)) e0
      rw [List.length_append, List.length_singleton] at e1
      exact ⟨⟨i + 1, o⟩, weak_drop (tail := [.cells (faC F)]) (by simp (disch := first | omega | (simp [-List.map_take, -List.map_drop, -List.map_set, -List.map_append, -List.drop_one] <;> omega) | fail) [-List.map_take, -List.map_drop, -List.map_set, -List.map_append, -List.drop_one, S620, a73S0, hs, e1]) (by simp (disch := first | omega | (simp [-List.map_take, -List.map_drop, -List.map_set, -List.map_append, -List.drop_one] <;> omega) | fail) [-List.map_take, -List.map_drop, -List.map_set, -List.map_append, -List.drop_one, S620, a73S0, hs, e2]) (by simp) (by simp (disch := first | omega | (simp [-List.map_take, -List.map_drop, -List.map_set, -List.map_append, -List.drop_one] <;> omega) | fail) [-List.map_take, -List.map_drop, -List.map_set, -List.map_append, -List.drop_one, S620, a73S0, hs, e1, e2, belowL, Am.below]) (by simp (disch := first | omega | (simp [-List.map_take, -List.map_drop, -List.map_set, -List.map_append, -List.drop_one] <;> omega) | fail) [-List.map_take, -List.map_drop, -List.map_set, -List.map_append, -List.drop_one, S620, a73S0, hs, e2, belowH, belowL, Am.below, su0, fl, belowL_pure _ _ (pureL_append (fm_pure pure_dgC _) (pure_dgC _)), belowL_pure _ _ (fm_pure pure_dgC _)]), by simp only; omega, by simp only; omega⟩
  have h' : ¬ (i : Int) < x.l.length := by omega
  have ht : x.l.take i = x.l := List.take_of_length_le (by omega)
  rw [ht]
  have hY0 : (ownN (tgS x.l)).l = tgS x.l := ownN_l (by omega)
  have c0 := cSrtd_eq (x := ownN (tgS x.l)) (by rw [hY0]; omega)
  obtain ⟨Y, hY⟩ : ∃ Y, sortedS (ownN (tgS x.l)) = Y := ⟨_, rfl⟩
  have hul := uSort_len (lt := dgLt) (tgS x.l)
  have hYl : Y.l = dgsU (tgS x.l) := by
    rw [← hY]
    unfold sortedS
    rw [hY0]
    split
    · rename_i e; rw [show (ownN (tgS x.l)).clone.l = (ownN (tgS x.l)).l from rfl, hY0, e]; rfl
    · rw [own_l (by unfold dgsU; omega)]
  rw [hY] at c0
  have hR : listGo x.l n Y.l n = R := by rw [← hR, hYl]; rfl
  have hYb : Y.l.length ≤ 12 := by rw [hYl]; unfold dgsU; omega
  have hp := fm_pure pure_dgC (tgS x.l)
  by_cases e : tgS x.l = []
  · have q1 : lV (tgS x.l) = .nils := by rw [e]; rfl
    have q2 : lH (.cells (faC o)) (tgS x.l) = [.cells su0] := by rw [e]; rfl
    have q3 : (ownN (tgS x.l)).dv 32 dgC = .nils := by rw [e]; rfl
    have q4 := q3
    rw [q3] at c0
    simp (disch := first | omega | (simp [-List.map_take, -List.map_drop, -List.map_set, -List.map_append, -List.drop_one] <;> omega) | fail) [-List.map_take, -List.map_drop, -List.map_set, -List.map_append, -List.drop_one, a73L0, a73S0, h, h', q1, q2]
    refine V_seq (V_W mix T621_sound ?_)
    simp (disch := first | omega | (simp [-List.map_take, -List.map_drop, -List.map_set, -List.map_append, -List.drop_one] <;> omega) | fail) [-List.map_take, -List.map_drop, -List.map_set, -List.map_append, -List.drop_one, q1, q2, T621_l, cLack_eq]
    refine V_seq ?_

    refine V_seq (V_W mix T621_sound ?_)
    simp (disch := first | omega | (simp [-List.map_take, -List.map_drop, -List.map_set, -List.map_append, -List.drop_one] <;> omega) | fail) [-List.map_take, -List.map_drop, -List.map_set, -List.map_append, -List.drop_one, q1, q2, q4, hp, T621_s, c0]
    refine V_block (V_loop (S621 x n Y []) (fun a => Y.l.length - a.i) (fun a => a.i ≤ Y.l.length ∧ listGo x.l n (Y.l.drop a.i) a.m = R) ⟨0, n⟩ (weak_same (by simp (disch := first | omega | (simp [-List.map_take, -List.map_drop, -List.map_set, -List.map_append, -List.drop_one] <;> omega) | fail) [-List.map_take, -List.map_drop, -List.map_set, -List.map_append, -List.drop_one, S621, a73S1]) (by simp (disch := first | omega | (simp [-List.map_take, -List.map_drop, -List.map_set, -List.map_append, -List.drop_one] <;> omega) | fail) [-List.map_take, -List.map_drop, -List.map_set, -List.map_append, -List.drop_one, S621, a73S1])) ⟨by simp, by simpa using hR⟩ (fun a hi => ?_))
    obtain ⟨j, m⟩ := a
    obtain ⟨hj, hR⟩ := hi
    simp only at hj hR
    simp only [S621]
    by_cases h : j < Y.l.length
    · have h' : (j : Int) < Y.l.length := by omega
      have hg : ∀ H, idxSD H 32 (Y.dv 32 dgC) j = some (.ref (dgC Y.l[j])) := fun H => idxSD_dv len_dgC h
      obtain ⟨d, hd⟩ : ∃ d, Y.l[j] = d := ⟨_, rfl⟩
      rw [List.drop_eq_getElem_cons h, hd] at hR
      rw [hd] at hg
      have c1 : cFct [x.dv 71 faC, .int .i64 5, .fn (.func 111) [] [.ref (dgC d)]] = _ := cFct_eq (x := x) (k := 5) (s := .target d)
      have hfl := facts_len (l := x.l) (k := 5) (s := .target d)
      have hfe : (ownN (factsS x.l 5 (.target d))).l = factsS x.l 5 (.target d) := ownN_l (by omega)
      have c2 := cEn_eq (x := ownN (factsS x.l 5 (.target d))) (n := n) (by rw [hfe]; exact ok.e d)
      rw [hfe] at c2
      obtain ⟨e, he⟩ : ∃ e, enoughS (factsS x.l 5 (.target d)) n = e := ⟨_, rfl⟩
      unfold listGo at hR
      rw [he] at hR c2
      refine V_seq (V_W mix T621_sound ?_)
      simp (disch := first | omega | (simp [-List.map_take, -List.map_drop, -List.map_set, -List.map_append, -List.drop_one] <;> omega) | fail) [-List.map_take, -List.map_drop, -List.map_set, -List.map_append, -List.drop_one, a73L1, a73S1, h, h', hg]
      refine V_seq (V_W mix T621_sound ?_)
      simp (disch := first | omega | (simp [-List.map_take, -List.map_drop, -List.map_set, -List.map_append, -List.drop_one] <;> omega) | fail) [-List.map_take, -List.map_drop, -List.map_set, -List.map_append, -List.drop_one]
      refine V_seq (V_block (V_seq (V_W mix T621_sound ?_)))
      simp (disch := first | omega | (simp [-List.map_take, -List.map_drop, -List.map_set, -List.map_append, -List.drop_one] <;> omega) | fail) [-List.map_take, -List.map_drop, -List.map_set, -List.map_append, -List.drop_one, hg]
      refine V_mk (fun id => decide (id ≤ 1)) ?_
      simp (disch := first | omega | (simp [-List.map_take, -List.map_drop, -List.map_set, -List.map_append, -List.drop_one] <;> omega) | fail) [-List.map_take, -List.map_drop, -List.map_set, -List.map_append, -List.drop_one]
      refine V_W mix T621_sound ?_
      cases hh : e.holds with
      | true =>
        rw [if_pos hh] at hR
        subst hR
        simp (disch := first | omega | (simp [-List.map_take, -List.map_drop, -List.map_set, -List.map_append, -List.drop_one] <;> omega) | fail) [-List.map_take, -List.map_drop, -List.map_set, -List.map_append, -List.drop_one, T621_f, T621_e, c1, c2, hh]
      | false =>
        rw [if_neg (by rw [hh]; simp)] at hR
        simp (disch := first | omega | (simp [-List.map_take, -List.map_drop, -List.map_set, -List.map_append, -List.drop_one] <;> omega) | fail) [-List.map_take, -List.map_drop, -List.map_set, -List.map_append, -List.drop_one, T621_f, T621_e, c1, c2, hh, st_miss]
        refine V_W mix T621_sound ?_
        simp (disch := first | omega | (simp [-List.map_take, -List.map_drop, -List.map_set, -List.map_append, -List.drop_one] <;> omega) | fail) [-List.map_take, -List.map_drop, -List.map_set, -List.map_append, -List.drop_one]
        exact ⟨⟨j + 1, min m e.missing⟩, weak_drop (tail := [.dead, .cells (suC e)]) (by simp (disch := first | omega | (simp [-List.map_take, -List.map_drop, -List.map_set, -List.map_append, -List.drop_one] <;> omega) | fail) [-List.map_take, -List.map_drop, -List.map_set, -List.map_append, -List.drop_one, S621, a73S1]) (by simp (disch := first | omega | (simp [-List.map_take, -List.map_drop, -List.map_set, -List.map_append, -List.drop_one] <;> omega) | fail) [-List.map_take, -List.map_drop, -List.map_set, -List.map_append, -List.drop_one, S621, a73S1, lackS]) (by simp) (by simp (disch := first | omega | (simp [-List.map_take, -List.map_drop, -List.map_set, -List.map_append, -List.drop_one] <;> omega) | fail) [-List.map_take, -List.map_drop, -List.map_set, -List.map_append, -List.drop_one, S621, a73S1, belowL, Am.below]) (by simp (disch := first | omega | (simp [-List.map_take, -List.map_drop, -List.map_set, -List.map_append, -List.drop_one] <;> omega) | fail) [-List.map_take, -List.map_drop, -List.map_set, -List.map_append, -List.drop_one, S621, a73S1, belowH, belowL, Am.below, su0, all_dgC, belowL_pure _ _ (fm_pure pure_dgC _), fl]), by simp only; omega, by simp only; omega, hR⟩
    · have h' : ¬ (j : Int) < Y.l.length := by omega
      rw [List.drop_of_length_le (by omega)] at hR
      have hR : lackS m = R := hR
      refine V_seq (V_W mix T621_sound ?_)
      simp (disch := first | omega | (simp [-List.map_take, -List.map_drop, -List.map_set, -List.map_append, -List.drop_one] <;> omega) | fail) [-List.map_take, -List.map_drop, -List.map_set, -List.map_append, -List.drop_one, a73L1, a73S1, h, h']
      refine V_seq (V_W mix T621_sound ?_)
      simp (disch := first | omega | (simp [-List.map_take, -List.map_drop, -List.map_set, -List.map_append, -List.drop_one] <;> omega) | fail) [-List.map_take, -List.map_drop, -List.map_set, -List.map_append, -List.drop_one]
      refine V_W mix T621_sound ?_
      simp (disch := first | omega | (simp [-List.map_take, -List.map_drop, -List.map_set, -List.map_append, -List.drop_one] <;> omega) | fail) [-List.map_take, -List.map_drop, -List.map_set, -List.map_append, -List.drop_one, hR]

  · have q1 := lV_ne e
    have q2 := lH_ne (o := .cells (faC o)) e
    have q4 := hk
    have q3 : (ownN (tgS x.l)).dv 32 dgC = .sl false 32 (tgS x.l).length ((tgS x.l).flatMap dgC) := ownN_dv e (by omega)
    rw [q3] at c0
    have hp := fm_pure pure_dgC (tgS x.l)
    have hl := fm_len len_dgC (tgS x.l)
    have htk : ((tgS x.l).flatMap dgC).take ((tgS x.l).length * 32) = (tgS x.l).flatMap dgC := List.take_of_length_le (by omega)
    have hsn : ∀ H j, snapL H j ((tgS x.l).flatMap dgC) = some ((tgS x.l).flatMap dgC) := fun H j => snapL_clean hp
    simp (disch := first | omega | (simp [-List.map_take, -List.map_drop, -List.map_set, -List.map_append, -List.drop_one] <;> omega) | fail) [-List.map_take, -List.map_drop, -List.map_set, -List.map_append, -List.drop_one, a73L0, a73S0, h, h', q1, q2]
    refine V_seq (V_W mix T621_sound ?_)
    simp (disch := first | omega | (simp [-List.map_take, -List.map_drop, -List.map_set, -List.map_append, -List.drop_one] <;> omega) | fail) [-List.map_take, -List.map_drop, -List.map_set, -List.map_append, -List.drop_one, q1, q2, T621_l, cLack_eq]
    refine V_mk (fun id => decide (id = 0 ∨ id = 3)) ?_
    simp (disch := first | omega | (simp [-List.map_take, -List.map_drop, -List.map_set, -List.map_append, -List.drop_one] <;> omega) | fail) [-List.map_take, -List.map_drop, -List.map_set, -List.map_append, -List.drop_one, fl, hl, htk, hp]
    refine V_seq ?_

    refine V_seq (V_W mix T621_sound ?_)
    simp (disch := first | omega | (simp [-List.map_take, -List.map_drop, -List.map_set, -List.map_append, -List.drop_one] <;> omega) | fail) [-List.map_take, -List.map_drop, -List.map_set, -List.map_append, -List.drop_one, q1, q2, q4, hp, T621_s, c0]
    refine V_block (V_loop (S621 x n Y [.dead, .dead]) (fun a => Y.l.length - a.i) (fun a => a.i ≤ Y.l.length ∧ listGo x.l n (Y.l.drop a.i) a.m = R) ⟨0, n⟩ (weak_same (by simp (disch := first | omega | (simp [-List.map_take, -List.map_drop, -List.map_set, -List.map_append, -List.drop_one] <;> omega) | fail) [-List.map_take, -List.map_drop, -List.map_set, -List.map_append, -List.drop_one, S621, a73S1]) (by simp (disch := first | omega | (simp [-List.map_take, -List.map_drop, -List.map_set, -List.map_append, -List.drop_one] <;> omega) | fail) [-List.map_take, -List.map_drop, -List.map_set, -List.map_append, -List.drop_one, S621, a73S1])) ⟨by simp, by simpa using hR⟩ (fun a hi => ?_))
    obtain ⟨j, m⟩ := a
    obtain ⟨hj, hR⟩ := hi
    simp only at hj hR
    simp only [S621]
    by_cases h : j < Y.l.length
    · have h' : (j : Int) < Y.l.length := by omega
      have hg : ∀ H, idxSD H 32 (Y.dv 32 dgC) j = some (.ref (dgC Y.l[j])) := fun H => idxSD_dv len_dgC h
      obtain ⟨d, hd⟩ : ∃ d, Y.l[j] = d := ⟨_, rfl⟩
      rw [List.drop_eq_getElem_cons h, hd] at hR
      rw [hd] at hg
      have c1 : cFct [x.dv 71 faC, .int .i64 5, .fn (.func 111) [] [.ref (dgC d)]] = _ := cFct_eq (x := x) (k := 5) (s := .target d)
      have hfl := facts_len (l := x.l) (k := 5) (s := .target d)
      have hfe : (ownN (factsS x.l 5 (.target d))).l = factsS x.l 5 (.target d) := ownN_l (by omega)
      have c2 := cEn_eq (x := ownN (factsS x.l 5 (.target d))) (n := n) (by rw [hfe]; exact ok.e d)
      rw [hfe] at c2
      obtain ⟨e, he⟩ : ∃ e, enoughS (factsS x.l 5 (.target d)) n = e := ⟨_, rfl⟩
      unfold listGo at hR
      rw [he] at hR c2
      refine V_seq (V_W mix T621_sound ?_)
      simp (disch := first | omega | (simp [-List.map_take, -List.map_drop, -List.map_set, -List.map_append, -List.drop_one] <;> omega) | fail) [-List.map_take, -List.map_drop, -List.map_set, -List.map_append, -List.drop_one, a73L1, a73S1, h, h', hg]
      refine V_seq (V_W mix T621_sound ?_)
      simp (disch := first | omega | (simp [-List.map_take, -List.map_drop, -List.map_set, -List.map_append, -List.drop_one] <;> omega) | fail) [-List.map_take, -List.map_drop, -List.map_set, -List.map_append, -List.drop_one]
      refine V_seq (V_block (V_seq (V_W mix T621_sound ?_)))
      simp (disch := first | omega | (simp [-List.map_take, -List.map_drop, -List.map_set, -List.map_append, -List.drop_one] <;> omega) | fail) [-List.map_take, -List.map_drop, -List.map_set, -List.map_append, -List.drop_one, hg]
      refine V_mk (fun id => decide (id ≤ 3)) ?_
      simp (disch := first | omega | (simp [-List.map_take, -List.map_drop, -List.map_set, -List.map_append, -List.drop_one] <;> omega) | fail) [-List.map_take, -List.map_drop, -List.map_set, -List.map_append, -List.drop_one]
      refine V_W mix T621_sound ?_
      cases hh : e.holds with
      | true =>
        rw [if_pos hh] at hR
        subst hR
        simp (disch := first | omega | (simp [-List.map_take, -List.map_drop, -List.map_set, -List.map_append, -List.drop_one] <;> omega) | fail) [-List.map_take, -List.map_drop, -List.map_set, -List.map_append, -List.drop_one, T621_f, T621_e, c1, c2, hh]
      | false =>
        rw [if_neg (by rw [hh]; simp)] at hR
        simp (disch := first | omega | (simp [-List.map_take, -List.map_drop, -List.map_set, -List.map_append, -List.drop_one] <;> omega) | fail) [-List.map_take, -List.map_drop, -List.map_set, -List.map_append, -List.drop_one, T621_f, T621_e, c1, c2, hh, st_miss]
        refine V_W mix T621_sound ?_
        simp (disch := first | omega | (simp [-List.map_take, -List.map_drop, -List.map_set, -List.map_append, -List.drop_one] <;> omega) | fail) [-List.map_take, -List.map_drop, -List.map_set, -List.map_append, -List.drop_one]
        exact ⟨⟨j + 1, min m e.missing⟩, weak_drop (tail := [.dead, .cells (suC e)]) (by simp (disch := first | omega | (simp [-List.map_take, -List.map_drop, -List.map_set, -List.map_append, -List.drop_one] <;> omega) | fail) [-List.map_take, -List.map_drop, -List.map_set, -List.map_append, -List.drop_one, S621, a73S1]) (by simp (disch := first | omega | (simp [-List.map_take, -List.map_drop, -List.map_set, -List.map_append, -List.drop_one] <;> omega) | fail) [-List.map_take, -List.map_drop, -List.map_set, -List.map_append, -List.drop_one, S621, a73S1, lackS]) (by simp) (by simp (disch := first | omega | (simp [-List.map_take, -List.map_drop, -List.map_set, -List.map_append, -List.drop_one] <;> omega) | fail) [-List.map_take, -List.map_drop, -List.map_set, -List.map_append, -List.drop_one, S621, a73S1, belowL, Am.below]) (by simp (disch := first | omega | (simp [-List.map_take, -List.map_drop, -List.map_set, -List.map_append, -List.drop_one] <;> omega) | fail) [-List.map_take, -List.map_drop, -List.map_set, -List.map_append, -List.drop_one, S621, a73S1, belowH, belowL, Am.below, su0, all_dgC, belowL_pure _ _ (fm_pure pure_dgC _), fl]), by simp only; omega, by simp only; omega, hR⟩
    · have h' : ¬ (j : Int) < Y.l.length := by omega
      rw [List.drop_of_length_le (by omega)] at hR
      have hR : lackS m = R := hR
      refine V_seq (V_W mix T621_sound ?_)
      simp (disch := first | omega | (simp [-List.map_take, -List.map_drop, -List.map_set, -List.map_append, -List.drop_one] <;> omega) | fail) [-List.map_take, -List.map_drop, -List.map_set, -List.map_append, -List.drop_one, a73L1, a73S1, h, h']
      refine V_seq (V_W mix T621_sound ?_)
      simp (disch := first | omega | (simp [-List.map_take, -List.map_drop, -List.map_set, -List.map_append, -List.drop_one] <;> omega) | fail) [-List.map_take, -List.map_drop, -List.map_set, -List.map_append, -List.drop_one]
      refine V_W mix T621_sound ?_
      simp (disch := first | omega | (simp [-List.map_take, -List.map_drop, -List.map_set, -List.map_append, -List.drop_one] <;> omega) | fail) [-List.map_take, -List.map_drop, -List.map_set, -List.map_append, -List.drop_one, hR]
noncomputable def cList : List DV → Option DV := con (fun a : Sl Fct × Int => ListOK a.1.l a.2) (fun a => [a.1.dv 71 faC, .int .i64 a.2]) (fun a => .agg (suC (listedS a.1.l a.2)))
theorem cList_eq {x : Sl Fct} {n : Int} (h : ListOK x.l n) : cList [x.dv 71 faC, .int .i64 n] = some (.agg (suC (listedS x.l n))) :=
  con_eq (A := fun a : Sl Fct × Int => ListOK a.1.l a.2) (f := fun a : Sl Fct × Int => [a.1.dv 71 faC, .int .i64 a.2]) (g := fun a => .agg (suC (listedS a.1.l a.2))) (by
    rintro ⟨a, b⟩ ⟨c, d⟩ e
    simp only [List.cons.injEq, DV.int.injEq, and_true, true_and] at e
    rw [fas_inj e.1, e.2]) (x, n) h
theorem list_sound : (Con.pure cList).Sound P 73 := con_sound fun a h => sem_runsV Tryz.func73 a73_ok (runs_listed a.1 a.2 h)
end Go.Proofs.YtdnhbfmlklaldaaGreat
set_option linter.unusedSimpArgs false
set_option linter.unusedVariables false
namespace Go.Proofs.YtdnhbfmlklaldaaGreat
open Go Go.Am
structure CkOK (c : Cas) (all : List Fct) (o : Org) (q : Req) : Prop where
  e1 : q.kind = 1 → EnOK (factsS c.f.l 1 (.same o)) q.n
  e3 : q.kind = 3 → EnOK (factsS c.f.l 3 (.source o)) q.n
  e4 : q.kind = 4 → RbOK (factsS c.f.l 4 (.source o)) (factsS all 4 (.source o)) q
  e5 : q.kind = 5 → ListOK (factsS c.f.l 5 .every) q.n
  d : ∀ f ∈ c.f.l, f.docs.l.length ≤ 12
  e6 : q.kind = 6 → InOK c.f.l (decS c.n.l q.n)
  s : SmN c.n.l
  dd : c.d.l.length ≤ 1000000
  f : c.f.l.length ≤ 1000000
  a : all.length ≤ 1000000
noncomputable def T630 : Tbl := addT 68 (.pure cFct) (addT 69 (.pure cEn) (addT 70 (.pure cOne) (addT 72 (.pure cRbt) (addT 73 (.pure cList) (addT 74 (.pure cInsp) (addT 75 (.pure (cFnI (fun l => l.length ≤ 1000000) gOpn)) (addT 48 (.pure (cFnI SmN gDec)) (addT 78 (.pure cCon) tbl0))))))))
theorem T630_f : T630 68 = .pure cFct := by simp [T630]
theorem T630_e : T630 69 = .pure cEn := by simp [T630]
theorem T630_o : T630 70 = .pure cOne := by simp [T630]
theorem T630_r : T630 72 = .pure cRbt := by simp [T630]
theorem T630_l : T630 73 = .pure cList := by simp [T630]
theorem T630_i : T630 74 = .pure cInsp := by simp [T630]
theorem T630_n : T630 75 = .pure (cFnI (fun l => l.length ≤ 1000000) gOpn) := by simp [T630]
theorem T630_d : T630 48 = .pure (cFnI SmN gDec) := by simp [T630]
theorem T630_c : T630 78 = .pure cCon := by simp [T630]
theorem T630_sound : T630.Sound P := addT_sound facts_sound (addT_sound en_sound (addT_sound one_sound (addT_sound rbt_sound (addT_sound list_sound (addT_sound insp_sound (addT_sound opn_sound (addT_sound dec_sound (addT_sound con_c_sound tbl0_sound))))))))
theorem facts_l {l : List Fct} {k : Int} {s : Sel} (h : l.length ≤ 1000000) : (ownN (factsS l k s)).l = factsS l k s := ownN_l (by have := facts_len (l := l) (k := k) (s := s); omega)
set_option maxRecDepth 20000 in
theorem runs_check (c : Cas) (o : Org) (q : Req) (all : Sl Fct) (ok : CkOK c all.l o q) : V P 0 a42.code (retK a42.res (.agg (suC (checkS c c.f.l all.l o q)))) ⟨startT a42.ntmps [.agg (caC c), .agg (orC o), .agg (rqC q), all.dv 71 faC], []⟩ := by
  refine V_seq (V_W mix T630_sound ?_)
  simp (disch := first | omega | (simp [-List.map_take, -List.map_drop, -List.map_set, -List.map_append, -List.drop_one] <;> omega) | fail) [-List.map_take, -List.map_drop, -List.map_set, -List.map_append, -List.drop_one, a42]
  refine V_seq (V_W mix T630_sound ?_)
  simp (disch := first | omega | (simp [-List.map_take, -List.map_drop, -List.map_set, -List.map_append, -List.drop_one] <;> omega) | fail) [-List.map_take, -List.map_drop, -List.map_set, -List.map_append, -List.drop_one]
  refine V_seq (V_W mix T630_sound ?_)
  simp (disch := first | omega | (simp [-List.map_take, -List.map_drop, -List.map_set, -List.map_append, -List.drop_one] <;> omega) | fail) [-List.map_take, -List.map_drop, -List.map_set, -List.map_append, -List.drop_one]
  refine V_mk (fun id => decide (id = 3)) ?_
  simp (disch := first | omega | (simp [-List.map_take, -List.map_drop, -List.map_set, -List.map_append, -List.drop_one] <;> omega) | fail) [-List.map_take, -List.map_drop, -List.map_set, -List.map_append, -List.drop_one]
  refine V_W mix T630_sound ?_
  have hf := ok.f
  have ha := ok.a
  have c5 := cFct_eq (x := c.f) (k := 5) (s := .every)
  have l5 := facts_l (k := 5) (s := .every) hf
  simp only [Sel.dv, Sel.fid, Sel.cap] at c5
  by_cases e1 : q.kind = 1
  · have k1 := cFct_eq (x := c.f) (k := 1) (s := .same o)
    have k2 := cEn_eq (x := ownN (factsS c.f.l 1 (.same o))) (n := q.n) (by rw [facts_l hf]; exact ok.e1 e1)
    rw [facts_l hf] at k2
    simp only [Sel.dv, Sel.fid, Sel.cap] at k1
    have hr : checkS c c.f.l all.l o q = enoughS (factsS c.f.l 1 (.same o)) q.n := by unfold checkS; rw [if_pos e1]
    simp (disch := first | omega | (simp [-List.map_take, -List.map_drop, -List.map_set, -List.map_append, -List.drop_one] <;> omega) | fail) [-List.map_take, -List.map_drop, -List.map_set, -List.map_append, -List.drop_one, T630_f, T630_e, c5, k1, k2, e1, hr]
  by_cases e2 : q.kind = 2
  · have k1 := cFct_eq (x := c.f) (k := 2) (s := .chained o q)
    have k2 := cOne_eq (x := ownN (factsS c.f.l 2 (.chained o q))) (by rw [facts_l hf]; exact fun f h => ok.d f (facts_mem.1 h).1)
    rw [facts_l hf] at k2
    simp only [Sel.dv, Sel.fid, Sel.cap, smF] at k1
    have hr : checkS c c.f.l all.l o q = oneS (factsS c.f.l 2 (.chained o q)) := by unfold checkS; rw [if_neg e1, if_pos e2]
    simp (disch := first | omega | (simp [-List.map_take, -List.map_drop, -List.map_set, -List.map_append, -List.drop_one] <;> omega) | fail) [-List.map_take, -List.map_drop, -List.map_set, -List.map_append, -List.drop_one, T630_f, T630_o, c5, k1, k2, e1, e2, hr]
  by_cases e3 : q.kind = 3
  · have k1 := cFct_eq (x := c.f) (k := 3) (s := .source o)
    have k2 := cEn_eq (x := ownN (factsS c.f.l 3 (.source o))) (n := q.n) (by rw [facts_l hf]; exact ok.e3 e3)
    rw [facts_l hf] at k2
    simp only [Sel.dv, Sel.fid, Sel.cap] at k1
    have hr : checkS c c.f.l all.l o q = enoughS (factsS c.f.l 3 (.source o)) q.n := by unfold checkS; rw [if_neg e1, if_neg e2, if_pos e3]
    simp (disch := first | omega | (simp [-List.map_take, -List.map_drop, -List.map_set, -List.map_append, -List.drop_one] <;> omega) | fail) [-List.map_take, -List.map_drop, -List.map_set, -List.map_append, -List.drop_one, T630_f, T630_e, c5, k1, k2, e1, e2, e3, hr]
  by_cases e4 : q.kind = 4
  · have k1 := cFct_eq (x := c.f) (k := 4) (s := .source o)
    have k3 := cFct_eq (x := all) (k := 4) (s := .source o)
    have k2 := cRbt_eq (x := ownN (factsS c.f.l 4 (.source o))) (y := ownN (factsS all.l 4 (.source o))) (q := q) (by rw [facts_l hf, facts_l ha]; exact ok.e4 e4)
    rw [facts_l hf, facts_l ha] at k2
    simp only [Sel.dv, Sel.fid, Sel.cap] at k1 k3
    have hr : checkS c c.f.l all.l o q = rebuiltS (factsS c.f.l 4 (.source o)) (factsS all.l 4 (.source o)) q := by unfold checkS; rw [if_neg e1, if_neg e2, if_neg e3, if_pos e4]
    simp (disch := first | omega | (simp [-List.map_take, -List.map_drop, -List.map_set, -List.map_append, -List.drop_one] <;> omega) | fail) [-List.map_take, -List.map_drop, -List.map_set, -List.map_append, -List.drop_one, T630_f, T630_r, c5, k1, k2, k3, e1, e2, e3, e4, hr]
  by_cases e5 : q.kind = 5
  · have k2 := cList_eq (x := ownN (factsS c.f.l 5 .every)) (n := q.n) (by rw [l5]; exact ok.e5 e5)
    rw [l5] at k2
    have hr : checkS c c.f.l all.l o q = listedS (factsS c.f.l 5 .every) q.n := by unfold checkS; rw [if_neg e1, if_neg e2, if_neg e3, if_neg e4, if_pos e5]
    simp (disch := first | omega | (simp [-List.map_take, -List.map_drop, -List.map_set, -List.map_append, -List.drop_one] <;> omega) | fail) [-List.map_take, -List.map_drop, -List.map_set, -List.map_append, -List.drop_one, T630_f, T630_l, c5, k2, e1, e2, e3, e4, e5, hr]
  have inok : ∀ {y}, InOK c.f.l y → InOK (factsS c.f.l 5 .every) y := fun h f hf => h f (facts_mem.1 hf).1
  by_cases e6 : q.kind = 6
  · have hd := dec_len (s := q.n) ok.s.n ok.s.d
    have ho : (opL c.n.l q.n).length = (openL c.n.l q.n).length := List.length_map ..
    have hol : (openL c.n.l q.n).length ≤ c.n.l.length := List.length_filter_le _ _
    have hn := ok.s.n
    have k1 : cFnI (fun l => l.length ≤ 1000000) gOpn [c.n.dv 39 fnC, .int .i64 q.n] = some ((ownN (opL c.n.l q.n)).dv 39 fnC) := cFnI_eq (A := fun l => l.length ≤ 1000000) (g := gOpn) (x := c.n) (s := q.n) (by show _ ≤ _; omega)
    have k3 : cFnI SmN gDec [c.n.dv 39 fnC, .int .i64 q.n] = some ((ownN (decS c.n.l q.n)).dv 32 dgC) := cFnI_eq (g := gDec) (x := c.n) (s := q.n) ok.s
    have hl : ∀ H, lenD H ((ownN (opL c.n.l q.n)).dv 39 fnC) = some (.int .i64 (openL c.n.l q.n).length) := fun H => by rw [lenD_dv, ownN_l (by omega), ho]
    have hdl : (ownN (decS c.n.l q.n)).l = decS c.n.l q.n := ownN_l (by omega)
    have k2 := cInsp_eq (x := ownN (factsS c.f.l 5 .every)) (n := (openL c.n.l q.n).length) (y := ownN (decS c.n.l q.n)) (by rw [l5, hdl]; exact inok (ok.e6 e6))
    rw [l5, hdl] at k2
    have hr : checkS c c.f.l all.l o q = inspS (factsS c.f.l 5 .every) (openL c.n.l q.n).length (decS c.n.l q.n) := by unfold checkS; rw [if_neg e1, if_neg e2, if_neg e3, if_neg e4, if_neg e5, if_pos e6]
    simp (disch := first | omega | (simp [-List.map_take, -List.map_drop, -List.map_set, -List.map_append, -List.drop_one] <;> omega) | fail) [-List.map_take, -List.map_drop, -List.map_set, -List.map_append, -List.drop_one, T630_f, T630_n, T630_d, T630_i, c5, k1, k2, k3, hl, e1, e2, e3, e4, e5, e6, hr]
  by_cases e7 : q.kind = 7
  · have k1 := cFct_eq (x := c.f) (k := 1) (s := .fresh o c q)
    have k2 := cOne_eq (x := ownN (factsS c.f.l 1 (.fresh o c q))) (by rw [facts_l hf]; exact fun f h => ok.d f (facts_mem.1 h).1)
    rw [facts_l hf] at k2
    simp only [Sel.dv, Sel.fid, Sel.cap, smF] at k1
    have hr : checkS c c.f.l all.l o q = oneS (factsS c.f.l 1 (.fresh o c q)) := by unfold checkS; rw [if_neg e1, if_neg e2, if_neg e3, if_neg e4, if_neg e5, if_neg e6, if_pos e7]
    simp (disch := first | omega | (simp [-List.map_take, -List.map_drop, -List.map_set, -List.map_append, -List.drop_one] <;> omega) | fail) [-List.map_take, -List.map_drop, -List.map_set, -List.map_append, -List.drop_one, T630_f, T630_o, c5, k1, k2, e1, e2, e3, e4, e5, e6, e7, hr]
  · have hn := ok.s.n
    have hdd := ok.dd
    have hc := cont_le (l := c.n.l) (i := c.n.l.length)
    rw [List.take_length] at hc
    have hw : IntKind.i64.wrap (contS c.n.l + (c.d.l.length : Int)) = contS c.n.l + c.d.l.length := by rw [IntKind.wrap_i64]; omega
    have hl : ∀ H, lenD H (c.d.dv 1 stC) = some (.int .i64 c.d.l.length) := fun H => lenD_dv
    have k2 := cInsp_eq (x := ownN (factsS c.f.l 5 .every)) (n := contS c.n.l + c.d.l.length) (y := nilS) (by rw [l5]; exact inok fun f hf => by have := ok.d f hf; simpa [nilS_l] using this)
    rw [l5] at k2
    have hnil : (nilS : Sl Dg).dv 32 dgC = .nils := rfl
    rw [hnil, nilS_l] at k2
    have hr : checkS c c.f.l all.l o q = inspS (factsS c.f.l 5 .every) (contS c.n.l + c.d.l.length) [] := by unfold checkS; rw [if_neg e1, if_neg e2, if_neg e3, if_neg e4, if_neg e5, if_neg e6, if_neg e7]
    simp (disch := first | omega | (simp [-List.map_take, -List.map_drop, -List.map_set, -List.map_append, -List.drop_one] <;> omega) | fail) [-List.map_take, -List.map_drop, -List.map_set, -List.map_append, -List.drop_one, T630_f, T630_c, T630_i, c5, cCon_eq, k2, hl, hw, e1, e2, e3, e4, e5, e6, e7, hr]
end Go.Proofs.YtdnhbfmlklaldaaGreat
set_option linter.unusedSimpArgs false
set_option linter.unusedVariables false
namespace Go.Proofs.YtdnhbfmlklaldaaGreat
open Go Go.Am
noncomputable def cChk : List DV → Option DV := con (fun a : Cas × Org × Req × Sl Fct => CkOK a.1 a.2.2.2.l a.2.1 a.2.2.1) (fun a => [.agg (caC a.1), .agg (orC a.2.1), .agg (rqC a.2.2.1), a.2.2.2.dv 71 faC]) (fun a => .agg (suC (checkS a.1 a.1.f.l a.2.2.2.l a.2.1 a.2.2.1)))
theorem cChk_eq {c : Cas} {o : Org} {q : Req} {all : Sl Fct} (h : CkOK c all.l o q) : cChk [.agg (caC c), .agg (orC o), .agg (rqC q), all.dv 71 faC] = some (.agg (suC (checkS c c.f.l all.l o q))) :=
  con_eq (A := fun a : Cas × Org × Req × Sl Fct => CkOK a.1 a.2.2.2.l a.2.1 a.2.2.1) (f := fun a : Cas × Org × Req × Sl Fct => [.agg (caC a.1), .agg (orC a.2.1), .agg (rqC a.2.2.1), a.2.2.2.dv 71 faC]) (g := fun a => .agg (suC (checkS a.1 a.1.f.l a.2.2.2.l a.2.1 a.2.2.1))) (by
    rintro ⟨a, b, c, d⟩ ⟨a', b', c', d'⟩ e
    simp only [List.cons.injEq, DV.agg.injEq, and_true] at e
    rw [caC_inj e.1, orC_inj e.2.1, rqC_inj e.2.2.1, fas_inj e.2.2.2]) (c, o, q, all) h
theorem chk_sound : (Con.pure cChk).Sound P 42 := con_sound fun a h => sem_runsV Tryz.func42 a42_ok (runs_check a.1 a.2.1 a.2.2.1 a.2.2.2 h)
noncomputable def T631 : Tbl := addT 41 (.pure cReq) (addT 42 (.pure cChk) tbl0)
theorem T631_v : T631 41 = .pure cReq := by simp [T631]
theorem T631_c : T631 42 = .pure cChk := by simp [T631]
theorem T631_sound : T631.Sound P := addT_sound val_sound (addT_sound chk_sound tbl0_sound)
theorem runs_Check (c : Cas) (o : Org) (q : Req) (ok : reqB q = true → CkOK c c.f.l o q) : Runs T631 a20 [.agg (caC c), .agg (orC o), .agg (rqC q)] (.agg (suC (CheckS c o q))) := by
  refine ⟨?_⟩
  cases hq : reqB q with
  | false =>
    have hr : CheckS c o q = supZ := by unfold CheckS; rw [hq]; rfl
    have e : buildD [.bool false, .nils, .int .i64 0] [] = some (.agg (suC supZ)) := rfl
    simp (disch := first | omega | (simp [-List.map_take, -List.map_drop, -List.map_set, -List.map_append, -List.drop_one] <;> omega) | fail) [-List.map_take, -List.map_drop, -List.map_set, -List.map_append, -List.drop_one, a20, T631_v, cReq_eq, hq, hr, e]
  | true =>
    have hr : CheckS c o q = checkS c c.f.l c.f.l o q := by unfold CheckS; rw [hq]; rfl
    have k := cChk_eq (ok hq)
    simp (disch := first | omega | (simp [-List.map_take, -List.map_drop, -List.map_set, -List.map_append, -List.drop_one] <;> omega) | fail) [-List.map_take, -List.map_drop, -List.map_set, -List.map_append, -List.drop_one, a20, T631_v, T631_c, cReq_eq, hq, hr, k]
noncomputable def cChe : List DV → Option DV := con (fun a : Cas × Org × Req => reqB a.2.2 = true → CkOK a.1 a.1.f.l a.2.1 a.2.2) (fun a => [.agg (caC a.1), .agg (orC a.2.1), .agg (rqC a.2.2)]) (fun a => .agg (suC (CheckS a.1 a.2.1 a.2.2)))
theorem cChe_eq {c : Cas} {o : Org} {q : Req} (h : reqB q = true → CkOK c c.f.l o q) : cChe [.agg (caC c), .agg (orC o), .agg (rqC q)] = some (.agg (suC (CheckS c o q))) :=
  con_eq (A := fun a : Cas × Org × Req => reqB a.2.2 = true → CkOK a.1 a.1.f.l a.2.1 a.2.2) (f := fun a : Cas × Org × Req => [.agg (caC a.1), .agg (orC a.2.1), .agg (rqC a.2.2)]) (g := fun a => .agg (suC (CheckS a.1 a.2.1 a.2.2))) (by
    rintro ⟨a, b, c⟩ ⟨a', b', c'⟩ e
    simp only [List.cons.injEq, DV.agg.injEq, and_true] at e
    rw [caC_inj e.1, orC_inj e.2.1, rqC_inj e.2.2]) (c, o, q) h
theorem che_sound : (Con.pure cChe).Sound P 20 := con_sound fun a h => sem_runs mix T631_sound Tryz.func20 a20_ok (runs_Check a.1 a.2.1 a.2.2 h)
noncomputable def T632 : Tbl := addT 41 (.pure cReq) (addT 42 (.pure cChk) (addT 48 (.pure (cFnI SmN gDec)) (addT 47 (.pure cCf) (addT 50 (.new cNF) (addT 49 (.heap cDelF) tbl0)))))
theorem T632_v : T632 41 = .pure cReq := by simp [T632]
theorem T632_c : T632 42 = .pure cChk := by simp [T632]
theorem T632_d : T632 48 = .pure (cFnI SmN gDec) := by simp [T632]
theorem T632_f : T632 47 = .pure cCf := by simp [T632]
theorem T632_n : T632 50 = .new cNF := by simp [T632]
theorem T632_x : T632 49 = .heap cDelF := by simp [T632]
theorem T632_sound : T632.Sound P := addT_sound val_sound (addT_sound chk_sound (addT_sound dec_sound (addT_sound cf_sound (addT_sound cloneF_sound (addT_sound delF_sound tbl0_sound)))))
def leftS (c : Cas) (docs : List Dg) : List Fct := c.f.l.filter fun f => subB f.docs.l docs
def leftF (c : Cas) (docs : List Dg) : Sl Fct := if c.f.l = [] then c.f.clone else ⟨some false, leftS c docs, fun e => by simp at e, by have := c.f.b; have := List.length_filter_le (fun f : Fct => subB f.docs.l docs) c.f.l; unfold leftS; omega⟩
theorem leftF_l {c : Cas} {docs : List Dg} : (leftF c docs).l = leftS c docs := by
  unfold leftF
  split
  · rename_i e; unfold leftS; rw [e]; exact e
  · rfl
def leftC (c : Cas) (docs : List Dg) : Cas := { c with f := leftF c docs }
theorem check_c {c c' : Cas} {fs all : List Fct} {o : Org} {q : Req} (h1 : c'.at_ = c.at_) (h2 : c'.n = c.n) (h3 : c'.d = c.d) : checkS c' fs all o q = checkS c fs all o q := by
  unfold checkS
  rw [h2, h3]
  have : factsS fs 1 (.fresh o c' q) = factsS fs 1 (.fresh o c q) := by unfold factsS Sel.p; simp only [h1]
  rw [this]
structure ByOK (c : Cas) (o : Org) (q : Req) (docs : List Dg) : Prop where
  k : CkOK (leftC c docs) c.f.l o q
  s : SmN c.n.l
  f : c.f.l.length ≤ 1000000
theorem ca_sp {c : Cas} {v : DV} : splice (caC c) 33 [v] = dgC c.art ++ [.int .i64 c.at_, v, c.n.dv 39 fnC, c.d.dv 1 stC] := by
  unfold splice
  rw [show (caC c).take 33 = dgC c.art ++ [.int .i64 c.at_] from ?_, show (caC c).drop (33 + [v].length) = [c.n.dv 39 fnC, c.d.dv 1 stC] from ?_]
  · simp
  · show (caC c).drop 34 = _
    rw [show (34 : Nat) = 32 + 2 from rfl, ← List.drop_drop, ca_32]; rfl
  · rw [caC, List.take_append, List.take_of_length_le (by rw [len_dgC]; decide), len_dgC]; rfl
theorem ca_f {c : Cas} {y : Sl Fct} : dgC c.art ++ [.int .i64 c.at_, y.dv 71 faC, c.n.dv 39 fnC, c.d.dv 1 stC] = caC { c with f := y } := rfl
theorem mkL_app {K : Nat → Bool} {h : List AObj} : ∀ {a b : List DV}, mkL K h (a ++ b) = mkL K h a ++ mkL K h b
  | [], b => rfl
  | d :: r, b => by rw [List.cons_append, mkL, mkL, mkL_app, List.cons_append]
theorem boxD_dv {α : Type} {h : List AObj} {s : Nat} {f : α → List DV} {x : Sl α} : boxD h (x.dv s f) = some (.mp h.length 1 0, h ++ [.cells [x.dv s f]]) := by
  unfold boxD; rw [dv_known, if_pos rfl, dv_cells]; rfl
attribute [simp] boxD_dv
theorem pure_fd {x : Sl Dg} : pureD (x.dv 32 dgC) = true := pure_dv32 x
theorem fzS_32 {K : Nat → Bool} {h : List AObj} {k : Nat} {x : Sl Dg} : fzS K h k (x.dv 32 dgC) = some (x.dv 32 dgC) := fzS_clean (pure_dv32 x)
attribute [simp] pure_fd fzS_32
def ByTail : ACode := match a22.code with
  | .seq _ (.seq _ (.seq _ y)) => y
  | _ => .skip
def fnM (docs : Sl Dg) : DV := .fn (.func 45) [] [.ref [docs.dv 32 dgC]]
def bySt (c : Cas) (o : Org) (q : Req) (docs : Sl Dg) : St := ⟨[.junk, .junk, .junk, .junk, .mp 0 36 0, .ref (orC o), .ref (rqC q), .ref [docs.dv 32 dgC], .bool false, .ref [fnM docs]] ++ js 32, [.cells (caC c), .dead, .dead, .dead, .dead]⟩
set_option maxRecDepth 20000 in
theorem by_tail (c : Cas) (o : Org) (q : Req) (docs : Sl Dg) (k1 : CkOK (leftC c docs.l) c.f.l o q) (k3 : c.f.l.length ≤ 1000000) : V P 0 ByTail (retK [.tmp 8] (.bool (checkS (leftC c docs.l) (leftC c docs.l).f.l c.f.l o q).holds)) (bySt c o q docs) := by
  have hk := cChk_eq k1
  obtain ⟨R, hR⟩ : ∃ R, checkS (leftC c docs.l) (leftC c docs.l).f.l c.f.l o q = R := ⟨_, rfl⟩
  rw [hR] at hk ⊢
  have hpM : pureL [DV.ref [fnM docs]] = true := by simp [fnM, pureL, pureD]
  have dok : DFOK ⟨[.cells (caC c), .dead, .dead, .dead, .dead], [.ref [fnM docs]], .out docs, c.f⟩ := ⟨fun X => snapL_clean hpM, belowL_pure _ _ hpM, by simp [belowH, belowL_pure _ _ (pure_caC c)], k3⟩
  have h0 := cNF_eq (x := c.f) (n := 5)
  have h1 := cDelF_eq dok
  simp only [List.length_cons, List.length_nil, Nat.zero_add, Fp.fid] at h1
  simp only [ByTail, a22, bySt]
  refine V_seq (V_W mix T632_sound ?_)
  simp (disch := first | omega | (simp [-List.map_take, -List.map_drop, -List.map_set, -List.map_append, -List.drop_one] <;> omega) | fail) [-List.map_take, -List.map_drop, -List.map_set, -List.map_append, -List.drop_one]
  refine V_seq (V_W mix T632_sound ?_)
  by_cases e : c.f.l = []
  · have hl : leftF c docs.l = c.f.clone := if_pos e
    rw [mutD_nil e, e, mo_nil] at h0
    rw [mutD_nil e, dlD, if_pos e, e, mo_nil, delO_nil, mo_nil, List.append_nil] at h1
    have hs : ∀ H : List AObj, storeO H 0 1 33 (c.f.clone.dv 71 faC) (some (caC c)) = some (.junk, H.set 0 (.cells (caC (leftC c docs.l)))) := fun H => by
      rw [storeO_1 (dv_cells _) (dv_one _) (by rw [len_caC]; decide), ca_sp, ca_f, leftC, hl]
    simp (disch := first | omega | (simp [-List.map_take, -List.map_drop, -List.map_set, -List.map_append, -List.drop_one] <;> omega) | fail) [-List.map_take, -List.map_drop, -List.map_set, -List.map_append, -List.drop_one, T632_n, T632_x, h0, h1, hs]
    refine V_mk (fun _ => false) ?_
    simp (disch := first | omega | (simp [-List.map_take, -List.map_drop, -List.map_set, -List.map_append, -List.drop_one] <;> omega) | fail) [-List.map_take, -List.map_drop, -List.map_set, -List.map_append, -List.drop_one]
    refine V_W mix T632_sound ?_
    simp (disch := first | omega | (simp [-List.map_take, -List.map_drop, -List.map_set, -List.map_append, -List.drop_one] <;> omega) | fail) [-List.map_take, -List.map_drop, -List.map_set, -List.map_append, -List.drop_one, T632_c, hk]
  · have hkp : kp (Fp.out docs).p c.f.l = leftS c docs.l := by
      unfold kp leftS
      congr 1
      funext f
      simp [Fp.p]
    have hl : (leftF c docs.l).dv 71 faC = .sl false 71 (leftS c docs.l).length ((leftS c docs.l).flatMap faC) := by
      unfold leftF; rw [if_neg e]; rfl
    have hd := delO_ne (p := (Fp.out docs).p) (z := fct0) e
    obtain ⟨D, hD⟩ : ∃ D, delO fct0 (Fp.out docs).p c.f.l = D := ⟨_, rfl⟩
    have hDl : D.length = c.f.l.length := by rw [← hD]; exact delO_len _ _
    have hDt : (fl faC D).take ((leftS c docs.l).length * 71) = (leftS c docs.l).flatMap faC := by rw [fl_take len_faC, ← hD, ← hkp, delO_take]
    rw [mutD_ne e, mo_ne e] at h0
    rw [mutD_ne e, dlD, if_neg e, mo_ne e, mo_ne hd, hD, hkp] at h1
    simp only [List.cons_append, List.nil_append] at h1
    obtain ⟨n, hn⟩ : ∃ n, c.f.l.length = n := ⟨_, rfl⟩
    rw [hn] at h0 h1 hDl
    have hfl : (fl faC D).length = n * 71 := by rw [fl_len len_faC, hDl]
    have hs : ∀ H : List AObj, storeO H 0 1 33 (.ms 5 (n * 71) 0 71 (leftS c docs.l).length (n * 71)) (some (caC c)) = some (.junk, H.set 0 (.cells (dgC c.art ++ [.int .i64 c.at_, .ms 5 (n * 71) 0 71 (leftS c docs.l).length (n * 71), c.n.dv 39 fnC, c.d.dv 1 stC]))) := fun H => by
      rw [storeO_1 rfl rfl (by rw [len_caC]; decide), ca_sp]
    have hca : dgC c.art ++ [.int .i64 c.at_, .sl false 71 (leftS c docs.l).length ((leftS c docs.l).flatMap faC), c.n.dv 39 fnC, c.d.dv 1 stC] = caC (leftC c docs.l) := by rw [← hl]; rfl
    have hp := fm_pure pure_faC (leftS c docs.l)
    have hpd := fun K H => mkL_clean (K := K) (h := H) (pure_dgC c.art)
    simp (disch := first | omega | (simp [-List.map_take, -List.map_drop, -List.map_set, -List.map_append, -List.drop_one] <;> omega) | fail) [-List.map_take, -List.map_drop, -List.map_set, -List.map_append, -List.drop_one, T632_n, T632_x, h0, h1, hs]
    refine V_mk (fun id => decide (id = 0)) ?_
    simp (disch := first | omega | (simp [-List.map_take, -List.map_drop, -List.map_set, -List.map_append, -List.drop_one] <;> omega) | fail) [-List.map_take, -List.map_drop, -List.map_set, -List.map_append, -List.drop_one, mkL_app, hpd, hfl, hDt, hp, hca]
    refine V_W mix T632_sound ?_
    simp (disch := first | omega | (simp [-List.map_take, -List.map_drop, -List.map_set, -List.map_append, -List.drop_one] <;> omega) | fail) [-List.map_take, -List.map_drop, -List.map_set, -List.map_append, -List.drop_one, T632_c, hk]
set_option maxRecDepth 20000 in
theorem runs_By (c : Cas) (o : Org) (q : Req) (docs : Sl Dg) (ok : reqB q = true → ByOK c o q docs.l) : V P 0 a22.code (retK a22.res (.bool (ByS c o q docs.l))) ⟨startT a22.ntmps [.agg (caC c), .agg (orC o), .agg (rqC q), docs.dv 32 dgC], []⟩ := by
  refine V_seq (V_W mix T632_sound ?_)
  simp (disch := first | omega | (simp [-List.map_take, -List.map_drop, -List.map_set, -List.map_append, -List.drop_one] <;> omega) | fail) [-List.map_take, -List.map_drop, -List.map_set, -List.map_append, -List.drop_one, a22]
  refine V_seq (V_W mix T632_sound ?_)
  simp (disch := first | omega | (simp [-List.map_take, -List.map_drop, -List.map_set, -List.map_append, -List.drop_one] <;> omega) | fail) [-List.map_take, -List.map_drop, -List.map_set, -List.map_append, -List.drop_one]
  refine V_mk (fun id => decide (id = 0)) ?_
  simp (disch := first | omega | (simp [-List.map_take, -List.map_drop, -List.map_set, -List.map_append, -List.drop_one] <;> omega) | fail) [-List.map_take, -List.map_drop, -List.map_set, -List.map_append, -List.drop_one]
  refine V_seq (V_W mix T632_sound ?_)
  cases hq : reqB q with
  | false =>
    have hr : ByS c o q docs.l = false := by unfold ByS; rw [hq]; rfl
    simp (disch := first | omega | (simp [-List.map_take, -List.map_drop, -List.map_set, -List.map_append, -List.drop_one] <;> omega) | fail) [-List.map_take, -List.map_drop, -List.map_set, -List.map_append, -List.drop_one, T632_v, cReq_eq, hq, hr]
  | true =>
  obtain ⟨k1, k2, k3⟩ := ok hq
  have k4 : cFnI SmN gDec [c.n.dv 39 fnC, .int .i64 q.n] = some ((ownN (decS c.n.l q.n)).dv 32 dgC) := cFnI_eq (g := gDec) (x := c.n) (s := q.n) k2
  have hdl : (ownN (decS c.n.l q.n)).l = decS c.n.l q.n := ownN_l (by have := dec_len (s := q.n) k2.n k2.d; omega)
  have k5 := cCf_eq (x := ownN (decS c.n.l q.n)) (q := docs)
  rw [hdl] at k5
  simp only [fMiss] at k5
  have hb : ByS c o q docs.l = ((!decide (q.kind = 6) || subB (decS c.n.l q.n) docs.l) && (checkS (leftC c docs.l) (leftC c docs.l).f.l c.f.l o q).holds) := by
    unfold ByS
    rw [hq, Bool.true_and, check_c (c' := leftC c docs.l) (c := c) rfl rfl rfl, show (leftC c docs.l).f.l = leftS c docs.l from leftF_l]
    rfl
  have tail := by_tail c o q docs k1 k3
  by_cases e6 : q.kind = 6
  · cases hs : subB (decS c.n.l q.n) docs.l with
    | false =>
      have hr : ByS c o q docs.l = false := by rw [hb, hs]; simp [e6]
      simp (disch := first | omega | (simp [-List.map_take, -List.map_drop, -List.map_set, -List.map_append, -List.drop_one] <;> omega) | fail) [-List.map_take, -List.map_drop, -List.map_set, -List.map_append, -List.drop_one, T632_v, T632_d, T632_f, cReq_eq, hq, e6, hs, k4, k5, hr]
    | true =>
      have hr : ByS c o q docs.l = (checkS (leftC c docs.l) (leftC c docs.l).f.l c.f.l o q).holds := by rw [hb, hs]; simp
      rw [hr]
      simp (disch := first | omega | (simp [-List.map_take, -List.map_drop, -List.map_set, -List.map_append, -List.drop_one] <;> omega) | fail) [-List.map_take, -List.map_drop, -List.map_set, -List.map_append, -List.drop_one, T632_v, T632_d, T632_f, cReq_eq, hq, e6, hs, k4, k5]
      exact V_weak (weak_same (by simp (disch := first | omega | (simp [-List.map_take, -List.map_drop, -List.map_set, -List.map_append, -List.drop_one] <;> omega) | fail) [-List.map_take, -List.map_drop, -List.map_set, -List.map_append, -List.drop_one, bySt, fnM]) rfl) tail
  · have hr : ByS c o q docs.l = (checkS (leftC c docs.l) (leftC c docs.l).f.l c.f.l o q).holds := by rw [hb]; simp [e6]
    rw [hr]
    simp (disch := first | omega | (simp [-List.map_take, -List.map_drop, -List.map_set, -List.map_append, -List.drop_one] <;> omega) | fail) [-List.map_take, -List.map_drop, -List.map_set, -List.map_append, -List.drop_one, T632_v, T632_d, T632_f, cReq_eq, hq, e6, k4, k5]
    exact V_weak (weak_same (by simp (disch := first | omega | (simp [-List.map_take, -List.map_drop, -List.map_set, -List.map_append, -List.drop_one] <;> omega) | fail) [-List.map_take, -List.map_drop, -List.map_set, -List.map_append, -List.drop_one, bySt, fnM]) rfl) tail
noncomputable def cBy : List DV → Option DV := con (fun a : Cas × Org × Req × Sl Dg => reqB a.2.2.1 = true → ByOK a.1 a.2.1 a.2.2.1 a.2.2.2.l) (fun a => [.agg (caC a.1), .agg (orC a.2.1), .agg (rqC a.2.2.1), a.2.2.2.dv 32 dgC]) (fun a => .bool (ByS a.1 a.2.1 a.2.2.1 a.2.2.2.l))
theorem cBy_eq {c : Cas} {o : Org} {q : Req} {docs : Sl Dg} (h : reqB q = true → ByOK c o q docs.l) : cBy [.agg (caC c), .agg (orC o), .agg (rqC q), docs.dv 32 dgC] = some (.bool (ByS c o q docs.l)) :=
  con_eq (A := fun a : Cas × Org × Req × Sl Dg => reqB a.2.2.1 = true → ByOK a.1 a.2.1 a.2.2.1 a.2.2.2.l) (f := fun a : Cas × Org × Req × Sl Dg => [.agg (caC a.1), .agg (orC a.2.1), .agg (rqC a.2.2.1), a.2.2.2.dv 32 dgC]) (g := fun a => .bool (ByS a.1 a.2.1 a.2.2.1 a.2.2.2.l)) (by
    rintro ⟨a, b, c, d⟩ ⟨a', b', c', d'⟩ e
    simp only [List.cons.injEq, DV.agg.injEq, and_true] at e
    rw [caC_inj e.1, orC_inj e.2.1, rqC_inj e.2.2.1, dgs_inj e.2.2.2]) (c, o, q, docs) h
theorem by_sound : (Con.pure cBy).Sound P 22 := con_sound fun a h => sem_runsV Tryz.func22 a22_ok (runs_By a.1 a.2.1 a.2.2.1 a.2.2.2 h)
end Go.Proofs.YtdnhbfmlklaldaaGreat
set_option linter.unusedSimpArgs false
set_option linter.unusedVariables false
namespace Go.Proofs.YtdnhbfmlklaldaaGreat
open Go Go.Am
def a14 : AFn where
  code := (.seq (.region false [⟨none, (some 0), .mov (.k (.bool false))⟩])
  (.seq (.region false [⟨none, (some 6), .build (rep 32 (w8 0#8)) [(0, 1, (.k (w8 1#8)))]⟩,
    ⟨none, (some 7), .build [(w8 0#8), (w8 0#8), (w8 0#8), (w8 0#8), (w8 0#8), (w8 0#8), (w8 0#8), (w8 0#8), (w8 0#8), (w8 0#8), (w8 0#8), (w8 0#8), (w8 0#8), (w8 0#8), (w8 0#8), (w8 0#8), (w8 0#8), (w8 0#8), (w8 0#8), (w8 0#8), (w8 0#8), (w8 0#8), (w8 0#8), (w8 0#8), (w8 0#8), (w8 0#8), (w8 0#8), (w8 0#8), (w8 0#8), (w8 0#8), (w8 0#8), (w8 0#8), (.str []), (.str [])] [(0, 32, (.t 6)), (32, 1, (.k (.str [108]))), (33, 1, (.k (.str [114])))]⟩,
    ⟨none, (some 1), .alloc [(w8 0#8), (w8 0#8), (w8 0#8), (w8 0#8), (w8 0#8), (w8 0#8), (w8 0#8), (w8 0#8), (w8 0#8), (w8 0#8), (w8 0#8), (w8 0#8), (w8 0#8), (w8 0#8), (w8 0#8), (w8 0#8), (w8 0#8), (w8 0#8), (w8 0#8), (w8 0#8), (w8 0#8), (w8 0#8), (w8 0#8), (w8 0#8), (w8 0#8), (w8 0#8), (w8 0#8), (w8 0#8), (w8 0#8), (w8 0#8), (w8 0#8), (w8 0#8), (.str []), (.str [])]⟩,
    ⟨none, none, .store 34 (.t 1) (.t 7)⟩])
  (.seq (.region false [⟨none, (some 8), .build (rep 32 (w8 0#8)) [(0, 1, (.k (w8 1#8)))]⟩,
    ⟨none, (some 9), .build (rep 32 (w8 0#8)) [(0, 1, (.k (w8 7#8)))]⟩,
    ⟨none, (some 10), .bsl 32 1 (rep 32 (w8 0#8)) [(0, 32, (.t 9))]⟩,
    ⟨none, (some 11), .build [(.int .i64 0), (.str []), (w8 0#8), (w8 0#8), (w8 0#8), (w8 0#8), (w8 0#8), (w8 0#8), (w8 0#8), (w8 0#8), (w8 0#8), (w8 0#8), (w8 0#8), (w8 0#8), (w8 0#8), (w8 0#8), (w8 0#8), (w8 0#8), (w8 0#8), (w8 0#8), (w8 0#8), (w8 0#8), (w8 0#8), (w8 0#8), (w8 0#8), (w8 0#8), (w8 0#8), (w8 0#8), (w8 0#8), (w8 0#8), (w8 0#8), (w8 0#8), (w8 0#8), (w8 0#8), (.str []), (.str []), (.int .i64 0), (.bool false), (w8 0#8), (w8 0#8), (w8 0#8), (w8 0#8), (w8 0#8), (w8 0#8), (w8 0#8), (w8 0#8), (w8 0#8), (w8 0#8), (w8 0#8), (w8 0#8), (w8 0#8), (w8 0#8), (w8 0#8), (w8 0#8), (w8 0#8), (w8 0#8), (w8 0#8), (w8 0#8), (w8 0#8), (w8 0#8), (w8 0#8), (w8 0#8), (w8 0#8), (w8 0#8), (w8 0#8), (w8 0#8), (w8 0#8), (w8 0#8), (w8 0#8), (w8 0#8), .nils] [(0, 1, (.k (.int .i64 1))), (1, 1, (.k (.str [98]))), (2, 32, (.t 8)), (34, 1, (.k (.str [108]))), (35, 1, (.k (.str [114]))), (36, 1, (.k (.int .i64 5))), (70, 1, (.t 10))]⟩,
    ⟨none, (some 12), .build (rep 32 (w8 0#8)) [(0, 1, (.k (w8 1#8)))]⟩,
    ⟨none, (some 13), .build (rep 32 (w8 0#8)) [(0, 1, (.k (w8 6#8)))]⟩,
    ⟨none, (some 14), .bsl 32 1 (rep 32 (w8 0#8)) [(0, 32, (.t 13))]⟩,
    ⟨none, (some 15), .build [(.int .i64 0), (.str []), (w8 0#8), (w8 0#8), (w8 0#8), (w8 0#8), (w8 0#8), (w8 0#8), (w8 0#8), (w8 0#8), (w8 0#8), (w8 0#8), (w8 0#8), (w8 0#8), (w8 0#8), (w8 0#8), (w8 0#8), (w8 0#8), (w8 0#8), (w8 0#8), (w8 0#8), (w8 0#8), (w8 0#8), (w8 0#8), (w8 0#8), (w8 0#8), (w8 0#8), (w8 0#8), (w8 0#8), (w8 0#8), (w8 0#8), (w8 0#8), (w8 0#8), (w8 0#8), (.str []), (.str []), (.int .i64 0), (.bool false), (w8 0#8), (w8 0#8), (w8 0#8), (w8 0#8), (w8 0#8), (w8 0#8), (w8 0#8), (w8 0#8), (w8 0#8), (w8 0#8), (w8 0#8), (w8 0#8), (w8 0#8), (w8 0#8), (w8 0#8), (w8 0#8), (w8 0#8), (w8 0#8), (w8 0#8), (w8 0#8), (w8 0#8), (w8 0#8), (w8 0#8), (w8 0#8), (w8 0#8), (w8 0#8), (w8 0#8), (w8 0#8), (w8 0#8), (w8 0#8), (w8 0#8), (w8 0#8), .nils] [(0, 1, (.k (.int .i64 1))), (1, 1, (.k (.str [97]))), (2, 32, (.t 12)), (34, 1, (.k (.str [108]))), (35, 1, (.k (.str [114]))), (36, 1, (.k (.int .i64 5))), (70, 1, (.t 14))]⟩,
    ⟨none, (some 16), .bsl 71 2 [(.int .i64 0), (.str []), (w8 0#8), (w8 0#8), (w8 0#8), (w8 0#8), (w8 0#8), (w8 0#8), (w8 0#8), (w8 0#8), (w8 0#8), (w8 0#8), (w8 0#8), (w8 0#8), (w8 0#8), (w8 0#8), (w8 0#8), (w8 0#8), (w8 0#8), (w8 0#8), (w8 0#8), (w8 0#8), (w8 0#8), (w8 0#8), (w8 0#8), (w8 0#8), (w8 0#8), (w8 0#8), (w8 0#8), (w8 0#8), (w8 0#8), (w8 0#8), (w8 0#8), (w8 0#8), (.str []), (.str []), (.int .i64 0), (.bool false), (w8 0#8), (w8 0#8), (w8 0#8), (w8 0#8), (w8 0#8), (w8 0#8), (w8 0#8), (w8 0#8), (w8 0#8), (w8 0#8), (w8 0#8), (w8 0#8), (w8 0#8), (w8 0#8), (w8 0#8), (w8 0#8), (w8 0#8), (w8 0#8), (w8 0#8), (w8 0#8), (w8 0#8), (w8 0#8), (w8 0#8), (w8 0#8), (w8 0#8), (w8 0#8), (w8 0#8), (w8 0#8), (w8 0#8), (w8 0#8), (w8 0#8), (w8 0#8), .nils] [(0, 71, (.t 11)), (71, 71, (.t 15))]⟩,
    ⟨none, (some 17), .build [(w8 0#8), (w8 0#8), (w8 0#8), (w8 0#8), (w8 0#8), (w8 0#8), (w8 0#8), (w8 0#8), (w8 0#8), (w8 0#8), (w8 0#8), (w8 0#8), (w8 0#8), (w8 0#8), (w8 0#8), (w8 0#8), (w8 0#8), (w8 0#8), (w8 0#8), (w8 0#8), (w8 0#8), (w8 0#8), (w8 0#8), (w8 0#8), (w8 0#8), (w8 0#8), (w8 0#8), (w8 0#8), (w8 0#8), (w8 0#8), (w8 0#8), (w8 0#8), (.int .i64 0), .nils, .nils, .nils] [(32, 1, (.k (.int .i64 9))), (33, 1, (.t 16))]⟩,
    ⟨none, (some 2), .alloc [(w8 0#8), (w8 0#8), (w8 0#8), (w8 0#8), (w8 0#8), (w8 0#8), (w8 0#8), (w8 0#8), (w8 0#8), (w8 0#8), (w8 0#8), (w8 0#8), (w8 0#8), (w8 0#8), (w8 0#8), (w8 0#8), (w8 0#8), (w8 0#8), (w8 0#8), (w8 0#8), (w8 0#8), (w8 0#8), (w8 0#8), (w8 0#8), (w8 0#8), (w8 0#8), (w8 0#8), (w8 0#8), (w8 0#8), (w8 0#8), (w8 0#8), (w8 0#8), (.int .i64 0), .nils, .nils, .nils]⟩,
    ⟨none, none, .store 36 (.t 2) (.t 17)⟩])
  (.seq (.region false [⟨none, (some 18), .load 36 true (.t 2)⟩,
    ⟨none, (some 19), .load 34 true (.t 1)⟩,
    ⟨none, (some 20), .build [(.int .i64 0), (.int .i64 0), (.int .i64 0), (.str [])] [(0, 1, (.k (.int .i64 1))), (1, 1, (.k (.int .i64 2)))]⟩,
    ⟨none, (some 21), .call (.k (.fn (.func 20) [] [])) [(.t 18), (.t 19), (.t 20)]⟩,
    ⟨none, (some 3), .alloc [(.bool false), .nils, (.int .i64 0)]⟩,
    ⟨none, none, .store 3 (.t 3) (.t 21)⟩])
  (.seq (.region false [⟨none, (some 22), .load 36 true (.t 2)⟩,
    ⟨none, (some 23), .load 34 true (.t 1)⟩,
    ⟨none, (some 24), .build [(.int .i64 0), (.int .i64 0), (.int .i64 0), (.str [])] [(0, 1, (.k (.int .i64 1))), (1, 1, (.k (.int .i64 3)))]⟩,
    ⟨none, (some 25), .call (.k (.fn (.func 20) [] [])) [(.t 22), (.t 23), (.t 24)]⟩,
    ⟨none, (some 4), .alloc [(.bool false), .nils, (.int .i64 0)]⟩,
    ⟨none, none, .store 3 (.t 4) (.t 25)⟩])
  (.seq (.region false [⟨none, (some 26), .load 36 true (.t 2)⟩,
    ⟨none, (some 27), .call (.k (.fn (.func 18) [] [])) [(.t 26)]⟩,
    ⟨none, (some 5), .mov (.t 27)⟩])
  (.seq (.region true [⟨none, (some 28), .fld 0 (.t 3)⟩,
    ⟨none, (some 29), .load 1 false (.t 28)⟩,
    ⟨none, (some 30), .mov (.t 29)⟩,
    ⟨(some (30, true)), (some 31), .fld 1 (.t 3)⟩,
    ⟨(some (30, true)), (some 32), .load 1 false (.t 31)⟩,
    ⟨(some (30, true)), (some 33), .len (.t 32)⟩,
    ⟨(some (30, true)), (some 34), .bin .eql (.t 33) (.k (.int .i64 2))⟩,
    ⟨none, (some 35), .pick (.t 30) (.t 34) (.k (.bool false))⟩,
    ⟨none, (some 36), .mov (.t 35)⟩,
    ⟨(some (36, true)), (some 37), .fld 0 (.t 4)⟩,
    ⟨(some (36, true)), (some 38), .load 1 false (.t 37)⟩,
    ⟨(some (36, true)), (some 39), .un .not (.t 38)⟩,
    ⟨none, (some 40), .pick (.t 36) (.t 39) (.k (.bool false))⟩,
    ⟨none, (some 41), .mov (.t 40)⟩,
    ⟨(some (41, true)), (some 42), .fld 2 (.t 4)⟩,
    ⟨(some (41, true)), (some 43), .load 1 false (.t 42)⟩,
    ⟨(some (41, true)), (some 44), .bin .eql (.t 43) (.k (.int .i64 1))⟩,
    ⟨none, (some 45), .pick (.t 41) (.t 44) (.k (.bool false))⟩,
    ⟨none, (some 46), .mov (.t 45)⟩,
    ⟨(some (46, true)), (some 47), .mov (.t 5)⟩,
    ⟨(some (46, true)), (some 48), .len (.t 47)⟩,
    ⟨(some (46, true)), (some 49), .bin .eql (.t 48) (.k (.int .i64 1))⟩,
    ⟨none, (some 50), .pick (.t 46) (.t 49) (.k (.bool false))⟩,
    ⟨none, (some 51), .mov (.t 50)⟩,
    ⟨(some (51, true)), (some 52), .mov (.t 5)⟩,
    ⟨(some (51, true)), (some 53), .idxS 34 (.t 52) (.k (.int .i64 0))⟩,
    ⟨(some (51, true)), (some 54), .load 34 true (.t 53)⟩,
    ⟨(some (51, true)), (some 55), .load 34 true (.t 1)⟩,
    ⟨(some (51, true)), (some 56), .eqa false [(32, 0), (2, 1)] (.t 54) (.t 55)⟩,
    ⟨none, (some 57), .pick (.t 51) (.t 56) (.k (.bool false))⟩,
    ⟨none, (some 58), .mov (.t 57)⟩,
    ⟨(some (58, true)), (some 59), .load 36 true (.t 2)⟩,
    ⟨(some (58, true)), (some 60), .load 34 true (.t 1)⟩,
    ⟨(some (58, true)), (some 61), .build [(.int .i64 0), (.int .i64 0), (.int .i64 0), (.str [])] [(0, 1, (.k (.int .i64 7))), (1, 1, (.k (.int .i64 4)))]⟩,
    ⟨(some (58, true)), (some 62), .build (rep 32 (w8 0#8)) [(0, 1, (.k (w8 6#8)))]⟩,
    ⟨(some (58, true)), (some 63), .bsl 32 1 (rep 32 (w8 0#8)) [(0, 32, (.t 62))]⟩,
    ⟨(some (58, true)), (some 64), .callN (.k (.fn (.func 22) [] [])) [(.t 59), (.t 60), (.t 61), (.t 63)]⟩,
    ⟨none, (some 65), .pick (.t 58) (.t 64) (.k (.bool false))⟩,
    ⟨none, (some 0), .mov (.t 65)⟩])
  .ret)))))))
  ntmps := 66
  res := [.tmp 0]
theorem a14_ok : compileFn P Tryz.f14 = some a14 := by kernel_rfl
def a36L0 : ACode :=
  (.seq (.region false [⟨none, (some 9), .bin .lss (.t 8) (.t 7)⟩])
  (.seq (.cond (.t 9) .skip
  (.exit 0))
  (.seq (.block 1 (.seq (.region false [⟨none, (some 10), .idxS 1 (.t 6) (.t 8)⟩,
    ⟨none, (some 11), .load 1 false (.t 10)⟩,
    ⟨none, (some 5), .mov (.t 11)⟩])
  (.seq (.region false [⟨none, (some 12), .mov (.t 5)⟩,
    ⟨none, (some 13), .mov (.t 3)⟩,
    ⟨none, (some 14), .bin .neq (.t 12) (.t 13)⟩])
  (.cond (.t 14) (.seq (.region false [⟨none, (some 15), .mov (.t 5)⟩,
    ⟨none, (some 2), .mov (.t 15)⟩])
  .ret)
  .skip))))
  (.region false [⟨none, (some 16), .bin .add (.t 8) (.k (.int .i64 1))⟩,
    ⟨none, (some 8), .mov (.t 16)⟩]))))
def a36S0 (x3 x6 x7 x8 : DV) (h : List AObj) : St := ⟨[.junk, .junk, .junk, x3, .junk, .junk, x6, x7, x8] ++ js 9, h⟩
def a36 : AFn where
  code := (.seq (.region false [⟨none, (some 2), .mov (.k (.int .i64 0))⟩])
  (.seq (.region false [⟨none, (some 3), .mov (.k (.int .i64 0))⟩])
  (.seq (.seq (.region false [⟨none, (some 6), .mov (.t 0)⟩,
    ⟨none, (some 7), .len (.t 6)⟩,
    ⟨none, (some 8), .mov (.k (.int .i64 0))⟩])
  (.block 0 (.loop a36L0)))
  (.seq (.region false [⟨none, (some 17), .mov (.t 3)⟩,
    ⟨none, (some 2), .mov (.t 17)⟩])
  .ret))))
  ntmps := 18
  res := [.tmp 2]
theorem a36_ok : compileFn P Tryz.f36 = some a36 := by kernel_rfl
def a38 : AFn where
  code := (.seq (.region false [⟨none, (some 4), .mov (.k (.int .i64 0))⟩])
  (.seq (.region false [⟨none, (some 7), .mov (.t 0)⟩,
    ⟨none, (some 8), .call (.k (.fn (.func 63) [] [])) [(.t 7)]⟩,
    ⟨none, (some 5), .mov (.t 8)⟩])
  (.seq (.region false [⟨none, (some 9), .mov (.t 1)⟩,
    ⟨none, (some 10), .call (.k (.fn (.func 63) [] [])) [(.t 9)]⟩,
    ⟨none, (some 6), .mov (.t 10)⟩])
  (.seq (.seq (.region false [⟨none, (some 11), .mov (.t 5)⟩])
  (.cond (.t 11) (.seq (.seq (.region false [⟨none, (some 12), .mov (.t 6)⟩])
  (.cond (.t 12) (.seq (.region false [⟨none, (some 4), .mov (.k (.int .i64 0))⟩])
  .ret)
  .skip))
  (.seq (.region false [⟨none, (some 4), .mov (.k (.int .i64 (-1)))⟩])
  .ret))
  .skip))
  (.seq (.seq (.region false [⟨none, (some 13), .mov (.t 6)⟩])
  (.cond (.t 13) (.seq (.region false [⟨none, (some 4), .mov (.k (.int .i64 1))⟩])
  .ret)
  .skip))
  (.seq (.seq (.region false [⟨none, (some 14), .mov (.t 0)⟩,
    ⟨none, (some 15), .mov (.t 1)⟩,
    ⟨none, (some 16), .bin .lss (.t 14) (.t 15)⟩])
  (.cond (.t 16) (.seq (.region false [⟨none, (some 4), .mov (.k (.int .i64 (-1)))⟩])
  .ret)
  .skip))
  (.seq (.seq (.region false [⟨none, (some 17), .mov (.t 0)⟩,
    ⟨none, (some 18), .mov (.t 1)⟩,
    ⟨none, (some 19), .bin .gtr (.t 17) (.t 18)⟩])
  (.cond (.t 19) (.seq (.region false [⟨none, (some 4), .mov (.k (.int .i64 1))⟩])
  .ret)
  .skip))
  (.seq (.region false [⟨none, (some 4), .mov (.k (.int .i64 0))⟩])
  .ret))))))))
  ntmps := 20
  res := [.tmp 4]
theorem a38_ok : compileFn P Tryz.f38 = some a38 := by kernel_rfl
def a94L1 : ACode :=
  (.seq (.seq (.region true [⟨none, (some 18), .mov (.t 9)⟩,
    ⟨none, (some 19), .mov (.t 1)⟩,
    ⟨none, (some 20), .bin .gtr (.t 18) (.t 19)⟩,
    ⟨none, (some 21), .mov (.t 20)⟩,
    ⟨(some (21, true)), (some 22), .mov (.t 3)⟩,
    ⟨(some (21, true)), (some 23), .mov (.t 0)⟩,
    ⟨(some (21, true)), (some 24), .mov (.t 9)⟩,
    ⟨(some (21, true)), (some 25), .idxS 34 (.t 23) (.t 24)⟩,
    ⟨(some (21, true)), (some 26), .load 34 true (.t 25)⟩,
    ⟨(some (21, true)), (some 27), .mov (.t 0)⟩,
    ⟨(some (21, true)), (some 28), .mov (.t 9)⟩,
    ⟨(some (21, true)), (some 29), .bin .sub (.t 28) (.k (.int .i64 1))⟩,
    ⟨(some (21, true)), (some 30), .idxS 34 (.t 27) (.t 29)⟩,
    ⟨(some (21, true)), (some 31), .load 34 true (.t 30)⟩,
    ⟨(some (21, true)), (some 32), .callN (.t 22) [(.t 26), (.t 31)]⟩,
    ⟨(some (21, true)), (some 33), .bin .lss (.t 32) (.k (.int .i64 0))⟩,
    ⟨none, (some 34), .pick (.t 21) (.t 33) (.k (.bool false))⟩])
  (.cond (.t 34) .skip
  (.exit 2)))
  (.seq (.block 3 (.region true [⟨none, (some 37), .mov (.t 0)⟩,
    ⟨none, (some 38), .mov (.t 9)⟩,
    ⟨none, (some 39), .mov (.t 0)⟩,
    ⟨none, (some 40), .mov (.t 9)⟩,
    ⟨none, (some 41), .bin .sub (.t 40) (.k (.int .i64 1))⟩,
    ⟨none, (some 42), .mov (.t 0)⟩,
    ⟨none, (some 43), .mov (.t 9)⟩,
    ⟨none, (some 44), .bin .sub (.t 43) (.k (.int .i64 1))⟩,
    ⟨none, (some 45), .idxS 34 (.t 42) (.t 44)⟩,
    ⟨none, (some 46), .load 34 true (.t 45)⟩,
    ⟨none, (some 47), .mov (.t 0)⟩,
    ⟨none, (some 48), .mov (.t 9)⟩,
    ⟨none, (some 49), .idxS 34 (.t 47) (.t 48)⟩,
    ⟨none, (some 50), .load 34 true (.t 49)⟩,
    ⟨none, (some 51), .idxS 34 (.t 37) (.t 38)⟩,
    ⟨none, none, .store 34 (.t 51) (.t 46)⟩,
    ⟨none, (some 52), .idxS 34 (.t 39) (.t 41)⟩,
    ⟨none, none, .store 34 (.t 52) (.t 50)⟩]))
  (.region false [⟨none, (some 35), .mov (.t 9)⟩,
    ⟨none, (some 36), .bin .sub (.t 35) (.k (.int .i64 1))⟩,
    ⟨none, (some 9), .mov (.t 36)⟩])))
def a94S1 (x0 x1 x2 x3 x8 x9 : DV) (h : List AObj) : St := ⟨[x0, x1, x2, x3] ++ js 4 ++ [x8, x9] ++ js 43, h⟩
def a94L0 : ACode :=
  (.seq (.seq (.region false [⟨none, (some 12), .mov (.t 8)⟩,
    ⟨none, (some 13), .mov (.t 2)⟩,
    ⟨none, (some 14), .bin .lss (.t 12) (.t 13)⟩])
  (.cond (.t 14) .skip
  (.exit 0)))
  (.seq (.block 1 (.seq (.region false [⟨none, (some 17), .mov (.t 8)⟩,
    ⟨none, (some 9), .mov (.t 17)⟩])
  (.block 2 (.loop a94L1))))
  (.region false [⟨none, (some 15), .mov (.t 8)⟩,
    ⟨none, (some 16), .bin .add (.t 15) (.k (.int .i64 1))⟩,
    ⟨none, (some 8), .mov (.t 16)⟩])))
def a94S0 (x0 x1 x2 x3 x8 : DV) (h : List AObj) : St := ⟨[x0, x1, x2, x3] ++ js 4 ++ [x8] ++ js 44, h⟩
def a94 : AFn where
  code := (.seq (.region false [⟨none, (some 10), .mov (.t 1)⟩,
    ⟨none, (some 11), .bin .add (.t 10) (.k (.int .i64 1))⟩,
    ⟨none, (some 8), .mov (.t 11)⟩])
  (.block 0 (.loop a94L0)))
  ntmps := 53
  res := []
theorem a94_ok : compileFn P Tryz.f94 = some a94 := by kernel_rfl
def a60L0 : ACode :=
  (.block 1 (.seq (.region false [⟨none, (some 21), .mov (.t 2)⟩,
    ⟨none, (some 22), .mov (.t 1)⟩,
    ⟨none, (some 23), .bin .sub (.t 21) (.t 22)⟩,
    ⟨none, (some 12), .mov (.t 23)⟩])
  (.seq (.seq (.region false [⟨none, (some 24), .mov (.t 12)⟩,
    ⟨none, (some 25), .bin .leq (.t 24) (.k (.int .i64 12))⟩])
  (.cond (.t 25) (.seq (.region false [⟨none, (some 26), .mov (.t 0)⟩,
    ⟨none, (some 27), .mov (.t 1)⟩,
    ⟨none, (some 28), .mov (.t 2)⟩,
    ⟨none, (some 29), .mov (.t 4)⟩,
    ⟨none, (some 30), .call (.k (.fn (.func 94) [] [])) [(.t 26), (.t 27), (.t 28), (.t 29)]⟩])
  .ret)
  .skip))
  (.seq (.seq (.region false [⟨none, (some 31), .mov (.t 3)⟩,
    ⟨none, (some 32), .bin .eql (.t 31) (.k (.int .i64 0))⟩])
  (.cond (.t 32) (.seq (.region false [⟨none, (some 33), .mov (.t 0)⟩,
    ⟨none, (some 34), .mov (.t 1)⟩,
    ⟨none, (some 35), .mov (.t 2)⟩,
    ⟨none, (some 36), .mov (.t 4)⟩,
    ⟨none, (some 37), .call (.k (.fn (.func 95) [] [])) [(.t 33), (.t 34), (.t 35), (.t 36)]⟩])
  .ret)
  .skip))
  (.seq (.seq (.region false [⟨none, (some 38), .mov (.t 10)⟩,
    ⟨none, (some 39), .un .not (.t 38)⟩])
  (.cond (.t 39) (.seq (.region false [⟨none, (some 40), .mov (.t 0)⟩,
    ⟨none, (some 41), .mov (.t 1)⟩,
    ⟨none, (some 42), .mov (.t 2)⟩,
    ⟨none, (some 43), .mov (.t 4)⟩,
    ⟨none, (some 44), .call (.k (.fn (.func 96) [] [])) [(.t 40), (.t 41), (.t 42), (.t 43)]⟩])
  (.region false [⟨none, (some 45), .mov (.t 3)⟩,
    ⟨none, (some 46), .bin .sub (.t 45) (.k (.int .i64 1))⟩,
    ⟨none, (some 3), .mov (.t 46)⟩]))
  .skip))
  (.seq (.region false [⟨none, (some 48), .mov (.t 0)⟩,
    ⟨none, (some 49), .mov (.t 1)⟩,
    ⟨none, (some 50), .mov (.t 2)⟩,
    ⟨none, (some 51), .mov (.t 4)⟩,
    ⟨none, (some 52), .call (.k (.fn (.func 97) [] [])) [(.t 48), (.t 49), (.t 50), (.t 51)]⟩,
    ⟨none, (some 47), .mov (.t 52)⟩,
    ⟨none, (some 53), .ext (.t 47) 0⟩,
    ⟨none, (some 54), .ext (.t 47) 1⟩,
    ⟨none, (some 13), .mov (.t 53)⟩,
    ⟨none, (some 14), .mov (.t 54)⟩])
  (.seq (.seq (.region false [⟨none, (some 55), .mov (.t 14)⟩,
    ⟨none, (some 56), .bin .eql (.t 55) (.k (.int .i64 2))⟩])
  (.cond (.t 56) (.seq (.region false [⟨none, (some 57), .mov (.t 0)⟩,
    ⟨none, (some 58), .mov (.t 1)⟩,
    ⟨none, (some 59), .mov (.t 2)⟩,
    ⟨none, (some 60), .mov (.t 4)⟩,
    ⟨none, (some 61), .call (.k (.fn (.func 98) [] [])) [(.t 57), (.t 58), (.t 59), (.t 60)]⟩])
  (.seq (.region false [⟨none, (some 62), .mov (.t 2)⟩,
    ⟨none, (some 63), .bin .sub (.t 62) (.k (.int .i64 1))⟩,
    ⟨none, (some 64), .mov (.t 13)⟩,
    ⟨none, (some 65), .mov (.t 1)⟩,
    ⟨none, (some 66), .bin .sub (.t 64) (.t 65)⟩,
    ⟨none, (some 67), .bin .sub (.t 63) (.t 66)⟩,
    ⟨none, (some 13), .mov (.t 67)⟩])
  (.region false [⟨none, (some 14), .mov (.k (.int .i64 1))⟩])))
  .skip))
  (.seq (.seq (.region false [⟨none, (some 68), .mov (.t 10)⟩,
    ⟨none, (some 69), .mov (.t 68)⟩,
    ⟨(some (69, true)), (some 70), .mov (.t 11)⟩,
    ⟨none, (some 71), .pick (.t 69) (.t 70) (.k (.bool false))⟩,
    ⟨none, (some 72), .mov (.t 71)⟩,
    ⟨(some (72, true)), (some 73), .mov (.t 14)⟩,
    ⟨(some (72, true)), (some 74), .bin .eql (.t 73) (.k (.int .i64 1))⟩,
    ⟨none, (some 75), .pick (.t 72) (.t 74) (.k (.bool false))⟩])
  (.cond (.t 75) (.seq (.region false [⟨none, (some 76), .mov (.t 0)⟩,
    ⟨none, (some 77), .mov (.t 1)⟩,
    ⟨none, (some 78), .mov (.t 2)⟩,
    ⟨none, (some 79), .mov (.t 4)⟩,
    ⟨none, (some 80), .call (.k (.fn (.func 99) [] [])) [(.t 76), (.t 77), (.t 78), (.t 79)]⟩])
  (.cond (.t 80) .ret
  .skip))
  .skip))
  (.seq (.seq (.region true [⟨none, (some 81), .mov (.t 1)⟩,
    ⟨none, (some 82), .bin .gtr (.t 81) (.k (.int .i64 0))⟩,
    ⟨none, (some 83), .mov (.t 82)⟩,
    ⟨(some (83, true)), (some 84), .mov (.t 4)⟩,
    ⟨(some (83, true)), (some 85), .mov (.t 0)⟩,
    ⟨(some (83, true)), (some 86), .mov (.t 1)⟩,
    ⟨(some (83, true)), (some 87), .bin .sub (.t 86) (.k (.int .i64 1))⟩,
    ⟨(some (83, true)), (some 88), .idxS 34 (.t 85) (.t 87)⟩,
    ⟨(some (83, true)), (some 89), .load 34 true (.t 88)⟩,
    ⟨(some (83, true)), (some 90), .mov (.t 0)⟩,
    ⟨(some (83, true)), (some 91), .mov (.t 13)⟩,
    ⟨(some (83, true)), (some 92), .idxS 34 (.t 90) (.t 91)⟩,
    ⟨(some (83, true)), (some 93), .load 34 true (.t 92)⟩,
    ⟨(some (83, true)), (some 94), .callN (.t 84) [(.t 89), (.t 93)]⟩,
    ⟨(some (83, true)), (some 95), .bin .lss (.t 94) (.k (.int .i64 0))⟩,
    ⟨(some (83, true)), (some 96), .un .not (.t 95)⟩,
    ⟨none, (some 97), .pick (.t 83) (.t 96) (.k (.bool false))⟩])
  (.cond (.t 97) (.seq (.region false [⟨none, (some 98), .mov (.t 0)⟩,
    ⟨none, (some 99), .mov (.t 1)⟩,
    ⟨none, (some 100), .mov (.t 2)⟩,
    ⟨none, (some 101), .mov (.t 13)⟩,
    ⟨none, (some 102), .mov (.t 4)⟩,
    ⟨none, (some 103), .call (.k (.fn (.func 100) [] [])) [(.t 98), (.t 99), (.t 100), (.t 101), (.t 102)]⟩,
    ⟨none, (some 15), .mov (.t 103)⟩])
  (.seq (.region false [⟨none, (some 104), .mov (.t 15)⟩,
    ⟨none, (some 1), .mov (.t 104)⟩])
  (.exit 1)))
  .skip))
  (.seq (.region false [⟨none, (some 106), .mov (.t 0)⟩,
    ⟨none, (some 107), .mov (.t 1)⟩,
    ⟨none, (some 108), .mov (.t 2)⟩,
    ⟨none, (some 109), .mov (.t 13)⟩,
    ⟨none, (some 110), .mov (.t 4)⟩,
    ⟨none, (some 111), .call (.k (.fn (.func 101) [] [])) [(.t 106), (.t 107), (.t 108), (.t 109), (.t 110)]⟩,
    ⟨none, (some 105), .mov (.t 111)⟩,
    ⟨none, (some 112), .ext (.t 105) 0⟩,
    ⟨none, (some 113), .ext (.t 105) 1⟩,
    ⟨none, (some 16), .mov (.t 112)⟩,
    ⟨none, (some 17), .mov (.t 113)⟩])
  (.seq (.region false [⟨none, (some 114), .mov (.t 17)⟩,
    ⟨none, (some 11), .mov (.t 114)⟩])
  (.seq (.region false [⟨none, (some 115), .mov (.t 16)⟩,
    ⟨none, (some 116), .mov (.t 1)⟩,
    ⟨none, (some 117), .bin .sub (.t 115) (.t 116)⟩,
    ⟨none, (some 118), .mov (.t 2)⟩,
    ⟨none, (some 119), .mov (.t 16)⟩,
    ⟨none, (some 120), .bin .sub (.t 118) (.t 119)⟩,
    ⟨none, (some 18), .mov (.t 117)⟩,
    ⟨none, (some 19), .mov (.t 120)⟩])
  (.seq (.region false [⟨none, (some 121), .mov (.t 12)⟩,
    ⟨none, (some 122), .bin .quo (.t 121) (.k (.int .i64 8))⟩,
    ⟨none, (some 20), .mov (.t 122)⟩])
  (.seq (.region false [⟨none, (some 123), .mov (.t 18)⟩,
    ⟨none, (some 124), .mov (.t 19)⟩,
    ⟨none, (some 125), .bin .lss (.t 123) (.t 124)⟩])
  (.cond (.t 125) (.seq (.region false [⟨none, (some 126), .mov (.t 18)⟩,
    ⟨none, (some 127), .mov (.t 20)⟩,
    ⟨none, (some 128), .bin .geq (.t 126) (.t 127)⟩,
    ⟨none, (some 10), .mov (.t 128)⟩])
  (.seq (.region false [⟨none, (some 129), .mov (.t 0)⟩,
    ⟨none, (some 130), .mov (.t 1)⟩,
    ⟨none, (some 131), .mov (.t 16)⟩,
    ⟨none, (some 132), .mov (.t 3)⟩,
    ⟨none, (some 133), .mov (.t 4)⟩,
    ⟨none, (some 134), .call (.k (.fn (.func 60) [] [])) [(.t 129), (.t 130), (.t 131), (.t 132), (.t 133)]⟩])
  (.region false [⟨none, (some 135), .mov (.t 16)⟩,
    ⟨none, (some 136), .bin .add (.t 135) (.k (.int .i64 1))⟩,
    ⟨none, (some 1), .mov (.t 136)⟩])))
  (.seq (.region false [⟨none, (some 137), .mov (.t 19)⟩,
    ⟨none, (some 138), .mov (.t 20)⟩,
    ⟨none, (some 139), .bin .geq (.t 137) (.t 138)⟩,
    ⟨none, (some 10), .mov (.t 139)⟩])
  (.seq (.region false [⟨none, (some 140), .mov (.t 0)⟩,
    ⟨none, (some 141), .mov (.t 16)⟩,
    ⟨none, (some 142), .bin .add (.t 141) (.k (.int .i64 1))⟩,
    ⟨none, (some 143), .mov (.t 2)⟩,
    ⟨none, (some 144), .mov (.t 3)⟩,
    ⟨none, (some 145), .mov (.t 4)⟩,
    ⟨none, (some 146), .call (.k (.fn (.func 60) [] [])) [(.t 140), (.t 142), (.t 143), (.t 144), (.t 145)]⟩])
  (.region false [⟨none, (some 147), .mov (.t 16)⟩,
    ⟨none, (some 2), .mov (.t 147)⟩]))))))))))))))))))
def a60S0 (x0 x1 x2 x3 x4 x10 x11 : DV) (h : List AObj) : St := ⟨[x0, x1, x2, x3, x4] ++ js 5 ++ [x10, x11] ++ js 136, h⟩
def a60 : AFn where
  code := (.seq (.region false [⟨none, (some 10), .mov (.k (.bool true))⟩])
  (.seq (.region false [⟨none, (some 11), .mov (.k (.bool true))⟩])
  (.block 0 (.loop a60L0))))
  ntmps := 148
  res := []
theorem a60_ok : compileFn P Tryz.f60 = some a60 := by kernel_rfl
def a34 : AFn where
  code := (.seq (.region false [⟨none, (some 5), .mov (.t 0)⟩,
    ⟨none, (some 6), .len (.t 5)⟩,
    ⟨none, (some 4), .mov (.t 6)⟩])
  (.region false [⟨none, (some 7), .mov (.t 0)⟩,
    ⟨none, (some 8), .mov (.t 4)⟩,
    ⟨none, (some 9), .mov (.t 4)⟩,
    ⟨none, (some 10), .conv .u64 (.t 9)⟩,
    ⟨none, (some 11), .call (.k (.fn (.func 61) [] [])) [(.t 10)]⟩,
    ⟨none, (some 12), .mov (.t 1)⟩,
    ⟨none, (some 13), .call (.k (.fn (.func 60) [] [])) [(.t 7), (.k (.int .i64 0)), (.t 8), (.t 11), (.t 12)]⟩]))
  ntmps := 14
  res := []
theorem a34_ok : compileFn P Tryz.f34 = some a34 := by kernel_rfl
def a39L1 : ACode :=
  (.seq (.seq (.region false [⟨none, (some 29), .mov (.t 5)⟩,
    ⟨none, (some 30), .mov (.t 4)⟩,
    ⟨none, (some 31), .len (.t 30)⟩,
    ⟨none, (some 32), .bin .lss (.t 29) (.t 31)⟩])
  (.cond (.t 32) .skip
  (.exit 2)))
  (.seq (.block 3 (.seq (.region true [⟨none, (some 35), .mov (.t 4)⟩,
    ⟨none, (some 36), .mov (.t 5)⟩,
    ⟨none, (some 37), .idxS 34 (.t 35) (.t 36)⟩,
    ⟨none, (some 38), .load 34 true (.t 37)⟩,
    ⟨none, (some 39), .mov (.t 4)⟩,
    ⟨none, (some 40), .mov (.t 5)⟩,
    ⟨none, (some 41), .bin .sub (.t 40) (.k (.int .i64 1))⟩,
    ⟨none, (some 42), .idxS 34 (.t 39) (.t 41)⟩,
    ⟨none, (some 43), .load 34 true (.t 42)⟩,
    ⟨none, (some 44), .eqa true [(32, 0), (2, 1)] (.t 38) (.t 43)⟩])
  (.cond (.t 44) (.seq (.region false [⟨none, (some 45), .mov (.t 0)⟩,
    ⟨none, (some 46), .mov (.t 3)⟩,
    ⟨none, (some 47), .mov (.t 4)⟩,
    ⟨none, (some 48), .mov (.t 5)⟩,
    ⟨none, (some 49), .idxS 34 (.t 47) (.t 48)⟩,
    ⟨none, (some 50), .load 34 true (.t 49)⟩,
    ⟨none, (some 51), .idxS 34 (.t 45) (.t 46)⟩,
    ⟨none, none, .store 34 (.t 51) (.t 50)⟩])
  (.region false [⟨none, (some 52), .mov (.t 3)⟩,
    ⟨none, (some 53), .bin .add (.t 52) (.k (.int .i64 1))⟩,
    ⟨none, (some 3), .mov (.t 53)⟩]))
  .skip)))
  (.region false [⟨none, (some 33), .mov (.t 5)⟩,
    ⟨none, (some 34), .bin .add (.t 33) (.k (.int .i64 1))⟩,
    ⟨none, (some 5), .mov (.t 34)⟩])))
def a39S1 (x0 x3 x4 x5 : DV) (h : List AObj) : St := ⟨[x0, .junk, .junk, x3, x4, x5] ++ js 55, h⟩
def a39L0 : ACode :=
  (.seq (.seq (.region false [⟨none, (some 10), .mov (.t 3)⟩,
    ⟨none, (some 11), .mov (.t 0)⟩,
    ⟨none, (some 12), .len (.t 11)⟩,
    ⟨none, (some 13), .bin .lss (.t 10) (.t 12)⟩])
  (.cond (.t 13) .skip
  (.exit 0)))
  (.seq (.block 1 (.seq (.region true [⟨none, (some 16), .mov (.t 0)⟩,
    ⟨none, (some 17), .mov (.t 3)⟩,
    ⟨none, (some 18), .idxS 34 (.t 16) (.t 17)⟩,
    ⟨none, (some 19), .load 34 true (.t 18)⟩,
    ⟨none, (some 20), .mov (.t 0)⟩,
    ⟨none, (some 21), .mov (.t 3)⟩,
    ⟨none, (some 22), .bin .sub (.t 21) (.k (.int .i64 1))⟩,
    ⟨none, (some 23), .idxS 34 (.t 20) (.t 22)⟩,
    ⟨none, (some 24), .load 34 true (.t 23)⟩,
    ⟨none, (some 25), .eqa false [(32, 0), (2, 1)] (.t 19) (.t 24)⟩])
  (.cond (.t 25) (.seq (.region false [⟨none, (some 26), .mov (.t 0)⟩,
    ⟨none, (some 27), .mov (.t 3)⟩,
    ⟨none, (some 28), .slcS 34 (.t 26) (some (.t 27)) none none⟩,
    ⟨none, (some 4), .mov (.t 28)⟩])
  (.seq (.seq (.region false [⟨none, (some 5), .mov (.k (.int .i64 1))⟩])
  (.block 2 (.loop a39L1)))
  (.seq (.region false [⟨none, (some 54), .mov (.t 0)⟩,
    ⟨none, (some 55), .mov (.t 3)⟩,
    ⟨none, (some 56), .slcS 34 (.t 54) (some (.t 55)) none none⟩,
    ⟨none, none, .clr 34 [(w8 0#8), (w8 0#8), (w8 0#8), (w8 0#8), (w8 0#8), (w8 0#8), (w8 0#8), (w8 0#8), (w8 0#8), (w8 0#8), (w8 0#8), (w8 0#8), (w8 0#8), (w8 0#8), (w8 0#8), (w8 0#8), (w8 0#8), (w8 0#8), (w8 0#8), (w8 0#8), (w8 0#8), (w8 0#8), (w8 0#8), (w8 0#8), (w8 0#8), (w8 0#8), (w8 0#8), (w8 0#8), (w8 0#8), (w8 0#8), (w8 0#8), (w8 0#8), (.str []), (.str [])] (.t 56)⟩])
  (.seq (.region false [⟨none, (some 57), .mov (.t 0)⟩,
    ⟨none, (some 58), .mov (.t 3)⟩,
    ⟨none, (some 59), .slcS 34 (.t 57) none (some (.t 58)) none⟩,
    ⟨none, (some 2), .mov (.t 59)⟩])
  .ret))))
  .skip)))
  (.region false [⟨none, (some 14), .mov (.t 3)⟩,
    ⟨none, (some 15), .bin .add (.t 14) (.k (.int .i64 1))⟩,
    ⟨none, (some 3), .mov (.t 15)⟩])))
def a39S0 (x0 x3 : DV) (h : List AObj) : St := ⟨[x0, .junk, .junk, x3] ++ js 57, h⟩
def a39 : AFn where
  code := (.seq (.region false [⟨none, (some 2), .mov (.k .nils)⟩])
  (.seq (.seq (.region false [⟨none, (some 6), .mov (.t 0)⟩,
    ⟨none, (some 7), .len (.t 6)⟩,
    ⟨none, (some 8), .bin .lss (.t 7) (.k (.int .i64 2))⟩])
  (.cond (.t 8) (.seq (.region false [⟨none, (some 9), .mov (.t 0)⟩,
    ⟨none, (some 2), .mov (.t 9)⟩])
  .ret)
  .skip))
  (.seq (.seq (.region false [⟨none, (some 3), .mov (.k (.int .i64 1))⟩])
  (.block 0 (.loop a39L0)))
  (.seq (.region false [⟨none, (some 60), .mov (.t 0)⟩,
    ⟨none, (some 2), .mov (.t 60)⟩])
  .ret))))
  ntmps := 61
  res := [.tmp 2]
theorem a39_ok : compileFn P Tryz.f39 = some a39 := by kernel_rfl
def a35 : AFn where
  code := (.seq (.region false [⟨none, (some 2), .box (.t 0)⟩,
    ⟨none, (some 3), .box (.t 1)⟩,
    ⟨none, (some 4), .mov (.k (.int .i64 0))⟩])
  (.seq (.region true [⟨none, (some 5), .fld 0 (.t 2)⟩,
    ⟨none, (some 6), .slcA 32 1 (.t 5) none none⟩,
    ⟨none, (some 7), .fld 0 (.t 3)⟩,
    ⟨none, (some 8), .slcA 32 1 (.t 7) none none⟩,
    ⟨none, (some 10), .fld 32 (.t 2)⟩,
    ⟨none, (some 11), .load 1 false (.t 10)⟩,
    ⟨none, (some 12), .fld 32 (.t 3)⟩,
    ⟨none, (some 13), .load 1 false (.t 12)⟩,
    ⟨none, (some 15), .fld 33 (.t 2)⟩,
    ⟨none, (some 16), .load 1 false (.t 15)⟩,
    ⟨none, (some 17), .fld 33 (.t 3)⟩,
    ⟨none, (some 18), .load 1 false (.t 17)⟩,
    ⟨none, (some 9), .callN (.k (.fn (.func 37) [] [])) [(.t 6), (.t 8)]⟩,
    ⟨none, (some 14), .callN (.k (.fn (.func 38) [] [])) [(.t 11), (.t 13)]⟩,
    ⟨none, (some 19), .callN (.k (.fn (.func 38) [] [])) [(.t 16), (.t 18)]⟩,
    ⟨none, (some 20), .bsl 1 3 [(.int .i64 0)] [(0, 1, (.t 9)), (1, 1, (.t 14)), (2, 1, (.t 19))]⟩,
    ⟨none, (some 21), .callN (.k (.fn (.func 36) [] [])) [(.t 20)]⟩,
    ⟨none, (some 4), .mov (.t 21)⟩])
  .ret))
  ntmps := 22
  res := [.tmp 4]
theorem a35_ok : compileFn P Tryz.f35 = some a35 := by kernel_rfl
def a18L0 : ACode :=
  (.seq (.region false [⟨none, (some 10), .bin .lss (.t 9) (.t 8)⟩])
  (.seq (.cond (.t 10) .skip
  (.exit 0))
  (.seq (.block 1 (.seq (.region false [⟨none, (some 11), .idxS 71 (.t 7) (.t 9)⟩,
    ⟨none, (some 12), .load 71 true (.t 11)⟩,
    ⟨none, (some 5), .alloc [(.int .i64 0), (.str []), (w8 0#8), (w8 0#8), (w8 0#8), (w8 0#8), (w8 0#8), (w8 0#8), (w8 0#8), (w8 0#8), (w8 0#8), (w8 0#8), (w8 0#8), (w8 0#8), (w8 0#8), (w8 0#8), (w8 0#8), (w8 0#8), (w8 0#8), (w8 0#8), (w8 0#8), (w8 0#8), (w8 0#8), (w8 0#8), (w8 0#8), (w8 0#8), (w8 0#8), (w8 0#8), (w8 0#8), (w8 0#8), (w8 0#8), (w8 0#8), (w8 0#8), (w8 0#8), (.str []), (.str []), (.int .i64 0), (.bool false), (w8 0#8), (w8 0#8), (w8 0#8), (w8 0#8), (w8 0#8), (w8 0#8), (w8 0#8), (w8 0#8), (w8 0#8), (w8 0#8), (w8 0#8), (w8 0#8), (w8 0#8), (w8 0#8), (w8 0#8), (w8 0#8), (w8 0#8), (w8 0#8), (w8 0#8), (w8 0#8), (w8 0#8), (w8 0#8), (w8 0#8), (w8 0#8), (w8 0#8), (w8 0#8), (w8 0#8), (w8 0#8), (w8 0#8), (w8 0#8), (w8 0#8), (w8 0#8), .nils]⟩,
    ⟨none, none, .store 71 (.t 5) (.t 12)⟩])
  (.seq (.region false [⟨none, (some 13), .fld 0 (.t 5)⟩,
    ⟨none, (some 14), .load 1 false (.t 13)⟩,
    ⟨none, (some 15), .bin .eql (.t 14) (.k (.int .i64 1))⟩])
  (.cond (.t 15) (.region false [⟨none, (some 16), .mov (.t 3)⟩,
    ⟨none, (some 17), .load 71 true (.t 5)⟩,
    ⟨none, (some 18), .call (.k (.fn (.func 33) [] [])) [(.t 17)]⟩,
    ⟨none, (some 19), .bsl 34 1 [(w8 0#8), (w8 0#8), (w8 0#8), (w8 0#8), (w8 0#8), (w8 0#8), (w8 0#8), (w8 0#8), (w8 0#8), (w8 0#8), (w8 0#8), (w8 0#8), (w8 0#8), (w8 0#8), (w8 0#8), (w8 0#8), (w8 0#8), (w8 0#8), (w8 0#8), (w8 0#8), (w8 0#8), (w8 0#8), (w8 0#8), (w8 0#8), (w8 0#8), (w8 0#8), (w8 0#8), (w8 0#8), (w8 0#8), (w8 0#8), (w8 0#8), (w8 0#8), (.str []), (.str [])] [(0, 34, (.t 18))]⟩,
    ⟨none, (some 20), .app 34 64 (.t 16) (.t 19)⟩,
    ⟨none, (some 3), .mov (.t 20)⟩])
  .skip))))
  (.region false [⟨none, (some 21), .bin .add (.t 9) (.k (.int .i64 1))⟩,
    ⟨none, (some 9), .mov (.t 21)⟩]))))
def a18S0 (x3 x7 x8 x9 : DV) (h : List AObj) : St := ⟨[.junk, .junk, .junk, x3, .junk, .junk, .junk, x7, x8, x9] ++ js 21, h⟩
def a18 : AFn where
  code := (.seq (.region false [⟨none, (some 1), .box (.t 0)⟩,
    ⟨none, (some 2), .mov (.k .nils)⟩])
  (.seq (.region false [⟨none, (some 3), .mov (.k .nils)⟩])
  (.seq (.seq (.region false [⟨none, (some 6), .fld 33 (.t 1)⟩,
    ⟨none, (some 7), .load 1 false (.t 6)⟩,
    ⟨none, (some 8), .len (.t 7)⟩,
    ⟨none, (some 9), .mov (.k (.int .i64 0))⟩])
  (.block 0 (.loop a18L0)))
  (.seq (.seq (.region false [⟨none, (some 22), .mov (.t 3)⟩,
    ⟨none, (some 23), .len (.t 22)⟩,
    ⟨none, (some 24), .bin .eql (.t 23) (.k (.int .i64 0))⟩])
  (.cond (.t 24) (.seq (.region false [⟨none, (some 25), .build [(w8 0#8), (w8 0#8), (w8 0#8), (w8 0#8), (w8 0#8), (w8 0#8), (w8 0#8), (w8 0#8), (w8 0#8), (w8 0#8), (w8 0#8), (w8 0#8), (w8 0#8), (w8 0#8), (w8 0#8), (w8 0#8), (w8 0#8), (w8 0#8), (w8 0#8), (w8 0#8), (w8 0#8), (w8 0#8), (w8 0#8), (w8 0#8), (w8 0#8), (w8 0#8), (w8 0#8), (w8 0#8), (w8 0#8), (w8 0#8), (w8 0#8), (w8 0#8), (.str []), (.str [])] []⟩,
    ⟨none, (some 26), .bsl 34 1 [(w8 0#8), (w8 0#8), (w8 0#8), (w8 0#8), (w8 0#8), (w8 0#8), (w8 0#8), (w8 0#8), (w8 0#8), (w8 0#8), (w8 0#8), (w8 0#8), (w8 0#8), (w8 0#8), (w8 0#8), (w8 0#8), (w8 0#8), (w8 0#8), (w8 0#8), (w8 0#8), (w8 0#8), (w8 0#8), (w8 0#8), (w8 0#8), (w8 0#8), (w8 0#8), (w8 0#8), (w8 0#8), (w8 0#8), (w8 0#8), (w8 0#8), (w8 0#8), (.str []), (.str [])] [(0, 34, (.t 25))]⟩,
    ⟨none, (some 2), .mov (.t 26)⟩])
  .ret)
  .skip))
  (.seq (.region false [⟨none, (some 27), .mov (.t 3)⟩,
    ⟨none, (some 28), .call (.k (.fn (.func 34) [] [])) [(.t 27), (.k (.fn (.func 35) [] []))]⟩])
  (.seq (.region false [⟨none, (some 29), .mov (.t 3)⟩,
    ⟨none, (some 30), .call (.k (.fn (.func 39) [] [])) [(.t 29)]⟩,
    ⟨none, (some 2), .mov (.t 30)⟩])
  .ret))))))
  ntmps := 31
  res := [.tmp 2]
theorem a18_ok : compileFn P Tryz.f18 = some a18 := by kernel_rfl
end Go.Proofs.YtdnhbfmlklaldaaGreat
set_option linter.unusedSimpArgs false
set_option linter.unusedVariables false
namespace Go.Proofs.YtdnhbfmlklaldaaGreat
open Go Go.Am
def cmpSt (a b : Str) : Int := if Op.bytesLess a b then -1 else if Op.bytesLess b a then 1 else 0
theorem gtr_str {a b : Str} : binOpD .gtr (.str a) (.str b) = some (.bool (Op.bytesLess b a)) := by
  have e : binOpD .gtr (.str a) (.str b) = some (.bool (!(Op.bytesLess a b || a == b))) := by simp [binOpD, strOp]
  rw [e]
  congr 2
  rcases bless_tot a b with h | h | h
  · have h' : Op.bytesLess b a = false := by
      cases q : Op.bytesLess b a with
      | false => rfl
      | true => have := bless_tr _ _ _ h q; rw [bless_irr] at this; cases this
    rw [h, h']; rfl
  · subst h; simp [bless_irr]
  · have h' : Op.bytesLess a b = false := by
      cases q : Op.bytesLess a b with
      | false => rfl
      | true => have := bless_tr _ _ _ h q; rw [bless_irr] at this; cases this
    have hn : ¬ a = b := fun e => by rw [e, bless_irr] at h; cases h
    rw [h, h']; simp [hn]
attribute [simp] gtr_str
theorem runs_cmpS (a b : Str) : Runs T500 a38 [.str a, .str b] (.int .i64 (cmpSt a b)) := by
  refine ⟨?_⟩
  unfold cmpSt
  cases h1 : Op.bytesLess a b with
  | true => simp (disch := first | omega | (simp [-List.map_take, -List.map_drop, -List.map_set, -List.map_append, -List.drop_one] <;> omega) | fail) [-List.map_take, -List.map_drop, -List.map_set, -List.map_append, -List.drop_one, a38, T500_n, cS1_eq, h1]
  | false =>
    cases h2 : Op.bytesLess b a with
    | true => simp (disch := first | omega | (simp [-List.map_take, -List.map_drop, -List.map_set, -List.map_append, -List.drop_one] <;> omega) | fail) [-List.map_take, -List.map_drop, -List.map_set, -List.map_append, -List.drop_one, a38, T500_n, cS1_eq, h1, h2]
    | false => simp (disch := first | omega | (simp [-List.map_take, -List.map_drop, -List.map_set, -List.map_append, -List.drop_one] <;> omega) | fail) [-List.map_take, -List.map_drop, -List.map_set, -List.map_append, -List.drop_one, a38, T500_n, cS1_eq, h1, h2]
noncomputable def cCs : List DV → Option DV
  | [.str a, .str b] => some (.int .i64 (cmpSt a b)) | _ => none
theorem cCs_eq {a b : Str} : cCs [.str a, .str b] = some (.int .i64 (cmpSt a b)) := rfl
theorem cs_sound : (Con.pure cCs).Sound P 38 := by
  intro args v e
  unfold cCs at e
  split at e
  · simp at e; subst e; exact sem_runs mix T500_sound Tryz.func38 a38_ok (runs_cmpS _ _)
  · simp at e
def orI (a b c : Int) : Int := if a = 0 then (if b = 0 then c else b) else a
def S640 (a b c : Int) (i : Nat) : St := a36S0 (.int .i64 0) (.sl true 1 3 [.int .i64 a, .int .i64 b, .int .i64 c]) (.int .i64 3) (.int .i64 i) []
theorem runs_or (a b c : Int) : Runs tbl0 a36 [.sl true 1 3 [.int .i64 a, .int .i64 b, .int .i64 c]] (.int .i64 (orI a b c)) := by
  refine ⟨?_⟩
  unfold orI
  simp (disch := first | omega | (simp [-List.map_take, -List.map_drop, -List.map_set, -List.map_append, -List.drop_one] <;> omega) | fail) [-List.map_take, -List.map_drop, -List.map_set, -List.map_append, -List.drop_one, a36]
  refine W_loop (S640 a b c) (fun i => 3 - i) (fun i => i ≤ 3 ∧ (1 ≤ i → a = 0) ∧ (2 ≤ i → b = 0) ∧ (3 ≤ i → c = 0)) 0 (weak_same (by simp (disch := first | omega | (simp [-List.map_take, -List.map_drop, -List.map_set, -List.map_append, -List.drop_one] <;> omega) | fail) [-List.map_take, -List.map_drop, -List.map_set, -List.map_append, -List.drop_one, S640, a36S0]) (by simp (disch := first | omega | (simp [-List.map_take, -List.map_drop, -List.map_set, -List.map_append, -List.drop_one] <;> omega) | fail) [-List.map_take, -List.map_drop, -List.map_set, -List.map_append, -List.drop_one, S640, a36S0])) (by omega) (fun i hi => ?_)
  obtain ⟨h1, h2, h3, h4⟩ := hi
  simp only [S640]
  by_cases i0 : i = 0
  · subst i0
    by_cases ha : a = 0
    · simp (disch := first | omega | (simp [-List.map_take, -List.map_drop, -List.map_set, -List.map_append, -List.drop_one] <;> omega) | fail) [-List.map_take, -List.map_drop, -List.map_set, -List.map_append, -List.drop_one, a36L0, a36S0, ha]
      exact ⟨1, weak_same (by simp (disch := first | omega | (simp [-List.map_take, -List.map_drop, -List.map_set, -List.map_append, -List.drop_one] <;> omega) | fail) [-List.map_take, -List.map_drop, -List.map_set, -List.map_append, -List.drop_one, S640, a36S0]) (by simp (disch := first | omega | (simp [-List.map_take, -List.map_drop, -List.map_set, -List.map_append, -List.drop_one] <;> omega) | fail) [-List.map_take, -List.map_drop, -List.map_set, -List.map_append, -List.drop_one, S640, a36S0]), by omega, by omega⟩
    · simp (disch := first | omega | (simp [-List.map_take, -List.map_drop, -List.map_set, -List.map_append, -List.drop_one] <;> omega) | fail) [-List.map_take, -List.map_drop, -List.map_set, -List.map_append, -List.drop_one, a36L0, a36S0, ha]
  by_cases i1 : i = 1
  · subst i1
    have ha := h2 (by omega)
    by_cases hb : b = 0
    · simp (disch := first | omega | (simp [-List.map_take, -List.map_drop, -List.map_set, -List.map_append, -List.drop_one] <;> omega) | fail) [-List.map_take, -List.map_drop, -List.map_set, -List.map_append, -List.drop_one, a36L0, a36S0, ha, hb]
      exact ⟨2, weak_same (by simp (disch := first | omega | (simp [-List.map_take, -List.map_drop, -List.map_set, -List.map_append, -List.drop_one] <;> omega) | fail) [-List.map_take, -List.map_drop, -List.map_set, -List.map_append, -List.drop_one, S640, a36S0]) (by simp (disch := first | omega | (simp [-List.map_take, -List.map_drop, -List.map_set, -List.map_append, -List.drop_one] <;> omega) | fail) [-List.map_take, -List.map_drop, -List.map_set, -List.map_append, -List.drop_one, S640, a36S0]), by omega, by omega⟩
    · simp (disch := first | omega | (simp [-List.map_take, -List.map_drop, -List.map_set, -List.map_append, -List.drop_one] <;> omega) | fail) [-List.map_take, -List.map_drop, -List.map_set, -List.map_append, -List.drop_one, a36L0, a36S0, ha, hb]
  by_cases i2 : i = 2
  · subst i2
    have ha := h2 (by omega)
    have hb := h3 (by omega)
    by_cases hc : c = 0
    · simp (disch := first | omega | (simp [-List.map_take, -List.map_drop, -List.map_set, -List.map_append, -List.drop_one] <;> omega) | fail) [-List.map_take, -List.map_drop, -List.map_set, -List.map_append, -List.drop_one, a36L0, a36S0, ha, hb, hc]
      exact ⟨3, weak_same (by simp (disch := first | omega | (simp [-List.map_take, -List.map_drop, -List.map_set, -List.map_append, -List.drop_one] <;> omega) | fail) [-List.map_take, -List.map_drop, -List.map_set, -List.map_append, -List.drop_one, S640, a36S0]) (by simp (disch := first | omega | (simp [-List.map_take, -List.map_drop, -List.map_set, -List.map_append, -List.drop_one] <;> omega) | fail) [-List.map_take, -List.map_drop, -List.map_set, -List.map_append, -List.drop_one, S640, a36S0]), by omega, by omega⟩
    · simp (disch := first | omega | (simp [-List.map_take, -List.map_drop, -List.map_set, -List.map_append, -List.drop_one] <;> omega) | fail) [-List.map_take, -List.map_drop, -List.map_set, -List.map_append, -List.drop_one, a36L0, a36S0, ha, hb, hc]
  obtain rfl : i = 3 := by omega
  have ha := h2 (by omega)
  have hb := h3 (by omega)
  have hc := h4 (by omega)
  simp (disch := first | omega | (simp [-List.map_take, -List.map_drop, -List.map_set, -List.map_append, -List.drop_one] <;> omega) | fail) [-List.map_take, -List.map_drop, -List.map_set, -List.map_append, -List.drop_one, a36L0, a36S0, ha, hb, hc]
noncomputable def cOi : List DV → Option DV
  | [.sl true 1 3 [.int .i64 a, .int .i64 b, .int .i64 c]] => some (.int .i64 (orI a b c)) | _ => none
theorem cOi_eq {a b c : Int} : cOi [.sl true 1 3 [.int .i64 a, .int .i64 b, .int .i64 c]] = some (.int .i64 (orI a b c)) := rfl
theorem oi_sound : (Con.pure cOi).Sound P 36 := by
  intro args v e
  unfold cOi at e
  split at e
  · simp at e; subst e; exact sem_runs mix tbl0_sound Tryz.func36 a36_ok (runs_or _ _ _)
  · simp at e
noncomputable def T640 : Tbl := addT 37 (.pure cBc) (addT 38 (.pure cCs) (addT 36 (.pure cOi) tbl0))
theorem T640_b : T640 37 = .pure cBc := by simp [T640]
theorem T640_s : T640 38 = .pure cCs := by simp [T640]
theorem T640_o : T640 36 = .pure cOi := by simp [T640]
theorem T640_sound : T640.Sound P := addT_sound bcmp_sound (addT_sound cs_sound (addT_sound oi_sound tbl0_sound))
def cmpOr (a b : Org) : Int := orI (cmpDg a.rev b.rev) (cmpSt a.lay b.lay) (cmpSt a.run b.run)
theorem cmpSt_lt {a b : Str} : cmpSt a b < 0 ↔ Op.bytesLess a b = true := by
  unfold cmpSt; split
  · rename_i h; simp [h]
  · rename_i h; simp [h]; split <;> decide
theorem cmpSt_0 {a b : Str} : cmpSt a b = 0 ↔ a = b := by
  unfold cmpSt
  rcases bless_tot a b with h | h | h
  · simp only [h, if_true]; constructor
    · intro q; omega
    · intro q; rw [q, bless_irr] at h; cases h
  · subst h; simp [bless_irr]
  · have h' : Op.bytesLess a b = false := by
      cases q : Op.bytesLess a b with
      | false => rfl
      | true => have := bless_tr _ _ _ h q; rw [bless_irr] at this; cases this
    simp only [h, h', if_true]
    constructor
    · intro q; simp at q
    · intro q; rw [q, bless_irr] at h; cases h
theorem cmpB_0 : ∀ (a b : List UInt8), Lib.compareBytes a b = 0 ↔ a = b
  | [], [] => by simp [Lib.compareBytes]
  | [], _ :: _ => by simp [Lib.compareBytes]
  | _ :: _, [] => by simp [Lib.compareBytes]
  | x :: a, y :: b => by
    have ih := cmpB_0 a b
    simp only [Lib.compareBytes]
    by_cases h : x < y
    · have : ¬ x = y := fun e => by subst e; exact UInt8.lt_irrefl x h
      simp [h, this]
    · by_cases h' : y < x
      · have : ¬ x = y := fun e => by subst e; exact UInt8.lt_irrefl x h'
        simp [h, h', this]
      · have : x = y := UInt8.le_antisymm (UInt8.not_lt.1 h') (UInt8.not_lt.1 h)
        subst this; simp [ih]
theorem cmpDg_0 {a b : Dg} : cmpDg a b = 0 ↔ a = b := (cmpB_0 _ _).trans ⟨fun e => dgU_inj _ _ e, fun e => by rw [e]⟩
theorem cmpOr_lt {a b : Org} : cmpOr a b < 0 ↔ orLt a b = true := by
  unfold cmpOr orI orLt lexLt
  by_cases h1 : a.rev = b.rev
  · rw [if_pos (cmpDg_0.2 h1), if_pos h1]
    by_cases h2 : a.lay = b.lay
    · rw [if_pos (cmpSt_0.2 h2), if_pos h2]; exact cmpSt_lt
    · rw [if_neg (fun q => h2 (cmpSt_0.1 q)), if_neg h2]; exact cmpSt_lt
  · rw [if_neg (fun q => h1 (cmpDg_0.1 q)), if_neg h1]; exact cmpDg_lt
theorem runs_cmpO (a b : Org) : Runs T640 a35 [.agg (orC a), .agg (orC b)] (.int .i64 (cmpOr a b)) := by
  refine ⟨?_⟩
  have t1 : ∀ (o : Org), (orC o).take 32 = dgC o.rev := fun o => List.take_left' (len_dgC _)
  have t2 : ∀ f g, cBc [.sl f 1 32 (dgC a.rev), .sl g 1 32 (dgC b.rev)] = _ := fun f g => cBc_dg
  simp (disch := first | omega | (simp [-List.map_take, -List.map_drop, -List.map_set, -List.map_append, -List.drop_one] <;> omega) | fail) [-List.map_take, -List.map_drop, -List.map_set, -List.map_append, -List.drop_one, a35, T640_b, T640_s, T640_o, t1, t2, cCs_eq, cOi_eq, len_orC, cmpOr]
noncomputable def cCmpO : List DV → Option DV := con (fun _ => True) (fun a : Org × Org => [.agg (orC a.1), .agg (orC a.2)]) (fun a => .int .i64 (cmpOr a.1 a.2))
theorem cCmpO_eq {a b : Org} : cCmpO [.agg (orC a), .agg (orC b)] = some (.int .i64 (cmpOr a b)) :=
  con_inj (f := fun a : Org × Org => [.agg (orC a.1), .agg (orC a.2)]) (g := fun a => .int .i64 (cmpOr a.1 a.2)) (by
    rintro ⟨a, b⟩ ⟨c, d⟩ e
    simp only [List.cons.injEq, DV.agg.injEq, and_true] at e
    rw [orC_inj e.1, orC_inj e.2]) (a, b)
noncomputable def TcO : Tbl := addT 35 (.pure cCmpO) tbl0
theorem TcO_c : TcO 35 = .pure cCmpO := by simp [TcO]
theorem TcO_sound : TcO.Sound P := addT_sound (con_sound fun (a : Org × Org) _ => sem_runs mix T640_sound Tryz.func35 a35_ok (runs_cmpO a.1 a.2)) tbl0_sound
def orZ : Org := ⟨dg0, [], []⟩
theorem orZ_C : orC orZ = [w8 0#8, w8 0#8, w8 0#8, w8 0#8, w8 0#8, w8 0#8, w8 0#8, w8 0#8, w8 0#8, w8 0#8, w8 0#8, w8 0#8, w8 0#8, w8 0#8, w8 0#8, w8 0#8, w8 0#8, w8 0#8, w8 0#8, w8 0#8, w8 0#8, w8 0#8, w8 0#8, w8 0#8, w8 0#8, w8 0#8, w8 0#8, w8 0#8, w8 0#8, w8 0#8, w8 0#8, w8 0#8, .str [], .str []] := rfl
end Go.Proofs.YtdnhbfmlklaldaaGreat
set_option linter.unusedSimpArgs false
set_option linter.unusedVariables false
namespace Go.Proofs.YtdnhbfmlklaldaaGreat
open Go Go.Am
def S642 (pre : List AObj) (n : Nat) (l : List Org) (i : Nat) : St := a94S0 (.ms pre.length (n * 34) 0 34 n (n * 34)) (.int .i64 0) (.int .i64 n) (.fn (.func 35) [] []) (.int .i64 i) (pre ++ [.cells (fl orC (sortR orLt (l.take i) ++ l.drop i))])
def S643 (pre : List AObj) (n i : Nat) (x : Org) (R : List Org) (a : IPg Org) : St := a94S1 (.ms pre.length (n * 34) 0 34 n (n * 34)) (.int .i64 0) (.int .i64 n) (.fn (.func 35) [] []) (.int .i64 i) (.int .i64 a.A.length) (pre ++ [.cells (fl orC (a.A ++ x :: (a.B ++ R)))])
set_option maxRecDepth 20000 in
theorem runs_insO (pre : List AObj) (l : List Org) (hb : l.length ≤ 1000000) :
    RunsH TcO a94 [.ms pre.length (l.length * 34) 0 34 l.length (l.length * 34), .int .i64 0, .int .i64 l.length, (.fn (.func 35) [] [])] (pre ++ [.cells (fl orC l)]) (.tup []) (pre ++ [.cells (fl orC (sortR orLt l))]) := by
  refine ⟨?_⟩
  obtain ⟨n, hn⟩ : ∃ n, l.length = n := ⟨_, rfl⟩
  rw [hn]
  rw [hn] at hb
  simp (disch := first | omega | (simp [-List.map_take, -List.map_drop, -List.map_set, -List.map_append, -List.drop_one] <;> omega) | fail) [-List.map_take, -List.map_drop, -List.map_set, -List.map_append, -List.drop_one, a94]
  refine W_loop (S642 pre n l) (fun i => n + 1 - i) (fun i => 1 ≤ i ∧ (i ≤ n ∨ n = 0)) 1 (weak_same (by simp (disch := first | omega | (simp [-List.map_take, -List.map_drop, -List.map_set, -List.map_append, -List.drop_one] <;> omega) | fail) [-List.map_take, -List.map_drop, -List.map_set, -List.map_append, -List.drop_one, S642, a94S0]) ?_) ⟨by omega, by omega⟩ (fun i hi => ?_)
  · simp (disch := first | omega | (simp [-List.map_take, -List.map_drop, -List.map_set, -List.map_append, -List.drop_one] <;> omega) | fail) [-List.map_take, -List.map_drop, -List.map_set, -List.map_append, -List.drop_one, S642, a94S0]
    rw [sortR_one (by simp; omega), List.take_append_drop]
  obtain ⟨h1, h2⟩ := hi
  simp (disch := first | omega | (simp [-List.map_take, -List.map_drop, -List.map_set, -List.map_append, -List.drop_one] <;> omega) | fail) [-List.map_take, -List.map_drop, -List.map_set, -List.map_append, -List.drop_one, a94L0, a94S0, S642]
  by_cases h : i < n
  · have h' : (i : Int) < n := by omega
    have hil : i < l.length := by omega
    obtain ⟨x, hx⟩ : ∃ x, l[i] = x := ⟨_, rfl⟩
    have hd : l.drop i = x :: l.drop (i + 1) := by rw [List.drop_eq_getElem_cons hil, hx]
    obtain ⟨Q, hQ⟩ : ∃ Q, sortR orLt (l.take i) = Q := ⟨_, rfl⟩
    have hQl : Q.length = i := by rw [← hQ, sortR_len]; simp; omega
    have hnext : sortR orLt (l.take (i + 1)) = insR orLt x Q := by rw [List.take_succ_eq_append_getElem hil, sortR_snoc, hQ, hx]
    obtain ⟨R, hR⟩ : ∃ R, l.drop (i + 1) = R := ⟨_, rfl⟩
    have hRl : R.length = n - (i + 1) := by rw [← hR]; simp; omega
    rw [hd, hQ, hR]
    simp (disch := first | omega | (simp [-List.map_take, -List.map_drop, -List.map_set, -List.map_append, -List.drop_one] <;> omega) | fail) [-List.map_take, -List.map_drop, -List.map_set, -List.map_append, -List.drop_one, h, h']
    refine W_loop (S643 pre n i x R) (fun a => a.A.length) (fun a => a.A ++ a.B = Q ∧ AllLt orLt x a.B) ⟨Q, []⟩ (weak_same (by simp (disch := first | omega | (simp [-List.map_take, -List.map_drop, -List.map_set, -List.map_append, -List.drop_one] <;> omega) | fail) [-List.map_take, -List.map_drop, -List.map_set, -List.map_append, -List.drop_one, S643, a94S1, hQl]) (by simp (disch := first | omega | (simp [-List.map_take, -List.map_drop, -List.map_set, -List.map_append, -List.drop_one] <;> omega) | fail) [-List.map_take, -List.map_drop, -List.map_set, -List.map_append, -List.drop_one, S643, a94S1])) ⟨by simp, fun b hb => by simp at hb⟩ (fun a ha => ?_)
    obtain ⟨A, B⟩ := a
    obtain ⟨r1, r2⟩ := ha
    simp only at r1 r2
    simp only [S643]
    rcases (List.eq_nil_or_concat A) with rfl | ⟨A', y, rfl⟩
    · have e : insR orLt x Q = x :: B := by rw [← r1]; exact insR_at r2 (.inl rfl)
      have hfin : sortR orLt (l.take (i + 1)) ++ l.drop (i + 1) = x :: (B ++ R) := by rw [hnext, e, hR]; rfl
      simp (disch := first | omega | (simp [-List.map_take, -List.map_drop, -List.map_set, -List.map_append, -List.drop_one] <;> omega) | fail) [-List.map_take, -List.map_drop, -List.map_set, -List.map_append, -List.drop_one, a94L1, a94S1]
      refine ⟨i + 1, weak_same (by simp (disch := first | omega | (simp [-List.map_take, -List.map_drop, -List.map_set, -List.map_append, -List.drop_one] <;> omega) | fail) [-List.map_take, -List.map_drop, -List.map_set, -List.map_append, -List.drop_one, S642, a94S0]) (by simp (disch := first | omega | (simp [-List.map_take, -List.map_drop, -List.map_set, -List.map_append, -List.drop_one] <;> omega) | fail) [-List.map_take, -List.map_drop, -List.map_set, -List.map_append, -List.drop_one, S642, a94S0, hfin]), by omega, by omega, by omega⟩
    · rw [List.concat_eq_append] at r1
      have hAl : A'.length + 1 + B.length = i := by rw [← hQl, ← r1]; simp; omega
      rw [List.concat_eq_append]
      obtain ⟨L, hL⟩ : ∃ L, A' ++ [y] ++ x :: (B ++ R) = L := ⟨_, rfl⟩
      have hLl : L.length = n := by rw [← hL]; simp; omega
      obtain ⟨p, hp⟩ : ∃ p, A'.length = p := ⟨_, rfl⟩
      have g1 : ∀ h : p < L.length, L[p] = y := fun h => by subst hL hp; simp
      have g2 : ∀ h : p + 1 < L.length, L[p + 1] = x := fun h => by subst hL hp; simp [List.getElem_append_right]
      have hs := swap_set (A := A') (B := B) (R := R) (x := x) (y := y)
      rw [hL, hp] at hs
      obtain ⟨G, hG⟩ : ∃ G, fl orC L = G := ⟨_, rfl⟩
      have hGl : G.length = n * 34 := by rw [← hG, fl_len len_orC, hLl]
      obtain ⟨G2, hG2⟩ : ∃ G2, fl orC (L.set (p + 1) y) = G2 := ⟨_, rfl⟩
      have hG2l : G2.length = n * 34 := by rw [← hG2, fl_len len_orC, List.length_set, hLl]
      have o1 : one 34 true (G.drop (p * 34)) = some (.agg (orC y)) := by rw [← hG, one_fm len_orC (by omega), g1]
      have o2 : one 34 true (G.drop ((p + 1) * 34)) = some (.agg (orC x)) := by rw [← hG, one_fm len_orC (by omega), g2]
      have s1 : ∀ h : List AObj, storeO h pre.length 34 ((p + 1) * 34) (.agg (orC y)) (some G) = some (.junk, h.set pre.length (.cells G2)) := fun h => by rw [← hG, storeO_fm len_orC (by decide) (fun _ => all_orC) (by omega), hG2]
      have s2 : ∀ h : List AObj, storeO h pre.length 34 (p * 34) (.agg (orC x)) (some G2) = some (.junk, h.set pre.length (.cells (fl orC (A' ++ x :: (y :: B ++ R))))) := fun h => by rw [← hG2, storeO_fm len_orC (by decide) (fun _ => all_orC) (by rw [List.length_set]; omega), hs]
      have hv := cCmpO_eq (a := x) (b := y)
      have hq := cmpOr_lt (a := x) (b := y)
      have t1 : ((p : Int) + 1).toNat = p + 1 := by omega
      have t2 : (A' ++ [y]).length = p + 1 := by rw [← hp]; simp
      rw [hL, hG, t2]
      cases hc : orLt x y with
      | true =>
        have hq' : cmpOr x y < 0 := hq.2 hc
        simp (disch := first | omega | (simp [-List.map_take, -List.map_drop, -List.map_set, -List.map_append, -List.drop_one] <;> omega) | fail) [-List.map_take, -List.map_drop, -List.map_set, -List.map_append, -List.drop_one, a94L1, a94S1, hGl, hG2l, o1, o2, s1, s2, t1, TcO_c, hv, hq', objV_pre0, objV_zero, set_pre0]
        refine ⟨⟨A', y :: B⟩, weak_same (by simp (disch := first | omega | (simp [-List.map_take, -List.map_drop, -List.map_set, -List.map_append, -List.drop_one] <;> omega) | fail) [-List.map_take, -List.map_drop, -List.map_set, -List.map_append, -List.drop_one, S643, a94S1, hp]) (by simp (disch := first | omega | (simp [-List.map_take, -List.map_drop, -List.map_set, -List.map_append, -List.drop_one] <;> omega) | fail) [-List.map_take, -List.map_drop, -List.map_set, -List.map_append, -List.drop_one, S643, a94S1]), by simp, by simpa using r1, fun b hb => ?_⟩
        rcases List.mem_cons.1 hb with rfl | hb
        · exact hc
        · exact r2 b hb
      | false =>
        have hq' : ¬ cmpOr x y < 0 := fun q => by rw [hq.1 q] at hc; cases hc
        simp (disch := first | omega | (simp [-List.map_take, -List.map_drop, -List.map_set, -List.map_append, -List.drop_one] <;> omega) | fail) [-List.map_take, -List.map_drop, -List.map_set, -List.map_append, -List.drop_one, a94L1, a94S1, hGl, o1, o2, t1, TcO_c, hv, hq', objV_pre0, objV_zero]
        have e : insR orLt x Q = A' ++ [y] ++ x :: B := by rw [← r1]; exact insR_at r2 (.inr ⟨A', y, rfl, hc⟩)
        have hfin : sortR orLt (l.take (i + 1)) ++ l.drop (i + 1) = L := by rw [hnext, e, hR, ← hL]; simp
        refine ⟨i + 1, weak_same (by simp (disch := first | omega | (simp [-List.map_take, -List.map_drop, -List.map_set, -List.map_append, -List.drop_one] <;> omega) | fail) [-List.map_take, -List.map_drop, -List.map_set, -List.map_append, -List.drop_one, S642, a94S0]) (by simp (disch := first | omega | (simp [-List.map_take, -List.map_drop, -List.map_set, -List.map_append, -List.drop_one] <;> omega) | fail) [-List.map_take, -List.map_drop, -List.map_set, -List.map_append, -List.drop_one, S642, a94S0, hfin, hG]), by omega, by omega, by omega⟩
  · have h' : ¬ (i : Int) < n := by omega
    have e1 : l.drop i = [] := List.drop_of_length_le (by omega)
    have e2 : l.take i = l := List.take_of_length_le (by omega)
    simp (disch := first | omega | (simp [-List.map_take, -List.map_drop, -List.map_set, -List.map_append, -List.drop_one] <;> omega) | fail) [-List.map_take, -List.map_drop, -List.map_set, -List.map_append, -List.drop_one, h, h', e1, e2]
end Go.Proofs.YtdnhbfmlklaldaaGreat
set_option linter.unusedSimpArgs false
set_option linter.unusedVariables false
namespace Go.Proofs.YtdnhbfmlklaldaaGreat
open Go Go.Am
abbrev SO := List AObj × Sl Org
noncomputable def cMuO (A : SO → Prop) (f : SO → List DV) (g : SO → DV × List AObj) : List DV → List AObj → Option (DV × List AObj) := conH A (fun a => (f a, a.1 ++ mo orC a.2.l)) g
theorem cMuO_eq {A : SO → Prop} {f : SO → List DV} {g : SO → DV × List AObj} (hf : ∀ a b, f a = f b → mutD a.1.length 34 a.2 orC = mutD b.1.length 34 b.2 orC) (hg : ∀ a b : SO, a.1 = b.1 → a.2.l = b.2.l → (a.2.l = [] → a.2.clone.dv 34 orC = b.2.clone.dv 34 orC) → g a = g b) {a : SO} (h : A a) : cMuO A f g (f a) (a.1 ++ mo orC a.2.l) = some (g a) :=
  conH_eq' (A := A) (f := fun a => (f a, a.1 ++ mo orC a.2.l)) (g := g) (fun a b h1 h2 e => by
    simp only [Prod.mk.injEq] at e
    obtain ⟨p, q, r⟩ := mut_inj len_orC (by decide) (fun _ _ => orC_inj) (hf a b e.1) e.2
    exact hg a b p q r) a h
def sSrtO (a : SO) : DV × List AObj := (.tup [], a.1 ++ mo orC (sortR orLt a.2.l))
theorem sSrtO_c (a b : SO) (h1 : a.1 = b.1) (h2 : a.2.l = b.2.l) (h3 : a.2.l = [] → a.2.clone.dv 34 orC = b.2.clone.dv 34 orC) : sSrtO a = sSrtO b := by unfold sSrtO; rw [h1, h2]
def sCmpO (a : SO) : DV × List AObj := (cmD 34 a.1.length orC a.2, a.1 ++ mo orC (compO orZ a.2.l))
theorem sCmpO_c (a b : SO) (h1 : a.1 = b.1) (h2 : a.2.l = b.2.l) (h3 : a.2.l = [] → a.2.clone.dv 34 orC = b.2.clone.dv 34 orC) : sCmpO a = sCmpO b := by
  unfold sCmpO cmD
  rw [h1, h2]
  by_cases e : b.2.l = []
  · rw [if_pos e, if_pos e, h3 (h2.trans e)]
  · rw [if_neg e, if_neg e]
def sBO (a : SO) : Prop := a.2.l.length ≤ 12
def cBO (a : SO) : Prop := a.2.l.length ≤ 1000000
def fInsO (a : SO) : List DV := [mutD a.1.length 34 a.2 orC, .int .i64 0, .int .i64 a.2.l.length, (.fn (.func 35) [] [])]
def fPdqO (a : SO) : List DV := [mutD a.1.length 34 a.2 orC, .int .i64 0, .int .i64 a.2.l.length, .int .i64 (blN a.2.l.length), (.fn (.func 35) [] [])]
def fSrtO (a : SO) : List DV := [mutD a.1.length 34 a.2 orC, (.fn (.func 35) [] [])]
def fOneO (a : SO) : List DV := [mutD a.1.length 34 a.2 orC]
theorem cInsO_eq {a : SO} (h : a.2.l.length ≤ 12) : cMuO sBO fInsO sSrtO (fInsO a) (a.1 ++ mo orC a.2.l) = some (.tup [], a.1 ++ mo orC (sortR orLt a.2.l)) := cMuO_eq (fun a b e => by simp only [fInsO, List.cons.injEq] at e; exact e.1) sSrtO_c h
theorem cPdqO_eq {a : SO} (h : a.2.l.length ≤ 12) : cMuO sBO fPdqO sSrtO (fPdqO a) (a.1 ++ mo orC a.2.l) = some (.tup [], a.1 ++ mo orC (sortR orLt a.2.l)) := cMuO_eq (fun a b e => by simp only [fPdqO, List.cons.injEq] at e; exact e.1) sSrtO_c h
theorem cSrtO_eq {a : SO} (h : a.2.l.length ≤ 12) : cMuO sBO fSrtO sSrtO (fSrtO a) (a.1 ++ mo orC a.2.l) = some (.tup [], a.1 ++ mo orC (sortR orLt a.2.l)) := cMuO_eq (fun a b e => by simp only [fSrtO, List.cons.injEq] at e; exact e.1) sSrtO_c h
theorem cCmpO_q {a : SO} (h : a.2.l.length ≤ 1000000) : cMuO cBO fOneO sCmpO (fOneO a) (a.1 ++ mo orC a.2.l) = some (sCmpO a) := cMuO_eq (fun a b e => by simp only [fOneO, List.cons.injEq] at e; exact e.1) sCmpO_c h
theorem runs_ins0O (pre : List AObj) (V : DV) : RunsH TcO a94 [V, .int .i64 0, .int .i64 0, (.fn (.func 35) [] [])] pre (.tup []) pre := by
  refine ⟨?_⟩
  simp (disch := first | omega | (simp [-List.map_take, -List.map_drop, -List.map_set, -List.map_append, -List.drop_one] <;> omega) | fail) [-List.map_take, -List.map_drop, -List.map_set, -List.map_append, -List.drop_one, a94]
  refine W_loop (fun _ : Unit => a94S0 V (.int .i64 0) (.int .i64 0) (.fn (.func 35) [] []) (.int .i64 1) pre) (fun _ => 0) (fun _ => True) () (weak_same (by simp (disch := first | omega | (simp [-List.map_take, -List.map_drop, -List.map_set, -List.map_append, -List.drop_one] <;> omega) | fail) [-List.map_take, -List.map_drop, -List.map_set, -List.map_append, -List.drop_one, a94S0]) (by simp (disch := first | omega | (simp [-List.map_take, -List.map_drop, -List.map_set, -List.map_append, -List.drop_one] <;> omega) | fail) [-List.map_take, -List.map_drop, -List.map_set, -List.map_append, -List.drop_one, a94S0])) trivial (fun i hi => ?_)
  simp (disch := first | omega | (simp [-List.map_take, -List.map_drop, -List.map_set, -List.map_append, -List.drop_one] <;> omega) | fail) [-List.map_take, -List.map_drop, -List.map_set, -List.map_append, -List.drop_one, a94L0, a94S0]
theorem runs_insGO {a : SO} (h : sBO a) : RunsH TcO a94 (fInsO a) (a.1 ++ mo orC a.2.l) (.tup []) (a.1 ++ mo orC (sortR orLt a.2.l)) := by
  obtain ⟨pre, x⟩ := a
  have h : x.l.length ≤ 12 := h
  by_cases e : x.l = []
  · have e1 : sortR orLt x.l = [] := by rw [e]; rfl
    have e2 : x.l.length = 0 := by rw [e]; rfl
    have e3 : mo orC x.l = [] := by rw [e]; rfl
    simp only [fInsO, e1, e2, e3, mo_nil, List.append_nil]; exact runs_ins0O pre _
  · have := runs_insO pre x.l (by omega)
    simp only [fInsO, mutD_ne e, mo_ne e, mo_ne (sortR_neg e)]
    exact this
noncomputable def TiO : Tbl := addT 94 (.heap (cMuO sBO fInsO sSrtO)) tbl0
theorem TiO_i : TiO 94 = .heap (cMuO sBO fInsO sSrtO) := by simp [TiO]
theorem TiO_sound : TiO.Sound P := addT_sound (conH_sound fun a h => calls_runs mix TcO_sound Tryz.func94 a94_ok (runs_insGO h)) tbl0_sound
theorem runs_pdqO {a : SO} (h : sBO a) : RunsH TiO a60 (fPdqO a) (a.1 ++ mo orC a.2.l) (.tup []) (a.1 ++ mo orC (sortR orLt a.2.l)) := by
  have he := cInsO_eq (a := a) h
  obtain ⟨pre, x⟩ := a
  have h : x.l.length ≤ 12 := h
  refine ⟨?_⟩
  simp only [fPdqO]
  simp only [fInsO] at he
  obtain ⟨b, hb⟩ : ∃ b, blN x.l.length = b := ⟨_, rfl⟩
  obtain ⟨n, hn⟩ : ∃ n, x.l.length = n := ⟨_, rfl⟩
  rw [hn] at he h
  rw [hb, hn]
  obtain ⟨V, hV⟩ : ∃ V, mutD pre.length 34 x orC = V := ⟨_, rfl⟩
  obtain ⟨H, hH⟩ : ∃ H, pre ++ mo orC x.l = H := ⟨_, rfl⟩
  obtain ⟨K, hK⟩ : ∃ K, pre ++ mo orC (sortR orLt x.l) = K := ⟨_, rfl⟩
  rw [hV, hH, hK] at he
  rw [hV, hH, hK]
  have h1 : (n : Int) ≤ 12 := by omega
  simp (disch := first | omega | (simp [-List.map_take, -List.map_drop, -List.map_set, -List.map_append, -List.drop_one] <;> omega) | fail) [-List.map_take, -List.map_drop, -List.map_set, -List.map_append, -List.drop_one, a60]
  refine W_loop (fun _ : Unit => a60S0 V (.int .i64 0) (.int .i64 n) (.int .i64 b) (.fn (.func 35) [] []) (.bool true) (.bool true) H) (fun _ => 0) (fun _ => True) () (weak_same (by simp (disch := first | omega | (simp [-List.map_take, -List.map_drop, -List.map_set, -List.map_append, -List.drop_one] <;> omega) | fail) [-List.map_take, -List.map_drop, -List.map_set, -List.map_append, -List.drop_one, a60S0]) (by simp (disch := first | omega | (simp [-List.map_take, -List.map_drop, -List.map_set, -List.map_append, -List.drop_one] <;> omega) | fail) [-List.map_take, -List.map_drop, -List.map_set, -List.map_append, -List.drop_one, a60S0])) trivial (fun i hi => ?_)
  simp (disch := first | omega | (simp [-List.map_take, -List.map_drop, -List.map_set, -List.map_append, -List.drop_one] <;> omega) | fail) [-List.map_take, -List.map_drop, -List.map_set, -List.map_append, -List.drop_one, a60L0, a60S0, h1, TiO_i, he]
noncomputable def TqO : Tbl := addT 61 (.pure cLen) (addT 60 (.heap (cMuO sBO fPdqO sSrtO)) tbl0)
theorem TqO_l : TqO 61 = .pure cLen := by simp [TqO]
theorem TqO_p : TqO 60 = .heap (cMuO sBO fPdqO sSrtO) := by simp [TqO]
theorem TqO_sound : TqO.Sound P := addT_sound blen_sound (addT_sound (conH_sound fun a h => calls_runs mix TiO_sound Tryz.func60 a60_ok (runs_pdqO h)) tbl0_sound)
theorem runs_sortO {a : SO} (h : sBO a) : RunsH TqO a34 (fSrtO a) (a.1 ++ mo orC a.2.l) (.tup []) (a.1 ++ mo orC (sortR orLt a.2.l)) := by
  have he := cPdqO_eq (a := a) h
  obtain ⟨pre, x⟩ := a
  have h : x.l.length ≤ 12 := h
  have hl := lenD_mut (pre := pre) (x := x) len_orC
  refine ⟨?_⟩
  simp only [fSrtO]
  simp only [fPdqO] at he
  obtain ⟨n, hn⟩ : ∃ n, x.l.length = n := ⟨_, rfl⟩
  rw [hn] at he h hl
  obtain ⟨V, hV⟩ : ∃ V, mutD pre.length 34 x orC = V := ⟨_, rfl⟩
  obtain ⟨H, hH⟩ : ∃ H, pre ++ mo orC x.l = H := ⟨_, rfl⟩
  obtain ⟨K, hK⟩ : ∃ K, pre ++ mo orC (sortR orLt x.l) = K := ⟨_, rfl⟩
  rw [hV, hH, hK] at he
  rw [hV, hH] at hl
  rw [hV, hH, hK]
  have hc := cLen_eq (n := n) (by omega)
  simp (disch := first | omega | (simp [-List.map_take, -List.map_drop, -List.map_set, -List.map_append, -List.drop_one] <;> omega) | fail) [-List.map_take, -List.map_drop, -List.map_set, -List.map_append, -List.drop_one, a34, hl, TqO_l, TqO_p, he, hc]
theorem sortO_sound : (Con.heap (cMuO sBO fSrtO sSrtO)).Sound P 34 := conH_sound fun a h => calls_runs mix TqO_sound Tryz.func34 a34_ok (runs_sortO h)
def S644 (pre : List AObj) (n : Nat) (l : List Org) (k : Nat) : St := a39S0 (.ms pre.length (n * 34) 0 34 n (n * 34)) (.int .i64 k) (pre ++ [.cells (fl orC l)])
def S645 (pre : List AObj) (n k0 : Nat) (l : List Org) (a : CPg Org) : St := a39S1 (.ms pre.length (n * 34) 0 34 n (n * 34)) (.int .i64 (compL (l.take a.j)).length) (.ms pre.length (n * 34) (k0 * 34) 34 (n - k0) (n * 34)) (.int .i64 ((a.j - k0 : Nat) : Int)) (pre ++ [.cells (fl orC a.M)])
set_option maxRecDepth 20000 in
theorem runs_compO (pre : List AObj) (l : List Org) (hb : l.length ≤ 1000000) (hne : l ≠ []) :
    RunsH tbl0 a39 [.ms pre.length (l.length * 34) 0 34 l.length (l.length * 34)] (pre ++ [.cells (fl orC l)]) (.ms pre.length (l.length * 34) 0 34 (compL l).length (l.length * 34)) (pre ++ [.cells (fl orC (compO orZ l))]) := by
  refine ⟨?_⟩
  obtain ⟨n, hn⟩ : ∃ n, l.length = n := ⟨_, rfl⟩
  have hn0 : 0 < n := by rw [← hn]; exact List.length_pos_iff.2 hne
  have hfl : (fl orC l).length = n * 34 := by rw [fl_len len_orC, hn]
  have hln : lenD (pre ++ [.cells (fl orC l)]) (.ms pre.length (n * 34) 0 34 n (n * 34)) = some (.int .i64 n) := by rw [lenD_ms, objV_pre0, objV_zero, if_pos hfl]; rfl
  rw [hn]
  rw [hn] at hb
  by_cases h2 : n < 2
  · have h2' : (n : Int) < 2 := by omega
    have hc := compL_one' (l := l) (by omega)
    have hcl : (compL l).length = n := by rw [hc, hn]
    have ho := compO_same (z := orZ) hc
    rw [hcl, ho]
    simp (disch := first | omega | (simp [-List.map_take, -List.map_drop, -List.map_set, -List.map_append, -List.drop_one] <;> omega) | fail) [-List.map_take, -List.map_drop, -List.map_set, -List.map_append, -List.drop_one, a39, hln, h2, h2', objV_pre0, objV_zero, hfl]
  have h2' : ¬ (n : Int) < 2 := by omega
  simp (disch := first | omega | (simp [-List.map_take, -List.map_drop, -List.map_set, -List.map_append, -List.drop_one] <;> omega) | fail) [-List.map_take, -List.map_drop, -List.map_set, -List.map_append, -List.drop_one, a39, hln, h2, h2']
  refine W_loop (S644 pre n l) (fun i => n - i) (fun i => 1 ≤ i ∧ i ≤ n ∧ compL (l.take i) = l.take i) 1 (weak_same (by simp (disch := first | omega | (simp [-List.map_take, -List.map_drop, -List.map_set, -List.map_append, -List.drop_one] <;> omega) | fail) [-List.map_take, -List.map_drop, -List.map_set, -List.map_append, -List.drop_one, S644, a39S0]) (by simp (disch := first | omega | (simp [-List.map_take, -List.map_drop, -List.map_set, -List.map_append, -List.drop_one] <;> omega) | fail) [-List.map_take, -List.map_drop, -List.map_set, -List.map_append, -List.drop_one, S644, a39S0])) ⟨by omega, by omega, compL_one' (by simp; omega)⟩ (fun i hi => ?_)
  obtain ⟨h3, h4, h5⟩ := hi
  simp (disch := first | omega | (simp [-List.map_take, -List.map_drop, -List.map_set, -List.map_append, -List.drop_one] <;> omega) | fail) [-List.map_take, -List.map_drop, -List.map_set, -List.map_append, -List.drop_one, a39L0, a39S0, S644, hln]
  by_cases h : i < n
  · have h' : (i : Int) < n := by omega
    have hil : i < l.length := by omega
    have hi1 : (((i : Int) - 1)).toNat = i - 1 := by omega
    have o1 : one 34 true ((fl orC l).drop (i * 34)) = some (.agg (orC l[i])) := one_fm len_orC hil
    have o2 : one 34 true ((fl orC l).drop ((i - 1) * 34)) = some (.agg (orC l[i - 1])) := one_fm len_orC (by omega)
    by_cases e : l[i - 1] = l[i]
    · simp (disch := first | omega | (simp [-List.map_take, -List.map_drop, -List.map_set, -List.map_append, -List.drop_one] <;> omega) | fail) [-List.map_take, -List.map_drop, -List.map_set, -List.map_append, -List.drop_one, h, h', objV_pre0, objV_zero, hfl, hi1, o1, o2, e]
      obtain ⟨hs, hk⟩ := CompI.start (by omega) hil h5 e
      refine W_loop (S645 pre n i l) (fun a => n - a.j) (fun a => CompI l i a) ⟨i + 1, l⟩ (weak_same (by simp (disch := first | omega | (simp [-List.map_take, -List.map_drop, -List.map_set, -List.map_append, -List.drop_one] <;> omega) | fail) [-List.map_take, -List.map_drop, -List.map_set, -List.map_append, -List.drop_one, S645, a39S1, hk]) (by simp (disch := first | omega | (simp [-List.map_take, -List.map_drop, -List.map_set, -List.map_append, -List.drop_one] <;> omega) | fail) [-List.map_take, -List.map_drop, -List.map_set, -List.map_append, -List.drop_one, S645, a39S1])) hs (fun a ha => ?_)
      obtain ⟨j, M⟩ := a
      have h6 := ha.j0
      have h7 := ha.j1
      have h8 := ha.len
      have h9 := ha.k
      simp only at h6 h7 h8 h9
      obtain ⟨K, hK⟩ : ∃ K, (compL (l.take j)).length = K := ⟨_, rfl⟩
      obtain ⟨J, hJ⟩ : ∃ J, j - i = J := ⟨_, rfl⟩
      rw [hK] at h9
      have hfM : (fl orC M).length = n * 34 := by rw [fl_len len_orC, h8, hn]
      have hlM : lenD (pre ++ [.cells (fl orC M)]) (.ms pre.length (n * 34) (i * 34) 34 (n - i) (n * 34)) = some (.int .i64 ((n - i : Nat) : Int)) := by rw [lenD_ms, objV_pre0, objV_zero, if_pos hfM]; rfl
      simp (disch := first | omega | (simp [-List.map_take, -List.map_drop, -List.map_set, -List.map_append, -List.drop_one] <;> omega) | fail) [-List.map_take, -List.map_drop, -List.map_set, -List.map_append, -List.drop_one, a39L1, a39S1, S645, hK, hJ, hlM]
      by_cases hj : j < n
      · have hj1 : (J : Int) < ((n - i : Nat) : Int) := by omega
        have hj1' : J < n - i := by omega
        have hj2 : ((J : Int) - 1).toNat = J - 1 := by omega
        have hj3 : i * 34 + J * 34 = j * 34 := by omega
        have hj4 : i * 34 + (J - 1) * 34 = (j - 1) * 34 := by omega
        have hjl : j < l.length := by omega
        obtain ⟨g1, g2⟩ := ha.get hjl (by simp only; omega) (by simp only; omega)
        simp only at g1 g2
        have u1 : one 34 true ((fl orC M).drop (j * 34)) = some (.agg (orC l[j])) := by rw [one_fm len_orC (by omega), g1]
        have u2 : one 34 true ((fl orC M).drop ((j - 1) * 34)) = some (.agg (orC l[j - 1])) := by rw [one_fm len_orC (by omega), g2]
        by_cases e2 : l[j - 1] = l[j]
        · simp (disch := first | omega | (simp [-List.map_take, -List.map_drop, -List.map_set, -List.map_append, -List.drop_one] <;> omega) | fail) [-List.map_take, -List.map_drop, -List.map_set, -List.map_append, -List.drop_one, hj1, hj1', hj2, hj3, hj4, objV_pre0, objV_zero, hfM, u1, u2, e2]
          obtain ⟨q1, q2⟩ := ha.same (by omega) hjl e2
          have hJ' : j + 1 - i = J + 1 := by omega
          simp only at q1 q2
          exact ⟨⟨j + 1, M⟩, weak_same (by simp (disch := first | omega | (simp [-List.map_take, -List.map_drop, -List.map_set, -List.map_append, -List.drop_one] <;> omega) | fail) [-List.map_take, -List.map_drop, -List.map_set, -List.map_append, -List.drop_one, S645, a39S1, q2, hK, hJ']) (by simp (disch := first | omega | (simp [-List.map_take, -List.map_drop, -List.map_set, -List.map_append, -List.drop_one] <;> omega) | fail) [-List.map_take, -List.map_drop, -List.map_set, -List.map_append, -List.drop_one, S645, a39S1]), by simp only; omega, q1⟩
        · have e2' : ¬ l[j] = l[j - 1] := fun q => e2 q.symm
          have st : ∀ h : List AObj, storeO h pre.length 34 (K * 34) (.agg (orC l[j])) (some (fl orC M)) = some (.junk, h.set pre.length (.cells (fl orC (M.set K l[j])))) := fun h => storeO_fm len_orC (by decide) (fun _ => all_orC) (by omega)
          simp (disch := first | omega | (simp [-List.map_take, -List.map_drop, -List.map_set, -List.map_append, -List.drop_one] <;> omega) | fail) [-List.map_take, -List.map_drop, -List.map_set, -List.map_append, -List.drop_one, hj1, hj1', hj2, hj3, hj4, objV_pre0, objV_zero, hfM, u1, u2, st, e2', set_pre0]
          obtain ⟨q1, q2⟩ := ha.step (by omega) hjl e2
          have hJ' : j + 1 - i = J + 1 := by omega
          simp only [hK] at q1 q2
          exact ⟨⟨j + 1, M.set K l[j]⟩, weak_same (by simp (disch := first | omega | (simp [-List.map_take, -List.map_drop, -List.map_set, -List.map_append, -List.drop_one] <;> omega) | fail) [-List.map_take, -List.map_drop, -List.map_set, -List.map_append, -List.drop_one, S645, a39S1, q2, hK, hJ']) (by simp (disch := first | omega | (simp [-List.map_take, -List.map_drop, -List.map_set, -List.map_append, -List.drop_one] <;> omega) | fail) [-List.map_take, -List.map_drop, -List.map_set, -List.map_append, -List.drop_one, S645, a39S1]), by simp only; omega, q1⟩
      · have hj1 : ¬ (J : Int) < ((n - i : Nat) : Int) := by omega
        have hj1' : ¬ J < n - i := by omega
        obtain rfl : j = n := by omega
        have hfin := ha.fin (by simp only; omega)
        simp only at hfin
        have htl : l.take j = l := List.take_of_length_le (by omega)
        rw [htl] at hK
        rw [hK] at hfin
        have hclr : clrD (pre ++ [.cells (fl orC M)]) 34 (orC orZ) (.ms pre.length (j * 34) (K * 34) 34 (j - K) (j * 34)) = some (.tup [], pre ++ [.cells (fl orC (compO orZ l))]) := by
          have hov : objV (pre ++ [.cells (fl orC M)]) pre.length (j * 34) = some (fl orC M) := by rw [objV_pre0, objV_zero, if_pos hfM]
          rw [clrD_ms (s := 34) (m := j - K) (off := K * 34) (ver := j * 34) (zs := orC orZ) (len_orC _) (by decide) all_orC (by omega), hov, Option.map_some, set_pre0, fm_rep]
          have hs := splice_fm (f := orC) len_orC (A := compL l) (B := M.drop K) (C := List.replicate (j - K) orZ) (by simp; omega)
          rw [← hfin, hK] at hs
          rw [hs]
          simp only [compO, hK, hn, List.set_cons_zero]
        have hol : (fl orC (compO orZ l)).length = j * 34 := by rw [fl_len len_orC, compO_len, hn]
        rw [orZ_C] at hclr
        simp (disch := first | omega | (simp [-List.map_take, -List.map_drop, -List.map_set, -List.map_append, -List.drop_one] <;> omega) | fail) [-List.map_take, -List.map_drop, -List.map_set, -List.map_append, -List.drop_one, hj1, hj1', objV_pre0, objV_zero, hfM, set_pre0, hclr, hK, hol]
    · have e' : ¬ l[i] = l[i - 1] := fun q => e q.symm
      simp (disch := first | omega | (simp [-List.map_take, -List.map_drop, -List.map_set, -List.map_append, -List.drop_one] <;> omega) | fail) [-List.map_take, -List.map_drop, -List.map_set, -List.map_append, -List.drop_one, h, h', objV_pre0, objV_zero, hfl, hi1, o1, o2, e']
      refine ⟨i + 1, weak_same (by simp (disch := first | omega | (simp [-List.map_take, -List.map_drop, -List.map_set, -List.map_append, -List.drop_one] <;> omega) | fail) [-List.map_take, -List.map_drop, -List.map_set, -List.map_append, -List.drop_one, S644, a39S0]) (by simp (disch := first | omega | (simp [-List.map_take, -List.map_drop, -List.map_set, -List.map_append, -List.drop_one] <;> omega) | fail) [-List.map_take, -List.map_drop, -List.map_set, -List.map_append, -List.drop_one, S644, a39S0]), by omega, by omega, by omega, ?_⟩
      rw [compL_take (by omega) hil, if_neg e, h5, List.take_succ_eq_append_getElem hil]
  · have h' : ¬ (i : Int) < n := by omega
    have e2 : l.take i = l := List.take_of_length_le (by omega)
    rw [e2] at h5
    have ho := compO_same (z := orZ) h5
    simp (disch := first | omega | (simp [-List.map_take, -List.map_drop, -List.map_set, -List.map_append, -List.drop_one] <;> omega) | fail) [-List.map_take, -List.map_drop, -List.map_set, -List.map_append, -List.drop_one, h, h', ho, h5, hn, objV_pre0, objV_zero, hfl]
theorem runs_comp0O (pre : List AObj) (x : Sl Org) (e : x.l = []) : RunsH tbl0 a39 [x.clone.dv 34 orC] pre (x.clone.dv 34 orC) pre := by
  refine ⟨?_⟩
  have hl : lenD pre (x.clone.dv 34 orC) = some (.int .i64 0) := by rw [lenD_dv, show x.clone.l = x.l from rfl, e]; rfl
  simp (disch := first | omega | (simp [-List.map_take, -List.map_drop, -List.map_set, -List.map_append, -List.drop_one] <;> omega) | fail) [-List.map_take, -List.map_drop, -List.map_set, -List.map_append, -List.drop_one, a39, hl]
theorem runs_compGO {a : SO} (h : cBO a) : RunsH tbl0 a39 (fOneO a) (a.1 ++ mo orC a.2.l) (cmD 34 a.1.length orC a.2) (a.1 ++ mo orC (compO orZ a.2.l)) := by
  obtain ⟨pre, x⟩ := a
  by_cases e : x.l = []
  · have h1 : cmD 34 pre.length orC x = x.clone.dv 34 orC := if_pos e
    simp only [fOneO, mutD_nil e, h1, e, compO_nil, mo_nil, List.append_nil]
    exact runs_comp0O pre x e
  · have h1 : cmD 34 pre.length orC x = .ms pre.length (x.l.length * 34) 0 34 (compL x.l).length (x.l.length * 34) := if_neg e
    simp only [fOneO, mutD_ne e, h1, mo_ne e, mo_ne (compO_ne' e)]
    exact runs_compO pre x.l h e
theorem compO_sound : (Con.heap (cMuO cBO fOneO sCmpO)).Sound P 39 := conH_sound fun a h => calls_runs mix tbl0_sound Tryz.func39 a39_ok (runs_compGO h)
end Go.Proofs.YtdnhbfmlklaldaaGreat
