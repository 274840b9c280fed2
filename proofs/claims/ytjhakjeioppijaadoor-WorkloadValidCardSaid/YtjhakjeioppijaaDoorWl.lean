/-
  Looking for a digest, a group, an instance.
-/
import Derived.Test.YtjhakjeioppijaaDoorWb
import Derived.Test.YtjhakjeioppijaaDoorWd
import Derived.Test.YtjhakjeioppijaaDoorWg
set_option linter.unusedSimpArgs false
set_option linter.unusedVariables false
namespace Go.Proofs.YtjhakjeioppijaaDoor
open Go Go.Am

/-! contracts by their arguments' data -/
theorem fmap_inj {α : Type} {f : α → List DV} {s : Nat} (hu : ∀ a, (f a).length = s) (h0 : 0 < s) (hi : ∀ a b, f a = f b → a = b) : ∀ {l l' : List α}, l.flatMap f = l'.flatMap f → l = l'
  | [], [], _ => rfl
  | [], b :: l', e => by have := congrArg List.length e; simp [hu] at this; omega
  | a :: l, [], e => by have := congrArg List.length e; simp [hu] at this; omega
  | a :: l, b :: l', e => by
    rw [List.flatMap_cons, List.flatMap_cons] at e
    have := List.append_inj e (by rw [hu, hu])
    rw [hi _ _ this.1, fmap_inj hu h0 hi this.2]
theorem dv_inj {α : Type} {f : α → List DV} {s : Nat} (hu : ∀ a, (f a).length = s) (h0 : 0 < s) (hi : ∀ a b, f a = f b → a = b) {x y : Sl α} (e : x.dv s f = y.dv s f) : x = y := by
  obtain ⟨k, l, h, hb⟩ := x
  obtain ⟨k', l', h', hb'⟩ := y
  cases k with
  | none =>
    cases k' with
    | none => cases h rfl; cases h' rfl; rfl
    | some b => simp [Sl.dv, slD] at e
  | some b =>
    cases k' with
    | none => simp [Sl.dv, slD] at e
    | some b' =>
      simp only [Sl.dv, slD, DV.sl.injEq] at e
      obtain ⟨rfl, _, _, e⟩ := e
      cases fmap_inj hu h0 hi e
      rfl
theorem dgs_inj {x y : Sl Dg} (e : x.dv 32 dgC = y.dv 32 dgC) : x = y := dv_inj len_dgC (by decide) (fun _ _ => dgC_inj) e
theorem grC_inj {a b : Grp} (e : grC a = grC b) : a = b := by
  obtain ⟨a1, a2, a3, a4, a5, a6⟩ := a
  obtain ⟨b1, b2, b3, b4, b5, b6⟩ := b
  simp only [grC, List.cons.injEq, DV.str.injEq, DV.int.injEq, true_and, and_true] at e
  obtain ⟨rfl, rfl, rfl, rfl, rfl, e⟩ := e
  rw [dgs_inj e]
theorem inC_inj {a b : Ins} (e : inC a = inC b) : a = b := by
  have h := cellsEq_in (x := a) (y := b)
  rw [← e, cellsEq_in] at h
  simpa using h
theorem clC_inj {a b : Clu} (e : clC a = clC b) : a = b := by
  obtain ⟨a1, a2, a3⟩ := a
  obtain ⟨b1, b2, b3⟩ := b
  simp only [clC, List.cons.injEq, DV.int.injEq, true_and, and_true] at e
  obtain ⟨e1, e2, rfl⟩ := e
  rw [dv_inj len_grC (by decide) (fun _ _ => grC_inj) e1, dv_inj len_inC (by decide) (fun _ _ => inC_inj) e2]



theorem con_inj {α : Type} {f : α → List DV} {g : α → DV} (hi : ∀ a b, f a = f b → a = b) (a : α) : con (fun _ => True) f g (f a) = some (g a) := con_eq (fun a b e => by rw [hi a b e]) a trivial

/-! a digest among digests -/
def ixDg (x : Sl Dg) (d : Dg) : Int := ixI (fun e => decide (d = e)) x.l
def S100 (x : Sl Dg) (d : Dg) (i : Nat) : St := a103S0 (x.dv 32 dgC) (.mp 0 32 0) (.int .i64 x.l.length) (.int .i64 i) [.cells (dgC d)]
theorem runs_ixdg (x : Sl Dg) (d : Dg) : Runs tbl0 a103 [x.dv 32 dgC, .agg (dgC d)] (.int .i64 (ixDg x d)) := by
  refine ⟨?_⟩
  have hb := x.b
  simp (disch := first | omega | (simp [-List.map_take, -List.map_drop, -List.map_set, -List.map_append, -List.drop_one] <;> omega) | fail) [-List.map_take, -List.map_drop, -List.map_set, -List.map_append, -List.drop_one, a103]
  refine W_loop (S100 x d) (fun i => x.l.length - i) (fun i => i ≤ x.l.length ∧ ∀ j (hj : j < x.l.length), j < i → decide (d = x.l[j]) = false) 0 (weak_same (by simp (disch := first | omega | (simp [-List.map_take, -List.map_drop, -List.map_set, -List.map_append, -List.drop_one] <;> omega) | fail) [-List.map_take, -List.map_drop, -List.map_set, -List.map_append, -List.drop_one]) (by simp (disch := first | omega | (simp [-List.map_take, -List.map_drop, -List.map_set, -List.map_append, -List.drop_one] <;> omega) | fail) [-List.map_take, -List.map_drop, -List.map_set, -List.map_append, -List.drop_one])) ⟨by omega, fun j _ hj => by omega⟩ (fun i hi => ?_)
  obtain ⟨h1, h2⟩ := hi
  simp (disch := first | omega | (simp [-List.map_take, -List.map_drop, -List.map_set, -List.map_append, -List.drop_one] <;> omega) | fail) [-List.map_take, -List.map_drop, -List.map_set, -List.map_append, -List.drop_one, a103L0, a103S0, S100]
  by_cases h : i < x.l.length
  · have h' : (i : Int) < x.l.length := by omega
    have hg := idxSD_dv (x := x) (h := [AObj.cells (dgC d)]) len_dgC h
    by_cases e : d = x.l[i]
    · have hr : ixDg x d = i := ixI_at h (by simp [← e]) h2
      simp (disch := first | omega | (simp [-List.map_take, -List.map_drop, -List.map_set, -List.map_append, -List.drop_one] <;> omega) | fail) [-List.map_take, -List.map_drop, -List.map_set, -List.map_append, -List.drop_one, h', h, hg, ← e, hr]
    · simp (disch := first | omega | (simp [-List.map_take, -List.map_drop, -List.map_set, -List.map_append, -List.drop_one] <;> omega) | fail) [-List.map_take, -List.map_drop, -List.map_set, -List.map_append, -List.drop_one, h', h, hg, e]
      refine ⟨i + 1, weak_same (by simp (disch := first | omega | (simp [-List.map_take, -List.map_drop, -List.map_set, -List.map_append, -List.drop_one] <;> omega) | fail) [-List.map_take, -List.map_drop, -List.map_set, -List.map_append, -List.drop_one]) (by simp (disch := first | omega | (simp [-List.map_take, -List.map_drop, -List.map_set, -List.map_append, -List.drop_one] <;> omega) | fail) [-List.map_take, -List.map_drop, -List.map_set, -List.map_append, -List.drop_one]), by omega, by omega, fun j hj hji => ?_⟩
      by_cases ej : j = i
      · subst ej; exact e
      · simpa using h2 j hj (by omega)
  · have h' : ¬ (i : Int) < x.l.length := by omega
    have hr : ixDg x d = -1 := ixI_none (fun j hj => h2 j hj (by omega))
    simp (disch := first | omega | (simp [-List.map_take, -List.map_drop, -List.map_set, -List.map_append, -List.drop_one] <;> omega) | fail) [-List.map_take, -List.map_drop, -List.map_set, -List.map_append, -List.drop_one, h, h', hr]
noncomputable def cDgs (g : Sl Dg → Dg → DV) : List DV → Option DV := con (fun _ => True) (fun p : Sl Dg × Dg => [p.1.dv 32 dgC, .agg (dgC p.2)]) (fun p => g p.1 p.2)
theorem cDgs_eq {g : Sl Dg → Dg → DV} {x : Sl Dg} {d : Dg} : cDgs g [x.dv 32 dgC, .agg (dgC d)] = some (g x d) :=
  con_inj (f := fun p : Sl Dg × Dg => [p.1.dv 32 dgC, .agg (dgC p.2)]) (by
    rintro ⟨a, b⟩ ⟨c, d⟩ e
    simp only [List.cons.injEq, DV.agg.injEq, and_true] at e
    rw [dgs_inj e.1, dgC_inj e.2]) (x, d)
noncomputable def T100 : Tbl := addT 103 (.pure (cDgs fun x d => .int .i64 (ixDg x d))) tbl0
theorem T100_ix : T100 103 = .pure (cDgs fun x d => .int .i64 (ixDg x d)) := by simp [T100]
theorem T100_sound : T100.Sound P := addT_sound (con_sound fun p _ => sem_runs mix tbl0_sound Tryd.func103 a103_ok (runs_ixdg p.1 p.2)) tbl0_sound
theorem ixDg_mem {x : Sl Dg} {d : Dg} : 0 ≤ ixDg x d ↔ d ∈ x.l := by
  constructor
  · intro h
    obtain ⟨i, hi, _, e, _⟩ := ixI_pos h
    simp at e
    rw [e]; exact List.getElem_mem hi
  · intro h
    obtain ⟨i, hi, e⟩ := List.getElem_of_mem h
    have := ixI_ge (fun e => decide (d = e)) x.l
    by_cases hn : ixDg x d < 0
    · have := ixI_neg hn i hi
      simp [e] at this
    · omega
def hasB (x : Sl Dg) (d : Dg) : DV := .bool (decide (d ∈ x.l))
theorem runs_contdg (x : Sl Dg) (d : Dg) : Runs T100 a61 [x.dv 32 dgC, .agg (dgC d)] (hasB x d) := by
  refine ⟨?_⟩
  simp (disch := first | omega | (simp [-List.map_take, -List.map_drop, -List.map_set, -List.map_append, -List.drop_one] <;> omega) | fail) [-List.map_take, -List.map_drop, -List.map_set, -List.map_append, -List.drop_one, a61, T100_ix, cDgs_eq, hasB, ixDg_mem]

/-! a group, an instance -/
theorem runs_group1 (g : Grp) (ns im : List UInt8) : Runs tbl0 a67 [.agg (grC g), .ref [.str ns], .ref [.str im]] (.bool (fitG ns im g)) := by
  refine ⟨?_⟩
  by_cases e : g.ns = ns
  · simp (disch := first | omega | (simp [-List.map_take, -List.map_drop, -List.map_set, -List.map_append, -List.drop_one] <;> omega) | fail) [-List.map_take, -List.map_drop, -List.map_set, -List.map_append, -List.drop_one, a67, fitG, e]
  · simp (disch := first | omega | (simp [-List.map_take, -List.map_drop, -List.map_set, -List.map_append, -List.drop_one] <;> omega) | fail) [-List.map_take, -List.map_drop, -List.map_set, -List.map_append, -List.drop_one, a67, fitG, e]
noncomputable def cGr1 : List DV → Option DV := con (fun _ => True) (fun p : Grp × List UInt8 × List UInt8 => [.agg (grC p.1), .ref [.str p.2.1], .ref [.str p.2.2]]) (fun p => .bool (fitG p.2.1 p.2.2 p.1))
theorem cGr1_eq {g : Grp} {ns im : List UInt8} : cGr1 [.agg (grC g), .ref [.str ns], .ref [.str im]] = some (.bool (fitG ns im g)) :=
  con_inj (f := fun p : Grp × List UInt8 × List UInt8 => [.agg (grC p.1), .ref [.str p.2.1], .ref [.str p.2.2]]) (by
    rintro ⟨a, b, c⟩ ⟨a', b', c'⟩ e
    simp only [List.cons.injEq, DV.agg.injEq, DV.ref.injEq, DV.str.injEq, and_true] at e
    rw [grC_inj e.1, e.2.1, e.2.2]) (g, ns, im)
noncomputable def T101 : Tbl := addT 67 (.pure cGr1) tbl0
theorem T101_g : T101 67 = .pure cGr1 := by simp [T101]
theorem T101_sound : T101.Sound P := addT_sound (con_sound fun p _ => sem_runs mix tbl0_sound Tryd.func67 a67_ok (runs_group1 p.1 p.2.1 p.2.2)) tbl0_sound
abbrev fG (ns im : List UInt8) : DV := .fn (.func 67) [] [.ref [.str ns], .ref [.str im]]
def S101 (x : Sl Grp) (ns im : List UInt8) (i : Nat) : St := a66S0 (x.dv 6 grC) (fG ns im) (.int .i64 x.l.length) (.int .i64 i) []
theorem runs_ixgr (x : Sl Grp) (ns im : List UInt8) : Runs T101 a66 [x.dv 6 grC, fG ns im] (.int .i64 (grpIx x.l ns im)) := by
  refine ⟨?_⟩
  have hb := x.b
  simp (disch := first | omega | (simp [-List.map_take, -List.map_drop, -List.map_set, -List.map_append, -List.drop_one] <;> omega) | fail) [-List.map_take, -List.map_drop, -List.map_set, -List.map_append, -List.drop_one, a66]
  refine W_loop (S101 x ns im) (fun i => x.l.length - i) (fun i => i ≤ x.l.length ∧ ∀ j (hj : j < x.l.length), j < i → fitG ns im x.l[j] = false) 0 (weak_same (by simp (disch := first | omega | (simp [-List.map_take, -List.map_drop, -List.map_set, -List.map_append, -List.drop_one] <;> omega) | fail) [-List.map_take, -List.map_drop, -List.map_set, -List.map_append, -List.drop_one]) (by simp (disch := first | omega | (simp [-List.map_take, -List.map_drop, -List.map_set, -List.map_append, -List.drop_one] <;> omega) | fail) [-List.map_take, -List.map_drop, -List.map_set, -List.map_append, -List.drop_one])) ⟨by omega, fun j _ hj => by omega⟩ (fun i hi => ?_)
  obtain ⟨h1, h2⟩ := hi
  simp (disch := first | omega | (simp [-List.map_take, -List.map_drop, -List.map_set, -List.map_append, -List.drop_one] <;> omega) | fail) [-List.map_take, -List.map_drop, -List.map_set, -List.map_append, -List.drop_one, a66L0, a66S0, S101]
  by_cases h : i < x.l.length
  · have h' : (i : Int) < x.l.length := by omega
    have hg := idxSD_dv (x := x) (h := []) len_grC h
    cases e : fitG ns im x.l[i] with
    | true =>
      have hr : grpIx x.l ns im = i := ixI_at h e h2
      simp (disch := first | omega | (simp [-List.map_take, -List.map_drop, -List.map_set, -List.map_append, -List.drop_one] <;> omega) | fail) [-List.map_take, -List.map_drop, -List.map_set, -List.map_append, -List.drop_one, h', h, hg, T101_g, cGr1_eq, e, hr]
    | false =>
      simp (disch := first | omega | (simp [-List.map_take, -List.map_drop, -List.map_set, -List.map_append, -List.drop_one] <;> omega) | fail) [-List.map_take, -List.map_drop, -List.map_set, -List.map_append, -List.drop_one, h', h, hg, T101_g, cGr1_eq, e]
      refine ⟨i + 1, weak_same (by simp (disch := first | omega | (simp [-List.map_take, -List.map_drop, -List.map_set, -List.map_append, -List.drop_one] <;> omega) | fail) [-List.map_take, -List.map_drop, -List.map_set, -List.map_append, -List.drop_one]) (by simp (disch := first | omega | (simp [-List.map_take, -List.map_drop, -List.map_set, -List.map_append, -List.drop_one] <;> omega) | fail) [-List.map_take, -List.map_drop, -List.map_set, -List.map_append, -List.drop_one]), by omega, by omega, fun j hj hji => ?_⟩
      by_cases ej : j = i
      · subst ej; exact e
      · exact h2 j hj (by omega)
  · have h' : ¬ (i : Int) < x.l.length := by omega
    have hr : grpIx x.l ns im = -1 := ixI_none (fun j hj => h2 j hj (by omega))
    simp (disch := first | omega | (simp [-List.map_take, -List.map_drop, -List.map_set, -List.map_append, -List.drop_one] <;> omega) | fail) [-List.map_take, -List.map_drop, -List.map_set, -List.map_append, -List.drop_one, h, h', hr]
noncomputable def cIxG : List DV → Option DV := con (fun _ => True) (fun p : Sl Grp × List UInt8 × List UInt8 => [p.1.dv 6 grC, fG p.2.1 p.2.2]) (fun p => .int .i64 (grpIx p.1.l p.2.1 p.2.2))
theorem cIxG_eq {x : Sl Grp} {ns im : List UInt8} : cIxG [x.dv 6 grC, fG ns im] = some (.int .i64 (grpIx x.l ns im)) :=
  con_inj (f := fun p : Sl Grp × List UInt8 × List UInt8 => [p.1.dv 6 grC, fG p.2.1 p.2.2]) (by
    rintro ⟨a, b, c⟩ ⟨a', b', c'⟩ e
    simp only [List.cons.injEq, DV.fn.injEq, DV.ref.injEq, DV.str.injEq, and_true, true_and] at e
    rw [dv_inj len_grC (by decide) (fun _ _ => grC_inj) e.1, e.2.1, e.2.2]) (x, ns, im)
noncomputable def T102 : Tbl := addT 66 (.pure cIxG) tbl0
theorem T102_g : T102 66 = .pure cIxG := by simp [T102]
theorem T102_sound : T102.Sound P := addT_sound (con_sound fun p _ => sem_runs mix T101_sound Tryd.func66 a66_ok (runs_ixgr p.1 p.2.1 p.2.2)) tbl0_sound
theorem snap_fn2 {h : List AObj} {k : Nat} {f : Fn} {x y : DV} : snap h (k + 1) (.fn f [] [x, y]) = (snap h (k + 1) x).bind fun a => (snap h (k + 1) y).map fun b => .fn f [] [a, b] := by
  simp only [snap, snapW, snapWL]
  cases snapW _ x <;> simp only [Option.bind_some, Option.bind_none]
  · rfl
  · cases snapW _ y <;> rfl
theorem snap_fn1' {h : List AObj} {k : Nat} {f : Fn} {x : DV} : snap h (k + 1) (.fn f [] [x]) = (snap h (k + 1) x).map fun y => .fn f [] [y] := by
  simp only [snap, snapW, snapWL]
  cases snapW _ x <;> rfl
theorem snap_dv {α : Type} {h : List AObj} {k s : Nat} {f : α → List DV} {x : Sl α} (hp : ∀ a, pureL (f a) = true) : snap h k (x.dv s f) = some (x.dv s f) := snap_clean (dv_pure hp x)
theorem snap_dv32 {h : List AObj} {k : Nat} {x : Sl Dg} : snap h k (x.dv 32 dgC) = some (x.dv 32 dgC) := snap_dv pure_dgC
theorem snap_dv6 {h : List AObj} {k : Nat} {x : Sl Grp} : snap h k (x.dv 6 grC) = some (x.dv 6 grC) := snap_dv pure_grC
theorem snap_dv37 {h : List AObj} {k : Nat} {x : Sl Ins} : snap h k (x.dv 37 inC) = some (x.dv 37 inC) := snap_dv pure_inC
theorem snapL_clC {h : List AObj} {k : Nat} {c : Clu} : snapL h k (clC c) = some (clC c) := snapL_clean (pure_clC c)
theorem snapL_grC {h : List AObj} {k : Nat} {c : Grp} : snapL h k (grC c) = some (grC c) := snapL_clean (pure_grC c)
theorem snapL_inC {h : List AObj} {k : Nat} {c : Ins} : snapL h k (inC c) = some (inC c) := snapL_clean (pure_inC c)
theorem snapL_dgC {h : List AObj} {k : Nat} {c : Dg} : snapL h k (dgC c) = some (dgC c) := snapL_clean (pure_dgC c)
attribute [simp] snap_fn2 snap_fn1' snap_dv32 snap_dv6 snap_dv37 snapL_clC snapL_grC snapL_inC snapL_dgC
theorem runs_group (c : Clu) (ns im : List UInt8) : Runs T102 a22 [.agg (clC c), .str ns, .str im] (.int .i64 (grpIx c.g.l ns im)) := by
  refine ⟨?_⟩
  simp (disch := first | omega | (simp [-List.map_take, -List.map_drop, -List.map_set, -List.map_append, -List.drop_one] <;> omega) | fail) [-List.map_take, -List.map_drop, -List.map_set, -List.map_append, -List.drop_one, a22, T102_g, cIxG_eq]
theorem runs_find1 (x : Ins) (id : Int) : Runs tbl0 a69 [.agg (inC x), .ref [.int .i64 id]] (.bool (decide (x.id = id))) := by
  refine ⟨?_⟩
  simp (disch := first | omega | (simp [-List.map_take, -List.map_drop, -List.map_set, -List.map_append, -List.drop_one] <;> omega) | fail) [-List.map_take, -List.map_drop, -List.map_set, -List.map_append, -List.drop_one, a69]
noncomputable def cFi1 : List DV → Option DV := con (fun _ => True) (fun p : Ins × Int => [.agg (inC p.1), .ref [.int .i64 p.2]]) (fun p => .bool (decide (p.1.id = p.2)))
theorem cFi1_eq {x : Ins} {id : Int} : cFi1 [.agg (inC x), .ref [.int .i64 id]] = some (.bool (decide (x.id = id))) :=
  con_inj (f := fun p : Ins × Int => [.agg (inC p.1), .ref [.int .i64 p.2]]) (by
    rintro ⟨a, b⟩ ⟨a', b'⟩ e
    simp only [List.cons.injEq, DV.agg.injEq, DV.ref.injEq, DV.int.injEq, and_true, true_and] at e
    rw [inC_inj e.1, e.2]) (x, id)
noncomputable def T103 : Tbl := addT 69 (.pure cFi1) tbl0
theorem T103_g : T103 69 = .pure cFi1 := by simp [T103]
theorem T103_sound : T103.Sound P := addT_sound (con_sound fun p _ => sem_runs mix tbl0_sound Tryd.func69 a69_ok (runs_find1 p.1 p.2)) tbl0_sound
abbrev fI (id : Int) : DV := .fn (.func 69) [] [.ref [.int .i64 id]]
def S103 (x : Sl Ins) (id : Int) (i : Nat) : St := a68S0 (x.dv 37 inC) (fI id) (.int .i64 x.l.length) (.int .i64 i) []
theorem runs_ixin (x : Sl Ins) (id : Int) : Runs T103 a68 [x.dv 37 inC, fI id] (.int .i64 (findIx x.l id)) := by
  refine ⟨?_⟩
  have hb := x.b
  simp (disch := first | omega | (simp [-List.map_take, -List.map_drop, -List.map_set, -List.map_append, -List.drop_one] <;> omega) | fail) [-List.map_take, -List.map_drop, -List.map_set, -List.map_append, -List.drop_one, a68]
  refine W_loop (S103 x id) (fun i => x.l.length - i) (fun i => i ≤ x.l.length ∧ ∀ j (hj : j < x.l.length), j < i → decide (x.l[j].id = id) = false) 0 (weak_same (by simp (disch := first | omega | (simp [-List.map_take, -List.map_drop, -List.map_set, -List.map_append, -List.drop_one] <;> omega) | fail) [-List.map_take, -List.map_drop, -List.map_set, -List.map_append, -List.drop_one]) (by simp (disch := first | omega | (simp [-List.map_take, -List.map_drop, -List.map_set, -List.map_append, -List.drop_one] <;> omega) | fail) [-List.map_take, -List.map_drop, -List.map_set, -List.map_append, -List.drop_one])) ⟨by omega, fun j _ hj => by omega⟩ (fun i hi => ?_)
  obtain ⟨h1, h2⟩ := hi
  simp (disch := first | omega | (simp [-List.map_take, -List.map_drop, -List.map_set, -List.map_append, -List.drop_one] <;> omega) | fail) [-List.map_take, -List.map_drop, -List.map_set, -List.map_append, -List.drop_one, a68L0, a68S0, S103]
  by_cases h : i < x.l.length
  · have h' : (i : Int) < x.l.length := by omega
    have hg := idxSD_dv (x := x) (h := []) len_inC h
    by_cases e : x.l[i].id = id
    · have hr : findIx x.l id = i := ixI_at h (by simp [e]) h2
      simp (disch := first | omega | (simp [-List.map_take, -List.map_drop, -List.map_set, -List.map_append, -List.drop_one] <;> omega) | fail) [-List.map_take, -List.map_drop, -List.map_set, -List.map_append, -List.drop_one, h', h, hg, T103_g, cFi1_eq, e, hr]
    · simp (disch := first | omega | (simp [-List.map_take, -List.map_drop, -List.map_set, -List.map_append, -List.drop_one] <;> omega) | fail) [-List.map_take, -List.map_drop, -List.map_set, -List.map_append, -List.drop_one, h', h, hg, T103_g, cFi1_eq, e]
      refine ⟨i + 1, weak_same (by simp (disch := first | omega | (simp [-List.map_take, -List.map_drop, -List.map_set, -List.map_append, -List.drop_one] <;> omega) | fail) [-List.map_take, -List.map_drop, -List.map_set, -List.map_append, -List.drop_one]) (by simp (disch := first | omega | (simp [-List.map_take, -List.map_drop, -List.map_set, -List.map_append, -List.drop_one] <;> omega) | fail) [-List.map_take, -List.map_drop, -List.map_set, -List.map_append, -List.drop_one]), by omega, by omega, fun j hj hji => ?_⟩
      by_cases ej : j = i
      · subst ej; exact e
      · simpa using h2 j hj (by omega)
  · have h' : ¬ (i : Int) < x.l.length := by omega
    have hr : findIx x.l id = -1 := ixI_none (fun j hj => h2 j hj (by omega))
    simp (disch := first | omega | (simp [-List.map_take, -List.map_drop, -List.map_set, -List.map_append, -List.drop_one] <;> omega) | fail) [-List.map_take, -List.map_drop, -List.map_set, -List.map_append, -List.drop_one, h, h', hr]
noncomputable def cIxI : List DV → Option DV := con (fun _ => True) (fun p : Sl Ins × Int => [p.1.dv 37 inC, fI p.2]) (fun p => .int .i64 (findIx p.1.l p.2))
theorem cIxI_eq {x : Sl Ins} {id : Int} : cIxI [x.dv 37 inC, fI id] = some (.int .i64 (findIx x.l id)) :=
  con_inj (f := fun p : Sl Ins × Int => [p.1.dv 37 inC, fI p.2]) (by
    rintro ⟨a, b⟩ ⟨a', b'⟩ e
    simp only [List.cons.injEq, DV.fn.injEq, DV.ref.injEq, DV.int.injEq, and_true, true_and] at e
    rw [dv_inj len_inC (by decide) (fun _ _ => inC_inj) e.1, e.2]) (x, id)
noncomputable def T104 : Tbl := addT 68 (.pure cIxI) tbl0
theorem T104_g : T104 68 = .pure cIxI := by simp [T104]
theorem T104_sound : T104.Sound P := addT_sound (con_sound fun p _ => sem_runs mix T103_sound Tryd.func68 a68_ok (runs_ixin p.1 p.2)) tbl0_sound
theorem runs_find (c : Clu) (id : Int) : Runs T104 a24 [.agg (clC c), .int .i64 id] (.int .i64 (findIx c.i.l id)) := by
  refine ⟨?_⟩
  simp (disch := first | omega | (simp [-List.map_take, -List.map_drop, -List.map_set, -List.map_append, -List.drop_one] <;> omega) | fail) [-List.map_take, -List.map_drop, -List.map_set, -List.map_append, -List.drop_one, a24, T104_g, cIxI_eq]
end Go.Proofs.YtjhakjeioppijaaDoor
