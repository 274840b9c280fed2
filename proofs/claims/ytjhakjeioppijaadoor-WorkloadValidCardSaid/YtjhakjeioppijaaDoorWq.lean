/-
  Start, Started, Stop of the program.
-/
import Derived.Test.YtjhakjeioppijaaDoorWp
set_option linter.unusedSimpArgs false
set_option linter.unusedVariables false
namespace Go.Proofs.YtjhakjeioppijaaDoor
open Go Go.Am

theorem clone_g_dv {c : Clu} : c.clone.g.clone.dv 6 grC = c.clone.g.dv 6 grC := by
  by_cases h : c.g.l = []
  · simp only [Sl.clone, Clu.clone, Sl.dv, h, List.map_nil, if_true]
    cases c.g.k <;> rfl
  · simp [Sl.clone, Clu.clone, Sl.dv, h]
theorem clone_g_ne {c : Clu} (h : c.g.l ≠ []) : c.clone.g.dv 6 grC = .sl false 6 c.g.l.length ((c.g.l.map Grp.clone).flatMap grC) := by
  rw [← clone_g_dv, clone_dv_ne (clone_gne h), clone_gl, List.length_map]
theorem bsl_i {z : List DV} {x : Ins} (hz : z.length = 37) : bslD 37 1 z [(0, 37, .agg (inC x))] = some (.sl true 37 1 (inC x)) := by
  rw [bslD_of (by simp [DV.known]) (by simp [seqD, hz, DV.cells])]; simp [seqD, DV.cells]
theorem build_i {z : List DV} {a b s i e : Int} {d : Dg} (hz : z.length = 37) : buildD z [(0, 1, .int .i64 a), (1, 1, .int .i64 b), (2, 32, .agg (dgC d)), (34, 1, .int .i64 s), (35, 1, .int .i64 i), (36, 1, .int .i64 e)] = some (.agg (inC ⟨a, b, d, s, i, e⟩)) := by
  rw [buildD_of (by simp [DV.known]) (by simp [seqD, hz, DV.cells])]; simp [seqD, DV.cells, inC]
noncomputable def startB (c : Clu) (g : Int) (d : Dg) (t : Int) : DV := .tup [.agg (clC (startP c g d t).1), .int .i64 (startP c g d t).2.1, .int .i64 (startP c g d t).2.2]
set_option maxHeartbeats 4000000 in
theorem runs_start (c : Clu) (gr : Int) (d : Dg) (t : Int) : Runs T112 a32 [.agg (clC c), .int .i64 gr, .agg (dgC d), .int .i64 t] (startB c gr d t) := by
  refine ⟨?_⟩
  by_cases hv : ValidC c
  case neg =>
    have hd : startP c gr d t = (clu0, 0, 1) := by rw [startP, if_pos (.inl hv)]
    simp (disch := first | omega | (simp [-List.map_take, -List.map_drop, -List.map_set, -List.map_append, -List.drop_one] <;> omega) | fail) [-List.map_take, -List.map_drop, -List.map_set, -List.map_append, -List.drop_one, a32, T112_v, cC1_eq, validCB, T112_t, cTm_eq, startB, tv_false hv, hd, clC_clu0]
  by_cases hz : d = dg0
  · have hd : startP c gr d t = (clu0, 0, 1) := by rw [startP, if_pos (.inr (.inl hz))]
    simp (disch := first | omega | (simp [-List.map_take, -List.map_drop, -List.map_set, -List.map_append, -List.drop_one] <;> omega) | fail) [-List.map_take, -List.map_drop, -List.map_set, -List.map_append, -List.drop_one, a32, T112_v, cC1_eq, validCB, T112_t, cTm_eq, startB, tv_true hv, hz, hd, clC_clu0]
    simp [← hz, hd, clC_clu0]
  by_cases ht : timeOK t
  case neg =>
    have hd : startP c gr d t = (clu0, 0, 1) := by rw [startP, if_pos (.inr (.inr ht))]
    simp (disch := first | omega | (simp [-List.map_take, -List.map_drop, -List.map_set, -List.map_append, -List.drop_one] <;> omega) | fail) [-List.map_take, -List.map_drop, -List.map_set, -List.map_append, -List.drop_one, a32, T112_v, cC1_eq, validCB, T112_t, cTm_eq, startB, tv_true hv, hz, tv_false ht, hd, clC_clu0]
  have hnn : ¬ (¬ ValidC c ∨ d = dg0 ∨ ¬ timeOK t) := fun h => h.elim (fun h => h hv) (fun h => h.elim hz (fun h => h ht))
  have hni := hv.ni
  have hn0 := hv.n0
  by_cases g0 : gr < 0
  · have hd : startP c gr d t = (clu0, 0, 4) := by rw [startP, if_neg hnn, if_pos (.inl g0)]
    simp (disch := first | omega | (simp [-List.map_take, -List.map_drop, -List.map_set, -List.map_append, -List.drop_one] <;> omega) | fail) [-List.map_take, -List.map_drop, -List.map_set, -List.map_append, -List.drop_one, a32, T112_v, cC1_eq, validCB, T112_t, cTm_eq, startB, tv_true hv, hz, tv_true ht, g0, hd, clC_clu0]
  by_cases g1 : (c.g.l.length : Int) ≤ gr
  · have hd : startP c gr d t = (clu0, 0, 4) := by rw [startP, if_neg hnn, if_pos (.inr g1)]
    simp (disch := first | omega | (simp [-List.map_take, -List.map_drop, -List.map_set, -List.map_append, -List.drop_one] <;> omega) | fail) [-List.map_take, -List.map_drop, -List.map_set, -List.map_append, -List.drop_one, a32, T112_v, cC1_eq, validCB, T112_t, cTm_eq, startB, tv_true hv, hz, tv_true ht, g0, g1, hd, clC_clu0]
  have hnn2 : ¬ (gr < 0 ∨ (c.g.l.length : Int) ≤ gr) := fun h => h.elim g0 g1
  by_cases l0 : 200 ≤ c.i.l.length
  · have l0' : (200 : Int) ≤ c.i.l.length := by omega
    have hd : startP c gr d t = (clu0, 0, 3) := by rw [startP, if_neg hnn, if_neg hnn2, if_pos (.inl l0)]
    simp (disch := first | omega | (simp [-List.map_take, -List.map_drop, -List.map_set, -List.map_append, -List.drop_one] <;> omega) | fail) [-List.map_take, -List.map_drop, -List.map_set, -List.map_append, -List.drop_one, a32, T112_v, cC1_eq, validCB, T112_t, cTm_eq, startB, tv_true hv, hz, tv_true ht, g0, g1, l0', l0, hd, clC_clu0]
  have l0' : ¬ (200 : Int) ≤ c.i.l.length := by omega
  by_cases l1 : 1099511627776 ≤ c.next
  · have hd : startP c gr d t = (clu0, 0, 3) := by rw [startP, if_neg hnn, if_neg hnn2, if_pos (.inr l1)]
    simp (disch := first | omega | (simp [-List.map_take, -List.map_drop, -List.map_set, -List.map_append, -List.drop_one] <;> omega) | fail) [-List.map_take, -List.map_drop, -List.map_set, -List.map_append, -List.drop_one, a32, T112_v, cC1_eq, validCB, T112_t, cTm_eq, startB, tv_true hv, hz, tv_true ht, g0, g1, l0', l0, l1, hd, clC_clu0]
  have hnn3 : ¬ (200 ≤ c.i.l.length ∨ 1099511627776 ≤ c.next) := fun h => h.elim l0 l1
  have hd : startP c gr d t = (⟨c.clone.g, own (c.i.l ++ [newI c gr d t]), c.next + 1⟩, c.next, 0) := by rw [startP, if_neg hnn, if_neg hnn2, if_neg hnn3]
  have ho := own_dv (l := c.i.l ++ [newI c gr d t]) (s := 37) (f := inC) (by simp; omega)
  have ha : ∀ l : List Grp, (l.flatMap grC).length = l.length * 6 := fm_len len_grC
  have hb : ∀ l : List Ins, (l.flatMap inC).length = l.length * 37 := fm_len len_inC
  have e12 : DV.int .i64 c.next :: DV.int .i64 gr :: (dgC d ++ [DV.int .i64 1, DV.int .i64 t, DV.int .i64 (-1)]) = inC (newI c gr d t) := rfl
  have hg : c.g.l ≠ [] := by intro e; rw [e] at g1; simp at g1; omega
  have e2 := mutO_ne (f := grC) hg
  have e3 := mutD_ne (id := 5) (s := 6) (f := grC) (clone_gne hg)
  have e4 := mutO_ne (f := grC) (clone_gne hg)
  have e6 := clone_g_ne hg
  have e7 := take_grs (l := c.g.l.map Grp.clone) (n := c.g.l.length) (by simp)
  by_cases hi : c.i.l = []
  · have f1 := fun id => mutD_nil (id := id) (s := 37) (f := inC) hi
    have f2 := mutO_nil (f := inC) hi
    have e5 := fun h cs => appX_clone0 (x := c.i) (s := 37) (b := 72) (m := 1) (f := inC) (h := h) (cs := inC cs) hi (by decide) (by decide) (by simp) (by decide) (by decide)
    have ho : (own (c.i.l ++ [newI c gr d t])).dv 37 inC = .sl false 37 1 (inC (newI c gr d t)) := by rw [ho, hi]; simp
    simp (disch := first | omega | (simp [-List.map_take, -List.map_drop, -List.map_set, -List.map_append, -List.drop_one] <;> omega) | fail) [-List.map_take, -List.map_drop, -List.map_set, -List.map_append, -List.drop_one, a32, T112_v, cC1_eq, validCB, T112_t, cTm_eq, startB, tv_true hv, hz, tv_true ht, g0, g1, l0', l0, l1, T112_c, cNC_eq, clW, storeO_one, bsl_i, e12, hd, clC_mk, ho, clone_gl, e2, e3, e4, e5, e6, e7, f1, f2, ha, hb]
  · have f1 := fun id => mutD_ne (id := id) (s := 37) (f := inC) hi
    have f2 := mutO_ne (f := inC) hi
    have e8 : (c.i.l.flatMap inC ++ inC (newI c gr d t)).take ((c.i.l.length + 1) * 37) = c.i.l.flatMap inC ++ inC (newI c gr d t) := List.take_of_length_le (by rw [List.length_append, hb, len_inC]; omega)
    have e9 : ∀ H k, snapL H k (c.i.l.flatMap inC ++ inC (newI c gr d t)) = some (c.i.l.flatMap inC ++ inC (newI c gr d t)) := fun H k => snapL_clean (pureL_append (fm_pure pure_inC _) (pure_inC _))
    simp (disch := first | omega | (simp [-List.map_take, -List.map_drop, -List.map_set, -List.map_append, -List.drop_one] <;> omega) | fail) [-List.map_take, -List.map_drop, -List.map_set, -List.map_append, -List.drop_one, a32, T112_v, cC1_eq, validCB, T112_t, cTm_eq, startB, tv_true hv, hz, tv_true ht, g0, g1, l0', l0, l1, T112_c, cNC_eq, clW, storeO_one, bsl_i, e12, hd, clC_mk, ho, clone_gl, e2, e3, e4, e6, e7, e8, e9, f1, f2, ha, hb]
end Go.Proofs.YtjhakjeioppijaaDoor
