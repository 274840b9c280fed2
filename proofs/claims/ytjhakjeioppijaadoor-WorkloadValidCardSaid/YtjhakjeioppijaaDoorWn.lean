/-
  Copies of lists and clusters.
-/
import Derived.Test.YtjhakjeioppijaaDoorWm
import Derived.Test.YtjhakjeioppijaaDoorAmAC
set_option linter.unusedSimpArgs false
set_option linter.unusedVariables false
namespace Go.Proofs.YtjhakjeioppijaaDoor
open Go Go.Am

/-- a copy as the function that made it has it -/
def mutD {α : Type} (id s : Nat) (x : Sl α) (f : α → List DV) : DV := if x.l = [] then x.clone.dv s f else .ms id (x.l.length * s) 0 s x.l.length (x.l.length * s)
def mutO {α : Type} (x : Sl α) (f : α → List DV) : List AObj := if x.l = [] then [] else [.cells (x.l.flatMap f)]
theorem mutD_nil {α : Type} {id s : Nat} {x : Sl α} {f : α → List DV} (h : x.l = []) : mutD id s x f = x.clone.dv s f := if_pos h
theorem mutD_ne {α : Type} {id s : Nat} {x : Sl α} {f : α → List DV} (h : x.l ≠ []) : mutD id s x f = .ms id (x.l.length * s) 0 s x.l.length (x.l.length * s) := if_neg h
theorem mutO_nil {α : Type} {x : Sl α} {f : α → List DV} (h : x.l = []) : mutO x f = [] := if_pos h
theorem mutO_ne {α : Type} {x : Sl α} {f : α → List DV} (h : x.l ≠ []) : mutO x f = [.cells (x.l.flatMap f)] := if_neg h
theorem fm_all {α : Type} {f : α → List DV} (h : ∀ a, (f a).all DV.one = true) : ∀ (l : List α), (l.flatMap f).all DV.one = true
  | [] => rfl
  | a :: l => by rw [List.flatMap_cons, List.all_append, h, fm_all h l]; rfl
theorem all_grC (g : Grp) : (grC g).all DV.one = true := by simp only [grC, List.all_cons, one_int, one_str, dv_one, List.all_nil, Bool.and_self]
theorem all_inC (x : Ins) : (inC x).all DV.one = true := by simp only [inC, List.all_cons, List.all_append, all_dgC, one_int, List.all_nil, Bool.and_self]
theorem runs_cloneD (x : Sl Dg) : RunsH tbl0 a75 [x.dv 32 dgC] [] (mutD 0 32 x dgC) (mutO x dgC) := by
  refine ⟨?_⟩
  obtain ⟨k, l, h, hb⟩ := x
  cases k with
  | none =>
    have hl : l = [] := h rfl
    subst hl
    simp (disch := first | omega | (simp [-List.map_take, -List.map_drop, -List.map_set, -List.map_append, -List.drop_one] <;> omega) | fail) [-List.map_take, -List.map_drop, -List.map_set, -List.map_append, -List.drop_one, a75, dv_none]
    exact ⟨by rw [mutD_nil rfl]; rfl, mutO_nil rfl⟩
  | some b =>
    have hb : l.length ≤ 4294967296 := hb
    by_cases hl : l = []
    · subst hl; simp (disch := first | omega | (simp [-List.map_take, -List.map_drop, -List.map_set, -List.map_append, -List.drop_one] <;> omega) | fail) [-List.map_take, -List.map_drop, -List.map_set, -List.map_append, -List.drop_one, a75, dv_some, mutD, mutO, Sl.clone]
    · have h1 := fm_len len_dgC l
      have h2 := fm_all (f := dgC) (fun _ => all_dgC) l
      have h3 : 0 < l.length := List.length_pos_iff.2 hl
      simp (disch := first | omega | (simp [-List.map_take, -List.map_drop, -List.map_set, -List.map_append, -List.drop_one] <;> omega) | fail) [-List.map_take, -List.map_drop, -List.map_set, -List.map_append, -List.drop_one, a75, dv_some, mutD, mutO, hl, h1, h2, h3]
theorem runs_cloneG (x : Sl Grp) : RunsH tbl0 a105 [x.dv 6 grC] [] (mutD 0 6 x grC) (mutO x grC) := by
  refine ⟨?_⟩
  obtain ⟨k, l, h, hb⟩ := x
  cases k with
  | none =>
    have hl : l = [] := h rfl
    subst hl
    simp (disch := first | omega | (simp [-List.map_take, -List.map_drop, -List.map_set, -List.map_append, -List.drop_one] <;> omega) | fail) [-List.map_take, -List.map_drop, -List.map_set, -List.map_append, -List.drop_one, a105, dv_none]
    exact ⟨by rw [mutD_nil rfl]; rfl, mutO_nil rfl⟩
  | some b =>
    have hb : l.length ≤ 4294967296 := hb
    by_cases hl : l = []
    · subst hl; simp (disch := first | omega | (simp [-List.map_take, -List.map_drop, -List.map_set, -List.map_append, -List.drop_one] <;> omega) | fail) [-List.map_take, -List.map_drop, -List.map_set, -List.map_append, -List.drop_one, a105, dv_some, mutD, mutO, Sl.clone]
    · have h1 := fm_len len_grC l
      have h2 := fm_all (f := grC) (all_grC) l
      have h3 : 0 < l.length := List.length_pos_iff.2 hl
      simp (disch := first | omega | (simp [-List.map_take, -List.map_drop, -List.map_set, -List.map_append, -List.drop_one] <;> omega) | fail) [-List.map_take, -List.map_drop, -List.map_set, -List.map_append, -List.drop_one, a105, dv_some, mutD, mutO, hl, h1, h2, h3]
theorem runs_cloneI (x : Sl Ins) : RunsH tbl0 a106 [x.dv 37 inC] [] (mutD 0 37 x inC) (mutO x inC) := by
  refine ⟨?_⟩
  obtain ⟨k, l, h, hb⟩ := x
  cases k with
  | none =>
    have hl : l = [] := h rfl
    subst hl
    simp (disch := first | omega | (simp [-List.map_take, -List.map_drop, -List.map_set, -List.map_append, -List.drop_one] <;> omega) | fail) [-List.map_take, -List.map_drop, -List.map_set, -List.map_append, -List.drop_one, a106, dv_none]
    exact ⟨by rw [mutD_nil rfl]; rfl, mutO_nil rfl⟩
  | some b =>
    have hb : l.length ≤ 4294967296 := hb
    by_cases hl : l = []
    · subst hl; simp (disch := first | omega | (simp [-List.map_take, -List.map_drop, -List.map_set, -List.map_append, -List.drop_one] <;> omega) | fail) [-List.map_take, -List.map_drop, -List.map_set, -List.map_append, -List.drop_one, a106, dv_some, mutD, mutO, Sl.clone]
    · have h1 := fm_len len_inC l
      have h2 := fm_all (f := inC) (all_inC) l
      have h3 : 0 < l.length := List.length_pos_iff.2 hl
      simp (disch := first | omega | (simp [-List.map_take, -List.map_drop, -List.map_set, -List.map_append, -List.drop_one] <;> omega) | fail) [-List.map_take, -List.map_drop, -List.map_set, -List.map_append, -List.drop_one, a106, dv_some, mutD, mutO, hl, h1, h2, h3]
end Go.Proofs.YtjhakjeioppijaaDoor
