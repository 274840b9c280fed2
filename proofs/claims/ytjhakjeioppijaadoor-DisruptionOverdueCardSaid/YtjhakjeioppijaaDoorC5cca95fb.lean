/-
  3 texts of mine in one.
-/
import Derived.Test.YtjhakjeioppijaaDoorC5f0ea989
import Derived.Test.YtjhakjeioppijaaDoorC950dc02d
import Derived.Test.YtjhakjeioppijaaDoorC0aefe577
import Derived.Test.YtjhakjeioppijaaDoorC3dcfe18e
import Derived.Test.YtjhakjeioppijaaDoorCe716085a
import Derived.Test.YtjhakjeioppijaaDoorC4dcda786
/-
  Disruption: the reference's Overdue; equal lists.
-/
set_option linter.unusedSimpArgs false
set_option linter.unusedVariables false
namespace Go.Proofs.YtjhakjeioppijaaDoor
open Go Go.Am

def sameL (a b : List Int) : Bool := decide (a = b)
def S321 (a b : List Int) (i : Nat) : St := a85S0 (liV a) (liV b) (.int .i64 i) []
theorem runs_sameints (a b : List Int) (ha : a.length ≤ 1000000) (hb : b.length ≤ 1000000) : Runs tbl0 a85 [liV a, liV b] (.bool (sameL a b)) := by
  refine ⟨?_⟩
  by_cases hl : a.length = b.length
  · have hl' : (a.length : Int) = b.length := by omega
    simp (disch := first | omega | (simp [-List.map_take, -List.map_drop, -List.map_set, -List.map_append, -List.drop_one] <;> omega) | fail) [-List.map_take, -List.map_drop, -List.map_set, -List.map_append, -List.drop_one, a85, hl, hl']
    refine W_loop (S321 a b) (fun i => a.length - i) (fun i => i ≤ a.length ∧ a.take i = b.take i) 0 (weak_same (by simp (disch := first | omega | (simp [-List.map_take, -List.map_drop, -List.map_set, -List.map_append, -List.drop_one] <;> omega) | fail) [-List.map_take, -List.map_drop, -List.map_set, -List.map_append, -List.drop_one, S321, a85S0]) (by simp (disch := first | omega | (simp [-List.map_take, -List.map_drop, -List.map_set, -List.map_append, -List.drop_one] <;> omega) | fail) [-List.map_take, -List.map_drop, -List.map_set, -List.map_append, -List.drop_one, S321, a85S0])) ⟨by omega, by simp⟩ (fun i hi => ?_)
    obtain ⟨h1, h2⟩ := hi
    simp (disch := first | omega | (simp [-List.map_take, -List.map_drop, -List.map_set, -List.map_append, -List.drop_one] <;> omega) | fail) [-List.map_take, -List.map_drop, -List.map_set, -List.map_append, -List.drop_one, a85L0, a85S0, S321]
    by_cases h : i < a.length
    · have h' : (i : Int) < a.length := by omega
      have hx := fun H => liV_idx H h
      have hy := fun H => liV_idx H (l := b) (i := i) (by omega)
      by_cases e : a[i] = b[i]
      · simp (disch := first | omega | (simp [-List.map_take, -List.map_drop, -List.map_set, -List.map_append, -List.drop_one] <;> omega) | fail) [-List.map_take, -List.map_drop, -List.map_set, -List.map_append, -List.drop_one, h, h', hx, hy, e]
        refine ⟨i + 1, weak_same (by simp (disch := first | omega | (simp [-List.map_take, -List.map_drop, -List.map_set, -List.map_append, -List.drop_one] <;> omega) | fail) [-List.map_take, -List.map_drop, -List.map_set, -List.map_append, -List.drop_one, S321, a85S0]) (by simp (disch := first | omega | (simp [-List.map_take, -List.map_drop, -List.map_set, -List.map_append, -List.drop_one] <;> omega) | fail) [-List.map_take, -List.map_drop, -List.map_set, -List.map_append, -List.drop_one, S321, a85S0]), by omega, by omega, ?_⟩
        rw [List.take_succ_eq_append_getElem h, List.take_succ_eq_append_getElem (by omega), h2, e]
      · have hr : sameL a b = false := by
          unfold sameL
          simp only [decide_eq_false_iff_not]
          intro q; subst q; exact e rfl
        simp (disch := first | omega | (simp [-List.map_take, -List.map_drop, -List.map_set, -List.map_append, -List.drop_one] <;> omega) | fail) [-List.map_take, -List.map_drop, -List.map_set, -List.map_append, -List.drop_one, h, h', hx, hy, e, hr]
    · have h' : ¬ (i : Int) < a.length := by omega
      have hr : sameL a b = true := by
        unfold sameL
        simp only [decide_eq_true_eq]
        rw [List.take_of_length_le (by omega), List.take_of_length_le (by omega)] at h2
        exact h2
      simp (disch := first | omega | (simp [-List.map_take, -List.map_drop, -List.map_set, -List.map_append, -List.drop_one] <;> omega) | fail) [-List.map_take, -List.map_drop, -List.map_set, -List.map_append, -List.drop_one, h, h', hr]
  · have hl' : ¬ (a.length : Int) = b.length := by omega
    have hr : sameL a b = false := by
      unfold sameL
      simp only [decide_eq_false_iff_not]
      intro q; subst q; exact hl rfl
    simp (disch := first | omega | (simp [-List.map_take, -List.map_drop, -List.map_set, -List.map_append, -List.drop_one] <;> omega) | fail) [-List.map_take, -List.map_drop, -List.map_set, -List.map_append, -List.drop_one, a85, hl, hl', hr]
noncomputable def T320 : Tbl := addT 85 (.pure (cLL sameL)) tbl0
theorem T320_s : T320 85 = .pure (cLL sameL) := by simp [T320]
theorem T320_sound : T320.Sound P := addT_sound (con_sound fun a h => sem_runs mix tbl0_sound Tryd.func85 a85_ok (runs_sameints a.1 a.2 h.1 h.2)) tbl0_sound
theorem runs_ints (a b : List Int) (ha : a.length ≤ 1000000) (hb : b.length ≤ 1000000) : Runs T320 a47 [liV a, liV b] (.bool (sameL a b)) := by
  refine ⟨?_⟩
  have h := cLL_eq (f := sameL) ha hb
  simp (disch := first | omega | (simp [-List.map_take, -List.map_drop, -List.map_set, -List.map_append, -List.drop_one] <;> omega) | fail) [-List.map_take, -List.map_drop, -List.map_set, -List.map_append, -List.drop_one, a47, T320_s, h]
theorem ints_sound : (Con.pure (cLL sameL)).Sound P 47 := con_sound fun a h => sem_runs mix T320_sound Tryd.func47 a47_ok (runs_ints a.1 a.2 h.1 h.2)
/-- states are 1, 2 or 3 -/
structure OvR (a : Clu × Nl × Int) : Prop where
  o : OvOK a
  s : ∀ x ∈ a.1.i.l, 1 ≤ x.state ∧ x.state ≤ 3
def S320 (c : Clu) (g : Nl) (t : Int) (a : OS) : St := a57S0 g.dv (.int .i64 t) (.mp 0 3 0) (srtV 2 a.L) (.int .i64 a.i) (ovH c a)
set_option maxRecDepth 20000 in
set_option maxHeartbeats 1000000 in
theorem runs_refoverdue (c : Clu) (g : Nl) (t : Int) (hv : OvR (c, g, t)) : Runs tbl0 a57 [.agg (clC c), g.dv, .int .i64 t] (liV (overP c.i.l 0 g.l t)) := by
  refine ⟨?_⟩
  have hib := c.i.b
  have hgb := g.b
  obtain ⟨t1, t2⟩ := hv.o.t
  obtain ⟨n, hn⟩ : ∃ n, c.i.l.length = n := ⟨_, rfl⟩
  simp only at t1 t2
  simp (disch := first | omega | (simp [-List.map_take, -List.map_drop, -List.map_set, -List.map_append, -List.drop_one] <;> omega) | fail) [-List.map_take, -List.map_drop, -List.map_set, -List.map_append, -List.drop_one, a57]
  refine W_loop (S320 c g t) (fun a => n - a.i) (fun a => a.i ≤ n ∧ a.L = overP (c.i.l.take a.i) 0 g.l t) ⟨0, [], ⟨0, 0, dg0, 0, 0, 0⟩⟩ (weak_same (by simp (disch := first | omega | (simp [-List.map_take, -List.map_drop, -List.map_set, -List.map_append, -List.drop_one] <;> omega) | fail) [-List.map_take, -List.map_drop, -List.map_set, -List.map_append, -List.drop_one, S320, a57S0, srtV_nil]) (by simp (disch := first | omega | (simp [-List.map_take, -List.map_drop, -List.map_set, -List.map_append, -List.drop_one] <;> omega) | fail) [-List.map_take, -List.map_drop, -List.map_set, -List.map_append, -List.drop_one, S320, a57S0, ovH_nil])) ⟨by simp, by simp [overP]⟩ (fun a ha => ?_)
  obtain ⟨i, L, z⟩ := a
  obtain ⟨r1, r2⟩ := ha
  simp only at r1 r2
  simp (disch := first | omega | (simp [-List.map_take, -List.map_drop, -List.map_set, -List.map_append, -List.drop_one] <;> omega) | fail) [-List.map_take, -List.map_drop, -List.map_set, -List.map_append, -List.drop_one, a57L0, a57S0, S320]
  by_cases h : i < n
  · have h' : (i : Int) < n := by omega
    have h2 : i < c.i.l.length := by omega
    have hi := fun H => idxSD_dv (x := c.i) (h := H) len_inC h2
    have hxd := hv.o.d _ (List.getElem_mem h2)
    have hxs := hv.s _ (List.getElem_mem h2)
    have hs : overP (c.i.l.take (i + 1)) 0 g.l t = L ++ (if overB c.i.l[i] (g.l.getD i 0) t = true then [c.i.l[i].id] else []) := by
      rw [List.take_succ_eq_append_getElem h2, overP_snoc, ← r2]
      simp only [List.length_take, Nat.zero_add, Nat.min_eq_left (Nat.le_of_lt h2)]
    have hll : L.length ≤ i := by rw [r2]; exact Nat.le_trans overP_len (by simp; omega)
    obtain ⟨x, hx⟩ : ∃ x, c.i.l[i] = x := ⟨_, rfl⟩
    simp only [hx] at hi hxd hxs hs
    have hg : (i < g.l.length ∧ ∀ H, idxSD H 1 g.dv i = some (.ref [.int .i64 (g.l.getD i 0)])) ∨ ¬ i < g.l.length ∧ g.l.getD i 0 = 0 := by
      by_cases q : i < g.l.length
      · refine .inl ⟨q, fun H => ?_⟩
        rw [nl_idx H g q, List.getD_eq_getElem?_getD, List.getElem?_eq_getElem q]; rfl
      · refine .inr ⟨q, ?_⟩
        rw [List.getD_eq_getElem?_getD, List.getElem?_eq_none (by omega)]; rfl
    obtain ⟨G, hG⟩ : ∃ G, g.l.getD i 0 = G := ⟨_, rfl⟩
    rw [hG] at hg hs
    obtain ⟨d1, d2⟩ := hxd
    have hsn : overB x G t = (decide (x.state ≠ 3) && (decide (0 ≤ x.den) && decide (G ≤ t - x.den))) := rfl
    by_cases c1 : x.state = 1
    case pos =>
      by_cases c2 : 0 ≤ x.den
      case neg =>
        have hB : overB x G t = false := by rw [hsn]; simp [c2]
        rcases hg with ⟨g1, g2⟩ | ⟨g1, g2⟩
        · have g1' : (i : Int) < g.l.length := by omega
          have hs' : overP (c.i.l.take (i + 1)) 0 g.l t = L := by rw [hs, hB]; simp
          by_cases hL : L = []
          · subst hL
            simp (disch := first | omega | (simp [-List.map_take, -List.map_drop, -List.map_set, -List.map_append, -List.drop_one] <;> omega) | fail) [-List.map_take, -List.map_drop, -List.map_set, -List.map_append, -List.drop_one, hn, h, h', hi, srtV_nil, ovH_nil, g1, g1', g2, c1, c2]
            refine ⟨⟨i + 1, [], x⟩, weak_drop (tail := [.cells (inC x)]) (by simp (disch := first | omega | (simp [-List.map_take, -List.map_drop, -List.map_set, -List.map_append, -List.drop_one] <;> omega) | fail) [-List.map_take, -List.map_drop, -List.map_set, -List.map_append, -List.drop_one, S320, a57S0, srtV]) (by simp (disch := first | omega | (simp [-List.map_take, -List.map_drop, -List.map_set, -List.map_append, -List.drop_one] <;> omega) | fail) [-List.map_take, -List.map_drop, -List.map_set, -List.map_append, -List.drop_one, S320, a57S0, ovH]) (by simp [S320, a57S0, ovH]) (by simp [S320, a57S0, ovH, srtV, belowL, Am.below]) (by simp [S320, a57S0, ovH, belowH]), by simp; omega, by simp; omega, by rw [hs']⟩
          · have hSV := srtV_ne (p := 2) hL
            have hLp : 0 < L.length := by cases L with | nil => exact absurd rfl hL | cons a l => simp
            have hap := fun H o z c y => appX_li (h := H) (l := L) (o := o) (x := z) (c := c) (y := y) hLp (by omega)
            simp (disch := first | omega | (simp [-List.map_take, -List.map_drop, -List.map_set, -List.map_append, -List.drop_one] <;> omega) | fail) [-List.map_take, -List.map_drop, -List.map_set, -List.map_append, -List.drop_one, hn, h, h', hi, hSV, ovH_ne hL, hap, g1, g1', g2, c1, c2]
            refine ⟨⟨i + 1, L, z⟩, weak_drop (tail := [.cells (inC x)]) (by simp (disch := first | omega | (simp [-List.map_take, -List.map_drop, -List.map_set, -List.map_append, -List.drop_one] <;> omega) | fail) [-List.map_take, -List.map_drop, -List.map_set, -List.map_append, -List.drop_one, S320, a57S0, srtV, hL]) (by simp (disch := first | omega | (simp [-List.map_take, -List.map_drop, -List.map_set, -List.map_append, -List.drop_one] <;> omega) | fail) [-List.map_take, -List.map_drop, -List.map_set, -List.map_append, -List.drop_one, S320, a57S0, ovH, hL]) (by simp [S320, a57S0, ovH, hL]) (by simp [S320, a57S0, ovH, hL, srtV, belowL, Am.below]) (by simp [S320, a57S0, ovH, hL, belowH, belowL_map64]), by simp; omega, by simp; omega, by rw [hs']⟩
        · subst g2
          have g1' : ¬ (i : Int) < g.l.length := by omega
          have hs' : overP (c.i.l.take (i + 1)) 0 g.l t = L := by rw [hs, hB]; simp
          by_cases hL : L = []
          · subst hL
            simp (disch := first | omega | (simp [-List.map_take, -List.map_drop, -List.map_set, -List.map_append, -List.drop_one] <;> omega) | fail) [-List.map_take, -List.map_drop, -List.map_set, -List.map_append, -List.drop_one, hn, h, h', hi, srtV_nil, ovH_nil, g1, g1', c1, c2]
            refine ⟨⟨i + 1, [], x⟩, weak_drop (tail := [.cells (inC x)]) (by simp (disch := first | omega | (simp [-List.map_take, -List.map_drop, -List.map_set, -List.map_append, -List.drop_one] <;> omega) | fail) [-List.map_take, -List.map_drop, -List.map_set, -List.map_append, -List.drop_one, S320, a57S0, srtV]) (by simp (disch := first | omega | (simp [-List.map_take, -List.map_drop, -List.map_set, -List.map_append, -List.drop_one] <;> omega) | fail) [-List.map_take, -List.map_drop, -List.map_set, -List.map_append, -List.drop_one, S320, a57S0, ovH]) (by simp [S320, a57S0, ovH]) (by simp [S320, a57S0, ovH, srtV, belowL, Am.below]) (by simp [S320, a57S0, ovH, belowH]), by simp; omega, by simp; omega, by rw [hs']⟩
          · have hSV := srtV_ne (p := 2) hL
            have hLp : 0 < L.length := by cases L with | nil => exact absurd rfl hL | cons a l => simp
            have hap := fun H o z c y => appX_li (h := H) (l := L) (o := o) (x := z) (c := c) (y := y) hLp (by omega)
            simp (disch := first | omega | (simp [-List.map_take, -List.map_drop, -List.map_set, -List.map_append, -List.drop_one] <;> omega) | fail) [-List.map_take, -List.map_drop, -List.map_set, -List.map_append, -List.drop_one, hn, h, h', hi, hSV, ovH_ne hL, hap, g1, g1', c1, c2]
            refine ⟨⟨i + 1, L, z⟩, weak_drop (tail := [.cells (inC x)]) (by simp (disch := first | omega | (simp [-List.map_take, -List.map_drop, -List.map_set, -List.map_append, -List.drop_one] <;> omega) | fail) [-List.map_take, -List.map_drop, -List.map_set, -List.map_append, -List.drop_one, S320, a57S0, srtV, hL]) (by simp (disch := first | omega | (simp [-List.map_take, -List.map_drop, -List.map_set, -List.map_append, -List.drop_one] <;> omega) | fail) [-List.map_take, -List.map_drop, -List.map_set, -List.map_append, -List.drop_one, S320, a57S0, ovH, hL]) (by simp [S320, a57S0, ovH, hL]) (by simp [S320, a57S0, ovH, hL, srtV, belowL, Am.below]) (by simp [S320, a57S0, ovH, hL, belowH, belowL_map64]), by simp; omega, by simp; omega, by rw [hs']⟩
      by_cases c3 : G ≤ t - x.den
      · have hB : overB x G t = true := by rw [hsn]; simp [c1, c2, c3]
        rcases hg with ⟨g1, g2⟩ | ⟨g1, g2⟩
        · have g1' : (i : Int) < g.l.length := by omega
          have hs' : overP (c.i.l.take (i + 1)) 0 g.l t = L ++ [x.id] := by rw [hs, hB]; simp
          by_cases hL : L = []
          · subst hL
            simp (disch := first | omega | (simp [-List.map_take, -List.map_drop, -List.map_set, -List.map_append, -List.drop_one] <;> omega) | fail) [-List.map_take, -List.map_drop, -List.map_set, -List.map_append, -List.drop_one, hn, h, h', hi, srtV_nil, ovH_nil, g1, g1', g2, c1, c2, c3]
            refine ⟨⟨i + 1, [x.id], x⟩, weak_same (by simp (disch := first | omega | (simp [-List.map_take, -List.map_drop, -List.map_set, -List.map_append, -List.drop_one] <;> omega) | fail) [-List.map_take, -List.map_drop, -List.map_set, -List.map_append, -List.drop_one, S320, a57S0, srtV]) (by simp (disch := first | omega | (simp [-List.map_take, -List.map_drop, -List.map_set, -List.map_append, -List.drop_one] <;> omega) | fail) [-List.map_take, -List.map_drop, -List.map_set, -List.map_append, -List.drop_one, S320, a57S0, ovH]), by simp; omega, by simp; omega, by rw [hs']; rfl⟩
          · have hSV := srtV_ne (p := 2) hL
            have hLp : 0 < L.length := by cases L with | nil => exact absurd rfl hL | cons a l => simp
            have hap := fun H o z c y => appX_li (h := H) (l := L) (o := o) (x := z) (c := c) (y := y) hLp (by omega)
            simp (disch := first | omega | (simp [-List.map_take, -List.map_drop, -List.map_set, -List.map_append, -List.drop_one] <;> omega) | fail) [-List.map_take, -List.map_drop, -List.map_set, -List.map_append, -List.drop_one, hn, h, h', hi, hSV, ovH_ne hL, hap, g1, g1', g2, c1, c2, c3]
            have hO : ovH c ⟨i + 1, L ++ [x.id], z⟩ = [.cells (clC c), .cells (inC z), .cells ((L ++ [x.id]).map (.int .i64))] := ovH_ne (by simp)
            have hV : srtV 2 (L ++ [x.id]) = .ms 2 (L.length + 1) 0 1 (L.length + 1) (L.length + 1) := by rw [srtV_ne (by simp), List.length_append]; rfl
            refine ⟨⟨i + 1, L ++ [x.id], z⟩, weak_drop (tail := [.cells (inC x)]) (by simp (disch := first | omega | (simp [-List.map_take, -List.map_drop, -List.map_set, -List.map_append, -List.drop_one] <;> omega) | fail) [-List.map_take, -List.map_drop, -List.map_set, -List.map_append, -List.drop_one, S320, a57S0, hV]) (by simp (disch := first | omega | (simp [-List.map_take, -List.map_drop, -List.map_set, -List.map_append, -List.drop_one] <;> omega) | fail) [-List.map_take, -List.map_drop, -List.map_set, -List.map_append, -List.drop_one, S320, a57S0, hO]) (Nat.zero_le _) (by simp (disch := first | omega | (simp [-List.map_take, -List.map_drop, -List.map_set, -List.map_append, -List.drop_one] <;> omega) | fail) [-List.map_take, -List.map_drop, -List.map_set, -List.map_append, -List.drop_one, S320, a57S0, hO, hV, belowL, Am.below]) (by simp (disch := first | omega | (simp [-List.map_take, -List.map_drop, -List.map_set, -List.map_append, -List.drop_one] <;> omega) | fail) [-List.map_take, -List.map_drop, -List.map_set, -List.map_append, -List.drop_one, S320, a57S0, hO, belowH, belowL_map64]), by simp; omega, by simp; omega, by rw [hs']⟩
        · subst g2
          have g1' : ¬ (i : Int) < g.l.length := by omega
          have c3' : x.den ≤ t := by omega
          have hs' : overP (c.i.l.take (i + 1)) 0 g.l t = L ++ [x.id] := by rw [hs, hB]; simp
          by_cases hL : L = []
          · subst hL
            simp (disch := first | omega | (simp [-List.map_take, -List.map_drop, -List.map_set, -List.map_append, -List.drop_one] <;> omega) | fail) [-List.map_take, -List.map_drop, -List.map_set, -List.map_append, -List.drop_one, hn, h, h', hi, srtV_nil, ovH_nil, g1, g1', c3', c1, c2, c3]
            refine ⟨⟨i + 1, [x.id], x⟩, weak_same (by simp (disch := first | omega | (simp [-List.map_take, -List.map_drop, -List.map_set, -List.map_append, -List.drop_one] <;> omega) | fail) [-List.map_take, -List.map_drop, -List.map_set, -List.map_append, -List.drop_one, S320, a57S0, srtV]) (by simp (disch := first | omega | (simp [-List.map_take, -List.map_drop, -List.map_set, -List.map_append, -List.drop_one] <;> omega) | fail) [-List.map_take, -List.map_drop, -List.map_set, -List.map_append, -List.drop_one, S320, a57S0, ovH]), by simp; omega, by simp; omega, by rw [hs']; rfl⟩
          · have hSV := srtV_ne (p := 2) hL
            have hLp : 0 < L.length := by cases L with | nil => exact absurd rfl hL | cons a l => simp
            have hap := fun H o z c y => appX_li (h := H) (l := L) (o := o) (x := z) (c := c) (y := y) hLp (by omega)
            simp (disch := first | omega | (simp [-List.map_take, -List.map_drop, -List.map_set, -List.map_append, -List.drop_one] <;> omega) | fail) [-List.map_take, -List.map_drop, -List.map_set, -List.map_append, -List.drop_one, hn, h, h', hi, hSV, ovH_ne hL, hap, g1, g1', c3', c1, c2, c3]
            have hO : ovH c ⟨i + 1, L ++ [x.id], z⟩ = [.cells (clC c), .cells (inC z), .cells ((L ++ [x.id]).map (.int .i64))] := ovH_ne (by simp)
            have hV : srtV 2 (L ++ [x.id]) = .ms 2 (L.length + 1) 0 1 (L.length + 1) (L.length + 1) := by rw [srtV_ne (by simp), List.length_append]; rfl
            refine ⟨⟨i + 1, L ++ [x.id], z⟩, weak_drop (tail := [.cells (inC x)]) (by simp (disch := first | omega | (simp [-List.map_take, -List.map_drop, -List.map_set, -List.map_append, -List.drop_one] <;> omega) | fail) [-List.map_take, -List.map_drop, -List.map_set, -List.map_append, -List.drop_one, S320, a57S0, hV]) (by simp (disch := first | omega | (simp [-List.map_take, -List.map_drop, -List.map_set, -List.map_append, -List.drop_one] <;> omega) | fail) [-List.map_take, -List.map_drop, -List.map_set, -List.map_append, -List.drop_one, S320, a57S0, hO]) (Nat.zero_le _) (by simp (disch := first | omega | (simp [-List.map_take, -List.map_drop, -List.map_set, -List.map_append, -List.drop_one] <;> omega) | fail) [-List.map_take, -List.map_drop, -List.map_set, -List.map_append, -List.drop_one, S320, a57S0, hO, hV, belowL, Am.below]) (by simp (disch := first | omega | (simp [-List.map_take, -List.map_drop, -List.map_set, -List.map_append, -List.drop_one] <;> omega) | fail) [-List.map_take, -List.map_drop, -List.map_set, -List.map_append, -List.drop_one, S320, a57S0, hO, belowH, belowL_map64]), by simp; omega, by simp; omega, by rw [hs']⟩
      · have hB : overB x G t = false := by rw [hsn]; simp [c3]
        rcases hg with ⟨g1, g2⟩ | ⟨g1, g2⟩
        · have g1' : (i : Int) < g.l.length := by omega
          have hs' : overP (c.i.l.take (i + 1)) 0 g.l t = L := by rw [hs, hB]; simp
          by_cases hL : L = []
          · subst hL
            simp (disch := first | omega | (simp [-List.map_take, -List.map_drop, -List.map_set, -List.map_append, -List.drop_one] <;> omega) | fail) [-List.map_take, -List.map_drop, -List.map_set, -List.map_append, -List.drop_one, hn, h, h', hi, srtV_nil, ovH_nil, g1, g1', g2, c1, c2, c3]
            refine ⟨⟨i + 1, [], x⟩, weak_drop (tail := [.cells (inC x)]) (by simp (disch := first | omega | (simp [-List.map_take, -List.map_drop, -List.map_set, -List.map_append, -List.drop_one] <;> omega) | fail) [-List.map_take, -List.map_drop, -List.map_set, -List.map_append, -List.drop_one, S320, a57S0, srtV]) (by simp (disch := first | omega | (simp [-List.map_take, -List.map_drop, -List.map_set, -List.map_append, -List.drop_one] <;> omega) | fail) [-List.map_take, -List.map_drop, -List.map_set, -List.map_append, -List.drop_one, S320, a57S0, ovH]) (by simp [S320, a57S0, ovH]) (by simp [S320, a57S0, ovH, srtV, belowL, Am.below]) (by simp [S320, a57S0, ovH, belowH]), by simp; omega, by simp; omega, by rw [hs']⟩
          · have hSV := srtV_ne (p := 2) hL
            have hLp : 0 < L.length := by cases L with | nil => exact absurd rfl hL | cons a l => simp
            have hap := fun H o z c y => appX_li (h := H) (l := L) (o := o) (x := z) (c := c) (y := y) hLp (by omega)
            simp (disch := first | omega | (simp [-List.map_take, -List.map_drop, -List.map_set, -List.map_append, -List.drop_one] <;> omega) | fail) [-List.map_take, -List.map_drop, -List.map_set, -List.map_append, -List.drop_one, hn, h, h', hi, hSV, ovH_ne hL, hap, g1, g1', g2, c1, c2, c3]
            refine ⟨⟨i + 1, L, z⟩, weak_drop (tail := [.cells (inC x)]) (by simp (disch := first | omega | (simp [-List.map_take, -List.map_drop, -List.map_set, -List.map_append, -List.drop_one] <;> omega) | fail) [-List.map_take, -List.map_drop, -List.map_set, -List.map_append, -List.drop_one, S320, a57S0, srtV, hL]) (by simp (disch := first | omega | (simp [-List.map_take, -List.map_drop, -List.map_set, -List.map_append, -List.drop_one] <;> omega) | fail) [-List.map_take, -List.map_drop, -List.map_set, -List.map_append, -List.drop_one, S320, a57S0, ovH, hL]) (by simp [S320, a57S0, ovH, hL]) (by simp [S320, a57S0, ovH, hL, srtV, belowL, Am.below]) (by simp [S320, a57S0, ovH, hL, belowH, belowL_map64]), by simp; omega, by simp; omega, by rw [hs']⟩
        · subst g2
          have g1' : ¬ (i : Int) < g.l.length := by omega
          have c3' : ¬ x.den ≤ t := by omega
          have hs' : overP (c.i.l.take (i + 1)) 0 g.l t = L := by rw [hs, hB]; simp
          by_cases hL : L = []
          · subst hL
            simp (disch := first | omega | (simp [-List.map_take, -List.map_drop, -List.map_set, -List.map_append, -List.drop_one] <;> omega) | fail) [-List.map_take, -List.map_drop, -List.map_set, -List.map_append, -List.drop_one, hn, h, h', hi, srtV_nil, ovH_nil, g1, g1', c3', c1, c2, c3]
            refine ⟨⟨i + 1, [], x⟩, weak_drop (tail := [.cells (inC x)]) (by simp (disch := first | omega | (simp [-List.map_take, -List.map_drop, -List.map_set, -List.map_append, -List.drop_one] <;> omega) | fail) [-List.map_take, -List.map_drop, -List.map_set, -List.map_append, -List.drop_one, S320, a57S0, srtV]) (by simp (disch := first | omega | (simp [-List.map_take, -List.map_drop, -List.map_set, -List.map_append, -List.drop_one] <;> omega) | fail) [-List.map_take, -List.map_drop, -List.map_set, -List.map_append, -List.drop_one, S320, a57S0, ovH]) (by simp [S320, a57S0, ovH]) (by simp [S320, a57S0, ovH, srtV, belowL, Am.below]) (by simp [S320, a57S0, ovH, belowH]), by simp; omega, by simp; omega, by rw [hs']⟩
          · have hSV := srtV_ne (p := 2) hL
            have hLp : 0 < L.length := by cases L with | nil => exact absurd rfl hL | cons a l => simp
            have hap := fun H o z c y => appX_li (h := H) (l := L) (o := o) (x := z) (c := c) (y := y) hLp (by omega)
            simp (disch := first | omega | (simp [-List.map_take, -List.map_drop, -List.map_set, -List.map_append, -List.drop_one] <;> omega) | fail) [-List.map_take, -List.map_drop, -List.map_set, -List.map_append, -List.drop_one, hn, h, h', hi, hSV, ovH_ne hL, hap, g1, g1', c3', c1, c2, c3]
            refine ⟨⟨i + 1, L, z⟩, weak_drop (tail := [.cells (inC x)]) (by simp (disch := first | omega | (simp [-List.map_take, -List.map_drop, -List.map_set, -List.map_append, -List.drop_one] <;> omega) | fail) [-List.map_take, -List.map_drop, -List.map_set, -List.map_append, -List.drop_one, S320, a57S0, srtV, hL]) (by simp (disch := first | omega | (simp [-List.map_take, -List.map_drop, -List.map_set, -List.map_append, -List.drop_one] <;> omega) | fail) [-List.map_take, -List.map_drop, -List.map_set, -List.map_append, -List.drop_one, S320, a57S0, ovH, hL]) (by simp [S320, a57S0, ovH, hL]) (by simp [S320, a57S0, ovH, hL, srtV, belowL, Am.below]) (by simp [S320, a57S0, ovH, hL, belowH, belowL_map64]), by simp; omega, by simp; omega, by rw [hs']⟩
    by_cases c4 : x.state = 2
    case pos =>
      by_cases c2 : 0 ≤ x.den
      case neg =>
        have hB : overB x G t = false := by rw [hsn]; simp [c2]
        rcases hg with ⟨g1, g2⟩ | ⟨g1, g2⟩
        · have g1' : (i : Int) < g.l.length := by omega
          have hs' : overP (c.i.l.take (i + 1)) 0 g.l t = L := by rw [hs, hB]; simp
          by_cases hL : L = []
          · subst hL
            simp (disch := first | omega | (simp [-List.map_take, -List.map_drop, -List.map_set, -List.map_append, -List.drop_one] <;> omega) | fail) [-List.map_take, -List.map_drop, -List.map_set, -List.map_append, -List.drop_one, hn, h, h', hi, srtV_nil, ovH_nil, g1, g1', g2, c1, c4, c2]
            refine ⟨⟨i + 1, [], x⟩, weak_drop (tail := [.cells (inC x)]) (by simp (disch := first | omega | (simp [-List.map_take, -List.map_drop, -List.map_set, -List.map_append, -List.drop_one] <;> omega) | fail) [-List.map_take, -List.map_drop, -List.map_set, -List.map_append, -List.drop_one, S320, a57S0, srtV]) (by simp (disch := first | omega | (simp [-List.map_take, -List.map_drop, -List.map_set, -List.map_append, -List.drop_one] <;> omega) | fail) [-List.map_take, -List.map_drop, -List.map_set, -List.map_append, -List.drop_one, S320, a57S0, ovH]) (by simp [S320, a57S0, ovH]) (by simp [S320, a57S0, ovH, srtV, belowL, Am.below]) (by simp [S320, a57S0, ovH, belowH]), by simp; omega, by simp; omega, by rw [hs']⟩
          · have hSV := srtV_ne (p := 2) hL
            have hLp : 0 < L.length := by cases L with | nil => exact absurd rfl hL | cons a l => simp
            have hap := fun H o z c y => appX_li (h := H) (l := L) (o := o) (x := z) (c := c) (y := y) hLp (by omega)
            simp (disch := first | omega | (simp [-List.map_take, -List.map_drop, -List.map_set, -List.map_append, -List.drop_one] <;> omega) | fail) [-List.map_take, -List.map_drop, -List.map_set, -List.map_append, -List.drop_one, hn, h, h', hi, hSV, ovH_ne hL, hap, g1, g1', g2, c1, c4, c2]
            refine ⟨⟨i + 1, L, z⟩, weak_drop (tail := [.cells (inC x)]) (by simp (disch := first | omega | (simp [-List.map_take, -List.map_drop, -List.map_set, -List.map_append, -List.drop_one] <;> omega) | fail) [-List.map_take, -List.map_drop, -List.map_set, -List.map_append, -List.drop_one, S320, a57S0, srtV, hL]) (by simp (disch := first | omega | (simp [-List.map_take, -List.map_drop, -List.map_set, -List.map_append, -List.drop_one] <;> omega) | fail) [-List.map_take, -List.map_drop, -List.map_set, -List.map_append, -List.drop_one, S320, a57S0, ovH, hL]) (by simp [S320, a57S0, ovH, hL]) (by simp [S320, a57S0, ovH, hL, srtV, belowL, Am.below]) (by simp [S320, a57S0, ovH, hL, belowH, belowL_map64]), by simp; omega, by simp; omega, by rw [hs']⟩
        · subst g2
          have g1' : ¬ (i : Int) < g.l.length := by omega
          have hs' : overP (c.i.l.take (i + 1)) 0 g.l t = L := by rw [hs, hB]; simp
          by_cases hL : L = []
          · subst hL
            simp (disch := first | omega | (simp [-List.map_take, -List.map_drop, -List.map_set, -List.map_append, -List.drop_one] <;> omega) | fail) [-List.map_take, -List.map_drop, -List.map_set, -List.map_append, -List.drop_one, hn, h, h', hi, srtV_nil, ovH_nil, g1, g1', c1, c4, c2]
            refine ⟨⟨i + 1, [], x⟩, weak_drop (tail := [.cells (inC x)]) (by simp (disch := first | omega | (simp [-List.map_take, -List.map_drop, -List.map_set, -List.map_append, -List.drop_one] <;> omega) | fail) [-List.map_take, -List.map_drop, -List.map_set, -List.map_append, -List.drop_one, S320, a57S0, srtV]) (by simp (disch := first | omega | (simp [-List.map_take, -List.map_drop, -List.map_set, -List.map_append, -List.drop_one] <;> omega) | fail) [-List.map_take, -List.map_drop, -List.map_set, -List.map_append, -List.drop_one, S320, a57S0, ovH]) (by simp [S320, a57S0, ovH]) (by simp [S320, a57S0, ovH, srtV, belowL, Am.below]) (by simp [S320, a57S0, ovH, belowH]), by simp; omega, by simp; omega, by rw [hs']⟩
          · have hSV := srtV_ne (p := 2) hL
            have hLp : 0 < L.length := by cases L with | nil => exact absurd rfl hL | cons a l => simp
            have hap := fun H o z c y => appX_li (h := H) (l := L) (o := o) (x := z) (c := c) (y := y) hLp (by omega)
            simp (disch := first | omega | (simp [-List.map_take, -List.map_drop, -List.map_set, -List.map_append, -List.drop_one] <;> omega) | fail) [-List.map_take, -List.map_drop, -List.map_set, -List.map_append, -List.drop_one, hn, h, h', hi, hSV, ovH_ne hL, hap, g1, g1', c1, c4, c2]
            refine ⟨⟨i + 1, L, z⟩, weak_drop (tail := [.cells (inC x)]) (by simp (disch := first | omega | (simp [-List.map_take, -List.map_drop, -List.map_set, -List.map_append, -List.drop_one] <;> omega) | fail) [-List.map_take, -List.map_drop, -List.map_set, -List.map_append, -List.drop_one, S320, a57S0, srtV, hL]) (by simp (disch := first | omega | (simp [-List.map_take, -List.map_drop, -List.map_set, -List.map_append, -List.drop_one] <;> omega) | fail) [-List.map_take, -List.map_drop, -List.map_set, -List.map_append, -List.drop_one, S320, a57S0, ovH, hL]) (by simp [S320, a57S0, ovH, hL]) (by simp [S320, a57S0, ovH, hL, srtV, belowL, Am.below]) (by simp [S320, a57S0, ovH, hL, belowH, belowL_map64]), by simp; omega, by simp; omega, by rw [hs']⟩
      by_cases c3 : G ≤ t - x.den
      · have hB : overB x G t = true := by rw [hsn]; simp [c4, c2, c3]
        rcases hg with ⟨g1, g2⟩ | ⟨g1, g2⟩
        · have g1' : (i : Int) < g.l.length := by omega
          have hs' : overP (c.i.l.take (i + 1)) 0 g.l t = L ++ [x.id] := by rw [hs, hB]; simp
          by_cases hL : L = []
          · subst hL
            simp (disch := first | omega | (simp [-List.map_take, -List.map_drop, -List.map_set, -List.map_append, -List.drop_one] <;> omega) | fail) [-List.map_take, -List.map_drop, -List.map_set, -List.map_append, -List.drop_one, hn, h, h', hi, srtV_nil, ovH_nil, g1, g1', g2, c1, c4, c2, c3]
            refine ⟨⟨i + 1, [x.id], x⟩, weak_same (by simp (disch := first | omega | (simp [-List.map_take, -List.map_drop, -List.map_set, -List.map_append, -List.drop_one] <;> omega) | fail) [-List.map_take, -List.map_drop, -List.map_set, -List.map_append, -List.drop_one, S320, a57S0, srtV]) (by simp (disch := first | omega | (simp [-List.map_take, -List.map_drop, -List.map_set, -List.map_append, -List.drop_one] <;> omega) | fail) [-List.map_take, -List.map_drop, -List.map_set, -List.map_append, -List.drop_one, S320, a57S0, ovH]), by simp; omega, by simp; omega, by rw [hs']; rfl⟩
          · have hSV := srtV_ne (p := 2) hL
            have hLp : 0 < L.length := by cases L with | nil => exact absurd rfl hL | cons a l => simp
            have hap := fun H o z c y => appX_li (h := H) (l := L) (o := o) (x := z) (c := c) (y := y) hLp (by omega)
            simp (disch := first | omega | (simp [-List.map_take, -List.map_drop, -List.map_set, -List.map_append, -List.drop_one] <;> omega) | fail) [-List.map_take, -List.map_drop, -List.map_set, -List.map_append, -List.drop_one, hn, h, h', hi, hSV, ovH_ne hL, hap, g1, g1', g2, c1, c4, c2, c3]
            have hO : ovH c ⟨i + 1, L ++ [x.id], z⟩ = [.cells (clC c), .cells (inC z), .cells ((L ++ [x.id]).map (.int .i64))] := ovH_ne (by simp)
            have hV : srtV 2 (L ++ [x.id]) = .ms 2 (L.length + 1) 0 1 (L.length + 1) (L.length + 1) := by rw [srtV_ne (by simp), List.length_append]; rfl
            refine ⟨⟨i + 1, L ++ [x.id], z⟩, weak_drop (tail := [.cells (inC x)]) (by simp (disch := first | omega | (simp [-List.map_take, -List.map_drop, -List.map_set, -List.map_append, -List.drop_one] <;> omega) | fail) [-List.map_take, -List.map_drop, -List.map_set, -List.map_append, -List.drop_one, S320, a57S0, hV]) (by simp (disch := first | omega | (simp [-List.map_take, -List.map_drop, -List.map_set, -List.map_append, -List.drop_one] <;> omega) | fail) [-List.map_take, -List.map_drop, -List.map_set, -List.map_append, -List.drop_one, S320, a57S0, hO]) (Nat.zero_le _) (by simp (disch := first | omega | (simp [-List.map_take, -List.map_drop, -List.map_set, -List.map_append, -List.drop_one] <;> omega) | fail) [-List.map_take, -List.map_drop, -List.map_set, -List.map_append, -List.drop_one, S320, a57S0, hO, hV, belowL, Am.below]) (by simp (disch := first | omega | (simp [-List.map_take, -List.map_drop, -List.map_set, -List.map_append, -List.drop_one] <;> omega) | fail) [-List.map_take, -List.map_drop, -List.map_set, -List.map_append, -List.drop_one, S320, a57S0, hO, belowH, belowL_map64]), by simp; omega, by simp; omega, by rw [hs']⟩
        · subst g2
          have g1' : ¬ (i : Int) < g.l.length := by omega
          have c3' : x.den ≤ t := by omega
          have hs' : overP (c.i.l.take (i + 1)) 0 g.l t = L ++ [x.id] := by rw [hs, hB]; simp
          by_cases hL : L = []
          · subst hL
            simp (disch := first | omega | (simp [-List.map_take, -List.map_drop, -List.map_set, -List.map_append, -List.drop_one] <;> omega) | fail) [-List.map_take, -List.map_drop, -List.map_set, -List.map_append, -List.drop_one, hn, h, h', hi, srtV_nil, ovH_nil, g1, g1', c3', c1, c4, c2, c3]
            refine ⟨⟨i + 1, [x.id], x⟩, weak_same (by simp (disch := first | omega | (simp [-List.map_take, -List.map_drop, -List.map_set, -List.map_append, -List.drop_one] <;> omega) | fail) [-List.map_take, -List.map_drop, -List.map_set, -List.map_append, -List.drop_one, S320, a57S0, srtV]) (by simp (disch := first | omega | (simp [-List.map_take, -List.map_drop, -List.map_set, -List.map_append, -List.drop_one] <;> omega) | fail) [-List.map_take, -List.map_drop, -List.map_set, -List.map_append, -List.drop_one, S320, a57S0, ovH]), by simp; omega, by simp; omega, by rw [hs']; rfl⟩
          · have hSV := srtV_ne (p := 2) hL
            have hLp : 0 < L.length := by cases L with | nil => exact absurd rfl hL | cons a l => simp
            have hap := fun H o z c y => appX_li (h := H) (l := L) (o := o) (x := z) (c := c) (y := y) hLp (by omega)
            simp (disch := first | omega | (simp [-List.map_take, -List.map_drop, -List.map_set, -List.map_append, -List.drop_one] <;> omega) | fail) [-List.map_take, -List.map_drop, -List.map_set, -List.map_append, -List.drop_one, hn, h, h', hi, hSV, ovH_ne hL, hap, g1, g1', c3', c1, c4, c2, c3]
            have hO : ovH c ⟨i + 1, L ++ [x.id], z⟩ = [.cells (clC c), .cells (inC z), .cells ((L ++ [x.id]).map (.int .i64))] := ovH_ne (by simp)
            have hV : srtV 2 (L ++ [x.id]) = .ms 2 (L.length + 1) 0 1 (L.length + 1) (L.length + 1) := by rw [srtV_ne (by simp), List.length_append]; rfl
            refine ⟨⟨i + 1, L ++ [x.id], z⟩, weak_drop (tail := [.cells (inC x)]) (by simp (disch := first | omega | (simp [-List.map_take, -List.map_drop, -List.map_set, -List.map_append, -List.drop_one] <;> omega) | fail) [-List.map_take, -List.map_drop, -List.map_set, -List.map_append, -List.drop_one, S320, a57S0, hV]) (by simp (disch := first | omega | (simp [-List.map_take, -List.map_drop, -List.map_set, -List.map_append, -List.drop_one] <;> omega) | fail) [-List.map_take, -List.map_drop, -List.map_set, -List.map_append, -List.drop_one, S320, a57S0, hO]) (Nat.zero_le _) (by simp (disch := first | omega | (simp [-List.map_take, -List.map_drop, -List.map_set, -List.map_append, -List.drop_one] <;> omega) | fail) [-List.map_take, -List.map_drop, -List.map_set, -List.map_append, -List.drop_one, S320, a57S0, hO, hV, belowL, Am.below]) (by simp (disch := first | omega | (simp [-List.map_take, -List.map_drop, -List.map_set, -List.map_append, -List.drop_one] <;> omega) | fail) [-List.map_take, -List.map_drop, -List.map_set, -List.map_append, -List.drop_one, S320, a57S0, hO, belowH, belowL_map64]), by simp; omega, by simp; omega, by rw [hs']⟩
      · have hB : overB x G t = false := by rw [hsn]; simp [c3]
        rcases hg with ⟨g1, g2⟩ | ⟨g1, g2⟩
        · have g1' : (i : Int) < g.l.length := by omega
          have hs' : overP (c.i.l.take (i + 1)) 0 g.l t = L := by rw [hs, hB]; simp
          by_cases hL : L = []
          · subst hL
            simp (disch := first | omega | (simp [-List.map_take, -List.map_drop, -List.map_set, -List.map_append, -List.drop_one] <;> omega) | fail) [-List.map_take, -List.map_drop, -List.map_set, -List.map_append, -List.drop_one, hn, h, h', hi, srtV_nil, ovH_nil, g1, g1', g2, c1, c4, c2, c3]
            refine ⟨⟨i + 1, [], x⟩, weak_drop (tail := [.cells (inC x)]) (by simp (disch := first | omega | (simp [-List.map_take, -List.map_drop, -List.map_set, -List.map_append, -List.drop_one] <;> omega) | fail) [-List.map_take, -List.map_drop, -List.map_set, -List.map_append, -List.drop_one, S320, a57S0, srtV]) (by simp (disch := first | omega | (simp [-List.map_take, -List.map_drop, -List.map_set, -List.map_append, -List.drop_one] <;> omega) | fail) [-List.map_take, -List.map_drop, -List.map_set, -List.map_append, -List.drop_one, S320, a57S0, ovH]) (by simp [S320, a57S0, ovH]) (by simp [S320, a57S0, ovH, srtV, belowL, Am.below]) (by simp [S320, a57S0, ovH, belowH]), by simp; omega, by simp; omega, by rw [hs']⟩
          · have hSV := srtV_ne (p := 2) hL
            have hLp : 0 < L.length := by cases L with | nil => exact absurd rfl hL | cons a l => simp
            have hap := fun H o z c y => appX_li (h := H) (l := L) (o := o) (x := z) (c := c) (y := y) hLp (by omega)
            simp (disch := first | omega | (simp [-List.map_take, -List.map_drop, -List.map_set, -List.map_append, -List.drop_one] <;> omega) | fail) [-List.map_take, -List.map_drop, -List.map_set, -List.map_append, -List.drop_one, hn, h, h', hi, hSV, ovH_ne hL, hap, g1, g1', g2, c1, c4, c2, c3]
            refine ⟨⟨i + 1, L, z⟩, weak_drop (tail := [.cells (inC x)]) (by simp (disch := first | omega | (simp [-List.map_take, -List.map_drop, -List.map_set, -List.map_append, -List.drop_one] <;> omega) | fail) [-List.map_take, -List.map_drop, -List.map_set, -List.map_append, -List.drop_one, S320, a57S0, srtV, hL]) (by simp (disch := first | omega | (simp [-List.map_take, -List.map_drop, -List.map_set, -List.map_append, -List.drop_one] <;> omega) | fail) [-List.map_take, -List.map_drop, -List.map_set, -List.map_append, -List.drop_one, S320, a57S0, ovH, hL]) (by simp [S320, a57S0, ovH, hL]) (by simp [S320, a57S0, ovH, hL, srtV, belowL, Am.below]) (by simp [S320, a57S0, ovH, hL, belowH, belowL_map64]), by simp; omega, by simp; omega, by rw [hs']⟩
        · subst g2
          have g1' : ¬ (i : Int) < g.l.length := by omega
          have c3' : ¬ x.den ≤ t := by omega
          have hs' : overP (c.i.l.take (i + 1)) 0 g.l t = L := by rw [hs, hB]; simp
          by_cases hL : L = []
          · subst hL
            simp (disch := first | omega | (simp [-List.map_take, -List.map_drop, -List.map_set, -List.map_append, -List.drop_one] <;> omega) | fail) [-List.map_take, -List.map_drop, -List.map_set, -List.map_append, -List.drop_one, hn, h, h', hi, srtV_nil, ovH_nil, g1, g1', c3', c1, c4, c2, c3]
            refine ⟨⟨i + 1, [], x⟩, weak_drop (tail := [.cells (inC x)]) (by simp (disch := first | omega | (simp [-List.map_take, -List.map_drop, -List.map_set, -List.map_append, -List.drop_one] <;> omega) | fail) [-List.map_take, -List.map_drop, -List.map_set, -List.map_append, -List.drop_one, S320, a57S0, srtV]) (by simp (disch := first | omega | (simp [-List.map_take, -List.map_drop, -List.map_set, -List.map_append, -List.drop_one] <;> omega) | fail) [-List.map_take, -List.map_drop, -List.map_set, -List.map_append, -List.drop_one, S320, a57S0, ovH]) (by simp [S320, a57S0, ovH]) (by simp [S320, a57S0, ovH, srtV, belowL, Am.below]) (by simp [S320, a57S0, ovH, belowH]), by simp; omega, by simp; omega, by rw [hs']⟩
          · have hSV := srtV_ne (p := 2) hL
            have hLp : 0 < L.length := by cases L with | nil => exact absurd rfl hL | cons a l => simp
            have hap := fun H o z c y => appX_li (h := H) (l := L) (o := o) (x := z) (c := c) (y := y) hLp (by omega)
            simp (disch := first | omega | (simp [-List.map_take, -List.map_drop, -List.map_set, -List.map_append, -List.drop_one] <;> omega) | fail) [-List.map_take, -List.map_drop, -List.map_set, -List.map_append, -List.drop_one, hn, h, h', hi, hSV, ovH_ne hL, hap, g1, g1', c3', c1, c4, c2, c3]
            refine ⟨⟨i + 1, L, z⟩, weak_drop (tail := [.cells (inC x)]) (by simp (disch := first | omega | (simp [-List.map_take, -List.map_drop, -List.map_set, -List.map_append, -List.drop_one] <;> omega) | fail) [-List.map_take, -List.map_drop, -List.map_set, -List.map_append, -List.drop_one, S320, a57S0, srtV, hL]) (by simp (disch := first | omega | (simp [-List.map_take, -List.map_drop, -List.map_set, -List.map_append, -List.drop_one] <;> omega) | fail) [-List.map_take, -List.map_drop, -List.map_set, -List.map_append, -List.drop_one, S320, a57S0, ovH, hL]) (by simp [S320, a57S0, ovH, hL]) (by simp [S320, a57S0, ovH, hL, srtV, belowL, Am.below]) (by simp [S320, a57S0, ovH, hL, belowH, belowL_map64]), by simp; omega, by simp; omega, by rw [hs']⟩
    have c5 : x.state = 3 := by omega
    have hB : overB x G t = false := by rw [hsn]; simp [c5]
    rcases hg with ⟨g1, g2⟩ | ⟨g1, g2⟩
    · have g1' : (i : Int) < g.l.length := by omega
      have hs' : overP (c.i.l.take (i + 1)) 0 g.l t = L := by rw [hs, hB]; simp
      by_cases hL : L = []
      · subst hL
        simp (disch := first | omega | (simp [-List.map_take, -List.map_drop, -List.map_set, -List.map_append, -List.drop_one] <;> omega) | fail) [-List.map_take, -List.map_drop, -List.map_set, -List.map_append, -List.drop_one, hn, h, h', hi, srtV_nil, ovH_nil, g1, g1', g2, c5]
        refine ⟨⟨i + 1, [], x⟩, weak_drop (tail := [.cells (inC x)]) (by simp (disch := first | omega | (simp [-List.map_take, -List.map_drop, -List.map_set, -List.map_append, -List.drop_one] <;> omega) | fail) [-List.map_take, -List.map_drop, -List.map_set, -List.map_append, -List.drop_one, S320, a57S0, srtV]) (by simp (disch := first | omega | (simp [-List.map_take, -List.map_drop, -List.map_set, -List.map_append, -List.drop_one] <;> omega) | fail) [-List.map_take, -List.map_drop, -List.map_set, -List.map_append, -List.drop_one, S320, a57S0, ovH]) (by simp [S320, a57S0, ovH]) (by simp [S320, a57S0, ovH, srtV, belowL, Am.below]) (by simp [S320, a57S0, ovH, belowH]), by simp; omega, by simp; omega, by rw [hs']⟩
      · have hSV := srtV_ne (p := 2) hL
        have hLp : 0 < L.length := by cases L with | nil => exact absurd rfl hL | cons a l => simp
        have hap := fun H o z c y => appX_li (h := H) (l := L) (o := o) (x := z) (c := c) (y := y) hLp (by omega)
        simp (disch := first | omega | (simp [-List.map_take, -List.map_drop, -List.map_set, -List.map_append, -List.drop_one] <;> omega) | fail) [-List.map_take, -List.map_drop, -List.map_set, -List.map_append, -List.drop_one, hn, h, h', hi, hSV, ovH_ne hL, hap, g1, g1', g2, c5]
        refine ⟨⟨i + 1, L, z⟩, weak_drop (tail := [.cells (inC x)]) (by simp (disch := first | omega | (simp [-List.map_take, -List.map_drop, -List.map_set, -List.map_append, -List.drop_one] <;> omega) | fail) [-List.map_take, -List.map_drop, -List.map_set, -List.map_append, -List.drop_one, S320, a57S0, srtV, hL]) (by simp (disch := first | omega | (simp [-List.map_take, -List.map_drop, -List.map_set, -List.map_append, -List.drop_one] <;> omega) | fail) [-List.map_take, -List.map_drop, -List.map_set, -List.map_append, -List.drop_one, S320, a57S0, ovH, hL]) (by simp [S320, a57S0, ovH, hL]) (by simp [S320, a57S0, ovH, hL, srtV, belowL, Am.below]) (by simp [S320, a57S0, ovH, hL, belowH, belowL_map64]), by simp; omega, by simp; omega, by rw [hs']⟩
    · subst g2
      have g1' : ¬ (i : Int) < g.l.length := by omega
      have hs' : overP (c.i.l.take (i + 1)) 0 g.l t = L := by rw [hs, hB]; simp
      by_cases hL : L = []
      · subst hL
        simp (disch := first | omega | (simp [-List.map_take, -List.map_drop, -List.map_set, -List.map_append, -List.drop_one] <;> omega) | fail) [-List.map_take, -List.map_drop, -List.map_set, -List.map_append, -List.drop_one, hn, h, h', hi, srtV_nil, ovH_nil, g1, g1', c5]
        refine ⟨⟨i + 1, [], x⟩, weak_drop (tail := [.cells (inC x)]) (by simp (disch := first | omega | (simp [-List.map_take, -List.map_drop, -List.map_set, -List.map_append, -List.drop_one] <;> omega) | fail) [-List.map_take, -List.map_drop, -List.map_set, -List.map_append, -List.drop_one, S320, a57S0, srtV]) (by simp (disch := first | omega | (simp [-List.map_take, -List.map_drop, -List.map_set, -List.map_append, -List.drop_one] <;> omega) | fail) [-List.map_take, -List.map_drop, -List.map_set, -List.map_append, -List.drop_one, S320, a57S0, ovH]) (by simp [S320, a57S0, ovH]) (by simp [S320, a57S0, ovH, srtV, belowL, Am.below]) (by simp [S320, a57S0, ovH, belowH]), by simp; omega, by simp; omega, by rw [hs']⟩
      · have hSV := srtV_ne (p := 2) hL
        have hLp : 0 < L.length := by cases L with | nil => exact absurd rfl hL | cons a l => simp
        have hap := fun H o z c y => appX_li (h := H) (l := L) (o := o) (x := z) (c := c) (y := y) hLp (by omega)
        simp (disch := first | omega | (simp [-List.map_take, -List.map_drop, -List.map_set, -List.map_append, -List.drop_one] <;> omega) | fail) [-List.map_take, -List.map_drop, -List.map_set, -List.map_append, -List.drop_one, hn, h, h', hi, hSV, ovH_ne hL, hap, g1, g1', c5]
        refine ⟨⟨i + 1, L, z⟩, weak_drop (tail := [.cells (inC x)]) (by simp (disch := first | omega | (simp [-List.map_take, -List.map_drop, -List.map_set, -List.map_append, -List.drop_one] <;> omega) | fail) [-List.map_take, -List.map_drop, -List.map_set, -List.map_append, -List.drop_one, S320, a57S0, srtV, hL]) (by simp (disch := first | omega | (simp [-List.map_take, -List.map_drop, -List.map_set, -List.map_append, -List.drop_one] <;> omega) | fail) [-List.map_take, -List.map_drop, -List.map_set, -List.map_append, -List.drop_one, S320, a57S0, ovH, hL]) (by simp [S320, a57S0, ovH, hL]) (by simp [S320, a57S0, ovH, hL, srtV, belowL, Am.below]) (by simp [S320, a57S0, ovH, hL, belowH, belowL_map64]), by simp; omega, by simp; omega, by rw [hs']⟩
  · have h' : ¬ (i : Int) < n := by omega
    have e : overP c.i.l 0 g.l t = L := by rw [r2, List.take_of_length_le (by omega)]
    rw [e]
    by_cases hL : L = []
    · subst hL
      simp (disch := first | omega | (simp [-List.map_take, -List.map_drop, -List.map_set, -List.map_append, -List.drop_one] <;> omega) | fail) [-List.map_take, -List.map_drop, -List.map_set, -List.map_append, -List.drop_one, hn, h, h', ovH_nil, srtV_nil, liV_nil]
    · have := snap_srt (pre := [.cells (clC c), .cells (inC z)]) (l := L)
      rw [ovH_ne hL]
      rw [srtH_ne hL] at this
      simp only [List.cons_append, List.nil_append, List.length_cons, List.length_nil, Nat.zero_add] at this
      simp (disch := first | omega | (simp [-List.map_take, -List.map_drop, -List.map_set, -List.map_append, -List.drop_one] <;> omega) | fail) [-List.map_take, -List.map_drop, -List.map_set, -List.map_append, -List.drop_one, hn, h, h', this]
noncomputable def cOverR : List DV → Option DV := con OvR (fun a : Clu × Nl × Int => [.agg (clC a.1), a.2.1.dv, .int .i64 a.2.2]) (fun a => liV (overP a.1.i.l 0 a.2.1.l a.2.2))
theorem cOverR_eq {c : Clu} {g : Nl} {t : Int} (h : OvR (c, g, t)) : cOverR [.agg (clC c), g.dv, .int .i64 t] = some (liV (overP c.i.l 0 g.l t)) :=
  con_eq (f := fun a : Clu × Nl × Int => [.agg (clC a.1), a.2.1.dv, .int .i64 a.2.2]) (g := fun a => liV (overP a.1.i.l 0 a.2.1.l a.2.2)) (by
    rintro ⟨a, b, c⟩ ⟨d, e, f⟩ h
    simp only [List.cons.injEq, DV.agg.injEq, DV.int.injEq, and_true, true_and] at h
    rw [clC_inj h.1, nl_inj h.2.1, h.2.2]) (c, g, t) h
theorem overR_sound : (Con.pure cOverR).Sound P 57 := con_sound fun a h => sem_runs mix tbl0_sound Tryd.func57 a57_ok (runs_refoverdue a.1 a.2.1 a.2.2 h)
end Go.Proofs.YtjhakjeioppijaaDoor
/-
  Functions of this claim, as the abstract machine has them. MADE BY A PROGRAM of mine.
-/
set_option linter.unusedSimpArgs false
set_option linter.unusedVariables false
namespace Go.Proofs.YtjhakjeioppijaaDoor
open Go Go.Am
-- 10 admission/admissionlaw38.DisruptionOverdue
def a10 : AFn where
  code := (.seq (.region false [⟨none, (some 6), .mov (.k (.bool false))⟩])
  (.seq (.region false [⟨none, (some 10), .mov (.t 0)⟩,
    ⟨none, (some 11), .call (.k (.fn (.func 26) [] [])) [(.t 10), (.k (.int .i64 200))]⟩,
    ⟨none, (some 7), .mov (.t 11)⟩])
  (.seq (.region false [⟨none, (some 12), .mov (.t 7)⟩,
    ⟨none, (some 13), .call (.k (.fn (.func 27) [] [])) [(.t 12), (.k (.int .i64 9))]⟩,
    ⟨none, (some 8), .alloc [.nils, .nils, (.int .i64 0)]⟩,
    ⟨none, none, .store 3 (.t 8) (.t 13)⟩])
  (.seq (.seq (.region false [⟨none, (some 14), .mov (.t 7)⟩,
    ⟨none, (some 15), .call (.k (.fn (.func 28) [] [])) [(.t 14), (.k (.int .i64 2))]⟩,
    ⟨none, (some 16), .bin .eql (.t 15) (.k (.int .i64 0))⟩])
  (.cond (.t 16) (.region false [⟨none, (some 17), .mov (.t 7)⟩,
    ⟨none, (some 18), .load 3 true (.t 8)⟩,
    ⟨none, (some 19), .call (.k (.fn (.func 55) [] [])) [(.t 17), (.t 18)]⟩,
    ⟨none, (some 1), .mov (.t 19)⟩])
  .skip))
  (.seq (.region false [⟨none, (some 20), .mov (.t 2)⟩,
    ⟨none, (some 21), .call (.k (.fn (.func 29) [] [])) [(.t 20), (.k (.int .i64 80))]⟩,
    ⟨none, (some 9), .mov (.t 21)⟩])
  (.seq (.region true [⟨none, (some 22), .load 3 true (.t 8)⟩,
    ⟨none, (some 23), .mov (.t 1)⟩,
    ⟨none, (some 24), .mov (.t 9)⟩,
    ⟨none, (some 26), .load 3 true (.t 8)⟩,
    ⟨none, (some 27), .mov (.t 1)⟩,
    ⟨none, (some 28), .mov (.t 9)⟩,
    ⟨none, (some 25), .callN (.k (.fn (.func 56) [] [])) [(.t 22), (.t 23), (.t 24)]⟩,
    ⟨none, (some 29), .callN (.k (.fn (.func 57) [] [])) [(.t 26), (.t 27), (.t 28)]⟩,
    ⟨none, (some 30), .callN (.k (.fn (.func 47) [] [])) [(.t 25), (.t 29)]⟩,
    ⟨none, (some 31), .mov (.t 30)⟩,
    ⟨(some (31, true)), (some 32), .callN (.k (.fn (.func 54) [] [])) []⟩,
    ⟨none, (some 33), .pick (.t 31) (.t 32) (.k (.bool false))⟩,
    ⟨none, (some 6), .mov (.t 33)⟩])
  .ret))))))
  ntmps := 34
  res := [.tmp 6]

theorem a10_ok : compileFn P Tryd.f10 = some a10 := by kernel_rfl

end Go.Proofs.YtjhakjeioppijaaDoor
/-
  The law DisruptionOverdue.
-/
set_option linter.unusedSimpArgs false
set_option linter.unusedVariables false
namespace Go.Proofs.YtjhakjeioppijaaDoor
open Go Go.Am

noncomputable def T330 : Tbl := addT 26 (.new cTape) (addT 27 (.tch cClu) (addT 28 (.tch cNext) (addT 55 (.tch cGra) (addT 29 (.pure cWithin) (addT 56 (.pure cOver) (addT 57 (.pure cOverR) (addT 47 (.pure (cLL sameL)) (addT 54 (.pure cTru) tbl0))))))))
theorem T330_t : T330 26 = .new cTape := by simp [T330]
theorem T330_c : T330 27 = .tch cClu := by simp [T330]
theorem T330_n : T330 28 = .tch cNext := by simp [T330]
theorem T330_g : T330 55 = .tch cGra := by simp [T330]
theorem T330_w : T330 29 = .pure cWithin := by simp [T330]
theorem T330_o : T330 56 = .pure cOver := by simp [T330]
theorem T330_r : T330 57 = .pure cOverR := by simp [T330]
theorem T330_l : T330 47 = .pure (cLL sameL) := by simp [T330]
theorem T330_a : T330 54 = .pure cTru := by simp [T330]
theorem T330_sound : T330.Sound P := addT_sound tape_sound (addT_sound clu_sound (addT_sound next_sound (addT_sound gra_sound (addT_sound within_sound (addT_sound over_sound (addT_sound overR_sound (addT_sound ints_sound (addT_sound awake38_sound tbl0_sound))))))))
theorem sameL_refl (a : List Int) : sameL a a = true := by simp [sameL]
set_option maxRecDepth 20000 in
set_option maxHeartbeats 2000000 in
theorem runs_lawoverdue (x y : Nl) (hy : ∀ n ∈ y.l, ok64 n) (p : Int) : Runs T330 a10 [x.dv, y.dv, .int .i64 p] (.bool true) := by
  refine ⟨?_⟩
  obtain ⟨u, hu⟩ : ∃ u, tp0 x 200 = u := ⟨_, rfl⟩
  have hua : u.at_ = 0 := by rw [← hu]; rfl
  obtain ⟨hv, hg⟩ := clusterV_ok u 9 (by decide) (by decide)
  have hn9 := clusterV_len u 9 (by decide) (by decide)
  have hat := clusterV_at u 9 (by decide) (by decide)
  obtain ⟨c, hc⟩ : ∃ c, (clusterV u 9).1 = c := ⟨_, rfl⟩
  obtain ⟨w, hw⟩ : ∃ w, (clusterV u 9).2 = w := ⟨_, rfl⟩
  rw [hc] at hv hg hn9
  rw [hw] at hat
  have hT := fun m => cTape_eq (x := x) (n := 200) (by decide) m
  rw [hu] at hT
  simp only [show ((200 : Nat) : Int) = 200 from rfl] at hT
  have hC : cClu [.int .i64 9] (tpC u) = some (.agg (clC c), tpC w) := by rw [cClu_eq (by omega) (by decide) (by decide), hc, hw]
  have hN := cNext_pos (t := w) (n := 2) (by omega) (by decide) (by decide)
  have hGr := cGra_eq (t := w.adv 1) (c := c) (by show w.at_ + 1 < _; omega) (by omega)
  have hx := nl_pure x
  have hgi := good_of hv
  have hst : ∀ z ∈ c.i.l, 1 ≤ z.state ∧ z.state ≤ 3 := fun z hz => ⟨(hgi.s z hz).1, (hgi.s z hz).2.1⟩
  have hden : ∀ z ∈ c.i.l, okT z.den := fun z hz => by
    obtain ⟨j, hj, rfl⟩ := List.getElem_of_mem hz
    rcases (hv.i j hj).1.de with e | e
    · rw [e]; exact ⟨by decide, by decide⟩
    · exact ⟨by have := e.1; omega, by have := e.2; omega⟩
  obtain ⟨P, hP⟩ : ∃ P, p % 80 = P := ⟨_, rfl⟩
  have hP1 : okT P := ⟨by omega, by omega⟩
  have hover : ∀ g : Nl, (∀ n ∈ g.l, ok64 n) → cOver [.agg (clC c), g.dv, .int .i64 P] = some (liV (overP c.i.l 0 g.l P)) ∧ cOverR [.agg (clC c), g.dv, .int .i64 P] = some (liV (overP c.i.l 0 g.l P)) ∧ cLL sameL [liV (overP c.i.l 0 g.l P), liV (overP c.i.l 0 g.l P)] = some (.bool true) := fun g hg => by
    have ho : OvOK (c, g, P) := ⟨hden, hg, hP1⟩
    have hl := overP_len (gr := g.l) (t := P) (l := c.i.l) (j := 0)
    refine ⟨cOver_eq ho, cOverR_eq ⟨ho, hst⟩, ?_⟩
    rw [cLL_eq (by omega) (by omega), sameL_refl]
  by_cases h0 : tpN w 2 = 0
  · rw [h0] at hN
    obtain ⟨n, hn⟩ : ∃ n, c.i.l.length = n := ⟨_, rfl⟩
    rw [hn] at hGr
    have hGm := fun z hz => graL_mem (t := w.adv 1) (n := n) (x := z) hz
    have hGl := graL_len (t := w.adv 1) (n := n)
    obtain ⟨G, hG⟩ : ∃ G, graL (w.adv 1) n = G := ⟨_, rfl⟩
    rw [hG] at hGr hGl
    simp only [hG] at hGm
    have hGb : G.length ≤ 1000000 := by omega
    obtain ⟨o1, o2, o3⟩ := hover (nlO G hGb) (fun z hz => by have := hGm z hz; exact ⟨by omega, by omega⟩)
    rw [nlO_dv] at o1 o2
    simp (disch := first | omega | (simp [-List.map_take, -List.map_drop, -List.map_set, -List.map_append, -List.drop_one] <;> omega) | fail) [-List.map_take, -List.map_drop, -List.map_set, -List.map_append, -List.drop_one, a10, T330_t, T330_c, T330_n, T330_g, T330_w, T330_o, T330_r, T330_l, T330_a, hT, hC, hN, hGr, cWithin_eq, hP, o1, o2, o3, cTru]
  · obtain ⟨o1, o2, o3⟩ := hover y hy
    have hy' := nl_pure y
    simp (disch := first | omega | (simp [-List.map_take, -List.map_drop, -List.map_set, -List.map_append, -List.drop_one] <;> omega) | fail) [-List.map_take, -List.map_drop, -List.map_set, -List.map_append, -List.drop_one, a10, T330_t, T330_c, T330_n, T330_w, T330_o, T330_r, T330_l, T330_a, hT, hC, hN, h0, cWithin_eq, hP, o1, o2, o3, cTru]
namespace disruptionOverdue
theorem law_holds (dvs) (h : Ty.Args [.sl (.int .i64), .sl (.int .i64), .int .i64] dvs) : Am.Sem P 10 dvs (.bool true) := by
  obtain ⟨d1, l1, rfl, h1, d2, l2, rfl, h2, d3, l3, rfl, h3, rfl⟩ := h
  obtain ⟨x, _, hx⟩ := ok_nl h1
  obtain ⟨y, hyr, hy⟩ := ok_nl h2
  obtain ⟨p, _, hp⟩ := ok_n h3
  cases hx; cases hy; cases hp
  exact sem_runs mix T330_sound Tryd.func10 a10_ok (runs_lawoverdue x y hyr p)
end disruptionOverdue
end Go.Proofs.YtjhakjeioppijaaDoor
