/-
  7 texts of mine in one.
-/
import Derived.Test.YtdnhbfmlklaldaaGreatC5f0ea989
import Derived.Test.YtdnhbfmlklaldaaGreatC7ec6da1e
import Derived.Test.YtdnhbfmlklaldaaGreatCd2e92958
import Derived.Test.YtdnhbfmlklaldaaGreatC320c5261
import Derived.Test.YtdnhbfmlklaldaaGreatC46c66ab9
import Derived.Test.YtdnhbfmlklaldaaGreatC3fc9cd0c
import Derived.Test.YtdnhbfmlklaldaaGreatC06d17065
set_option linter.unusedSimpArgs false
set_option linter.unusedVariables false
namespace Go.Proofs.YtdnhbfmlklaldaaGreat
open Go Go.Am
noncomputable def T645 : Tbl := addT 33 (.pure cOr) (addT 34 (.heap (cMuO sBO fSrtO sSrtO)) (addT 39 (.heap (cMuO cBO fOneO sCmpO)) tbl0))
theorem T645_o : T645 33 = .pure cOr := by simp [T645]
theorem T645_s : T645 34 = .heap (cMuO sBO fSrtO sSrtO) := by simp [T645]
theorem T645_c : T645 39 = .heap (cMuO cBO fOneO sCmpO) := by simp [T645]
theorem T645_sound : T645.Sound P := addT_sound origin_sound (addT_sound sortO_sound (addT_sound compO_sound tbl0_sound))
def relS (l : List Fct) : List Org := (l.filter fun f => decide (f.kind = 1)).map orgOf
theorem relS_len (l : List Fct) : (relS l).length ≤ l.length := by unfold relS; rw [List.length_map]; exact List.length_filter_le _ _
theorem relS_snoc {l : List Fct} {i : Nat} (h : i < l.length) : relS (l.take (i + 1)) = relS (l.take i) ++ (if l[i].kind = 1 then [orgOf l[i]] else []) := by
  rw [List.take_succ_eq_append_getElem h, relS, List.filter_append, List.map_append, ← relS]
  congr 1
  by_cases e : l[i].kind = 1 <;> simp [e]
def orgsF (l : List Fct) : Sl Org := if relS l = [] then ⟨some true, [orZ], fun e => by simp at e, by simp⟩ else own (uSort orLt (relS l))
def oV (l : List Org) : DV := if l = [] then .nils else .ms 2 (l.length * 34) 0 34 l.length (l.length * 34)
def oH (c : Cas) (o : AObj) (l : List Org) : List AObj := .cells (caC c) :: (if l = [] then [] else [o, .cells (fl orC l)])
theorem oV_ne {l : List Org} (h : l ≠ []) : oV l = .ms 2 (l.length * 34) 0 34 l.length (l.length * 34) := if_neg h
theorem oH_ne {c : Cas} {o : AObj} {l : List Org} (h : l ≠ []) : oH c o l = [.cells (caC c), o, .cells (fl orC l)] := by rw [oH, if_neg h]
def S646 (c : Cas) (a : FP) : St := a18S0 (oV (relS (c.f.l.take a.i))) (c.f.dv 71 faC) (.int .i64 c.f.l.length) (.int .i64 a.i) (oH c (.cells (faC a.o)) (relS (c.f.l.take a.i)))
set_option maxRecDepth 20000 in
theorem runs_origins (c : Cas) (hn : c.f.l.length ≤ 12) : Runs T645 a18 [.agg (caC c)] ((orgsF c.f.l).dv 34 orC) := by
  refine ⟨?_⟩
  have hb := c.f.b
  simp (disch := first | omega | (simp [-List.map_take, -List.map_drop, -List.map_set, -List.map_append, -List.drop_one] <;> omega) | fail) [-List.map_take, -List.map_drop, -List.map_set, -List.map_append, -List.drop_one, a18]
  refine W_loop (S646 c) (fun a => c.f.l.length - a.i) (fun a => a.i ≤ c.f.l.length) ⟨0, fct0⟩ (weak_same (by simp (disch := first | omega | (simp [-List.map_take, -List.map_drop, -List.map_set, -List.map_append, -List.drop_one] <;> omega) | fail) [-List.map_take, -List.map_drop, -List.map_set, -List.map_append, -List.drop_one, S646, a18S0, relS, oV]) (by simp (disch := first | omega | (simp [-List.map_take, -List.map_drop, -List.map_set, -List.map_append, -List.drop_one] <;> omega) | fail) [-List.map_take, -List.map_drop, -List.map_set, -List.map_append, -List.drop_one, S646, a18S0, relS, oH])) (by simp) (fun a hi => ?_)
  obtain ⟨i, o⟩ := a
  simp only at hi
  simp only [S646]
  by_cases h : i < c.f.l.length
  · have h' : (i : Int) < c.f.l.length := by omega
    have hg : ∀ H, idxSD H 71 (c.f.dv 71 faC) i = some (.ref (faC c.f.l[i])) := fun H => idxSD_dv len_faC h
    have hs := relS_snoc h
    have hlen : (relS (c.f.l.take i)).length ≤ i := by have := relS_len (c.f.l.take i); rw [List.length_take] at this; omega
    obtain ⟨F, hF⟩ : ∃ F, c.f.l[i] = F := ⟨_, rfl⟩
    rw [hF] at hg hs
    obtain ⟨L, hL⟩ : ∃ L, relS (c.f.l.take i) = L := ⟨_, rfl⟩
    rw [hL] at hs hlen ⊢
    by_cases hk : F.kind = 1
    case neg =>
      rw [if_neg hk, List.append_nil] at hs
      by_cases e : L = []
      · subst e
        have q1 : oV [] = .nils := rfl
        have q2 : oH c (.cells (faC o)) [] = [.cells (caC c)] := rfl
        simp (disch := first | omega | (simp [-List.map_take, -List.map_drop, -List.map_set, -List.map_append, -List.drop_one] <;> omega) | fail) [-List.map_take, -List.map_drop, -List.map_set, -List.map_append, -List.drop_one, a18L0, a18S0, h, h', hg, q1, q2, hk]
        exact ⟨⟨i + 1, o⟩, weak_drop (tail := [.cells (faC F)]) (by simp (disch := first | omega | (simp [-List.map_take, -List.map_drop, -List.map_set, -List.map_append, -List.drop_one] <;> omega) | fail) [-List.map_take, -List.map_drop, -List.map_set, -List.map_append, -List.drop_one, S646, a18S0, hs, q1]) (by simp (disch := first | omega | (simp [-List.map_take, -List.map_drop, -List.map_set, -List.map_append, -List.drop_one] <;> omega) | fail) [-List.map_take, -List.map_drop, -List.map_set, -List.map_append, -List.drop_one, S646, a18S0, hs, q2]) (Nat.zero_le _) (by simp (disch := first | omega | (simp [-List.map_take, -List.map_drop, -List.map_set, -List.map_append, -List.drop_one] <;> omega) | fail) [-List.map_take, -List.map_drop, -List.map_set, -List.map_append, -List.drop_one, S646, a18S0, hs, q1, q2, belowL, Am.below]) (by simp (disch := first | omega | (simp [-List.map_take, -List.map_drop, -List.map_set, -List.map_append, -List.drop_one] <;> omega) | fail) [-List.map_take, -List.map_drop, -List.map_set, -List.map_append, -List.drop_one, S646, a18S0, hs, q2, belowH]), by simp only; omega, by simp only; omega⟩
      · have q1 := oV_ne e
        have q2 := oH_ne (c := c) (o := .cells (faC o)) e
        simp (disch := first | omega | (simp [-List.map_take, -List.map_drop, -List.map_set, -List.map_append, -List.drop_one] <;> omega) | fail) [-List.map_take, -List.map_drop, -List.map_set, -List.map_append, -List.drop_one, a18L0, a18S0, h, h', hg, q1, q2, hk]
        exact ⟨⟨i + 1, o⟩, weak_drop (tail := [.cells (faC F)]) (by simp (disch := first | omega | (simp [-List.map_take, -List.map_drop, -List.map_set, -List.map_append, -List.drop_one] <;> omega) | fail) [-List.map_take, -List.map_drop, -List.map_set, -List.map_append, -List.drop_one, S646, a18S0, hs, q1]) (by simp (disch := first | omega | (simp [-List.map_take, -List.map_drop, -List.map_set, -List.map_append, -List.drop_one] <;> omega) | fail) [-List.map_take, -List.map_drop, -List.map_set, -List.map_append, -List.drop_one, S646, a18S0, hs, q2]) (Nat.zero_le _) (by simp (disch := first | omega | (simp [-List.map_take, -List.map_drop, -List.map_set, -List.map_append, -List.drop_one] <;> omega) | fail) [-List.map_take, -List.map_drop, -List.map_set, -List.map_append, -List.drop_one, S646, a18S0, hs, q1, q2, belowL, Am.below]) (by simp (disch := first | omega | (simp [-List.map_take, -List.map_drop, -List.map_set, -List.map_append, -List.drop_one] <;> omega) | fail) [-List.map_take, -List.map_drop, -List.map_set, -List.map_append, -List.drop_one, S646, a18S0, hs, q2, belowH, fl, belowL_pure _ _ (fm_pure pure_orC _)]), by simp only; omega, by simp only; omega⟩
    rw [if_pos hk] at hs
    obtain ⟨O, hO⟩ : ∃ O, orgOf F = O := ⟨_, rfl⟩
    have hc := cOr_eq (f := F)
    rw [hO] at hs hc
    by_cases e : L = []
    · subst e
      rw [List.nil_append] at hs
      have hap := appX_nils (h := [AObj.cells (caC c), .cells (faC F)]) (s := 34) (b := 64) (m := 1) (cs := orC O) (by decide) (by decide) (by rw [len_orC]) (by decide) (by decide)
      simp only [len_orC, List.length_cons, List.length_nil] at hap
      have q1 : oV [] = .nils := rfl
      have q2 : oH c (.cells (faC o)) [] = [.cells (caC c)] := rfl
      simp (disch := first | omega | (simp [-List.map_take, -List.map_drop, -List.map_set, -List.map_append, -List.drop_one] <;> omega) | fail) [-List.map_take, -List.map_drop, -List.map_set, -List.map_append, -List.drop_one, a18L0, a18S0, h, h', hg, q1, q2, hk, T645_o, hc, hap]
      have e1 : oV [O] = .ms 2 34 0 34 1 34 := rfl
      have e2 : oH c (.cells (faC F)) [O] = [.cells (caC c), .cells (faC F), .cells (orC O)] := by rw [oH_ne (by simp), fl_one]
      exact ⟨⟨i + 1, F⟩, weak_same (by simp (disch := first | omega | (simp [-List.map_take, -List.map_drop, -List.map_set, -List.map_append, -List.drop_one] <;> omega) | fail) [-List.map_take, -List.map_drop, -List.map_set, -List.map_append, -List.drop_one, S646, a18S0, hs, e1]) (by simp (disch := first | omega | (simp [-List.map_take, -List.map_drop, -List.map_set, -List.map_append, -List.drop_one] <;> omega) | fail) [-List.map_take, -List.map_drop, -List.map_set, -List.map_append, -List.drop_one, S646, a18S0, hs, e2]), by simp only; omega, by simp only; omega⟩
    · have hap := appX_fl1 (h := [AObj.cells (caC c), .cells (faC o), .cells (fl orC L), .cells (faC F)]) (id := 2) (b := 64) (l := L) (x := O) len_orC (by decide) (by decide) (fun _ => all_orC) (by omega) (by simp [objV, objAt, fl_len len_orC])
      have q1 := oV_ne e
      have q2 := oH_ne (c := c) (o := .cells (faC o)) e
      simp (disch := first | omega | (simp [-List.map_take, -List.map_drop, -List.map_set, -List.map_append, -List.drop_one] <;> omega) | fail) [-List.map_take, -List.map_drop, -List.map_set, -List.map_append, -List.drop_one, a18L0, a18S0, h, h', hg, q1, q2, hk, T645_o, hc, hap]
      have e0 : L ++ [O] ≠ [] := by simp
      have e1 := oV_ne e0
      have e2 := oH_ne (c := c) (o := .cells (faC o)) e0
      rw [List.length_append, List.length_singleton] at e1
      exact ⟨⟨i + 1, o⟩, weak_drop (tail := [.cells (faC F)]) (by simp (disch := first | omega | (simp [-List.map_take, -List.map_drop, -List.map_set, -List.map_append, -List.drop_one] <;> omega) | fail) [-List.map_take, -List.map_drop, -List.map_set, -List.map_append, -List.drop_one, S646, a18S0, hs, e1]) (by simp (disch := first | omega | (simp [-List.map_take, -List.map_drop, -List.map_set, -List.map_append, -List.drop_one] <;> omega) | fail) [-List.map_take, -List.map_drop, -List.map_set, -List.map_append, -List.drop_one, S646, a18S0, hs, e2]) (Nat.zero_le _) (by simp (disch := first | omega | (simp [-List.map_take, -List.map_drop, -List.map_set, -List.map_append, -List.drop_one] <;> omega) | fail) [-List.map_take, -List.map_drop, -List.map_set, -List.map_append, -List.drop_one, S646, a18S0, hs, e1, e2, belowL, Am.below]) (by simp (disch := first | omega | (simp [-List.map_take, -List.map_drop, -List.map_set, -List.map_append, -List.drop_one] <;> omega) | fail) [-List.map_take, -List.map_drop, -List.map_set, -List.map_append, -List.drop_one, S646, a18S0, hs, e2, belowH, fl, belowL_pure _ _ (pureL_append (fm_pure pure_orC _) (pure_orC _)), belowL_pure _ _ (fm_pure pure_orC _)]), by simp only; omega, by simp only; omega⟩
  have h' : ¬ (i : Int) < c.f.l.length := by omega
  have ht : c.f.l.take i = c.f.l := List.take_of_length_le (by omega)
  rw [ht]
  have hrl := relS_len c.f.l
  obtain ⟨L, hL⟩ : ∃ L, relS c.f.l = L := ⟨_, rfl⟩
  rw [hL] at hrl ⊢
  by_cases e : L = []
  · have hr : (orgsF c.f.l).dv 34 orC = .sl true 34 1 (orC orZ) := by unfold orgsF; rw [hL, if_pos e]; rfl
    subst e
    have q1 : oV [] = .nils := rfl
    have q2 : oH c (.cells (faC o)) [] = [.cells (caC c)] := rfl
    rw [hr, orZ_C]
    simp (disch := first | omega | (simp [-List.map_take, -List.map_drop, -List.map_set, -List.map_append, -List.drop_one] <;> omega) | fail) [-List.map_take, -List.map_drop, -List.map_set, -List.map_append, -List.drop_one, a18L0, a18S0, h, h', q1, q2]
  · have hul := uSort_len (lt := orLt) L
    have hr : orgsF c.f.l = own (uSort orLt L) := by unfold orgsF; rw [hL, if_neg e]
    have q1 := oV_ne e
    have q2 := oH_ne (c := c) (o := .cells (faC o)) e
    have hol : (own L).l = L := own_l (by omega)
    have hsl : (sortR orLt L).length = L.length := sortR_len _
    have h2 := cSrtO_eq (a := ([AObj.cells (caC c), .cells (faC o)], own L)) (by show (own L).l.length ≤ 12; rw [hol]; omega)
    simp only [fSrtO, hol, List.length_cons, List.length_nil, Nat.zero_add, List.cons_append, List.nil_append] at h2
    have hwl : (sortR orLt L).length = (own L).l.length := by rw [hol, hsl]
    have h3 := cCmpO_q (a := ([AObj.cells (caC c), .cells (faC o)], (own L).wl (sortR orLt L) hwl)) (by show (sortR orLt L).length ≤ _; omega)
    simp only [fOneO, mutD_wl, sCmpO, show ((own L).wl (sortR orLt L) hwl).l = sortR orLt L from rfl, List.length_cons, List.length_nil, Nat.zero_add, List.cons_append, List.nil_append] at h3
    have e1 : sortR orLt L ≠ [] := sortR_neg e
    have hm : mutD 2 34 (own L) orC = .ms 2 (L.length * 34) 0 34 L.length (L.length * 34) := by rw [mutD_ne (by rw [hol]; exact e), hol]
    have hcm : cmD 34 2 orC ((own L).wl (sortR orLt L) hwl) = .ms 2 (L.length * 34) 0 34 (uSort orLt L).length (L.length * 34) := by
      unfold cmD
      rw [show ((own L).wl (sortR orLt L) hwl).l = sortR orLt L from rfl, if_neg e1, hsl, compL_sortR tot_or]
    rw [hm, mo_ne e, mo_ne e1] at h2
    rw [hm, mo_ne e1, mo_ne (compO_ne' e1), hcm] at h3
    have hs := snap_mo (f := orC) len_orC pure_orC (pre := [AObj.cells (caC c), .cells (faC o)]) (l := compO orZ (sortR orLt L)) (m := (compL (sortR orLt L)).length)
    rw [compO_len, compO_take, compL_sortR tot_or, hsl] at hs
    simp only [List.length_cons, List.length_nil, Nat.zero_add, List.cons_append, List.nil_append] at hs
    rw [hr, own_dv (by omega)]
    have e0 : ¬ L.length = 0 := fun q => e (List.eq_nil_of_length_eq_zero q)
    have hfl : (fl orC L).length = L.length * 34 := fl_len len_orC L
    simp (disch := first | omega | (simp [-List.map_take, -List.map_drop, -List.map_set, -List.map_append, -List.drop_one] <;> omega) | fail) [-List.map_take, -List.map_drop, -List.map_set, -List.map_append, -List.drop_one, a18L0, a18S0, h, h', q1, q2, e, e0, hfl, T645_s, T645_c, h2, h3, hs]
noncomputable def cOgs : List DV → Option DV := con (fun c : Cas => c.f.l.length ≤ 12) (fun c => [.agg (caC c)]) (fun c => (orgsF c.f.l).dv 34 orC)
theorem cOgs_eq {c : Cas} (h : c.f.l.length ≤ 12) : cOgs [.agg (caC c)] = some ((orgsF c.f.l).dv 34 orC) :=
  con_eq (A := fun c : Cas => c.f.l.length ≤ 12) (f := fun c : Cas => [.agg (caC c)]) (g := fun c => (orgsF c.f.l).dv 34 orC) (fun a b e => by simp only [List.cons.injEq, DV.agg.injEq, and_true] at e; rw [caC_inj e]) c h
theorem ogs_sound : (Con.pure cOgs).Sound P 18 := con_sound fun c h => sem_runs mix T645_sound Tryz.func18 a18_ok (runs_origins c h)
end Go.Proofs.YtdnhbfmlklaldaaGreat
set_option linter.unusedSimpArgs false
set_option linter.unusedVariables false
namespace Go.Proofs.YtdnhbfmlklaldaaGreat
open Go Go.Am
structure Tp where
  k : Option Bool
  l : List Int
  h : k = none → l = []
  at_ : Nat
def inI (n : Int) : List DV := [.int .i64 n]
def Tp.sl (t : Tp) : DV := slD t.k 1 t.l.length (t.l.flatMap inI)
def tpC (t : Tp) : List DV := [t.sl, .int .i64 t.at_]
def Tp.adv (t : Tp) (m : Nat) : Tp := { t with at_ := t.at_ + m }
theorem pure_inI (n : Int) : pureL (inI n) = true := rfl
theorem pure_sl (t : Tp) : pureD t.sl = true := by
  obtain ⟨k, l, h, a⟩ := t
  cases k with
  | none => rfl
  | some b => show pureL _ = true; exact fm_pure pure_inI l
theorem len_tpC (t : Tp) : (tpC t).length = 2 := by simp [tpC]
theorem sl_len (t : Tp) (H : List AObj) : lenD H t.sl = some (.int .i64 t.l.length) := lenD_slD (fun e => by rw [t.h e]; rfl)
theorem sl_one (t : Tp) : t.sl.one = true := by obtain ⟨k, l, h, a⟩ := t; cases k <;> rfl
theorem sl_known (t : Tp) : t.sl.known = true := by obtain ⟨k, l, h, a⟩ := t; cases k <;> rfl
theorem sl_cells (t : Tp) : t.sl.cells = [t.sl] := by obtain ⟨k, l, h, a⟩ := t; cases k <;> rfl
theorem sl_fz (t : Tp) (n k : Nat) (H : List AObj) : fz n H k t.sl = some t.sl := fz_clean (pure_sl t)
attribute [simp] sl_len sl_one sl_known sl_cells sl_fz len_tpC
theorem adv_sl (t : Tp) (m : Nat) : (t.adv m).sl = t.sl := by simp [Tp.adv, Tp.sl]
theorem adv_at (t : Tp) (m : Nat) : (t.adv m).at_ = t.at_ + m := by simp [Tp.adv]
theorem adv_l (t : Tp) (m : Nat) : (t.adv m).l = t.l := by simp [Tp.adv]
attribute [simp] adv_sl adv_at adv_l
theorem tmod_fact (x n : Int) (h : 1 ≤ n) (h2 : n ≤ 4294967296) : IntKind.i64.wrap (x.tmod n + n) = x.tmod n + n ∧ (x.tmod n + n).tmod n = x % n := by
  have h1 := Int.tmod_lt_of_pos x (show 0 < n by omega)
  have h3 : -n < x.tmod n := by
    have := Int.lt_tmod_of_pos x (show 0 < n by omega)
    omega
  refine ⟨wrap_i64 (by omega) (by omega), ?_⟩
  rw [Int.tmod_eq_emod_of_nonneg (by omega), Int.add_emod_right]
  rw [Int.tmod_eq_emod]
  split
  · simp
  · rw [Int.natAbs_of_nonneg (show 0 ≤ n by omega)]; simp
def dgW (b : BitVec 8) : Dg := ⟨b :: rep 31 0#8, by simp [rep]⟩
theorem build_dg {b : BitVec 8} : buildD (dgC dg0) [(0, 1, w8 b)] = some (.agg (dgC (dgW b))) := rfl
theorem runs_within (n k : Int) (h1 : 1 ≤ k) (h2 : k ≤ 4294967296) : Runs tbl0 a16 [.int .i64 n, .int .i64 k] (.int .i64 (n % k)) := by
  refine ⟨?_⟩
  obtain ⟨f1, f2⟩ := tmod_fact n k h1 h2
  have h0 : k ≠ 0 := by omega
  simp (disch := first | omega | (simp [-List.map_take, -List.map_drop, -List.map_set, -List.map_append, -List.drop_one] <;> omega) | fail) [-List.map_take, -List.map_drop, -List.map_set, -List.map_append, -List.drop_one, a16, h0, f1, f2, -Int.tmod_eq_emod_of_nonneg]
noncomputable def cWithin : List DV → Option DV
  | [.int .i64 n, .int .i64 k] => if 1 ≤ k ∧ k ≤ 4294967296 then some (.int .i64 (n % k)) else none
  | _ => none
theorem cWithin_eq {n k : Int} (h1 : 1 ≤ k) (h2 : k ≤ 4294967296) : cWithin [.int .i64 n, .int .i64 k] = some (.int .i64 (n % k)) := if_pos ⟨h1, h2⟩
theorem within_sound : (Con.pure cWithin).Sound P 16 := by
  intro args v e
  unfold cWithin at e
  split at e
  · obtain ⟨⟨h1, h2⟩, e⟩ := Option.ite_none_right_eq_some.1 e
    simp at e; subst e
    exact sem_runs mix tbl0_sound Tryz.func16 a16_ok (runs_within _ _ h1 h2)
  · simp at e
structure Nl where
  k : Option Bool
  l : List Int
  h : k = none → l = []
  b : l.length ≤ 9223372036854775807
def Nl.dv (x : Nl) : DV := slD x.k 1 x.l.length (x.l.flatMap inI)
end Go.Proofs.YtdnhbfmlklaldaaGreat
set_option linter.unusedSimpArgs false
set_option linter.unusedVariables false
namespace Go.Proofs.YtdnhbfmlklaldaaGreat
open Go Go.Am
structure CaSm (c : Cas) : Prop where
  f : c.f.l.length ≤ 12
  d : ∀ f ∈ c.f.l, f.docs.l.length ≤ 2
  n : c.n.l.length ≤ 8
  m : ∀ f ∈ c.n.l, f.dd.l.length ≤ 1
  e : c.d.l.length ≤ 1
def RqSm (q : Req) : Prop := (q.kind = 1 ∨ q.kind = 3 ∨ q.kind = 4 ∨ q.kind = 5) → 0 ≤ q.n ∧ q.n ≤ 6 ∧ 0 ≤ q.m ∧ q.m ≤ 1000000
theorem docs_take {l : List Fct} {m : List Str} {k : Nat} (h : ∀ f ∈ l, f.docs.l.length ≤ 2) (hm : m.length ≤ k) : (docsS l m).length ≤ k * 2 := by
  have := flatMap_len (f := firstDocs l) (m := 2) (l := m) fun n _ => by
    unfold firstDocs; split
    · rename_i f e; exact h f (List.mem_of_find?_eq_some e)
    · simp
  unfold docsS
  have : m.length * 2 ≤ k * 2 := Nat.mul_le_mul_right _ hm
  omega
theorem en_of {l : List Fct} {n : Int} (h1 : l.length ≤ 12) (h2 : ∀ f ∈ l, f.docs.l.length ≤ 2) (h3 : 0 ≤ n) (h4 : n ≤ 6) : EnOK l n :=
  ⟨h1, h3, by omega, fun f hf => by have := h2 f hf; omega, by
    have := docs_take (m := (ownersS l).take n.toNat) (k := 6) h2 (by rw [List.length_take]; omega)
    omega⟩
theorem ck_of {c : Cas} {all : List Fct} {o : Org} {q : Req} (s : CaSm c) (ha : all.length ≤ 12) (hq : RqSm q) : CkOK c all o q := by
  have L : ∀ {k : Int} {s' : Sel}, (factsS c.f.l k s').length ≤ 12 := fun {k} {s'} => by have := facts_len (l := c.f.l) (k := k) (s := s'); have := s.f; omega
  have D : ∀ {k : Int} {s' : Sel}, ∀ f ∈ factsS c.f.l k s', f.docs.l.length ≤ 2 := fun f hf => s.d f (facts_mem.1 hf).1
  have hd : (decS c.n.l q.n).length ≤ 8 := by
    have a := flatMap_len (f := fun f : Fnd => f.dd.l) (m := 1) (l := c.n.l.filter fun f => decide (q.n ≤ f.sev)) fun f hf => s.m f (List.mem_filter.1 hf).1
    have b := List.length_filter_le (fun f : Fnd => decide (q.n ≤ f.sev)) c.n.l
    have := s.n
    unfold decS; omega
  refine ⟨fun h => ?_, fun h => ?_, fun h => ?_, fun h => ?_, fun f hf => by have := s.d f hf; omega, fun h f hf => by have := s.d f hf; omega, ⟨by have := s.n; omega, fun f hf => by have := s.m f hf; omega⟩, by have := s.e; omega, by have := s.f; omega, by omega⟩
  · obtain ⟨h1, h2, -, -⟩ := hq (.inl h); exact en_of L D h1 h2
  · obtain ⟨h1, h2, -, -⟩ := hq (.inr (.inl h)); exact en_of L D h1 h2
  · obtain ⟨h1, h2, h3, h4⟩ := hq (.inr (.inr (.inl h)))
    refine ⟨L, by have := facts_len (l := all) (k := 4) (s := .source o); omega, h1, by omega, h3, h4, fun f hf => by have := D f hf; omega, ?_⟩
    have := docs_take (m := (agreeS (factsS c.f.l 4 (.source o)) (factsS all 4 (.source o))).take q.n.toNat) (k := 6) (D (k := 4) (s' := .source o)) (by rw [List.length_take]; omega)
    omega
  · obtain ⟨h1, h2, -, -⟩ := hq (.inr (.inr (.inr h)))
    refine ⟨L, fun d => en_of ?_ (fun f hf => D f (facts_mem.1 hf).1) h1 h2, h1⟩
    have := facts_len (l := factsS c.f.l 5 .every) (k := 5) (s := .target d)
    have := L (k := 5) (s' := .every)
    omega
theorem left_sm {c : Cas} {docs : List Dg} (s : CaSm c) : CaSm (leftC c docs) := by
  have hl : (leftC c docs).f.l = leftS c docs := leftF_l
  refine ⟨?_, fun f hf => s.d f ?_, s.n, s.m, s.e⟩
  · rw [hl]; have := List.length_filter_le (fun f : Fct => subB f.docs.l docs) c.f.l; have := s.f; unfold leftS; omega
  · rw [hl] at hf; exact (List.mem_filter.1 hf).1
theorem by_of {c : Cas} {o : Org} {q : Req} {docs : List Dg} (s : CaSm c) (hq : RqSm q) : ByOK c o q docs :=
  ⟨ck_of (left_sm s) s.f hq, ⟨by have := s.n; omega, fun f hf => by have := s.m f hf; omega⟩, by have := s.f; omega⟩
def mkD (b : B8) : Sl Dg := ⟨some true, [dgW b], fun e => by simp at e, by simp⟩
def o0 : Org := ⟨dgW 1#8, [108], [114]⟩
def fa1 : Fct := ⟨1, [98], dgW 1#8, [108], [114], 5, false, dg0, mkD 7#8⟩
def fa2 : Fct := ⟨1, [97], dgW 1#8, [108], [114], 5, false, dg0, mkD 6#8⟩
def ca0 : Cas := ⟨dg0, 9, ⟨some true, [fa1, fa2], fun e => by simp at e, by simp⟩, nilS, nilS⟩
theorem ca0_sm : CaSm ca0 := ⟨by decide, by decide, by decide, by decide, by decide⟩
theorem bd_o : buildD [w8 0#8, w8 0#8, w8 0#8, w8 0#8, w8 0#8, w8 0#8, w8 0#8, w8 0#8, w8 0#8, w8 0#8, w8 0#8, w8 0#8, w8 0#8, w8 0#8, w8 0#8, w8 0#8, w8 0#8, w8 0#8, w8 0#8, w8 0#8, w8 0#8, w8 0#8, w8 0#8, w8 0#8, w8 0#8, w8 0#8, w8 0#8, w8 0#8, w8 0#8, w8 0#8, w8 0#8, w8 0#8, .str [], .str []] [(0, 32, .agg (dgC (dgW 1#8))), (32, 1, .str [108]), (33, 1, .str [114])] = some (.agg (orC o0)) := rfl
theorem bs_d {b : B8} : bslD 32 1 (dgC dg0) [(0, 32, .agg (dgC (dgW b)))] = some (.sl true 32 1 (dgC (dgW b))) := rfl
theorem bd_f1 : buildD [.int .i64 0, .str [], w8 0#8, w8 0#8, w8 0#8, w8 0#8, w8 0#8, w8 0#8, w8 0#8, w8 0#8, w8 0#8, w8 0#8, w8 0#8, w8 0#8, w8 0#8, w8 0#8, w8 0#8, w8 0#8, w8 0#8, w8 0#8, w8 0#8, w8 0#8, w8 0#8, w8 0#8, w8 0#8, w8 0#8, w8 0#8, w8 0#8, w8 0#8, w8 0#8, w8 0#8, w8 0#8, w8 0#8, w8 0#8, .str [], .str [], .int .i64 0, .bool false, w8 0#8, w8 0#8, w8 0#8, w8 0#8, w8 0#8, w8 0#8, w8 0#8, w8 0#8, w8 0#8, w8 0#8, w8 0#8, w8 0#8, w8 0#8, w8 0#8, w8 0#8, w8 0#8, w8 0#8, w8 0#8, w8 0#8, w8 0#8, w8 0#8, w8 0#8, w8 0#8, w8 0#8, w8 0#8, w8 0#8, w8 0#8, w8 0#8, w8 0#8, w8 0#8, w8 0#8, w8 0#8, .nils] [(0, 1, .int .i64 1), (1, 1, .str [98]), (2, 32, .agg (dgC (dgW 1#8))), (34, 1, .str [108]), (35, 1, .str [114]), (36, 1, .int .i64 5), (70, 1, .sl true 32 1 (dgC (dgW 7#8)))] = some (.agg (faC fa1)) := rfl
theorem bd_f2 : buildD [.int .i64 0, .str [], w8 0#8, w8 0#8, w8 0#8, w8 0#8, w8 0#8, w8 0#8, w8 0#8, w8 0#8, w8 0#8, w8 0#8, w8 0#8, w8 0#8, w8 0#8, w8 0#8, w8 0#8, w8 0#8, w8 0#8, w8 0#8, w8 0#8, w8 0#8, w8 0#8, w8 0#8, w8 0#8, w8 0#8, w8 0#8, w8 0#8, w8 0#8, w8 0#8, w8 0#8, w8 0#8, w8 0#8, w8 0#8, .str [], .str [], .int .i64 0, .bool false, w8 0#8, w8 0#8, w8 0#8, w8 0#8, w8 0#8, w8 0#8, w8 0#8, w8 0#8, w8 0#8, w8 0#8, w8 0#8, w8 0#8, w8 0#8, w8 0#8, w8 0#8, w8 0#8, w8 0#8, w8 0#8, w8 0#8, w8 0#8, w8 0#8, w8 0#8, w8 0#8, w8 0#8, w8 0#8, w8 0#8, w8 0#8, w8 0#8, w8 0#8, w8 0#8, w8 0#8, w8 0#8, .nils] [(0, 1, .int .i64 1), (1, 1, .str [97]), (2, 32, .agg (dgC (dgW 1#8))), (34, 1, .str [108]), (35, 1, .str [114]), (36, 1, .int .i64 5), (70, 1, .sl true 32 1 (dgC (dgW 6#8)))] = some (.agg (faC fa2)) := rfl
set_option maxRecDepth 20000 in
theorem bs_f : bslD 71 2 [.int .i64 0, .str [], w8 0#8, w8 0#8, w8 0#8, w8 0#8, w8 0#8, w8 0#8, w8 0#8, w8 0#8, w8 0#8, w8 0#8, w8 0#8, w8 0#8, w8 0#8, w8 0#8, w8 0#8, w8 0#8, w8 0#8, w8 0#8, w8 0#8, w8 0#8, w8 0#8, w8 0#8, w8 0#8, w8 0#8, w8 0#8, w8 0#8, w8 0#8, w8 0#8, w8 0#8, w8 0#8, w8 0#8, w8 0#8, .str [], .str [], .int .i64 0, .bool false, w8 0#8, w8 0#8, w8 0#8, w8 0#8, w8 0#8, w8 0#8, w8 0#8, w8 0#8, w8 0#8, w8 0#8, w8 0#8, w8 0#8, w8 0#8, w8 0#8, w8 0#8, w8 0#8, w8 0#8, w8 0#8, w8 0#8, w8 0#8, w8 0#8, w8 0#8, w8 0#8, w8 0#8, w8 0#8, w8 0#8, w8 0#8, w8 0#8, w8 0#8, w8 0#8, w8 0#8, w8 0#8, .nils] [(0, 71, .agg (faC fa1)), (71, 71, .agg (faC fa2))] = some (ca0.f.dv 71 faC) := rfl
theorem bd_c : buildD [w8 0#8, w8 0#8, w8 0#8, w8 0#8, w8 0#8, w8 0#8, w8 0#8, w8 0#8, w8 0#8, w8 0#8, w8 0#8, w8 0#8, w8 0#8, w8 0#8, w8 0#8, w8 0#8, w8 0#8, w8 0#8, w8 0#8, w8 0#8, w8 0#8, w8 0#8, w8 0#8, w8 0#8, w8 0#8, w8 0#8, w8 0#8, w8 0#8, w8 0#8, w8 0#8, w8 0#8, w8 0#8, .int .i64 0, .nils, .nils, .nils] [(32, 1, .int .i64 9), (33, 1, .sl true 71 2 (faC fa1 ++ faC fa2))] = some (.agg (caC ca0)) := rfl
theorem bd_q {a b : Int} : buildD [.int .i64 0, .int .i64 0, .int .i64 0, .str []] [(0, 1, .int .i64 a), (1, 1, .int .i64 b)] = some (.agg (rqC ⟨a, b, 0, []⟩)) := rfl
theorem fd_o : dgC (dgW 1#8) ++ [.str [108], .str [114]] = orC o0 := rfl
noncomputable def T650 : Tbl := addT 20 (.pure cChe) (addT 18 (.pure cOgs) (addT 22 (.pure cBy) tbl0))
theorem T650_c : T650 20 = .pure cChe := by simp [T650]
theorem T650_o : T650 18 = .pure cOgs := by simp [T650]
theorem T650_b : T650 22 = .pure cBy := by simp [T650]
theorem T650_sound : T650.Sound P := addT_sound che_sound (addT_sound ogs_sound (addT_sound by_sound tbl0_sound))
set_option maxRecDepth 20000 in
theorem runs_awake : Runs T650 a14 [] (.bool true) := by
  refine ⟨?_⟩
  have k1 := cChe_eq (c := ca0) (o := o0) (q := ⟨1, 2, 0, []⟩) fun _ => ck_of ca0_sm (by decide) (fun _ => by simp)
  have k2 := cChe_eq (c := ca0) (o := o0) (q := ⟨1, 3, 0, []⟩) fun _ => ck_of ca0_sm (by decide) (fun _ => by simp)
  have k3 := cOgs_eq (c := ca0) (by decide)
  have k4 := cBy_eq (c := ca0) (o := o0) (q := ⟨7, 4, 0, []⟩) (docs := mkD 6#8) fun _ => by_of ca0_sm (fun h => by simp at h)
  rw [show (mkD 6#8).dv 32 dgC = .sl true 32 1 (dgC (dgW 6#8)) from rfl] at k4
  have r1 : (CheckS ca0 o0 ⟨1, 2, 0, []⟩).holds = true := by decide +kernel
  have r2 : (CheckS ca0 o0 ⟨1, 2, 0, []⟩).docs.l.length = 2 := by decide +kernel
  have r3 : (CheckS ca0 o0 ⟨1, 3, 0, []⟩).holds = false := by decide +kernel
  have r4 : (CheckS ca0 o0 ⟨1, 3, 0, []⟩).missing = 1 := by decide +kernel
  have r5 : (orgsF ca0.f.l).l = [o0] := by decide +kernel
  have r6 : ByS ca0 o0 ⟨7, 4, 0, []⟩ (mkD 6#8).l = true := by decide +kernel
  rw [r6] at k4
  obtain ⟨A, hA⟩ : ∃ A, CheckS ca0 o0 ⟨1, 2, 0, []⟩ = A := ⟨_, rfl⟩
  obtain ⟨B, hB⟩ : ∃ B, CheckS ca0 o0 ⟨1, 3, 0, []⟩ = B := ⟨_, rfl⟩
  obtain ⟨O, hO⟩ : ∃ O, orgsF ca0.f.l = O := ⟨_, rfl⟩
  rw [hA] at k1 r1 r2
  rw [hB] at k2 r3 r4
  rw [hO] at k3 r5
  have hl : ∀ H, lenD H (O.dv 34 orC) = some (.int .i64 1) := fun H => by rw [lenD_dv, r5]; rfl
  have hg : ∀ H, idxSD H 34 (O.dv 34 orC) 0 = some (.ref (orC o0)) := fun H => by
    have := idxSD_dv (h := H) (x := O) (i := 0) len_orC (by rw [r5]; simp)
    rw [show ((0 : Nat) : Int) = 0 from rfl] at this
    rw [this]; simp [r5]
  have hl2 : ∀ H, lenD H (A.docs.dv 32 dgC) = some (.int .i64 2) := fun H => by rw [lenD_dv, r2]; rfl
  simp (disch := first | omega | (simp [-List.map_take, -List.map_drop, -List.map_set, -List.map_append, -List.drop_one] <;> omega) | fail) [-List.map_take, -List.map_drop, -List.map_set, -List.map_append, -List.drop_one, a14, build_dg, bd_o, bs_d, bd_f1, bd_f2, bs_f, bd_c, bd_q, fd_o, T650_c, T650_o, T650_b, k1, k2, k3, k4, hl, hg, hl2, r1, r3, r4]
noncomputable def cAw : List DV → Option DV
  | [] => some (.bool true) | _ => none
theorem cAw_eq : cAw [] = some (.bool true) := rfl
theorem aw_sound : (Con.pure cAw).Sound P 14 := by
  intro args v e
  unfold cAw at e
  split at e
  · simp at e; subst e; exact sem_runs mix T650_sound Tryz.func14 a14_ok runs_awake
  · simp at e
end Go.Proofs.YtdnhbfmlklaldaaGreat
set_option linter.unusedSimpArgs false
set_option linter.unusedVariables false
namespace Go.Proofs.YtdnhbfmlklaldaaGreat
open Go Go.Am
theorem ok_n {ds : List DV} (h : Ty.Ok (.int .i64) ds) : ∃ n : Int, (-9223372036854775808 ≤ n ∧ n ≤ 9223372036854775807) ∧ ds = [.int .i64 n] := ok_i64 h
end Go.Proofs.YtdnhbfmlklaldaaGreat
set_option linter.unusedSimpArgs false
set_option linter.unusedVariables false
namespace Go.Proofs.YtdnhbfmlklaldaaGreat
open Go Go.Am
end Go.Proofs.YtdnhbfmlklaldaaGreat
set_option linter.unusedSimpArgs false
set_option linter.unusedVariables false
namespace Go.Proofs.YtdnhbfmlklaldaaGreat
open Go Go.Am
def a11 : AFn where
  code := (.seq (.region false [⟨none, (some 6), .mov (.k (.bool false))⟩])
  (.seq (.region false [⟨none, (some 12), .mov (.t 0)⟩,
    ⟨none, (some 13), .call (.k (.fn (.func 16) [] [])) [(.t 12), (.k (.int .i64 100))]⟩,
    ⟨none, (some 14), .mov (.t 1)⟩,
    ⟨none, (some 15), .call (.k (.fn (.func 16) [] [])) [(.t 14), (.k (.int .i64 200))]⟩,
    ⟨none, (some 16), .mov (.t 2)⟩,
    ⟨none, (some 17), .call (.k (.fn (.func 16) [] [])) [(.t 16), (.k (.int .i64 60))]⟩,
    ⟨none, (some 7), .mov (.t 13)⟩,
    ⟨none, (some 8), .mov (.t 15)⟩,
    ⟨none, (some 9), .mov (.t 17)⟩])
  (.seq (.region false [⟨none, (some 18), .build (rep 32 (w8 0#8)) [(0, 1, (.k (w8 1#8)))]⟩,
    ⟨none, (some 19), .build [(w8 0#8), (w8 0#8), (w8 0#8), (w8 0#8), (w8 0#8), (w8 0#8), (w8 0#8), (w8 0#8), (w8 0#8), (w8 0#8), (w8 0#8), (w8 0#8), (w8 0#8), (w8 0#8), (w8 0#8), (w8 0#8), (w8 0#8), (w8 0#8), (w8 0#8), (w8 0#8), (w8 0#8), (w8 0#8), (w8 0#8), (w8 0#8), (w8 0#8), (w8 0#8), (w8 0#8), (w8 0#8), (w8 0#8), (w8 0#8), (w8 0#8), (w8 0#8), (.str []), (.str [])] [(0, 32, (.t 18)), (32, 1, (.k (.str [108]))), (33, 1, (.k (.str [114])))]⟩,
    ⟨none, (some 10), .alloc [(w8 0#8), (w8 0#8), (w8 0#8), (w8 0#8), (w8 0#8), (w8 0#8), (w8 0#8), (w8 0#8), (w8 0#8), (w8 0#8), (w8 0#8), (w8 0#8), (w8 0#8), (w8 0#8), (w8 0#8), (w8 0#8), (w8 0#8), (w8 0#8), (w8 0#8), (w8 0#8), (w8 0#8), (w8 0#8), (w8 0#8), (w8 0#8), (w8 0#8), (w8 0#8), (w8 0#8), (w8 0#8), (w8 0#8), (w8 0#8), (w8 0#8), (w8 0#8), (.str []), (.str [])]⟩,
    ⟨none, none, .store 34 (.t 10) (.t 19)⟩])
  (.seq (.region false [⟨none, (some 20), .mov (.t 8)⟩,
    ⟨none, (some 21), .fld 0 (.t 10)⟩,
    ⟨none, (some 22), .load 32 true (.t 21)⟩,
    ⟨none, (some 23), .mov (.t 7)⟩,
    ⟨none, (some 24), .build (rep 32 (w8 0#8)) [(0, 1, (.k (w8 5#8)))]⟩,
    ⟨none, (some 25), .bsl 32 1 (rep 32 (w8 0#8)) [(0, 32, (.t 24))]⟩,
    ⟨none, (some 26), .build [(.int .i64 0), (.str []), (w8 0#8), (w8 0#8), (w8 0#8), (w8 0#8), (w8 0#8), (w8 0#8), (w8 0#8), (w8 0#8), (w8 0#8), (w8 0#8), (w8 0#8), (w8 0#8), (w8 0#8), (w8 0#8), (w8 0#8), (w8 0#8), (w8 0#8), (w8 0#8), (w8 0#8), (w8 0#8), (w8 0#8), (w8 0#8), (w8 0#8), (w8 0#8), (w8 0#8), (w8 0#8), (w8 0#8), (w8 0#8), (w8 0#8), (w8 0#8), (w8 0#8), (w8 0#8), (.str []), (.str []), (.int .i64 0), (.bool false), (w8 0#8), (w8 0#8), (w8 0#8), (w8 0#8), (w8 0#8), (w8 0#8), (w8 0#8), (w8 0#8), (w8 0#8), (w8 0#8), (w8 0#8), (w8 0#8), (w8 0#8), (w8 0#8), (w8 0#8), (w8 0#8), (w8 0#8), (w8 0#8), (w8 0#8), (w8 0#8), (w8 0#8), (w8 0#8), (w8 0#8), (w8 0#8), (w8 0#8), (w8 0#8), (w8 0#8), (w8 0#8), (w8 0#8), (w8 0#8), (w8 0#8), (w8 0#8), .nils] [(0, 1, (.k (.int .i64 1))), (1, 1, (.k (.str [97]))), (2, 32, (.t 22)), (34, 1, (.k (.str [108]))), (35, 1, (.k (.str [114]))), (36, 1, (.t 23)), (70, 1, (.t 25))]⟩,
    ⟨none, (some 27), .bsl 71 1 [(.int .i64 0), (.str []), (w8 0#8), (w8 0#8), (w8 0#8), (w8 0#8), (w8 0#8), (w8 0#8), (w8 0#8), (w8 0#8), (w8 0#8), (w8 0#8), (w8 0#8), (w8 0#8), (w8 0#8), (w8 0#8), (w8 0#8), (w8 0#8), (w8 0#8), (w8 0#8), (w8 0#8), (w8 0#8), (w8 0#8), (w8 0#8), (w8 0#8), (w8 0#8), (w8 0#8), (w8 0#8), (w8 0#8), (w8 0#8), (w8 0#8), (w8 0#8), (w8 0#8), (w8 0#8), (.str []), (.str []), (.int .i64 0), (.bool false), (w8 0#8), (w8 0#8), (w8 0#8), (w8 0#8), (w8 0#8), (w8 0#8), (w8 0#8), (w8 0#8), (w8 0#8), (w8 0#8), (w8 0#8), (w8 0#8), (w8 0#8), (w8 0#8), (w8 0#8), (w8 0#8), (w8 0#8), (w8 0#8), (w8 0#8), (w8 0#8), (w8 0#8), (w8 0#8), (w8 0#8), (w8 0#8), (w8 0#8), (w8 0#8), (w8 0#8), (w8 0#8), (w8 0#8), (w8 0#8), (w8 0#8), (w8 0#8), .nils] [(0, 71, (.t 26))]⟩,
    ⟨none, (some 28), .build [(w8 0#8), (w8 0#8), (w8 0#8), (w8 0#8), (w8 0#8), (w8 0#8), (w8 0#8), (w8 0#8), (w8 0#8), (w8 0#8), (w8 0#8), (w8 0#8), (w8 0#8), (w8 0#8), (w8 0#8), (w8 0#8), (w8 0#8), (w8 0#8), (w8 0#8), (w8 0#8), (w8 0#8), (w8 0#8), (w8 0#8), (w8 0#8), (w8 0#8), (w8 0#8), (w8 0#8), (w8 0#8), (w8 0#8), (w8 0#8), (w8 0#8), (w8 0#8), (.int .i64 0), .nils, .nils, .nils] [(32, 1, (.t 20)), (33, 1, (.t 27))]⟩,
    ⟨none, (some 11), .alloc [(w8 0#8), (w8 0#8), (w8 0#8), (w8 0#8), (w8 0#8), (w8 0#8), (w8 0#8), (w8 0#8), (w8 0#8), (w8 0#8), (w8 0#8), (w8 0#8), (w8 0#8), (w8 0#8), (w8 0#8), (w8 0#8), (w8 0#8), (w8 0#8), (w8 0#8), (w8 0#8), (w8 0#8), (w8 0#8), (w8 0#8), (w8 0#8), (w8 0#8), (w8 0#8), (w8 0#8), (w8 0#8), (w8 0#8), (w8 0#8), (w8 0#8), (w8 0#8), (.int .i64 0), .nils, .nils, .nils]⟩,
    ⟨none, none, .store 36 (.t 11) (.t 28)⟩])
  (.seq (.region false [⟨none, (some 29), .load 36 true (.t 11)⟩,
    ⟨none, (some 30), .load 34 true (.t 10)⟩,
    ⟨none, (some 31), .mov (.t 9)⟩,
    ⟨none, (some 32), .build [(.int .i64 0), (.int .i64 0), (.int .i64 0), (.str [])] [(0, 1, (.k (.int .i64 7))), (1, 1, (.t 31))]⟩,
    ⟨none, (some 33), .call (.k (.fn (.func 20) [] [])) [(.t 29), (.t 30), (.t 32)]⟩,
    ⟨none, (some 34), .getf 0 1 false (.t 33)⟩,
    ⟨none, (some 35), .mov (.t 7)⟩,
    ⟨none, (some 36), .mov (.t 8)⟩,
    ⟨none, (some 37), .bin .leq (.t 35) (.t 36)⟩,
    ⟨none, (some 38), .mov (.t 37)⟩,
    ⟨(some (38, true)), (some 39), .mov (.t 8)⟩,
    ⟨(some (38, true)), (some 40), .mov (.t 7)⟩,
    ⟨(some (38, true)), (some 41), .mov (.t 9)⟩,
    ⟨(some (38, true)), (some 42), .bin .add (.t 40) (.t 41)⟩,
    ⟨(some (38, true)), (some 43), .bin .leq (.t 39) (.t 42)⟩,
    ⟨none, (some 44), .pick (.t 38) (.t 43) (.k (.bool false))⟩,
    ⟨none, (some 45), .eqb false (.t 34) (.t 44)⟩,
    ⟨none, (some 46), .mov (.t 45)⟩,
    ⟨(some (46, true)), (some 47), .call (.k (.fn (.func 14) [] [])) []⟩,
    ⟨none, (some 48), .pick (.t 46) (.t 47) (.k (.bool false))⟩,
    ⟨none, (some 6), .mov (.t 48)⟩])
  .ret)))))
  ntmps := 49
  res := [.tmp 6]
theorem a11_ok : compileFn P Tryz.f11 = some a11 := by kernel_rfl
end Go.Proofs.YtdnhbfmlklaldaaGreat
set_option linter.unusedSimpArgs false
set_option linter.unusedVariables false
namespace Go.Proofs.YtdnhbfmlklaldaaGreat
open Go Go.Am
def faF (a : Int) : Fct := ⟨1, [97], dgW 1#8, [108], [114], a, false, dg0, mkD 5#8⟩
def caF (a b : Int) : Cas := ⟨dg0, b, ⟨some true, [faF a], fun e => by simp at e, by simp⟩, nilS, nilS⟩
theorem caF_sm {a b : Int} : CaSm (caF a b) := ⟨by simp [caF], by intro f hf; simp [caF] at hf; subst hf; simp [faF, mkD], by simp [caF, nilS], by intro f hf; simp [caF, nilS] at hf, by simp [caF, nilS]⟩
theorem bd_fF {a : Int} : buildD [.int .i64 0, .str [], w8 0#8, w8 0#8, w8 0#8, w8 0#8, w8 0#8, w8 0#8, w8 0#8, w8 0#8, w8 0#8, w8 0#8, w8 0#8, w8 0#8, w8 0#8, w8 0#8, w8 0#8, w8 0#8, w8 0#8, w8 0#8, w8 0#8, w8 0#8, w8 0#8, w8 0#8, w8 0#8, w8 0#8, w8 0#8, w8 0#8, w8 0#8, w8 0#8, w8 0#8, w8 0#8, w8 0#8, w8 0#8, .str [], .str [], .int .i64 0, .bool false, w8 0#8, w8 0#8, w8 0#8, w8 0#8, w8 0#8, w8 0#8, w8 0#8, w8 0#8, w8 0#8, w8 0#8, w8 0#8, w8 0#8, w8 0#8, w8 0#8, w8 0#8, w8 0#8, w8 0#8, w8 0#8, w8 0#8, w8 0#8, w8 0#8, w8 0#8, w8 0#8, w8 0#8, w8 0#8, w8 0#8, w8 0#8, w8 0#8, w8 0#8, w8 0#8, w8 0#8, w8 0#8, .nils] [(0, 1, .int .i64 1), (1, 1, .str [97]), (2, 32, .agg (dgC o0.rev)), (34, 1, .str [108]), (35, 1, .str [114]), (36, 1, .int .i64 a), (70, 1, .sl true 32 1 (dgC (dgW 5#8)))] = some (.agg (faC (faF a))) := rfl
theorem bs_fF {a : Int} : bslD 71 1 [.int .i64 0, .str [], w8 0#8, w8 0#8, w8 0#8, w8 0#8, w8 0#8, w8 0#8, w8 0#8, w8 0#8, w8 0#8, w8 0#8, w8 0#8, w8 0#8, w8 0#8, w8 0#8, w8 0#8, w8 0#8, w8 0#8, w8 0#8, w8 0#8, w8 0#8, w8 0#8, w8 0#8, w8 0#8, w8 0#8, w8 0#8, w8 0#8, w8 0#8, w8 0#8, w8 0#8, w8 0#8, w8 0#8, w8 0#8, .str [], .str [], .int .i64 0, .bool false, w8 0#8, w8 0#8, w8 0#8, w8 0#8, w8 0#8, w8 0#8, w8 0#8, w8 0#8, w8 0#8, w8 0#8, w8 0#8, w8 0#8, w8 0#8, w8 0#8, w8 0#8, w8 0#8, w8 0#8, w8 0#8, w8 0#8, w8 0#8, w8 0#8, w8 0#8, w8 0#8, w8 0#8, w8 0#8, w8 0#8, w8 0#8, w8 0#8, w8 0#8, w8 0#8, w8 0#8, w8 0#8, .nils] [(0, 71, .agg (faC (faF a)))] = some (.sl true 71 1 (faC (faF a))) := rfl
theorem bd_cF {a b : Int} : buildD [w8 0#8, w8 0#8, w8 0#8, w8 0#8, w8 0#8, w8 0#8, w8 0#8, w8 0#8, w8 0#8, w8 0#8, w8 0#8, w8 0#8, w8 0#8, w8 0#8, w8 0#8, w8 0#8, w8 0#8, w8 0#8, w8 0#8, w8 0#8, w8 0#8, w8 0#8, w8 0#8, w8 0#8, w8 0#8, w8 0#8, w8 0#8, w8 0#8, w8 0#8, w8 0#8, w8 0#8, w8 0#8, .int .i64 0, .nils, .nils, .nils] [(32, 1, .int .i64 b), (33, 1, .sl true 71 1 (faC (faF a)))] = some (.agg (caC (caF a b))) := rfl
theorem one_o0 : one 32 true (orC o0) = some (.agg (dgC (dgW 1#8))) := one_or0 (x := o0)
theorem fresh_plain {a b k : Int} (ha : 0 ≤ a ∧ a < 100) (hb : 0 ≤ b ∧ b < 200) (hk : 0 ≤ k ∧ k < 60) : (CheckS (caF a b) o0 ⟨7, k, 0, []⟩).holds = (decide (a ≤ b) && decide (b ≤ a + k)) := by
  have hv : reqB ⟨7, k, 0, []⟩ = true := by simp [reqB, inB]; omega
  have he : CheckS (caF a b) o0 ⟨7, k, 0, []⟩ = oneS (factsS [faF a] 1 (.fresh o0 (caF a b) ⟨7, k, 0, []⟩)) := by
    unfold CheckS; rw [if_pos hv]; rfl
  have hp : (Sel.fresh o0 (caF a b) ⟨7, k, 0, []⟩).p (faF a) = (decide (a ≤ b) && decide (b ≤ a + k)) := by
    have e1 : tmB a = true := by simp [tmB]; omega
    have e2 : tmB b = true := by simp [tmB]; omega
    have e3 : decide (b - a ≤ k) = decide (b ≤ a + k) := by rw [decide_eq_decide]; omega
    show (decide (orgOf (faF a) = o0) && (tmB a && (tmB b && (decide (a ≤ b) && decide (b - a ≤ k))))) = _
    rw [e1, e2, e3, show orgOf (faF a) = o0 from rfl]
    simp
  rw [he, factsS]
  by_cases h : (Sel.fresh o0 (caF a b) ⟨7, k, 0, []⟩).p (faF a) = true
  · rw [← hp, h]
    simp [List.filter, h, faF, oneS, heldS]
    rw [show (⟨1, [97], dgW 1#8, [108], [114], a, false, dg0, mkD 5#8⟩ : Fct) = faF a from rfl, h]
  · rw [← hp]
    simp only [Bool.not_eq_true] at h
    simp [List.filter, h, faF, oneS, lackS]
    rw [show (⟨1, [97], dgW 1#8, [108], [114], a, false, dg0, mkD 5#8⟩ : Fct) = faF a from rfl, h]
noncomputable def T655 : Tbl := addT 16 (.pure cWithin) (addT 20 (.pure cChe) (addT 14 (.pure cAw) tbl0))
theorem T655_w : T655 16 = .pure cWithin := by simp [T655]
theorem T655_c : T655 20 = .pure cChe := by simp [T655]
theorem T655_a : T655 14 = .pure cAw := by simp [T655]
theorem T655_sound : T655.Sound P := addT_sound within_sound (addT_sound che_sound (addT_sound aw_sound tbl0_sound))
set_option maxRecDepth 20000 in
theorem runs_lawFresh (x y z : Int) : Runs T655 a11 [.int .i64 x, .int .i64 y, .int .i64 z] (.bool true) := by
  refine ⟨?_⟩
  have w1 := cWithin_eq (n := x) (k := 100) (by omega) (by omega)
  have w2 := cWithin_eq (n := y) (k := 200) (by omega) (by omega)
  have w3 := cWithin_eq (n := z) (k := 60) (by omega) (by omega)
  have h1 : 0 ≤ x % 100 ∧ x % 100 < 100 := by omega
  have h2 : 0 ≤ y % 200 ∧ y % 200 < 200 := by omega
  have h3 : 0 ≤ z % 60 ∧ z % 60 < 60 := by omega
  obtain ⟨a, ha⟩ : ∃ a, x % 100 = a := ⟨_, rfl⟩
  obtain ⟨b, hb⟩ : ∃ b, y % 200 = b := ⟨_, rfl⟩
  obtain ⟨k, hk⟩ : ∃ k, z % 60 = k := ⟨_, rfl⟩
  rw [ha] at w1 h1
  rw [hb] at w2 h2
  rw [hk] at w3 h3
  have k1 := cChe_eq (c := caF a b) (o := o0) (q := ⟨7, k, 0, []⟩) fun _ => ck_of caF_sm (by simp [caF]) (fun h => by simp at h)
  have hf := fresh_plain (a := a) (b := b) (k := k) h1 h2 h3
  obtain ⟨R, hR⟩ : ∃ R, CheckS (caF a b) o0 ⟨7, k, 0, []⟩ = R := ⟨_, rfl⟩
  rw [hR] at k1 hf
  have hw : IntKind.i64.wrap (a + k) = a + k := by rw [IntKind.wrap_i64]; omega
  by_cases e1 : a ≤ b
  · by_cases e2 : b ≤ a + k
    · have hf : R.holds = true := by rw [hf]; simp [e1, e2]
      simp (disch := first | omega | (simp [-List.map_take, -List.map_drop, -List.map_set, -List.map_append, -List.drop_one] <;> omega) | fail) [-List.map_take, -List.map_drop, -List.map_set, -List.map_append, -List.drop_one, a11, T655_w, T655_c, T655_a, w1, w2, w3, build_dg, bs_d, fd_o, one_o0, bd_fF, bs_fF, bd_cF, bd_q, k1, hf, e1, e2, hw, cAw_eq]
    · have hf : R.holds = false := by rw [hf]; simp [e2]
      simp (disch := first | omega | (simp [-List.map_take, -List.map_drop, -List.map_set, -List.map_append, -List.drop_one] <;> omega) | fail) [-List.map_take, -List.map_drop, -List.map_set, -List.map_append, -List.drop_one, a11, T655_w, T655_c, T655_a, w1, w2, w3, build_dg, bs_d, fd_o, one_o0, bd_fF, bs_fF, bd_cF, bd_q, k1, hf, e1, e2, hw, cAw_eq]
  · have hf : R.holds = false := by rw [hf]; simp [e1]
    simp (disch := first | omega | (simp [-List.map_take, -List.map_drop, -List.map_set, -List.map_append, -List.drop_one] <;> omega) | fail) [-List.map_take, -List.map_drop, -List.map_set, -List.map_append, -List.drop_one, a11, T655_w, T655_c, T655_a, w1, w2, w3, build_dg, bs_d, fd_o, one_o0, bd_fF, bs_fF, bd_cF, bd_q, k1, hf, e1, hw, cAw_eq]
namespace requirementFresh
theorem law_holds (dvs) (h : Ty.Args [.int .i64, .int .i64, .int .i64] dvs) : Am.Sem P 11 dvs (.bool true) := by
  obtain ⟨d1, l1, rfl, h1, d2, l2, rfl, h2, d3, l3, rfl, h3, rfl⟩ := h
  obtain ⟨x, _, hx⟩ := ok_n h1
  obtain ⟨y, _, hy⟩ := ok_n h2
  obtain ⟨z, _, hz⟩ := ok_n h3
  cases hx; cases hy; cases hz
  exact sem_runs mix T655_sound Tryz.func11 a11_ok (runs_lawFresh x y z)
end requirementFresh
end Go.Proofs.YtdnhbfmlklaldaaGreat
