/-
  Split of the library at a slash; Path of the reference.
-/
import Derived.Test.YtjhakjeioppijaaDoorWd
import Derived.Test.YtjhakjeioppijaaDoorWff
set_option linter.unusedSimpArgs false
set_option linter.unusedVariables false
namespace Go.Proofs.YtjhakjeioppijaaDoor
open Go Go.Am

theorem runs_index (s : List UInt8) (c : UInt8) : Runs T52 a122 [.str s, .str [c]] (ix1 s c) := by
  refine ⟨?_⟩
  simp (disch := first | omega | (simp [-List.map_take, -List.map_drop, -List.map_set, -List.map_append, -List.drop_one] <;> omega) | fail) [-List.map_take, -List.map_drop, -List.map_set, -List.map_append, -List.drop_one, a122, T52_ix, cS1_eq, ix1]
def T53 : Tbl := addT 122 (.pure (cS1 ix1)) T52
theorem T53_ix : T53 122 = .pure (cS1 ix1) := by simp [T53]
theorem T53_sound : T53.Sound P := addT_sound (cS1_sound fun s c => sem_runs mix T52_sound Tryd.func122 a122_ok (runs_index s c)) T52_sound

def iV : DV → Option Int
  | .int .i64 n => some n
  | _ => none
def mm2 (m : Bool) (x y : DV) : Option DV := (iV x).bind fun a => (iV y).bind fun b => some (.int .i64 (if m then max a b else min a b))
theorem mm2_min {a b : Int} : mm2 false (.int .i64 a) (.int .i64 b) = some (.int .i64 (min a b)) := rfl
theorem mm2_max {a b : Int} : mm2 true (.int .i64 a) (.int .i64 b) = some (.int .i64 (max a b)) := rfl
theorem E_mm2 {T : Tbl} {dr m : Bool} {x y : Opd} {t : List DV} {h : List AObj} : evAll T dr (.mm m [x, y]) t h = pr (mm2 m (ev t x) (ev t y)) h := by
  simp only [evAll, evOp]
  refine (congrArg (fun q => Option.bind q _) (mapAll_congr (g := fun z => iV (ev t z)) fun z _ => ?_)).trans ?_
  · generalize ev t z = d
    cases d with
    | int k n => cases k <;> rfl
    | _ => rfl
  · simp only [mapAll, mm2]
    cases iV (ev t x) <;> cases iV (ev t y) <;> rfl
def cnD (s : List UInt8) (c : B8) : DV := .int .i64 (Lib.countByte s c.toNat.toUInt8)
def cn1 (s : List UInt8) (c : UInt8) : DV := .int .i64 (Lib.countByte s c)
def T70 : Tbl := addT 129 (.pure (cSB cnD)) tbl0
theorem T70_cn : T70 129 = .pure (cSB cnD) := by simp [T70]
theorem T70_sound : T70.Sound P := addT_sound (cSB_sound fun s c => sem_count Tryd.func129 (by kernel_rfl) (by kernel_rfl) (by kernel_rfl) (by kernel_rfl) s c) tbl0_sound
theorem runs_count (s : List UInt8) (c : UInt8) : Runs T70 a121 [.str s, .str [c]] (cn1 s c) := by
  refine ⟨?_⟩
  simp (disch := first | omega | (simp [-List.map_take, -List.map_drop, -List.map_set, -List.map_append, -List.drop_one] <;> omega) | fail) [-List.map_take, -List.map_drop, -List.map_set, -List.map_append, -List.drop_one, a121, T70_cn, cSB_eq, cnD, cn1, u8_nat]
def T71 : Tbl := addT 121 (.pure (cS1 cn1)) (addT 122 (.pure (cS1 ix1)) tbl0)
theorem T71_cn : T71 121 = .pure (cS1 cn1) := by simp [T71]
theorem T71_ix : T71 122 = .pure (cS1 ix1) := by simp [T71]
theorem T71_sound : T71.Sound P := addT_sound (cS1_sound fun s c => sem_runs mix T70_sound Tryd.func121 a121_ok (runs_count s c)) (addT_sound (cS1_sound fun s c => sem_runs mix T52_sound Tryd.func122 a122_ok (runs_index s c)) tbl0_sound)
def strs (l : List (List UInt8)) : List DV := l.map DV.str
def splitD (s : List UInt8) : DV := .sl false 1 (comps s).length (strs (comps s))
def fillS (l : List (List UInt8)) (i : Nat) : List (List UInt8) := l.take i ++ List.replicate (l.length - i) []
theorem len_fillS {l : List (List UInt8)} {i : Nat} (h : i ≤ l.length) : (fillS l i).length = l.length := by simp [fillS]; omega
theorem fillS_set {l : List (List UInt8)} {i : Nat} (h : i < l.length) : (fillS l i).set i l[i] = fillS l (i + 1) := by
  unfold fillS
  have hl : (l.take i).length = i := List.length_take_of_le (by omega)
  rw [List.set_append_right _ _ (by omega), hl, Nat.sub_self, take_snoc h]
  obtain ⟨m, hm⟩ : ∃ m, l.length - i = m + 1 := ⟨l.length - i - 1, by omega⟩
  rw [hm, show l.length - (i + 1) = m by omega, List.replicate_succ, List.set_cons_zero, List.append_assoc]
  rfl
theorem fillS_all (l : List (List UInt8)) : fillS l l.length = l := by simp [fillS]
theorem rep_fillS (l : List (List UInt8)) : rep l.length (DV.str []) = strs (fillS l 0) := by simp [rep, fillS, strs]
theorem strs_set {l : List (List UInt8)} {i : Nat} {x : List UInt8} : (strs l).set i (.str x) = strs (l.set i x) := by simp [strs, List.map_set]
theorem len_strs (l : List (List UInt8)) : (strs l).length = l.length := by simp [strs]
theorem all_strs (l : List (List UInt8)) : (strs l).all DV.one = true := by simp [strs]
theorem pure_strs : ∀ (l : List (List UInt8)), pureL (strs l) = true
  | [] => rfl
  | x :: l => by
    have := pure_strs l
    simp only [strs, List.map_cons] at this ⊢
    simp [pureL, pureD, this]
theorem snap_strs (h : List AObj) (k : Nat) (l : List (List UInt8)) : snapL h k (strs l) = some (strs l) := snapL_clean (pure_strs l)
structure X94 where
  i : Nat
  r : List UInt8
def S94 (s : List UInt8) (x : X94) : St := a115S0 (.str x.r) (.str [47]) (.int .i64 0) (.int .i64 ((comps s).length - 1 : Int)) (.ms 0 (comps s).length 0 1 (comps s).length (comps s).length) (.int .i64 x.i) [.cells (strs (fillS (comps s) x.i))]
def R94 (s : List UInt8) (x : X94) : Prop := x.r.length ≤ s.length ∧ x.i < (comps s).length ∧ (comps s).drop x.i = comps x.r
theorem count_le (s : List UInt8) (c : UInt8) : Lib.countByte s c ≤ s.length := List.count_le_length
set_option maxRecDepth 20000 in
theorem runs_gensplit (s : List UInt8) (hs : s.length ≤ 100000) : Runs T71 a115 [.str s, .str [47], .int .i64 0, .int .i64 (-1)] (splitD s) := by
  refine ⟨?_⟩
  have hlc := len_comps s
  have hcl := count_le s 47
  obtain ⟨n, hn⟩ : ∃ n, (comps s).length = n := ⟨_, rfl⟩
  have hmin : min ((Lib.countByte s 47 : Int) + 1) ((s.length : Int) + 1) = n := by omega
  have hn1 : (Lib.countByte s 47 : Int) + 1 = n := by omega
  have hn2 : min (n : Int) ((s.length : Int) + 1) = n := by omega
  simp (disch := first | omega | (simp [-List.map_take, -List.map_drop, -List.map_set, -List.map_append, -List.drop_one] <;> omega) | fail) [-List.map_take, -List.map_drop, -List.map_set, -List.map_append, -List.drop_one, E_mm2, mm2_min, a115, T71_cn, cS1_eq, cn1, hn1, hn2]
  have hr0 := rep_fillS (comps s)
  rw [hn] at hr0
  refine W_loop (S94 s) (fun x => x.r.length) (R94 s) ⟨0, s⟩ (weak_same (by simp (disch := first | omega | (simp [-List.map_take, -List.map_drop, -List.map_set, -List.map_append, -List.drop_one] <;> omega) | fail) [-List.map_take, -List.map_drop, -List.map_set, -List.map_append, -List.drop_one, hn]) (by simp (disch := first | omega | (simp [-List.map_take, -List.map_drop, -List.map_set, -List.map_append, -List.drop_one] <;> omega) | fail) [-List.map_take, -List.map_drop, -List.map_set, -List.map_append, -List.drop_one, hr0])) ⟨Nat.le_refl _, by show 0 < (comps s).length; omega, rfl⟩ (fun x hx => ?_)
  obtain ⟨i, r⟩ := x
  have hx' := hx
  obtain ⟨hrl, hi, hd⟩ := hx'
  simp only at hrl hi hd
  have hle := len_fillS (l := comps s) (i := i) (by omega)
  have hls := len_strs (fillS (comps s) i)
  simp (disch := first | omega | (simp [-List.map_take, -List.map_drop, -List.map_set, -List.map_append, -List.drop_one] <;> omega) | fail) [-List.map_take, -List.map_drop, -List.map_set, -List.map_append, -List.drop_one, a115L0, a115S0, S94, hn]
  by_cases h : i + 1 < n
  · have h1 : (i : Int) < (n : Int) - 1 := by omega
    have hin : i < n := by omega
    have hlr : (comps r).length = n - i := by rw [← hd, List.length_drop, hn]
    by_cases hix : Lib.indexByte r 47 = -1
    · rw [comps_none hix] at hlr
      simp at hlr; omega
    · obtain ⟨o, ho⟩ : ∃ o : Nat, Lib.indexByte r 47 = o := ⟨(Lib.indexByte r 47).toNat, by have := Lib.indexByte_ge r 47; omega⟩
      have hlt := ixb_lt ho
      have hneg : ¬ (o : Int) < 0 := by omega
      have hol : (o : Int) ≤ r.length := by omega
      have hol1 : o ≤ r.length := by omega
      have hol2 : o + 1 ≤ r.length := by omega
      have hol3 : (o : Int) + 1 ≤ r.length := by omega
      have e1 : ((o : Int) + 1).toNat = o + 1 := by omega
      have ht : (r.drop (o + 1)).take (r.length - (o + 1)) = r.drop (o + 1) := List.take_of_length_le (by simp)
      have hcs := comps_some ho
      have hget : (comps s)[i]'(by omega) = r.take o := by
        have : (comps s)[i]? = some (r.take o) := by
          have := congrArg (·[0]?) hd
          simp only [List.getElem?_drop, Nat.add_zero, hcs] at this
          simpa using this
        exact (List.getElem?_eq_some_iff.1 this).2
      have hset : (strs (fillS (comps s) i)).set i (.str (r.take o)) = strs (fillS (comps s) (i + 1)) := by
        rw [strs_set, ← hget, fillS_set (by omega)]
      have hd2 : (comps s).drop (i + 1) = comps (r.drop (o + 1)) := by
        rw [← List.drop_drop, hd, hcs]; rfl
      simp (disch := first | omega | (simp [-List.map_take, -List.map_drop, -List.map_set, -List.map_append, -List.drop_one] <;> omega) | fail) [-List.map_take, -List.map_drop, -List.map_set, -List.map_append, -List.drop_one, h1, hin, T71_ix, cS1_eq, ix1, ho, hneg, hol, hol1, hol2, hol3, e1, ht, hls, hle, hn]
      exact ⟨⟨i + 1, r.drop (o + 1)⟩, weak_same (by simp (disch := first | omega | (simp [-List.map_take, -List.map_drop, -List.map_set, -List.map_append, -List.drop_one] <;> omega) | fail) [-List.map_take, -List.map_drop, -List.map_set, -List.map_append, -List.drop_one, hn]) (by simp (disch := first | omega | (simp [-List.map_take, -List.map_drop, -List.map_set, -List.map_append, -List.drop_one] <;> omega) | fail) [-List.map_take, -List.map_drop, -List.map_set, -List.map_append, -List.drop_one, hset]), by simp; omega, by simp only [List.length_drop]; omega, by show i + 1 < (comps s).length; omega, hd2⟩
  · have h1 : ¬ (i : Int) < (n : Int) - 1 := by omega
    have hin : i < n := by omega
    have hi1 : i + 1 = n := by omega
    have hi2 : (i : Int) + 1 = n := by omega
    have hlr : (comps r).length = 1 := by rw [← hd, List.length_drop]; omega
    have hcr : comps r = [r] := by
      by_cases hix : Lib.indexByte r 47 = -1
      · exact comps_none hix
      · obtain ⟨o, ho⟩ : ∃ o : Nat, Lib.indexByte r 47 = o := ⟨(Lib.indexByte r 47).toNat, by have := Lib.indexByte_ge r 47; omega⟩
        rw [comps_some ho] at hlr
        have := comps_ne (r.drop (o + 1))
        simp at hlr
        exact absurd hlr this
    have hget : (comps s)[i]'(by omega) = r := by
      have : (comps s)[i]? = some r := by
        have := congrArg (·[0]?) hd
        simp only [List.getElem?_drop, Nat.add_zero, hcr] at this
        simpa using this
      exact (List.getElem?_eq_some_iff.1 this).2
    have hset : (strs (fillS (comps s) i)).set i (.str r) = strs (comps s) := by
      rw [strs_set]
      conv => lhs; rw [← hget]
      rw [fillS_set (by omega), show i + 1 = (comps s).length by omega, fillS_all]
    have hlc2 := len_strs (comps s)
    have htk : (strs (comps s)).take n = strs (comps s) := List.take_of_length_le (by omega)
    simp (disch := first | omega | (simp [-List.map_take, -List.map_drop, -List.map_set, -List.map_append, -List.drop_one] <;> omega) | fail) [-List.map_take, -List.map_drop, -List.map_set, -List.map_append, -List.drop_one, h1, hin, hi2, hls, hle, hn, hset, splitD, hlc2, htk, snap_strs]
def cGS : List DV → Option DV
  | [.str s, .str [47], .int .i64 0, .int .i64 (-1)] => if s.length ≤ 100000 then some (splitD s) else none | _ => none
theorem cGS_eq {s : List UInt8} (h : s.length ≤ 100000) : cGS [.str s, .str [47], .int .i64 0, .int .i64 (-1)] = some (splitD s) := if_pos h
def T72 : Tbl := addT 115 (.pure cGS) tbl0
theorem T72_gs : T72 115 = .pure cGS := by simp [T72]
theorem T72_sound : T72.Sound P := by
  refine addT_sound (fun args v e => ?_) tbl0_sound
  unfold cGS at e
  split at e
  · split at e
    · rename_i hl; simp at e; subst e; exact sem_runs mix T71_sound Tryd.func115 a115_ok (runs_gensplit _ hl)
    · simp at e
  · simp at e
theorem runs_split (s : List UInt8) (hs : s.length ≤ 100000) : Runs T72 a104 [.str s, .str [47]] (splitD s) := by
  refine ⟨?_⟩
  simp (disch := first | omega | (simp [-List.map_take, -List.map_drop, -List.map_set, -List.map_append, -List.drop_one] <;> omega) | fail) [-List.map_take, -List.map_drop, -List.map_set, -List.map_append, -List.drop_one, a104, T72_gs, cGS_eq, hs, splitD, snap_strs]
def cSpl : List DV → Option DV
  | [.str s, .str [47]] => if s.length ≤ 100000 then some (splitD s) else none | _ => none
theorem cSpl_eq {s : List UInt8} (h : s.length ≤ 100000) : cSpl [.str s, .str [47]] = some (splitD s) := if_pos h
def T73 : Tbl := addT 104 (.pure cSpl) tbl0
theorem T73_spl : T73 104 = .pure cSpl := by simp [T73]
theorem T73_sound : T73.Sound P := by
  refine addT_sound (fun args v e => ?_) tbl0_sound
  unfold cSpl at e
  split at e
  · split at e
    · rename_i hl; simp at e; subst e; exact sem_runs mix T72_sound Tryd.func104 a104_ok (runs_split _ hl)
    · simp at e
  · simp at e
def S17a (s : List UInt8) (i : Nat) : St := a62S0 (.str s) (.int .i64 i) []
def S17b (s : List UInt8) (i : Nat) : St := a62S1 (splitD s) (.int .i64 i) []
def R17a (s : List UInt8) (i : Nat) : Prop := i ≤ s.length ∧ noZ (s.take i) = true
def R17b (s : List UInt8) (i : Nat) : Prop := i ≤ (comps s).length ∧ ((comps s).take i).all okC = true
theorem strs_get {l : List (List UInt8)} {i : Nat} (h : i < l.length) : one 1 false (((strs l).drop i).take 1) = some (.str l[i]) := one_take h (by decide)
theorem noZ_take {s : List UInt8} {i : Nat} (h : i < s.length) : noZ (s.take (i + 1)) = (noZ (s.take i) && s[i] != 0) := by
  rw [take_snoc h, noZ_app]; simp [noZ]
set_option maxRecDepth 20000 in
theorem runs_refpath (s : List UInt8) : Runs T73 a62 [.str s] (pathB s) := by
  refine ⟨?_⟩
  by_cases h1 : s = []
  · subst h1
    simp (disch := first | omega | (simp [-List.map_take, -List.map_drop, -List.map_set, -List.map_append, -List.drop_one] <;> omega) | fail) [-List.map_take, -List.map_drop, -List.map_set, -List.map_append, -List.drop_one, a62, pathB, show pathD [] = false from rfl]
  by_cases h2 : 200 < s.length
  · have h2' : (200 : Int) < s.length := by omega
    have hp : pathD s = false := by simp [pathD]; omega
    simp (disch := first | omega | (simp [-List.map_take, -List.map_drop, -List.map_set, -List.map_append, -List.drop_one] <;> omega) | fail) [-List.map_take, -List.map_drop, -List.map_set, -List.map_append, -List.drop_one, a62, h1, h2', pathB, hp]
  have h2' : ¬ (200 : Int) < s.length := by omega
  have h3 : 1 ≤ s.length := by have := List.length_pos_iff.2 h1; omega
  simp (disch := first | omega | (simp [-List.map_take, -List.map_drop, -List.map_set, -List.map_append, -List.drop_one] <;> omega) | fail) [-List.map_take, -List.map_drop, -List.map_set, -List.map_append, -List.drop_one, a62, h1, h2']
  refine W_loop (S17a s) (fun i => s.length - i) (R17a s) 0 (weak_same (by simp (disch := first | omega | (simp [-List.map_take, -List.map_drop, -List.map_set, -List.map_append, -List.drop_one] <;> omega) | fail) [-List.map_take, -List.map_drop, -List.map_set, -List.map_append, -List.drop_one]) (by simp (disch := first | omega | (simp [-List.map_take, -List.map_drop, -List.map_set, -List.map_append, -List.drop_one] <;> omega) | fail) [-List.map_take, -List.map_drop, -List.map_set, -List.map_append, -List.drop_one])) ⟨by omega, rfl⟩ (fun i hi => ?_)
  obtain ⟨hi1, hi2⟩ := hi
  simp (disch := first | omega | (simp [-List.map_take, -List.map_drop, -List.map_set, -List.map_append, -List.drop_one] <;> omega) | fail) [-List.map_take, -List.map_drop, -List.map_set, -List.map_append, -List.drop_one, a62L0, a62S0, S17a]
  by_cases h : i < s.length
  · have h4 : (i : Int) < s.length := by omega
    by_cases hz : s[i] = 0
    · have b1 : s[i].toBitVec = 0#8 := tb_eq.2 hz
      have hnz : noZ s = false := by
        rw [noZ, List.all_eq_false]
        exact ⟨s[i], List.getElem_mem h, by simp [hz]⟩
      have hp : pathD s = false := by simp [pathD, hnz]
      simp (disch := first | omega | (simp [-List.map_take, -List.map_drop, -List.map_set, -List.map_append, -List.drop_one] <;> omega) | fail) [-List.map_take, -List.map_drop, -List.map_set, -List.map_append, -List.drop_one, h, h4, b1, pathB, hp]
    · have b1 : ¬ s[i].toBitVec = 0#8 := fun e => hz (tb_eq.1 e)
      have b1q : (s[i].toBitVec == 0#8) = false := by simp [b1]
      simp (disch := first | omega | (simp [-List.map_take, -List.map_drop, -List.map_set, -List.map_append, -List.drop_one] <;> omega) | fail) [-List.map_take, -List.map_drop, -List.map_set, -List.map_append, -List.drop_one, h, h4, b1, b1q]
      exact ⟨i + 1, weak_same (by simp (disch := first | omega | (simp [-List.map_take, -List.map_drop, -List.map_set, -List.map_append, -List.drop_one] <;> omega) | fail) [-List.map_take, -List.map_drop, -List.map_set, -List.map_append, -List.drop_one]) (by simp (disch := first | omega | (simp [-List.map_take, -List.map_drop, -List.map_set, -List.map_append, -List.drop_one] <;> omega) | fail) [-List.map_take, -List.map_drop, -List.map_set, -List.map_append, -List.drop_one]), by omega, by omega, by rw [noZ_take h, hi2]; simp [hz]⟩
  · have h4 : ¬ (i : Int) < s.length := by omega
    obtain rfl : i = s.length := by omega
    rw [List.take_length] at hi2
    have hp : pathD s = (comps s).all okC := by
      simp only [pathD, h3, show s.length ≤ 200 by omega, hi2, decide_true, Bool.true_and]
    have hsp := cSpl_eq (s := s) (by omega)
    have hcl : (comps s).length ≤ 1000 := by have := len_comps s; have := count_le s 47; omega
    simp (disch := first | omega | (simp [-List.map_take, -List.map_drop, -List.map_set, -List.map_append, -List.drop_one] <;> omega) | fail) [-List.map_take, -List.map_drop, -List.map_set, -List.map_append, -List.drop_one, h4, T73_spl, hsp]
    refine W_loop (S17b s) (fun i => (comps s).length - i) (R17b s) 0 (weak_same (by simp (disch := first | omega | (simp [-List.map_take, -List.map_drop, -List.map_set, -List.map_append, -List.drop_one] <;> omega) | fail) [-List.map_take, -List.map_drop, -List.map_set, -List.map_append, -List.drop_one, splitD]) (by simp (disch := first | omega | (simp [-List.map_take, -List.map_drop, -List.map_set, -List.map_append, -List.drop_one] <;> omega) | fail) [-List.map_take, -List.map_drop, -List.map_set, -List.map_append, -List.drop_one])) ⟨by omega, rfl⟩ (fun i hi => ?_)
    obtain ⟨hj1, hj2⟩ := hi
    simp (disch := first | omega | (simp [-List.map_take, -List.map_drop, -List.map_set, -List.map_append, -List.drop_one] <;> omega) | fail) [-List.map_take, -List.map_drop, -List.map_set, -List.map_append, -List.drop_one, a62L1, a62S1, S17b, splitD]
    by_cases h5 : i < (comps s).length
    · have h6 : (i : Int) < (comps s).length := by omega
      have hg := strs_get h5
      obtain ⟨y, hy⟩ : ∃ y, (comps s)[i] = y := ⟨_, rfl⟩
      rw [hy] at hg
      have bad : okC y = false → pathD s = false := fun e => by
        rw [hp, List.all_eq_false]
        exact ⟨(comps s)[i], List.getElem_mem h5, by rw [hy, e]; simp⟩
      by_cases e1 : y = []
      · subst e1
        simp (disch := first | omega | (simp [-List.map_take, -List.map_drop, -List.map_set, -List.map_append, -List.drop_one] <;> omega) | fail) [-List.map_take, -List.map_drop, -List.map_set, -List.map_append, -List.drop_one, h5, h6, hg, pathB, bad rfl]
      · by_cases e2 : y = [46]
        · subst e2
          simp (disch := first | omega | (simp [-List.map_take, -List.map_drop, -List.map_set, -List.map_append, -List.drop_one] <;> omega) | fail) [-List.map_take, -List.map_drop, -List.map_set, -List.map_append, -List.drop_one, h5, h6, hg, pathB, bad rfl]
        · by_cases e3 : y = [46, 46]
          · subst e3
            simp (disch := first | omega | (simp [-List.map_take, -List.map_drop, -List.map_set, -List.map_append, -List.drop_one] <;> omega) | fail) [-List.map_take, -List.map_drop, -List.map_set, -List.map_append, -List.drop_one, h5, h6, hg, pathB, bad rfl]
          · simp (disch := first | omega | (simp [-List.map_take, -List.map_drop, -List.map_set, -List.map_append, -List.drop_one] <;> omega) | fail) [-List.map_take, -List.map_drop, -List.map_set, -List.map_append, -List.drop_one, h5, h6, hg, e1, e2, e3]
            refine ⟨i + 1, weak_same (by simp (disch := first | omega | (simp [-List.map_take, -List.map_drop, -List.map_set, -List.map_append, -List.drop_one] <;> omega) | fail) [-List.map_take, -List.map_drop, -List.map_set, -List.map_append, -List.drop_one, splitD]) (by simp (disch := first | omega | (simp [-List.map_take, -List.map_drop, -List.map_set, -List.map_append, -List.drop_one] <;> omega) | fail) [-List.map_take, -List.map_drop, -List.map_set, -List.map_append, -List.drop_one]), by omega, by omega, ?_⟩
            rw [take_snoc h5, List.all_append, hj2, hy]
            simp [okC, e1, e2, e3]
    · have h6 : ¬ (i : Int) < (comps s).length := by omega
      have : (comps s).take i = comps s := List.take_of_length_le (by omega)
      rw [this] at hj2
      have hq : pathD s = true := by rw [hp, hj2]
      simp (disch := first | omega | (simp [-List.map_take, -List.map_drop, -List.map_set, -List.map_append, -List.drop_one] <;> omega) | fail) [-List.map_take, -List.map_drop, -List.map_set, -List.map_append, -List.drop_one, h5, h6, pathB, hq]
end Go.Proofs.YtjhakjeioppijaaDoor
