/-
  The law WorkloadValid.
-/
import Derived.Test.YtjhakjeioppijaaDoorWx
import Derived.Test.YtjhakjeioppijaaDoorWt
import Derived.Test.YtjhakjeioppijaaDoorAmY
set_option linter.unusedSimpArgs false
set_option linter.unusedVariables false
namespace Go.Proofs.YtjhakjeioppijaaDoor
open Go Go.Am

/-! what is not known to be small -/
structure GrpU where
  ns : List UInt8
  im : List UInt8
  want : Int
  least : Int
  down : Int
  ck : Option Bool
  cl : List Dg
  ch : ck = none → cl = []
def grU (g : GrpU) : List DV := [.str g.ns, .str g.im, .int .i64 g.want, .int .i64 g.least, .int .i64 g.down, slD g.ck 32 g.cl.length (g.cl.flatMap dgC)]
theorem len_grU (g : GrpU) : (grU g).length = 6 := by simp [grU]
def smallU (g : GrpU) : Bool := decide (g.ns.length ≤ 300) && decide (g.im.length ≤ 300) && decide (g.cl.length ≤ 12)
structure CluU where
  gk : Option Bool
  gl : List GrpU
  gh : gk = none → gl = []
  gb : gl.length ≤ 9223372036854775807
  ik : Option Bool
  il : List Ins
  ih : ik = none → il = []
  next : Int
def clU (u : CluU) : List DV := [slD u.gk 6 u.gl.length (u.gl.flatMap grU), slD u.ik 37 u.il.length (u.il.flatMap inC), .int .i64 u.next]
theorem pure_slD {k : Option Bool} {s n : Nat} {cs : List DV} (h : pureL cs = true) : pureD (slD k s n cs) = true := by
  cases k with
  | none => rfl
  | some b => exact h
theorem pure_grU (g : GrpU) : pureL (grU g) = true := by simp [grU, pureL, pureD, pure_slD (fm_pure pure_dgC g.cl)]
theorem pure_clU (u : CluU) : pureL (clU u) = true := by simp [clU, pureL, pureD, pure_slD (fm_pure pure_grU u.gl), pure_slD (fm_pure pure_inC u.il)]
theorem len_clU (u : CluU) : (clU u).length = 3 := by simp [clU]
def smallsU (l : List GrpU) : Bool := l.all smallU
def fewU (u : CluU) : Bool := u.gl.all smallU && decide (u.gl.length ≤ 20) && decide (u.il.length ≤ 30)
theorem small_to {g : GrpU} (h : smallU g = true) : ∃ x : Grp, grC x = grU g := by
  simp only [smallU, Bool.and_eq_true, decide_eq_true_eq] at h
  exact ⟨⟨g.ns, g.im, g.want, g.least, g.down, ⟨g.ck, g.cl, g.ch, by omega⟩⟩, rfl⟩
theorem smalls_to : ∀ {l : List GrpU}, l.all smallU = true → ∃ x : List Grp, x.length = l.length ∧ x.flatMap grC = l.flatMap grU
  | [], _ => ⟨[], rfl, rfl⟩
  | g :: l, h => by
    simp only [List.all_cons, Bool.and_eq_true] at h
    obtain ⟨x, hx⟩ := small_to h.1
    obtain ⟨xs, h1, h2⟩ := smalls_to h.2
    exact ⟨x :: xs, by simp [h1], by simp [hx, h2]⟩
theorem few_to {u : CluU} (h : fewU u = true) : ∃ c : Clu, clC c = clU u := by
  simp only [fewU, Bool.and_eq_true, decide_eq_true_eq] at h
  obtain ⟨x, h1, h2⟩ := smalls_to h.1.1
  refine ⟨⟨⟨u.gk, x, fun e => ?_, by omega⟩, ⟨u.ik, u.il, u.ih, by omega⟩, u.next⟩, ?_⟩
  · have := u.gh e
    rw [this] at h1
    exact List.length_eq_zero_iff.1 h1
  · simp only [clC, clU, Sl.dv, h1, h2]

/-! small, few -/
def lenS : DV → Option Nat
  | .nils => some 0
  | .sl _ _ n _ => some n
  | _ => none
theorem lenS_D {d : DV} {n : Nat} (h : lenS d = some n) (H : List AObj) : lenD H d = some (.int .i64 n) := by
  cases d <;> simp [lenS] at h <;> subst h <;> rfl
theorem lenS_slD {k : Option Bool} {s n : Nat} {cs : List DV} (hk : k = none → n = 0) : lenS (slD k s n cs) = some n := by
  cases k with
  | none => simp [slD, lenS, hk rfl]
  | some b => rfl
def smB (a b : List UInt8) (n : Nat) : Bool := decide (a.length ≤ 300) && decide (b.length ≤ 300) && decide (n ≤ 12)
def smallC : List DV → Option DV
  | [.agg [.str a, .str b, _, _, _, d]] => (lenS d).map fun n => .bool (smB a b n)
  | _ => none
theorem runs_small (a b : List UInt8) (x y z d : DV) (n : Nat) (hd : lenS d = some n) : Runs tbl0 a16 [.agg [.str a, .str b, x, y, z, d]] (.bool (smB a b n)) := by
  refine ⟨?_⟩
  have hl := lenS_D hd
  by_cases h1 : a.length ≤ 300
  case neg =>
    have h1' : ¬ (a.length : Int) ≤ 300 := by omega
    simp (disch := first | omega | (simp [-List.map_take, -List.map_drop, -List.map_set, -List.map_append, -List.drop_one] <;> omega) | fail) [-List.map_take, -List.map_drop, -List.map_set, -List.map_append, -List.drop_one, a16, h1, h1', smB]
  have h1' : (a.length : Int) ≤ 300 := by omega
  by_cases h2 : b.length ≤ 300
  case neg =>
    have h2' : ¬ (b.length : Int) ≤ 300 := by omega
    simp (disch := first | omega | (simp [-List.map_take, -List.map_drop, -List.map_set, -List.map_append, -List.drop_one] <;> omega) | fail) [-List.map_take, -List.map_drop, -List.map_set, -List.map_append, -List.drop_one, a16, h1, h1', h2, h2', smB]
  have h2' : (b.length : Int) ≤ 300 := by omega
  by_cases h3 : n ≤ 12
  · have h3' : (n : Int) ≤ 12 := by omega
    simp (disch := first | omega | (simp [-List.map_take, -List.map_drop, -List.map_set, -List.map_append, -List.drop_one] <;> omega) | fail) [-List.map_take, -List.map_drop, -List.map_set, -List.map_append, -List.drop_one, a16, h1, h1', h2, h2', h3, h3', hl, smB]
  · have h3' : ¬ (n : Int) ≤ 12 := by omega
    simp (disch := first | omega | (simp [-List.map_take, -List.map_drop, -List.map_set, -List.map_append, -List.drop_one] <;> omega) | fail) [-List.map_take, -List.map_drop, -List.map_set, -List.map_append, -List.drop_one, a16, h1, h1', h2, h2', h3, h3', hl, smB]
theorem smallC_eq {g : GrpU} : smallC [.agg (grU g)] = some (.bool (smallU g)) := by
  have h := lenS_slD (k := g.ck) (s := 32) (n := g.cl.length) (cs := g.cl.flatMap dgC) (fun e => by rw [g.ch e]; rfl)
  simp only [smallC, grU, h, Option.map_some]
  simp [smB, smallU]
theorem smallC_sound : (Con.pure smallC).Sound P 16 := by
  intro args v e
  unfold smallC at e
  split at e
  · obtain ⟨n, hn, rfl⟩ := Option.map_eq_some_iff.1 e
    exact sem_runs mix tbl0_sound Tryd.func16 a16_ok (runs_small _ _ _ _ _ _ _ hn)
  · simp at e
noncomputable def T130 : Tbl := addT 16 (.pure smallC) tbl0
theorem T130_s : T130 16 = .pure smallC := by simp [T130]
theorem T130_sound : T130.Sound P := addT_sound smallC_sound tbl0_sound
theorem one_gU {u : CluU} : one 1 false (clU u) = some (slD u.gk 6 u.gl.length (u.gl.flatMap grU)) := rfl
theorem one_iU {u : CluU} : one 1 false ((clU u).drop 1) = some (slD u.ik 37 u.il.length (u.il.flatMap inC)) := rfl
theorem one_grU {g : GrpU} : one 6 true (grU g) = some (.agg (grU g)) := rfl
theorem idxU {k : Option Bool} {l : List GrpU} (hk : k = none → l = []) {i : Nat} (hi : i < l.length) (H : List AObj) : idxSD H 6 (slD k 6 l.length (l.flatMap grU)) i = some (.ref (grU l[i])) := by
  cases k with
  | none => rw [hk rfl] at hi; simp at hi
  | some b => rw [slD_some, idxSD_sl (by omega) (by omega), Int.toNat_natCast, fm_get len_grU hi]
def S130 (u : CluU) (i : Nat) : St := a15S0 (.mp 0 3 0) (.int .i64 i) [.cells (clU u)]
theorem runs_few (u : CluU) : Runs T130 a15 [.agg (clU u)] (.bool (fewU u)) := by
  refine ⟨?_⟩
  have hb := u.gb
  have hl1 : ∀ H, lenD H (slD u.gk 6 u.gl.length (u.gl.flatMap grU)) = some (.int .i64 u.gl.length) := fun H => lenD_slD (fun e => by rw [u.gh e]; rfl)
  have hl2 : ∀ H, lenD H (slD u.ik 37 u.il.length (u.il.flatMap inC)) = some (.int .i64 u.il.length) := fun H => lenD_slD (fun e => by rw [u.ih e]; rfl)
  have h3 := len_clU u
  have hpg : ∀ g, pureL (grU g) = true := pure_grU
  have hsg : ∀ H k g, snapL H k (grU g) = some (grU g) := fun H k g => snapL_clean (pure_grU g)
  simp (disch := first | omega | (simp [-List.map_take, -List.map_drop, -List.map_set, -List.map_append, -List.drop_one] <;> omega) | fail) [-List.map_take, -List.map_drop, -List.map_set, -List.map_append, -List.drop_one, a15, h3]
  refine W_loop (S130 u) (fun i => u.gl.length - i) (fun i => i ≤ u.gl.length ∧ smallsU (u.gl.take i) = true) 0 (weak_same (by simp (disch := first | omega | (simp [-List.map_take, -List.map_drop, -List.map_set, -List.map_append, -List.drop_one] <;> omega) | fail) [-List.map_take, -List.map_drop, -List.map_set, -List.map_append, -List.drop_one]) (by simp (disch := first | omega | (simp [-List.map_take, -List.map_drop, -List.map_set, -List.map_append, -List.drop_one] <;> omega) | fail) [-List.map_take, -List.map_drop, -List.map_set, -List.map_append, -List.drop_one])) ⟨by omega, rfl⟩ (fun i hi => ?_)
  obtain ⟨h1, h2⟩ := hi
  simp (disch := first | omega | (simp [-List.map_take, -List.map_drop, -List.map_set, -List.map_append, -List.drop_one] <;> omega) | fail) [-List.map_take, -List.map_drop, -List.map_set, -List.map_append, -List.drop_one, a15L0, a15S0, S130, h3, one_gU, hl1]
  by_cases h : i < u.gl.length
  · have h' : (i : Int) < u.gl.length := by omega
    have hg := idxU u.gh h
    cases e : smallU u.gl[i] with
    | true =>
      simp (disch := first | omega | (simp [-List.map_take, -List.map_drop, -List.map_set, -List.map_append, -List.drop_one] <;> omega) | fail) [-List.map_take, -List.map_drop, -List.map_set, -List.map_append, -List.drop_one, h', h, h3, one_gU, one_grU, hg, T130_s, smallC_eq, e, hpg, hsg]
      exact ⟨i + 1, weak_same (by simp (disch := first | omega | (simp [-List.map_take, -List.map_drop, -List.map_set, -List.map_append, -List.drop_one] <;> omega) | fail) [-List.map_take, -List.map_drop, -List.map_set, -List.map_append, -List.drop_one]) (by simp (disch := first | omega | (simp [-List.map_take, -List.map_drop, -List.map_set, -List.map_append, -List.drop_one] <;> omega) | fail) [-List.map_take, -List.map_drop, -List.map_set, -List.map_append, -List.drop_one]), by omega, by omega, by rw [take_snoc h, smallsU, List.all_append, show (u.gl.take i).all smallU = true from h2]; simp [e]⟩
    | false =>
      have hf : fewU u = false := by
        have : u.gl.all smallU = false := List.all_eq_false.2 ⟨u.gl[i], List.getElem_mem h, by rw [e]; simp⟩
        simp only [fewU, this, Bool.false_and]
      simp (disch := first | omega | (simp [-List.map_take, -List.map_drop, -List.map_set, -List.map_append, -List.drop_one] <;> omega) | fail) [-List.map_take, -List.map_drop, -List.map_set, -List.map_append, -List.drop_one, h', h, h3, one_gU, one_grU, hg, T130_s, smallC_eq, e, hf, hpg, hsg]
  · have h' : ¬ (i : Int) < u.gl.length := by omega
    have hall : u.gl.all smallU = true := by rwa [List.take_of_length_le (by omega), smallsU] at h2
    by_cases k1 : u.gl.length ≤ 20
    · have k1' : (u.gl.length : Int) ≤ 20 := by omega
      by_cases k2 : u.il.length ≤ 30
      · have k2' : (u.il.length : Int) ≤ 30 := by omega
        simp (disch := first | omega | (simp [-List.map_take, -List.map_drop, -List.map_set, -List.map_append, -List.drop_one] <;> omega) | fail) [-List.map_take, -List.map_drop, -List.map_set, -List.map_append, -List.drop_one, h, h', h3, one_gU, one_iU, hl1, hl2, k1, k1', k2, k2', fewU, hall]
      · have k2' : ¬ (u.il.length : Int) ≤ 30 := by omega
        simp (disch := first | omega | (simp [-List.map_take, -List.map_drop, -List.map_set, -List.map_append, -List.drop_one] <;> omega) | fail) [-List.map_take, -List.map_drop, -List.map_set, -List.map_append, -List.drop_one, h, h', h3, one_gU, one_iU, hl1, hl2, k1, k1', k2, k2', fewU, hall]
    · have k1' : ¬ (u.gl.length : Int) ≤ 20 := by omega
      simp (disch := first | omega | (simp [-List.map_take, -List.map_drop, -List.map_set, -List.map_append, -List.drop_one] <;> omega) | fail) [-List.map_take, -List.map_drop, -List.map_set, -List.map_append, -List.drop_one, h, h', h3, one_gU, one_iU, hl1, hl2, k1, k1', fewU, hall]
open Classical in
/-- a contract at one argument list -/
noncomputable def cAt (a : List DV) (v : DV) : List DV → Option DV := fun args => if args = a then some v else none
theorem cAt_eq {a : List DV} {v : DV} : cAt a v a = some v := if_pos rfl
theorem cAt_sound {f : Nat} {a : List DV} {v : DV} (h : Am.Sem P f a v) : (Con.pure (cAt a v)).Sound P f := by
  intro args w e
  unfold cAt at e
  split at e
  · rename_i ha; simp at e; subst ha e; exact h
  · simp at e

/-! the law -/
noncomputable def T131 (U : List DV) (bf : Bool) : Tbl := addT 15 (.pure (cAt [.agg U] (.bool bf))) (addT 16 (.pure smallC) (addT 17 (.pure cTrue) (addT 19 (.pure (cG1 validGB)) (addT 21 (.pure (cC1 validCB)) (addT 23 (.pure (cCSS grpD)) (addT 25 (.pure (cCi fun c i => .int .i64 (findIx c.i.l i))) T112))))))
section
variable {U : List DV} {bf : Bool}
theorem T131_few : T131 U bf 15 = .pure (cAt [.agg U] (.bool bf)) := by simp [T131]
theorem T131_small : T131 U bf 16 = .pure smallC := by simp [T131]
theorem T131_awake : T131 U bf 17 = .pure cTrue := by simp [T131]
theorem T131_rvg : T131 U bf 19 = .pure (cG1 validGB) := by simp [T131]
theorem T131_rv : T131 U bf 21 = .pure (cC1 validCB) := by simp [T131]
theorem T131_rg : T131 U bf 23 = .pure (cCSS grpD) := by simp [T131]
theorem T131_rf : T131 U bf 25 = .pure (cCi fun c i => .int .i64 (findIx c.i.l i)) := by simp [T131]
theorem T131_vg : T131 U bf 18 = .pure (cG1 validGB) := by simp [T131, T112]
theorem T131_v : T131 U bf 20 = .pure (cC1 validCB) := by simp [T131, T112]
theorem T131_g : T131 U bf 22 = .pure (cCSS grpD) := by simp [T131, T112]
theorem T131_f : T131 U bf 24 = .pure (cCi fun c i => .int .i64 (findIx c.i.l i)) := by simp [T131, T112]
theorem T131_sound (h : Am.Sem P 15 [.agg U] (.bool bf)) : (T131 U bf).Sound P := addT_sound (cAt_sound h) (addT_sound smallC_sound (addT_sound (cTrue_sound (sem_runs mix T116_sound Tryd.func17 a17_ok runs_awake37)) (addT_sound (con_sound fun x _ => sem_runs mix T120_sound Tryd.func19 a19_ok (runs_refvalidgroup x)) (addT_sound (con_sound fun x _ => sem_runs mix T121_sound Tryd.func21 a21_ok (runs_refvalid x)) (addT_sound (con_sound fun x _ => sem_runs mix tbl0_sound Tryd.func23 a23_ok (runs_refgroup x.1 x.2.1 x.2.2)) (addT_sound (con_sound fun x _ => sem_runs mix tbl0_sound Tryd.func25 a25_ok (runs_reffind x.1 x.2)) T112_sound))))))
end
theorem one3U {U : List DV} (h : U.length = 3) : one 3 true U = some (.agg U) := by simp [one, h, List.take_of_length_le]
theorem one6U {U : List DV} (h : U.length = 6) : one 6 true U = some (.agg U) := by simp [one, h, List.take_of_length_le]
set_option maxHeartbeats 2000000 in
theorem runs_lawvalid (U G : List DV) (bf bs : Bool) (hU : U.length = 3) (hG : G.length = 6) (ns im : List UInt8) (id : Int) (pU : pureL U = true) (pG : pureL G = true) (hs : smallC [.agg G] = some (.bool bs)) (hc : bf = true → ∃ c, U = clC c) (hg : bs = true → ∃ g, G = grC g) :
    Runs (T131 U bf) a3 [.agg U, .agg G, .str ns, .str im, .int .i64 id] (.bool true) := by
  have u3 := one3U hU
  have g6 := one6U hG
  have sU : ∀ H k, snapL H k U = some U := fun H k => snapL_clean pU
  have sG : ∀ H k, snapL H k G = some G := fun H k => snapL_clean pG
  refine ⟨?_⟩
  cases bf with
  | false => simp (disch := first | omega | (simp [-List.map_take, -List.map_drop, -List.map_set, -List.map_append, -List.drop_one] <;> omega) | fail) [-List.map_take, -List.map_drop, -List.map_set, -List.map_append, -List.drop_one, a3, hU, hG, u3, g6, pU, pG, sU, sG, T131_few, cAt_eq, T131_awake, cTrue_eq]
  | true =>
    cases bs with
    | false => simp (disch := first | omega | (simp [-List.map_take, -List.map_drop, -List.map_set, -List.map_append, -List.drop_one] <;> omega) | fail) [-List.map_take, -List.map_drop, -List.map_set, -List.map_append, -List.drop_one, a3, hU, hG, u3, g6, pU, pG, sU, sG, T131_few, cAt_eq, T131_small, hs, T131_awake, cTrue_eq]
    | true =>
      obtain ⟨c, rfl⟩ := hc rfl
      obtain ⟨g, rfl⟩ := hg rfl
      simp (disch := first | omega | (simp [-List.map_take, -List.map_drop, -List.map_set, -List.map_append, -List.drop_one] <;> omega) | fail) [-List.map_take, -List.map_drop, -List.map_set, -List.map_append, -List.drop_one, a3, T131_few, cAt_eq, T131_small, hs, T131_awake, cTrue_eq, T131_rvg, T131_rv, T131_rg, T131_rf, T131_vg, T131_v, T131_g, T131_f, cG1_eq, cC1_eq, cCSS_eq, cCi_eq, validGB, validCB, grpD]
/-! the arguments -/
abbrev tyDg : Ty := .arr 32 (.int .u8)
abbrev tyGr : Ty := .st [.str, .str, .int .i64, .int .i64, .int .i64, .sl tyDg]
abbrev tyIn : Ty := .st [.int .i64, .int .i64, tyDg, .int .i64, .int .i64, .int .i64]
abbrev tyCl : Ty := .st [.sl tyGr, .sl tyIn, .int .i64]
theorem ok_dg {ds : List DV} (h : Ty.Ok tyDg ds) : ∃ d : Dg, True ∧ ds = dgC d := by
  obtain ⟨b, h1, rfl⟩ := ok_words h
  exact ⟨⟨b, h1⟩, trivial, rfl⟩
theorem ok_int {ds : List DV} (h : Ty.Ok (.int .i64) ds) : ∃ n : Int, ds = [.int .i64 n] := by
  obtain ⟨n, _, h⟩ := ok_i64 h
  exact ⟨n, h⟩
theorem ok_st {ds : List DV} (h : Ty.Ok .str ds) : ∃ s, ds = [.str s] := h
theorem ok_gr {ds : List DV} (h : Ty.Ok tyGr ds) : ∃ g : GrpU, True ∧ ds = grU g := by
  simp only [tyGr, Ty.Ok, Ty.OkL] at h
  obtain ⟨a1, b1, rfl, h1, a2, b2, rfl, h2, a3, b3, rfl, h3, a4, b4, rfl, h4, a5, b5, rfl, h5, a6, b6, rfl, h6, rfl⟩ := h
  obtain ⟨ns, rfl⟩ := h1
  obtain ⟨im, rfl⟩ := h2
  obtain ⟨w, rfl, _⟩ := h3
  obtain ⟨le, rfl, _⟩ := h4
  obtain ⟨dn, rfl, _⟩ := h5
  obtain ⟨k, l, hk, _, rfl⟩ := ok_sl (e := tyDg) (f := dgC) (R := fun _ => True) (fun ds h => ok_dg h) (by simpa only [Ty.Ok] using h6)
  exact ⟨⟨ns, im, w, le, dn, k, l, hk⟩, trivial, rfl⟩
theorem ok_in {ds : List DV} (h : Ty.Ok tyIn ds) : ∃ x : Ins, True ∧ ds = inC x := by
  simp only [tyIn, Ty.Ok, Ty.OkL] at h
  obtain ⟨a1, b1, rfl, h1, a2, b2, rfl, h2, a3, b3, rfl, h3, a4, b4, rfl, h4, a5, b5, rfl, h5, a6, b6, rfl, h6, rfl⟩ := h
  obtain ⟨n1, rfl, _⟩ := h1
  obtain ⟨n2, rfl, _⟩ := h2
  obtain ⟨d, _, rfl⟩ := ok_dg (show Ty.Ok tyDg a3 by simpa only [Ty.Ok] using h3)
  obtain ⟨n4, rfl, _⟩ := h4
  obtain ⟨n5, rfl, _⟩ := h5
  obtain ⟨n6, rfl, _⟩ := h6
  exact ⟨⟨n1, n2, d, n4, n5, n6⟩, trivial, by simp [inC]⟩
theorem ok_cl {ds : List DV} (h : Ty.Ok tyCl ds) : ∃ u : CluU, ds = clU u := by
  rw [tyCl, Ty.Ok] at h
  simp only [Ty.OkL] at h
  obtain ⟨a1, b1, rfl, h1, a2, b2, rfl, h2, a3, b3, rfl, h3, rfl⟩ := h
  obtain ⟨gk, gl, gh, _, rfl, gb⟩ := ok_slb (e := tyGr) (f := grU) (R := fun _ => True) (fun ds h => ok_gr h) h1
  obtain ⟨ik, il, ih, _, rfl⟩ := ok_sl (e := tyIn) (f := inC) (R := fun _ => True) (fun ds h => ok_in h) h2
  obtain ⟨n, rfl⟩ := ok_int h3
  exact ⟨⟨gk, gl, gh, gb, ik, il, ih, n⟩, rfl⟩
namespace workloadValid
theorem law_holds (dvs) (h : Ty.Args [tyCl, tyGr, .str, .str, .int .i64] dvs) : Am.Sem P 3 dvs (.bool true) := by
  obtain ⟨d1, l1, rfl, h1, d2, l2, rfl, h2, d3, l3, rfl, h3, d4, l4, rfl, h4, d5, l5, rfl, h5, rfl⟩ := h
  obtain ⟨u, rfl⟩ := ok_cl h1
  obtain ⟨g, _, rfl⟩ := ok_gr h2
  obtain ⟨ns, rfl⟩ := ok_st h3
  obtain ⟨im, rfl⟩ := ok_st h4
  obtain ⟨id, rfl⟩ := ok_int h5
  exact sem_runs mix (T131_sound (sem_runs mix T130_sound Tryd.func15 a15_ok (runs_few u))) Tryd.func3 a3_ok
    (runs_lawvalid (clU u) (grU g) (fewU u) (smallU g) (len_clU u) (len_grU g) ns im id (pure_clU u) (pure_grU g) smallC_eq (fun e => by obtain ⟨c, hc⟩ := few_to e; exact ⟨c, hc.symm⟩) (fun e => by obtain ⟨x, hx⟩ := small_to e; exact ⟨x, hx.symm⟩))
end workloadValid
end Go.Proofs.YtjhakjeioppijaaDoor
