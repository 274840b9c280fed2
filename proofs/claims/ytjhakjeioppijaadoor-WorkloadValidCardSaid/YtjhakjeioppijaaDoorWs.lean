/-
  Clusters of one group and one instance; the sanity check of the chapter.
-/
import Derived.Test.YtjhakjeioppijaaDoorWr
import Derived.Test.YtjhakjeioppijaaDoorWi
set_option linter.unusedSimpArgs false
set_option linter.unusedVariables false
namespace Go.Proofs.YtjhakjeioppijaaDoor
open Go Go.Am

/-! contracts of the calls -/
noncomputable def cDep (g : Clu → Grp → DV) : List DV → Option DV := con (fun _ => True) (fun p : Clu × Grp => [.agg (clC p.1), .agg (grC p.2)]) (fun p => g p.1 p.2)
theorem cDep_eq {f : Clu → Grp → DV} {c : Clu} {g : Grp} : cDep f [.agg (clC c), .agg (grC g)] = some (f c g) :=
  con_inj (f := fun p : Clu × Grp => [.agg (clC p.1), .agg (grC p.2)]) (by
    rintro ⟨a, b⟩ ⟨a', b'⟩ e
    simp only [List.cons.injEq, DV.agg.injEq, and_true] at e
    rw [clC_inj e.1, grC_inj e.2]) (c, g)
noncomputable def cSta (f : Clu → Int → Dg → Int → DV) : List DV → Option DV := con (fun _ => True) (fun p : Clu × Int × Dg × Int => [.agg (clC p.1), .int .i64 p.2.1, .agg (dgC p.2.2.1), .int .i64 p.2.2.2]) (fun p => f p.1 p.2.1 p.2.2.1 p.2.2.2)
theorem cSta_eq {f : Clu → Int → Dg → Int → DV} {c : Clu} {g t : Int} {d : Dg} : cSta f [.agg (clC c), .int .i64 g, .agg (dgC d), .int .i64 t] = some (f c g d t) :=
  con_inj (f := fun p : Clu × Int × Dg × Int => [.agg (clC p.1), .int .i64 p.2.1, .agg (dgC p.2.2.1), .int .i64 p.2.2.2]) (by
    rintro ⟨a, b, c, d⟩ ⟨a', b', c', d'⟩ e
    simp only [List.cons.injEq, DV.agg.injEq, DV.int.injEq, and_true, true_and] at e
    rw [clC_inj e.1, e.2.1, dgC_inj e.2.2.1, e.2.2.2]) (c, g, d, t)
noncomputable def cCii (f : Clu → Int → Int → DV) : List DV → Option DV := con (fun _ => True) (fun p : Clu × Int × Int => [.agg (clC p.1), .int .i64 p.2.1, .int .i64 p.2.2]) (fun p => f p.1 p.2.1 p.2.2)
theorem cCii_eq {f : Clu → Int → Int → DV} {c : Clu} {g t : Int} : cCii f [.agg (clC c), .int .i64 g, .int .i64 t] = some (f c g t) :=
  con_inj (f := fun p : Clu × Int × Int => [.agg (clC p.1), .int .i64 p.2.1, .int .i64 p.2.2]) (by
    rintro ⟨a, b, d⟩ ⟨a', b', d'⟩ e
    simp only [List.cons.injEq, DV.agg.injEq, DV.int.injEq, and_true, true_and] at e
    rw [clC_inj e.1, e.2.1, e.2.2]) (c, g, t)
noncomputable def T116 : Tbl := addT 35 (.pure (cDep deployB)) (addT 32 (.pure (cSta startB)) (addT 38 (.pure (cCii fun c i t => changeB c i t 2)) (addT 40 (.pure (cCii fun c i t => changeB c i t 3)) (addT 20 (.pure (cC1 validCB)) (addT 24 (.pure (cCi fun c i => .int .i64 (findIx c.i.l i))) (addT 22 (.pure (cCSS grpD)) tbl0))))))
theorem T116_d : T116 35 = .pure (cDep deployB) := by simp [T116]
theorem T116_s : T116 32 = .pure (cSta startB) := by simp [T116]
theorem T116_r : T116 38 = .pure (cCii fun c i t => changeB c i t 2) := by simp [T116]
theorem T116_t : T116 40 = .pure (cCii fun c i t => changeB c i t 3) := by simp [T116]
theorem T116_v : T116 20 = .pure (cC1 validCB) := by simp [T116]
theorem T116_f : T116 24 = .pure (cCi fun c i => .int .i64 (findIx c.i.l i)) := by simp [T116]
theorem T116_g : T116 22 = .pure (cCSS grpD) := by simp [T116]
theorem T116_sound : T116.Sound P := addT_sound (con_sound fun p _ => sem_runs mix T112_sound Tryd.func35 a35_ok (runs_deploy p.1 p.2)) (addT_sound (con_sound fun p _ => sem_runs mix T112_sound Tryd.func32 a32_ok (runs_start p.1 p.2.1 p.2.2.1 p.2.2.2)) (addT_sound (con_sound fun p _ => sem_runs mix T114_sound Tryd.func38 a38_ok (runs_started p.1 p.2.1 p.2.2)) (addT_sound (con_sound fun p _ => sem_runs mix T115_sound Tryd.func40 a40_ok (runs_stop p.1 p.2.1 p.2.2)) (addT_sound (con_sound fun x _ => sem_runs mix T107_sound Tryd.func20 a20_ok (runs_valid x)) (addT_sound (con_sound fun x _ => sem_runs mix T104_sound Tryd.func24 a24_ok (runs_find x.1 x.2)) (addT_sound (con_sound fun x _ => sem_runs mix T102_sound Tryd.func22 a22_ok (runs_group x.1 x.2.1 x.2.2)) tbl0_sound))))))

/-! clusters of one group -/
def d1 : Dg := ⟨1#8 :: rep 31 0#8, by simp⟩
theorem d1_ne : d1 ≠ dg0 := by decide
structure OneG (c : Clu) (x : Grp) : Prop where
  g : c.g.l = [x]
  v : ValidG x
  a : x.ns = [97]
  b : x.im = [98]
theorem okCh_clone {x : Grp} (h : ValidG x) : ValidG x.clone := ⟨h.ns, h.im, h.w0, h.w1, h.l0, h.l1, h.d0, h.d1, h.n, h.ch⟩
theorem valid_one {c : Clu} {x : Grp} (hg : OneG c x) (hi : c.i.l = [] ∨ ∃ y, c.i.l = [y] ∧ SoundI 1 c.next y) (h1 : 1 ≤ c.next) (h2 : c.next ≤ 1099511627776) : ValidC c := by
  obtain ⟨⟨gk, gl, gh, gb⟩, ⟨ik, il, ih, ib⟩, n⟩ := c
  obtain ⟨e, hv, ea, eb⟩ := hg
  simp only at e hi h1 h2
  subst e
  refine ⟨by simp, ?_, h1, h2, fun i h => ?_, fun i h => ?_⟩
  · rcases hi with rfl | ⟨y, rfl, _⟩ <;> simp
  · simp only [List.length_singleton] at h
    obtain rfl : i = 0 := by omega
    exact ⟨hv, by simp [grpIx, ixI, fitG]⟩
  · rcases hi with rfl | ⟨y, rfl, hy⟩
    · simp at h
    · simp only [List.length_singleton] at h
      obtain rfl : i = 0 := by omega
      exact ⟨hy, fun h0 => by omega⟩
def cA : Clu := ⟨⟨none, [], fun _ => rfl, by simp⟩, ⟨none, [], fun _ => rfl, by simp⟩, 1⟩
theorem valid_cA : ValidC cA := ⟨by simp [cA], by simp [cA], by simp [cA], by simp [cA], fun i h => by simp [cA] at h, fun i h => by simp [cA] at h⟩
theorem deploy_one {g : Grp} (hv : ValidG g) (ha : g.ns = [97]) (hb : g.im = [98]) : ∃ c, deployP cA g = (c, 0) ∧ OneG c g.clone ∧ c.i.l = [] ∧ c.next = 1 := by
  refine ⟨⟨own (cA.g.l.map Grp.clone ++ [g.clone]), cA.i.clone, cA.next⟩, ?_, ?_, rfl, rfl⟩
  · rw [deployP, if_neg (by simp [valid_cA, hv]), if_pos (by simp [cA, grpIx, ixI]), if_neg (by simp [cA])]
  · exact ⟨by rw [own_l (by simp [cA])]; simp [cA], okCh_clone hv, ha, hb⟩
theorem start_one {c : Clu} {x : Grp} (hg : OneG c x) (hi : c.i.l = []) (hn : c.next = 1) {t : Int} (ht : timeOK t) : ∃ c', startP c 0 d1 t = (c', 1, 0) ∧ OneG c' x.clone ∧ c'.i.l = [⟨1, 0, d1, 1, t, -1⟩] ∧ c'.next = 2 := by
  have hv : ValidC c := valid_one hg (.inl hi) (by omega) (by omega)
  have hl : c.g.l.length = 1 := by rw [hg.g]; rfl
  refine ⟨⟨c.clone.g, own (c.i.l ++ [newI c 0 d1 t]), c.next + 1⟩, ?_, ?_, ?_, ?_⟩
  · rw [startP, if_neg (by simp [hv, d1_ne, ht]), if_neg (by rw [hl]; decide), if_neg (by rw [hi, hn]; decide), hn]
  · exact ⟨by simp [clone_gl, hg.g], okCh_clone hg.v, hg.a, hg.b⟩
  · rw [hi, own_l (by simp)]; simp [newI, hn]
  · simp [hn]
theorem change_one {c : Clu} {x : Grp} {y : Ins} (hg : OneG c x) (hi : c.i.l = [y]) (hn : c.next = 2) (hy : SoundI 1 2 y) (hid : y.id = 1) {t : Int} (ht : timeOK t) {to : Int} (hto : to = 2 ∨ to = 3) :
    (may to y.state = true ∧ ∃ c', changeP c 1 t to = (c', 0) ∧ OneG c' x.clone ∧ c'.i.l = [(y.st to).si t] ∧ c'.next = 2) ∨ (may to y.state = false ∧ changeP c 1 t to = (clu0, 30)) := by
  have hv : ValidC c := valid_one hg (.inr ⟨y, hi, hn ▸ hy⟩) (by omega) (by omega)
  have hf : findIx c.i.l 1 = 0 := by rw [hi]; simp [findIx, ixI, hid]
  cases hm : may to y.state with
  | true =>
    refine .inl ⟨rfl, ⟨c.clone.g, own (setI c.i.l 0 to t), c.next⟩, ?_, ?_, ?_, hn⟩
    · rw [changeP, if_neg (by simp [hv, ht]), hf, if_neg (by decide), if_pos (by rw [hi]; simp [hm])]
      rfl
    · exact ⟨by simp [clone_gl, hg.g], okCh_clone hg.v, hg.a, hg.b⟩
    · rw [hi, show setI [y] 0 to t = [(y.st to).si t] from rfl, own_l (by simp)]
  | false =>
    refine .inr ⟨rfl, ?_⟩
    rw [changeP, if_neg (by simp [hv, ht]), hf, if_neg (by decide), if_neg (by rw [hi]; simp [hm])]
/-- a group for the sanity check, one for the law -/
def gA : Grp := ⟨[97], [98], 1, 0, 0, ⟨some true, [d1], by simp, by simp⟩⟩
def gL : Grp := ⟨[97], [98], 1, 0, 0, ⟨none, [], fun _ => rfl, by simp⟩⟩
theorem valid_gA : ValidG gA := ⟨by decide, by decide, by decide, by decide, by decide, by decide, by decide, by decide, by decide, fun i h => by
  have : i = 0 := by simp [gA] at h; exact h
  subst this
  exact ⟨d1_ne, by simp⟩⟩
theorem valid_gL : ValidG gL := ⟨by decide, by decide, by decide, by decide, by decide, by decide, by decide, by decide, by decide, fun i h => by simp [gL] at h⟩
theorem dg_cells : DV.agg (w8 1#8 :: (rep 31 0#8).map w8) = .agg (dgC d1) := rfl
end Go.Proofs.YtjhakjeioppijaaDoor
