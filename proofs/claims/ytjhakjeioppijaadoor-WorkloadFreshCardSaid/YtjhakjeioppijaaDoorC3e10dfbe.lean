/-
  5 texts of mine in one.
-/
import Derived.Test.YtjhakjeioppijaaDoorC5f0ea989
import Derived.Test.YtjhakjeioppijaaDoorC950dc02d
import Derived.Test.YtjhakjeioppijaaDoorC0aefe577
import Derived.Test.YtjhakjeioppijaaDoorC257bd1c7
import Derived.Test.YtjhakjeioppijaaDoorC0c4aaf58
set_option linter.unusedSimpArgs false
set_option linter.unusedVariables false
namespace Go.Proofs.YtjhakjeioppijaaDoor
open Go Go.Am
noncomputable def cDep (g : Clu → Grp → DV) : List DV → Option DV := con (fun _ => True) (fun p : Clu × Grp => [.agg (clC p.1), .agg (grC p.2)]) (fun p => g p.1 p.2)
theorem cDep_eq {f : Clu → Grp → DV} {c : Clu} {g : Grp} : cDep f [.agg (clC c), .agg (grC g)] = some (f c g) :=
  con_inj (f := fun p : Clu × Grp => [.agg (clC p.1), .agg (grC p.2)]) (by
    rintro ⟨a, b⟩ ⟨a', b'⟩ e
    simp only [List.cons.injEq, DV.agg.injEq, and_true] at e
    rw [clC_inj e.1, grC_inj e.2]) (c, g)
noncomputable def cSta (f : Clu → Int → Dg → Int → DV) : List DV → Option DV := con (fun _ => True) (fun p : Clu × Int × Dg × Int => [.agg (clC p.1), .int .i64 p.2.1, .agg (dgC p.2.2.1), .int .i64 p.2.2.2]) (fun p => f p.1 p.2.1 p.2.2.1 p.2.2.2)
theorem cSta_eq {f : Clu → Int → Dg → Int → DV} {c : Clu} {g t : Int} {d : Dg} : cSta f [.agg (clC c), .int .i64 g, .agg (dgC d), .int .i64 t] = some (f c g d t) :=
  con_inj (f := fun p : Clu × Int × Dg × Int => [.agg (clC p.1), .int .i64 p.2.1, .agg (dgC p.2.2.1), .int .i64 p.2.2.2]) (by
    rintro ⟨a, b, c, d⟩ ⟨a', b', c', d'⟩ e
    simp only [List.cons.injEq, DV.agg.injEq, DV.int.injEq, and_true, true_and] at e
    rw [clC_inj e.1, e.2.1, dgC_inj e.2.2.1, e.2.2.2]) (c, g, d, t)
noncomputable def cCii (f : Clu → Int → Int → DV) : List DV → Option DV := con (fun _ => True) (fun p : Clu × Int × Int => [.agg (clC p.1), .int .i64 p.2.1, .int .i64 p.2.2]) (fun p => f p.1 p.2.1 p.2.2)
theorem cCii_eq {f : Clu → Int → Int → DV} {c : Clu} {g t : Int} : cCii f [.agg (clC c), .int .i64 g, .int .i64 t] = some (f c g t) :=
  con_inj (f := fun p : Clu × Int × Int => [.agg (clC p.1), .int .i64 p.2.1, .int .i64 p.2.2]) (by
    rintro ⟨a, b, d⟩ ⟨a', b', d'⟩ e
    simp only [List.cons.injEq, DV.agg.injEq, DV.int.injEq, and_true, true_and] at e
    rw [clC_inj e.1, e.2.1, e.2.2]) (c, g, t)
noncomputable def T116 : Tbl := addT 35 (.pure (cDep deployB)) (addT 32 (.pure (cSta startB)) (addT 38 (.pure (cCii fun c i t => changeB c i t 2)) (addT 40 (.pure (cCii fun c i t => changeB c i t 3)) (addT 20 (.pure (cC1 validCB)) (addT 24 (.pure (cCi fun c i => .int .i64 (findIx c.i.l i))) (addT 22 (.pure (cCSS grpD)) tbl0))))))
theorem T116_d : T116 35 = .pure (cDep deployB) := by simp [T116]
theorem T116_s : T116 32 = .pure (cSta startB) := by simp [T116]
theorem T116_r : T116 38 = .pure (cCii fun c i t => changeB c i t 2) := by simp [T116]
theorem T116_v : T116 20 = .pure (cC1 validCB) := by simp [T116]
theorem T116_f : T116 24 = .pure (cCi fun c i => .int .i64 (findIx c.i.l i)) := by simp [T116]
theorem T116_g : T116 22 = .pure (cCSS grpD) := by simp [T116]
theorem T116_sound : T116.Sound P := addT_sound (con_sound fun p _ => sem_runs mix T112_sound Tryd.func35 a35_ok (runs_deploy p.1 p.2)) (addT_sound (con_sound fun p _ => sem_runs mix T112_sound Tryd.func32 a32_ok (runs_start p.1 p.2.1 p.2.2.1 p.2.2.2)) (addT_sound (con_sound fun p _ => sem_runs mix T114_sound Tryd.func38 a38_ok (runs_started p.1 p.2.1 p.2.2)) (addT_sound (con_sound fun p _ => sem_runs mix T115_sound Tryd.func40 a40_ok (runs_stop p.1 p.2.1 p.2.2)) (addT_sound (con_sound fun x _ => sem_runs mix T107_sound Tryd.func20 a20_ok (runs_valid x)) (addT_sound (con_sound fun x _ => sem_runs mix T104_sound Tryd.func24 a24_ok (runs_find x.1 x.2)) (addT_sound (con_sound fun x _ => sem_runs mix T102_sound Tryd.func22 a22_ok (runs_group x.1 x.2.1 x.2.2)) tbl0_sound))))))
def d1 : Dg := ⟨1#8 :: rep 31 0#8, by simp⟩
theorem d1_ne : d1 ≠ dg0 := by decide
structure OneG (c : Clu) (x : Grp) : Prop where
  g : c.g.l = [x]
  v : ValidG x
  a : x.ns = [97]
  b : x.im = [98]
theorem okCh_clone {x : Grp} (h : ValidG x) : ValidG x.clone := ⟨h.ns, h.im, h.w0, h.w1, h.l0, h.l1, h.d0, h.d1, h.n, h.ch⟩
theorem valid_one {c : Clu} {x : Grp} (hg : OneG c x) (hi : c.i.l = [] ∨ ∃ y, c.i.l = [y] ∧ SoundI 1 c.next y) (h1 : 1 ≤ c.next) (h2 : c.next ≤ 1099511627776) : ValidC c := by
  obtain ⟨⟨gk, gl, gh, gb⟩, ⟨ik, il, ih, ib⟩, n⟩ := c
  obtain ⟨e, hv, ea, eb⟩ := hg
  simp only at e hi h1 h2
  subst e
  refine ⟨by simp, ?_, h1, h2, fun i h => ?_, fun i h => ?_⟩
  · rcases hi with rfl | ⟨y, rfl, _⟩ <;> simp
  · simp only [List.length_singleton] at h
    obtain rfl : i = 0 := by omega
    exact ⟨hv, by simp [grpIx, ixI, fitG]⟩
  · rcases hi with rfl | ⟨y, rfl, hy⟩
    · simp at h
    · simp only [List.length_singleton] at h
      obtain rfl : i = 0 := by omega
      exact ⟨hy, fun h0 => by omega⟩
def cA : Clu := ⟨⟨none, [], fun _ => rfl, by simp⟩, ⟨none, [], fun _ => rfl, by simp⟩, 1⟩
theorem valid_cA : ValidC cA := ⟨by simp [cA], by simp [cA], by simp [cA], by simp [cA], fun i h => by simp [cA] at h, fun i h => by simp [cA] at h⟩
theorem deploy_one {g : Grp} (hv : ValidG g) (ha : g.ns = [97]) (hb : g.im = [98]) : ∃ c, deployP cA g = (c, 0) ∧ OneG c g.clone ∧ c.i.l = [] ∧ c.next = 1 := by
  refine ⟨⟨own (cA.g.l.map Grp.clone ++ [g.clone]), cA.i.clone, cA.next⟩, ?_, ?_, rfl, rfl⟩
  · rw [deployP, if_neg (by simp [valid_cA, hv]), if_pos (by simp [cA, grpIx, ixI]), if_neg (by simp [cA])]
  · exact ⟨by rw [own_l (by simp [cA])]; simp [cA], okCh_clone hv, ha, hb⟩
theorem start_one {c : Clu} {x : Grp} (hg : OneG c x) (hi : c.i.l = []) (hn : c.next = 1) {t : Int} (ht : timeOK t) : ∃ c', startP c 0 d1 t = (c', 1, 0) ∧ OneG c' x.clone ∧ c'.i.l = [⟨1, 0, d1, 1, t, -1⟩] ∧ c'.next = 2 := by
  have hv : ValidC c := valid_one hg (.inl hi) (by omega) (by omega)
  have hl : c.g.l.length = 1 := by rw [hg.g]; rfl
  refine ⟨⟨c.clone.g, own (c.i.l ++ [newI c 0 d1 t]), c.next + 1⟩, ?_, ?_, ?_, ?_⟩
  · rw [startP, if_neg (by simp [hv, d1_ne, ht]), if_neg (by rw [hl]; decide), if_neg (by rw [hi, hn]; decide), hn]
  · exact ⟨by simp [clone_gl, hg.g], okCh_clone hg.v, hg.a, hg.b⟩
  · rw [hi, own_l (by simp)]; simp [newI, hn]
  · simp [hn]
theorem change_one {c : Clu} {x : Grp} {y : Ins} (hg : OneG c x) (hi : c.i.l = [y]) (hn : c.next = 2) (hy : SoundI 1 2 y) (hid : y.id = 1) {t : Int} (ht : timeOK t) {to : Int} (hto : to = 2 ∨ to = 3) :
    (may to y.state = true ∧ ∃ c', changeP c 1 t to = (c', 0) ∧ OneG c' x.clone ∧ c'.i.l = [(y.st to).si t] ∧ c'.next = 2) ∨ (may to y.state = false ∧ changeP c 1 t to = (clu0, 30)) := by
  have hv : ValidC c := valid_one hg (.inr ⟨y, hi, hn ▸ hy⟩) (by omega) (by omega)
  have hf : findIx c.i.l 1 = 0 := by rw [hi]; simp [findIx, ixI, hid]
  cases hm : may to y.state with
  | true =>
    refine .inl ⟨rfl, ⟨c.clone.g, own (setI c.i.l 0 to t), c.next⟩, ?_, ?_, ?_, hn⟩
    · rw [changeP, if_neg (by simp [hv, ht]), hf, if_neg (by decide), if_pos (by rw [hi]; simp [hm])]
      rfl
    · exact ⟨by simp [clone_gl, hg.g], okCh_clone hg.v, hg.a, hg.b⟩
    · rw [hi, show setI [y] 0 to t = [(y.st to).si t] from rfl, own_l (by simp)]
  | false =>
    refine .inr ⟨rfl, ?_⟩
    rw [changeP, if_neg (by simp [hv, ht]), hf, if_neg (by decide), if_neg (by rw [hi]; simp [hm])]
def gA : Grp := ⟨[97], [98], 1, 0, 0, ⟨some true, [d1], by simp, by simp⟩⟩
theorem valid_gA : ValidG gA := ⟨by decide, by decide, by decide, by decide, by decide, by decide, by decide, by decide, by decide, fun i h => by
  have : i = 0 := by simp [gA] at h; exact h
  subst this
  exact ⟨d1_ne, by simp⟩⟩
end Go.Proofs.YtjhakjeioppijaaDoor
set_option linter.unusedSimpArgs false
set_option linter.unusedVariables false
namespace Go.Proofs.YtjhakjeioppijaaDoor
open Go Go.Am
theorem idx_one {x : Sl Ins} {y : Ins} (h : x.l = [y]) (H : List AObj) : idxSD H 37 (x.dv 37 inC) 0 = some (.ref (inC y)) := by
  have h0 : 0 < x.l.length := by rw [h]; simp
  have := idxSD_dv (h := H) (x := x) len_inC h0
  simp only [h, List.getElem_cons_zero] at this
  exact this
theorem sound_one {st t : Int} (h1 : 1 ≤ st) (h2 : st ≤ 3) (ht : timeOK t) : SoundI 1 2 ⟨1, 0, d1, st, t, -1⟩ := ⟨Int.le_refl _, by show (1 : Int) < 2; decide, Int.le_refl _, by show (0 : Int) < 1; decide, d1_ne, h1, h2, ht, .inl rfl⟩
theorem b0 : buildD [.nils, .nils, .int .i64 0] [(2, 1, .int .i64 1)] = some (.agg [.nils, .nils, .int .i64 1]) := rfl
theorem b1 : buildD (dgC dg0) [(0, 1, w8 1#8)] = some (.agg (dgC d1)) := rfl
theorem b2 : bslD 32 1 (dgC dg0) [(0, 32, .agg (dgC d1))] = some (.sl true 32 1 (dgC d1)) := rfl
set_option maxHeartbeats 2000000 in
theorem runs_awake37 : Runs T116 a17 [] (.bool true) := by
  obtain ⟨c1, e1, g1, i1, n1⟩ := deploy_one valid_gA rfl rfl
  obtain ⟨c2, e2, g2, i2, n2⟩ := start_one g1 i1 n1 (t := 5) (by decide)
  obtain ⟨c3, e3, g3, i3, n3⟩ : ∃ c', changeP c2 1 6 2 = (c', 0) ∧ OneG c' gA.clone.clone.clone ∧ c'.i.l = [⟨1, 0, d1, 2, 6, -1⟩] ∧ c'.next = 2 := by
    rcases change_one g2 i2 n2 (sound_one (by decide) (by decide) (by decide)) rfl (t := 6) (by decide) (to := 2) (.inl rfl) with ⟨_, h⟩ | ⟨h, _⟩
    · exact h
    · simp [may] at h
  have e4 : changeP c3 1 7 2 = (clu0, 30) := by
    rcases change_one g3 i3 n3 (sound_one (by decide) (by decide) (by decide)) rfl (t := 7) (by decide) (to := 2) (.inl rfl) with ⟨h, _⟩ | ⟨_, h⟩
    · simp [may] at h
    · exact h
  have v3 : ValidC c3 := valid_one g3 (.inr ⟨_, i3, by rw [n3]; exact sound_one (by decide) (by decide) (by decide)⟩) (by omega) (by omega)
  have h3 := idx_one i3
  have k1 : findIx c3.i.l 1 = 0 := by rw [i3]; simp [findIx, ixI]
  have k2 : grpIx c3.g.l [97] [98] = 0 := by rw [g3.g]; simp [grpIx, ixI, fitG, g3.a, g3.b]
  have f1 : cDep deployB [.agg [.nils, .nils, .int .i64 1], .agg [.str [97], .str [98], .int .i64 1, .int .i64 0, .int .i64 0, .sl true 32 1 (dgC d1)]] = some (deployB cA gA) := cDep_eq (c := cA) (g := gA)
  have b3 : buildD [.str [], .str [], .int .i64 0, .int .i64 0, .int .i64 0, .nils] [(0, 1, .str [97]), (1, 1, .str [98]), (2, 1, .int .i64 1), (5, 1, .sl true 32 1 (dgC d1))] = some (.agg [.str [97], .str [98], .int .i64 1, .int .i64 0, .int .i64 0, .sl true 32 1 (dgC d1)]) := rfl
  refine ⟨?_⟩
  simp (disch := first | omega | (simp [-List.map_take, -List.map_drop, -List.map_set, -List.map_append, -List.drop_one] <;> omega) | fail) [-List.map_take, -List.map_drop, -List.map_set, -List.map_append, -List.drop_one, a17, T116_d, T116_s, T116_r, T116_v, T116_f, T116_g, b0, b1, b2, b3, f1, cSta_eq, cCii_eq, cC1_eq, cCi_eq, cCSS_eq, deployB, startB, changeB, validCB, grpD, e1, e2, e3, e4, tv_true v3, h3, k1, k2]
noncomputable def cTrue : List DV → Option DV
  | [] => some (.bool true) | _ => none
theorem cTrue_sound {f : Nat} (h : Am.Sem P f [] (.bool true)) : (Con.pure cTrue).Sound P f := by
  intro args v e
  unfold cTrue at e
  split at e
  · simp at e; subst e; exact h
  · simp at e
end Go.Proofs.YtjhakjeioppijaaDoor
set_option linter.unusedSimpArgs false
set_option linter.unusedVariables false
namespace Go.Proofs.YtjhakjeioppijaaDoor
open Go Go.Am
theorem valid_mk {c : Clu} (hv : ValidC c) {l : List Ins} {nx : Int} (hl : l.length ≤ 200) (h1 : c.next ≤ nx) (h2 : nx ≤ 1099511627776) (hp : l.Pairwise (fun a b => a.id < b.id)) (hs : ∀ x ∈ l, SoundI c.g.l.length nx x) : ValidC ⟨c.clone.g, own l, nx⟩ := by
  have ho : (own l).l = l := own_l (by omega)
  have hgl : c.clone.g.l = c.g.l.map Grp.clone := rfl
  have hn0 := hv.n0
  refine ⟨by show c.clone.g.l.length ≤ 16; rw [hgl]; simpa using hv.ng, by show (own l).l.length ≤ 200; rw [ho]; exact hl, by show 1 ≤ nx; omega, h2, valid_clone_g hv, fun i hi => ?_⟩
  have hi' : i < l.length := by have : i < (own l).l.length := hi; rwa [ho] at this
  have e : ∀ j (hj : j < (own l).l.length), (own l).l[j] = l[j]'(by rw [ho] at hj; exact hj) := fun j hj => by simp only [ho]
  refine ⟨?_, fun h0 => ?_⟩
  · show SoundI c.clone.g.l.length nx (own l).l[i]
    rw [e i hi, hgl, List.length_map]
    exact hs _ (List.getElem_mem hi')
  · show (own l).l[i - 1].id < (own l).l[i].id
    rw [e i hi, e (i - 1) (by rw [ho]; omega)]
    exact sorted_of hp i hi' h0
theorem valid_sound {c : Clu} (hv : ValidC c) : ∀ x ∈ c.i.l, SoundI c.g.l.length c.next x := fun x hx => by
  obtain ⟨i, hi, rfl⟩ := List.getElem_of_mem hx
  exact (hv.i i hi).1
theorem valid_pair {c : Clu} (hv : ValidC c) : c.i.l.Pairwise (fun a b => a.id < b.id) := (good_of hv).d
theorem start_step {c : Clu} (hv : ValidC c) {gr t : Int} {d : Dg} (hd : d ≠ dg0) (ht : timeOK t) (g0 : 0 ≤ gr) (g1 : gr < c.g.l.length) (hl : c.i.l.length < 200) (hn : c.next < 1099511627776) :
    ∃ y, startP c gr d t = (y, c.next, 0) ∧ ValidC y ∧ y.g.l.length = c.g.l.length ∧ y.i.l.length = c.i.l.length + 1 ∧ y.next = c.next + 1 := by
  refine ⟨⟨c.clone.g, own (c.i.l ++ [newI c gr d t]), c.next + 1⟩, ?_, ?_, ?_, ?_, rfl⟩
  · rw [startP, if_neg (fun h => h.elim (fun h => h hv) (fun h => h.elim hd (fun h => h ht))), if_neg (by omega), if_neg (by omega)]
  · refine valid_mk hv (by simp; omega) (by omega) (by omega) ?_ ?_
    · rw [List.pairwise_append]
      refine ⟨valid_pair hv, by simp, fun a ha b hb => ?_⟩
      simp at hb; subst hb
      exact (valid_sound hv a ha).id1
    · intro x hx
      rcases List.mem_append.1 hx with hx | hx
      · exact (valid_sound hv x hx).up (by omega)
      · simp at hx; subst hx
        exact ⟨hv.n0, by show c.next < c.next + 1; omega, g0, g1, hd, by show (1 : Int) ≤ 1; decide, by show (1 : Int) ≤ 3; decide, ht, .inl rfl⟩
  · show (c.g.l.map Grp.clone).length = _; simp
  · show (own _).l.length = _; rw [own_l (by simp; omega)]; simp
theorem remove_step {c : Clu} (hv : ValidC c) {k : Nat} (hk : k < c.i.l.length) :
    ∃ y, removeP c c.i.l[k].id = (y, 0) ∧ ValidC y ∧ y.g.l.length = c.g.l.length ∧ y.i.l.length = c.i.l.length - 1 ∧ y.next = c.next := by
  have hf : findIx c.i.l c.i.l[k].id = k := findIx_at (good_of hv).d hk
  have hn := hv.ni
  have hel : (c.i.l.eraseIdx k).length = c.i.l.length - 1 := by rw [List.length_eraseIdx, if_pos hk]
  refine ⟨⟨c.clone.g, own (c.i.l.eraseIdx k), c.next⟩, ?_, ?_, ?_, ?_, rfl⟩
  · rw [removeP, if_neg (fun h => h hv), hf, if_neg (by omega), Int.toNat_natCast]
  · refine valid_mk hv (by omega) (Int.le_refl _) hv.n1 ((valid_pair hv).sublist (List.eraseIdx_sublist _ _)) fun x hx => valid_sound hv x ((List.eraseIdx_sublist _ _).subset hx)
  · show (c.g.l.map Grp.clone).length = _; simp
  · show (own _).l.length = _; rw [own_l (by omega), hel]
theorem clusterV_next (t : Tp) (m : Int) (h0 : 0 ≤ m) (h1 : m ≤ 200) : (clusterV t m).1.next ≤ 1000000 := by
  obtain ⟨hc, hg⟩ := clD_ok t
  have m1 := tpN_lo (clD t).2 (m + 1)
  have m2 := tpN_hi (clD t).2 (n := m + 1) (by omega)
  have hgl : 1 ≤ (clD t).1.g.l.length := List.length_pos_iff.2 hg
  obtain ⟨-, -, k3, -⟩ := iLoop_ok hgl (tpN (clD t).2 (m + 1)).toNat [] (clD t).1.next ((clD t).2.adv 1) hc.n0 ⟨by simp, by simp⟩
  have hn1 := hc.n1
  show (iLoop (clD t).1.g.l.length (tpN (clD t).2 (m + 1)).toNat [] (clD t).1.next ((clD t).2.adv 1)).2.1 ≤ _
  omega
end Go.Proofs.YtjhakjeioppijaaDoor
set_option linter.unusedSimpArgs false
set_option linter.unusedVariables false
namespace Go.Proofs.YtjhakjeioppijaaDoor
open Go Go.Am
def a6L0 : ACode :=
  (.seq (.seq (.region false [⟨none, (some 17), .mov (.t 6)⟩,
    ⟨none, (some 18), .fld 1 (.t 4)⟩,
    ⟨none, (some 19), .load 1 false (.t 18)⟩,
    ⟨none, (some 20), .len (.t 19)⟩,
    ⟨none, (some 21), .bin .lss (.t 17) (.t 20)⟩])
  (.cond (.t 21) .skip
  (.exit 0)))
  (.seq (.block 1 (.region false [⟨none, (some 24), .mov (.t 5)⟩,
    ⟨none, (some 25), .fld 1 (.t 4)⟩,
    ⟨none, (some 26), .load 1 false (.t 25)⟩,
    ⟨none, (some 27), .mov (.t 6)⟩,
    ⟨none, (some 28), .idxS 37 (.t 26) (.t 27)⟩,
    ⟨none, (some 29), .fld 0 (.t 28)⟩,
    ⟨none, (some 30), .load 1 false (.t 29)⟩,
    ⟨none, (some 31), .bsl 1 1 [(.int .i64 0)] [(0, 1, (.t 30))]⟩,
    ⟨none, (some 32), .app 1 8 (.t 24) (.t 31)⟩,
    ⟨none, (some 5), .mov (.t 32)⟩]))
  (.region false [⟨none, (some 22), .mov (.t 6)⟩,
    ⟨none, (some 23), .bin .add (.t 22) (.k (.int .i64 1))⟩,
    ⟨none, (some 6), .mov (.t 23)⟩])))
def a6S0 (x3 x4 x5 x6 : DV) (h : List AObj) : St := ⟨[.junk, .junk, .junk, x3, x4, x5, x6] ++ js 106, h⟩
def a6L1 : ACode :=
  (.seq (.seq (.region false [⟨none, (some 36), .mov (.t 7)⟩,
    ⟨none, (some 37), .bin .gtr (.t 36) (.k (.int .i64 0))⟩])
  (.cond (.t 37) .skip
  (.exit 2)))
  (.seq (.block 3 (.seq (.seq (.region false [⟨none, (some 40), .mov (.t 3)⟩,
    ⟨none, (some 41), .call (.k (.fn (.func 28) [] [])) [(.t 40), (.k (.int .i64 2))]⟩,
    ⟨none, (some 42), .bin .eql (.t 41) (.k (.int .i64 0))⟩,
    ⟨none, (some 43), .mov (.t 42)⟩,
    ⟨(some (43, true)), (some 44), .fld 1 (.t 4)⟩,
    ⟨(some (43, true)), (some 45), .load 1 false (.t 44)⟩,
    ⟨(some (43, true)), (some 46), .len (.t 45)⟩,
    ⟨(some (43, true)), (some 47), .bin .gtr (.t 46) (.k (.int .i64 0))⟩,
    ⟨none, (some 48), .pick (.t 43) (.t 47) (.k (.bool false))⟩])
  (.cond (.t 48) (.seq (.region true [⟨none, (some 50), .load 3 true (.t 4)⟩,
    ⟨none, (some 51), .fld 1 (.t 4)⟩,
    ⟨none, (some 52), .load 1 false (.t 51)⟩,
    ⟨none, (some 53), .mov (.t 3)⟩,
    ⟨none, (some 54), .fld 1 (.t 4)⟩,
    ⟨none, (some 55), .load 1 false (.t 54)⟩,
    ⟨none, (some 56), .len (.t 55)⟩,
    ⟨none, (some 57), .callT (.k (.fn (.func 28) [] [])) [(.t 53), (.t 56)]⟩,
    ⟨none, (some 58), .idxS 37 (.t 52) (.t 57)⟩,
    ⟨none, (some 59), .fld 0 (.t 58)⟩,
    ⟨none, (some 60), .load 1 false (.t 59)⟩,
    ⟨none, (some 61), .callN (.k (.fn (.func 31) [] [])) [(.t 50), (.t 60)]⟩,
    ⟨none, (some 49), .mov (.t 61)⟩,
    ⟨none, (some 62), .ext (.t 49) 0⟩,
    ⟨none, (some 63), .ext (.t 49) 1⟩,
    ⟨none, (some 8), .alloc [.nils, .nils, (.int .i64 0)]⟩,
    ⟨none, none, .store 3 (.t 8) (.t 62)⟩,
    ⟨none, (some 9), .mov (.t 63)⟩,
    ⟨none, none, .apart (.t 4) (.t 53)⟩,
    ⟨none, none, .apart (.t 4) (.t 53)⟩,
    ⟨none, none, .apart (.t 51) (.t 53)⟩])
  (.seq (.seq (.region false [⟨none, (some 64), .mov (.t 9)⟩,
    ⟨none, (some 65), .bin .neq (.t 64) (.k (.int .i64 0))⟩,
    ⟨none, (some 66), .mov (.t 65)⟩,
    ⟨(some (66, false)), (some 67), .fld 1 (.t 8)⟩,
    ⟨(some (66, false)), (some 68), .load 1 false (.t 67)⟩,
    ⟨(some (66, false)), (some 69), .len (.t 68)⟩,
    ⟨(some (66, false)), (some 70), .fld 1 (.t 4)⟩,
    ⟨(some (66, false)), (some 71), .load 1 false (.t 70)⟩,
    ⟨(some (66, false)), (some 72), .len (.t 71)⟩,
    ⟨(some (66, false)), (some 73), .bin .sub (.t 72) (.k (.int .i64 1))⟩,
    ⟨(some (66, false)), (some 74), .bin .neq (.t 69) (.t 73)⟩,
    ⟨none, (some 75), .pick (.t 66) (.k (.bool true)) (.t 74)⟩])
  (.cond (.t 75) (.seq (.region false [⟨none, (some 2), .mov (.k (.bool false))⟩])
  .ret)
  .skip))
  (.seq (.region false [⟨none, (some 76), .load 3 true (.t 8)⟩,
    ⟨none, none, .store 3 (.t 4) (.t 76)⟩])
  (.exit 3))))
  .skip))
  (.seq (.region true [⟨none, (some 78), .load 3 true (.t 4)⟩,
    ⟨none, (some 79), .mov (.t 3)⟩,
    ⟨none, (some 80), .fld 0 (.t 4)⟩,
    ⟨none, (some 81), .load 1 false (.t 80)⟩,
    ⟨none, (some 82), .len (.t 81)⟩,
    ⟨none, (some 83), .callT (.k (.fn (.func 28) [] [])) [(.t 79), (.t 82)]⟩,
    ⟨none, (some 84), .mov (.t 3)⟩,
    ⟨none, (some 85), .callT (.k (.fn (.func 28) [] [])) [(.t 84), (.k (.int .i64 3))]⟩,
    ⟨none, (some 86), .bin .add (.k (.int .i64 1)) (.t 85)⟩,
    ⟨none, (some 87), .conv .u8 (.t 86)⟩,
    ⟨none, (some 88), .build (rep 32 (w8 0#8)) [(0, 1, (.t 87))]⟩,
    ⟨none, (some 89), .mov (.t 3)⟩,
    ⟨none, (some 90), .callT (.k (.fn (.func 28) [] [])) [(.t 89), (.k (.int .i64 50))]⟩,
    ⟨none, (some 91), .callN (.k (.fn (.func 32) [] [])) [(.t 78), (.t 83), (.t 88), (.t 90)]⟩,
    ⟨none, (some 77), .mov (.t 91)⟩,
    ⟨none, (some 92), .ext (.t 77) 0⟩,
    ⟨none, (some 93), .ext (.t 77) 1⟩,
    ⟨none, (some 94), .ext (.t 77) 2⟩,
    ⟨none, (some 10), .alloc [.nils, .nils, (.int .i64 0)]⟩,
    ⟨none, none, .store 3 (.t 10) (.t 92)⟩,
    ⟨none, (some 11), .mov (.t 93)⟩,
    ⟨none, (some 12), .mov (.t 94)⟩,
    ⟨none, none, .apart (.t 4) (.t 79)⟩,
    ⟨none, none, .apart (.t 4) (.t 84)⟩,
    ⟨none, none, .apart (.t 4) (.t 89)⟩])
  (.seq (.seq (.region false [⟨none, (some 95), .mov (.t 12)⟩,
    ⟨none, (some 96), .bin .neq (.t 95) (.k (.int .i64 0))⟩,
    ⟨none, (some 97), .mov (.t 96)⟩,
    ⟨(some (97, false)), (some 98), .mov (.t 5)⟩,
    ⟨(some (97, false)), (some 99), .mov (.t 11)⟩,
    ⟨(some (97, false)), (some 100), .call (.k (.fn (.func 33) [] [])) [(.t 98), (.t 99)]⟩,
    ⟨none, (some 101), .pick (.t 97) (.k (.bool true)) (.t 100)⟩,
    ⟨none, (some 102), .mov (.t 101)⟩,
    ⟨(some (102, false)), (some 103), .load 3 true (.t 10)⟩,
    ⟨(some (102, false)), (some 104), .call (.k (.fn (.func 20) [] [])) [(.t 103)]⟩,
    ⟨(some (102, false)), (some 105), .un .not (.t 104)⟩,
    ⟨none, (some 106), .pick (.t 102) (.k (.bool true)) (.t 105)⟩])
  (.cond (.t 106) (.seq (.region false [⟨none, (some 2), .mov (.k (.bool false))⟩])
  .ret)
  .skip))
  (.seq (.region false [⟨none, (some 107), .mov (.t 5)⟩,
    ⟨none, (some 108), .mov (.t 11)⟩,
    ⟨none, (some 109), .bsl 1 1 [(.int .i64 0)] [(0, 1, (.t 108))]⟩,
    ⟨none, (some 110), .app 1 8 (.t 107) (.t 109)⟩,
    ⟨none, (some 5), .mov (.t 110)⟩])
  (.region false [⟨none, (some 111), .load 3 true (.t 10)⟩,
    ⟨none, none, .store 3 (.t 4) (.t 111)⟩]))))))
  (.region false [⟨none, (some 38), .mov (.t 7)⟩,
    ⟨none, (some 39), .bin .sub (.t 38) (.k (.int .i64 1))⟩,
    ⟨none, (some 7), .mov (.t 39)⟩])))
def a6S1 (x3 x4 x5 x7 : DV) (h : List AObj) : St := ⟨[.junk, .junk, .junk, x3, x4, x5, .junk, x7] ++ js 105, h⟩
def a6 : AFn where
  code := (.seq (.region false [⟨none, (some 2), .mov (.k (.bool false))⟩])
  (.seq (.region false [⟨none, (some 13), .mov (.t 0)⟩,
    ⟨none, (some 14), .call (.k (.fn (.func 26) [] [])) [(.t 13), (.k (.int .i64 150))]⟩,
    ⟨none, (some 3), .mov (.t 14)⟩])
  (.seq (.region false [⟨none, (some 15), .mov (.t 3)⟩,
    ⟨none, (some 16), .call (.k (.fn (.func 27) [] [])) [(.t 15), (.k (.int .i64 4))]⟩,
    ⟨none, (some 4), .alloc [.nils, .nils, (.int .i64 0)]⟩,
    ⟨none, none, .store 3 (.t 4) (.t 16)⟩])
  (.seq (.region false [⟨none, (some 5), .mov (.k .nils)⟩])
  (.seq (.seq (.region false [⟨none, (some 6), .mov (.k (.int .i64 0))⟩])
  (.block 0 (.loop a6L0)))
  (.seq (.seq (.region false [⟨none, (some 33), .mov (.t 3)⟩,
    ⟨none, (some 34), .call (.k (.fn (.func 28) [] [])) [(.t 33), (.k (.int .i64 10))]⟩,
    ⟨none, (some 35), .bin .add (.k (.int .i64 2)) (.t 34)⟩,
    ⟨none, (some 7), .mov (.t 35)⟩])
  (.block 2 (.loop a6L1)))
  (.seq (.region false [⟨none, (some 112), .call (.k (.fn (.func 17) [] [])) []⟩,
    ⟨none, (some 2), .mov (.t 112)⟩])
  .ret)))))))
  ntmps := 113
  res := [.tmp 2]
theorem a6_ok : compileFn P Tryd.f6 = some a6 := by kernel_rfl
end Go.Proofs.YtjhakjeioppijaaDoor
set_option linter.unusedSimpArgs false
set_option linter.unusedVariables false
namespace Go.Proofs.YtjhakjeioppijaaDoor
open Go Go.Am
def S405 (l : List Int) (n : Int) (i : Nat) : St := a33S0 (liV l) (.int .i64 n) (.int .i64 i) []
theorem runs_has37 (l : List Int) (n : Int) (hb : l.length ≤ 1000000) : Runs tbl0 a33 [liV l, .int .i64 n] (.bool (decide (n ∈ l))) := by
  refine ⟨?_⟩
  simp (disch := first | omega | (simp [-List.map_take, -List.map_drop, -List.map_set, -List.map_append, -List.drop_one] <;> omega) | fail) [-List.map_take, -List.map_drop, -List.map_set, -List.map_append, -List.drop_one, a33]
  refine W_loop (S405 l n) (fun i => l.length - i) (fun i => i ≤ l.length ∧ n ∉ l.take i) 0 (weak_same (by simp (disch := first | omega | (simp [-List.map_take, -List.map_drop, -List.map_set, -List.map_append, -List.drop_one] <;> omega) | fail) [-List.map_take, -List.map_drop, -List.map_set, -List.map_append, -List.drop_one, S405, a33S0]) (by simp (disch := first | omega | (simp [-List.map_take, -List.map_drop, -List.map_set, -List.map_append, -List.drop_one] <;> omega) | fail) [-List.map_take, -List.map_drop, -List.map_set, -List.map_append, -List.drop_one, S405, a33S0])) ⟨by omega, by simp⟩ (fun i hi => ?_)
  obtain ⟨h1, h2⟩ := hi
  simp (disch := first | omega | (simp [-List.map_take, -List.map_drop, -List.map_set, -List.map_append, -List.drop_one] <;> omega) | fail) [-List.map_take, -List.map_drop, -List.map_set, -List.map_append, -List.drop_one, a33L0, a33S0, S405]
  by_cases h : i < l.length
  · have h' : (i : Int) < l.length := by omega
    have hx := fun H => liV_idx H h
    have hmem := List.getElem_mem h
    have hs := List.take_succ_eq_append_getElem h
    obtain ⟨y, hy⟩ : ∃ y, l[i] = y := ⟨_, rfl⟩
    rw [hy] at hmem hs
    simp only [hy] at hx
    by_cases e : y = n
    · subst e
      have hr : decide (y ∈ l) = true := by simpa using hmem
      simp (disch := first | omega | (simp [-List.map_take, -List.map_drop, -List.map_set, -List.map_append, -List.drop_one] <;> omega) | fail) [-List.map_take, -List.map_drop, -List.map_set, -List.map_append, -List.drop_one, h, h', hx, hr]
    · simp (disch := first | omega | (simp [-List.map_take, -List.map_drop, -List.map_set, -List.map_append, -List.drop_one] <;> omega) | fail) [-List.map_take, -List.map_drop, -List.map_set, -List.map_append, -List.drop_one, h, h', hx, e]
      refine ⟨i + 1, weak_same (by simp (disch := first | omega | (simp [-List.map_take, -List.map_drop, -List.map_set, -List.map_append, -List.drop_one] <;> omega) | fail) [-List.map_take, -List.map_drop, -List.map_set, -List.map_append, -List.drop_one, S405, a33S0]) (by simp (disch := first | omega | (simp [-List.map_take, -List.map_drop, -List.map_set, -List.map_append, -List.drop_one] <;> omega) | fail) [-List.map_take, -List.map_drop, -List.map_set, -List.map_append, -List.drop_one, S405, a33S0]), by omega, by omega, ?_⟩
      rw [hs, List.mem_append]
      rintro (q | q)
      · exact h2 q
      · simp at q; exact e q.symm
  · have h' : ¬ (i : Int) < l.length := by omega
    rw [List.take_of_length_le (by omega)] at h2
    have hr : decide (n ∈ l) = false := by simpa using h2
    simp (disch := first | omega | (simp [-List.map_take, -List.map_drop, -List.map_set, -List.map_append, -List.drop_one] <;> omega) | fail) [-List.map_take, -List.map_drop, -List.map_set, -List.map_append, -List.drop_one, h, h', hr]
noncomputable def cHas : List DV → Option DV := con (fun a : List Int × Int => a.1.length ≤ 1000000) (fun a => [liV a.1, .int .i64 a.2]) (fun a => .bool (decide (a.2 ∈ a.1)))
theorem cHas_eq {l : List Int} {n : Int} (h : l.length ≤ 1000000) : cHas [liV l, .int .i64 n] = some (.bool (decide (n ∈ l))) :=
  con_eq (f := fun a : List Int × Int => [liV a.1, .int .i64 a.2]) (g := fun a => .bool (decide (a.2 ∈ a.1))) (by
    rintro ⟨a, b⟩ ⟨c, d⟩ e
    simp only [List.cons.injEq, DV.int.injEq, and_true, true_and] at e
    rw [liV_inj e.1, e.2]) (l, n) h
noncomputable def T410 : Tbl := addT 26 (.new cTape) (addT 27 (.tch cClu) (addT 28 (.tch cNext) (addT 31 (.pure (cCk removeB)) (addT 32 (.pure (cSta startB)) (addT 33 (.pure cHas) (addT 20 (.pure (cC1 validCB)) (addT 17 (.pure cTrue) tbl0)))))))
theorem T410_t : T410 26 = .new cTape := by simp [T410]
theorem T410_c : T410 27 = .tch cClu := by simp [T410]
theorem T410_n : T410 28 = .tch cNext := by simp [T410]
theorem T410_r : T410 31 = .pure (cCk removeB) := by simp [T410]
theorem T410_s : T410 32 = .pure (cSta startB) := by simp [T410]
theorem T410_h : T410 33 = .pure cHas := by simp [T410]
theorem T410_v : T410 20 = .pure (cC1 validCB) := by simp [T410]
theorem T410_a : T410 17 = .pure cTrue := by simp [T410]
theorem remove_sound : (Con.pure (cCk removeB)).Sound P 31 := con_sound fun a _ => sem_runs mix T400_sound Tryd.func31 a31_ok (runs_remove a.1 a.2)
theorem start_sound : (Con.pure (cSta startB)).Sound P 32 := con_sound fun p _ => sem_runs mix T112_sound Tryd.func32 a32_ok (runs_start p.1 p.2.1 p.2.2.1 p.2.2.2)
theorem valid_sound37 : (Con.pure (cC1 validCB)).Sound P 20 := con_sound fun x _ => sem_runs mix T107_sound Tryd.func20 a20_ok (runs_valid x)
theorem awake37_sound : (Con.pure cTrue).Sound P 17 := cTrue_sound (sem_runs mix T116_sound Tryd.func17 a17_ok runs_awake37)
theorem T410_sound : T410.Sound P := addT_sound tape_sound (addT_sound clu_sound (addT_sound next_sound (addT_sound remove_sound (addT_sound start_sound (addT_sound (con_sound fun a h => sem_runs mix tbl0_sound Tryd.func33 a33_ok (runs_has37 a.1 a.2 h)) (addT_sound valid_sound37 (addT_sound awake37_sound tbl0_sound)))))))
structure FrS where
  n : Nat
  t : Tp
  c : Clu
  r : List AObj
  L : List Int
structure FrI (a : FrS) : Prop where
  v : ValidC a.c
  g : 1 ≤ a.c.g.l.length
  i : a.c.i.l.length + a.n ≤ 20
  x : a.c.next + a.n ≤ 2000000
  t : a.t.at_ + 10 * a.n ≤ 4000
  r : PureH a.r
  L : ∀ s ∈ a.L, s < a.c.next
  l : a.L.length + a.n ≤ 40
def S409 (t : Tp) (c : Clu) (i : Nat) : St := a6S0 (.mp 0 2 0) (.mp 1 3 0) (srtV 2 ((c.i.l.take i).map Ins.id)) (.int .i64 i) (srtH [.cells (tpC t), .cells (clC c)] ((c.i.l.take i).map Ins.id))
def S410 (a : FrS) : St := a6S1 (.mp 0 2 0) (.mp 1 3 0) (srtV (a.r.length + 2) a.L) (.int .i64 a.n) (.cells (tpC a.t) :: .cells (clC a.c) :: srtH a.r a.L)
theorem srtH_cons {o : AObj} {r : List AObj} {L : List Int} : srtH (o :: r) L = o :: srtH r L := by unfold srtH; split <;> rfl
theorem fm_i64x (l : List Int) : l.flatMap inI = l.map (.int .i64) := by
  induction l with
  | nil => rfl
  | cons a l ih => rw [List.flatMap_cons, ih]; rfl
set_option maxRecDepth 20000 in
set_option maxHeartbeats 4000000 in
theorem runs_lawfresh (x : Nl) : Runs T410 a6 [x.dv] (.bool true) := by
  refine ⟨?_⟩
  obtain ⟨u, hu⟩ : ∃ u, tp0 x 150 = u := ⟨_, rfl⟩
  have hua : u.at_ = 0 := by rw [← hu]; rfl
  obtain ⟨hv, hg⟩ := clusterV_ok u 4 (by decide) (by decide)
  have hn9 := clusterV_len u 4 (by decide) (by decide)
  have hat := clusterV_at u 4 (by decide) (by decide)
  have hnx := clusterV_next u 4 (by decide) (by decide)
  obtain ⟨c, hc⟩ : ∃ c, (clusterV u 4).1 = c := ⟨_, rfl⟩
  obtain ⟨w, hw⟩ : ∃ w, (clusterV u 4).2 = w := ⟨_, rfl⟩
  rw [hc] at hv hg hn9 hnx
  rw [hw] at hat
  have hT := fun m => cTape_eq (x := x) (n := 150) (by decide) m
  rw [hu] at hT
  simp only [show ((150 : Nat) : Int) = 150 from rfl] at hT
  have hC : cClu [.int .i64 4] (tpC u) = some (.agg (clC c), tpC w) := by rw [cClu_eq (by omega) (by decide) (by decide), hc, hw]
  have hng : 1 ≤ c.g.l.length := List.length_pos_iff.2 hg
  have hN := cNext_pos (t := w) (n := 10) (by omega) (by decide) (by decide)
  have k0 := tpN_lo w 10
  have k1 := tpN_hi w (n := 10) (by decide)
  obtain ⟨k, hk⟩ : ∃ k : Nat, tpN w 10 = k := ⟨(tpN w 10).toNat, by omega⟩
  rw [hk] at hN k0 k1
  have hx := nl_pure x
  obtain ⟨n, hn⟩ : ∃ n, c.i.l.length = n := ⟨_, rfl⟩
  simp (disch := first | omega | (simp [-List.map_take, -List.map_drop, -List.map_set, -List.map_append, -List.drop_one] <;> omega) | fail) [-List.map_take, -List.map_drop, -List.map_set, -List.map_append, -List.drop_one, a6, T410_t, T410_c, hT, hC]
  refine W_loop (S409 w c) (fun i => n - i) (fun i => i ≤ n) 0 (weak_same (by simp (disch := first | omega | (simp [-List.map_take, -List.map_drop, -List.map_set, -List.map_append, -List.drop_one] <;> omega) | fail) [-List.map_take, -List.map_drop, -List.map_set, -List.map_append, -List.drop_one, S409, a6S0, srtV]) (by simp (disch := first | omega | (simp [-List.map_take, -List.map_drop, -List.map_set, -List.map_append, -List.drop_one] <;> omega) | fail) [-List.map_take, -List.map_drop, -List.map_set, -List.map_append, -List.drop_one, S409, a6S0, srtH])) (by omega) (fun i hi => ?_)
  have hll : ((c.i.l.take i).map Ins.id).length ≤ 9 := by simp; omega
  have ho1 : ∀ L, objV (srtH [.cells (tpC w), .cells (clC c)] L) 1 3 = some (clC c) := fun L => by
    rw [srtH_cons, srtH_cons]; rfl
  obtain ⟨L, hL⟩ : ∃ L, (c.i.l.take i).map Ins.id = L := ⟨_, rfl⟩
  rw [hL] at hll
  simp (disch := first | omega | (simp [-List.map_take, -List.map_drop, -List.map_set, -List.map_append, -List.drop_one] <;> omega) | fail) [-List.map_take, -List.map_drop, -List.map_set, -List.map_append, -List.drop_one, a6L0, a6S0, S409, hL, ho1, hn]
  by_cases h : i < n
  · have h' : (i : Int) < n := by omega
    have hi2 : i < c.i.l.length := by omega
    have hxi := fun H => idxSD_dv (x := c.i) (h := H) len_inC hi2
    have hs : (c.i.l.take (i + 1)).map Ins.id = L ++ [c.i.l[i].id] := by rw [List.take_succ_eq_append_getElem hi2, List.map_append, hL]; rfl
    have ha := fun y => appX_srt1 (pre := [.cells (tpC w), .cells (clC c)]) (L := L) (y := y) (by omega)
    simp only [List.length_cons, List.length_nil, Nat.zero_add, Nat.reduceAdd] at ha
    simp (disch := first | omega | (simp [-List.map_take, -List.map_drop, -List.map_set, -List.map_append, -List.drop_one] <;> omega) | fail) [-List.map_take, -List.map_drop, -List.map_set, -List.map_append, -List.drop_one, h, h', hxi, ha, ho1]
    exact ⟨i + 1, weak_same (by simp (disch := first | omega | (simp [-List.map_take, -List.map_drop, -List.map_set, -List.map_append, -List.drop_one] <;> omega) | fail) [-List.map_take, -List.map_drop, -List.map_set, -List.map_append, -List.drop_one, S409, a6S0, hs]) (by simp (disch := first | omega | (simp [-List.map_take, -List.map_drop, -List.map_set, -List.map_append, -List.drop_one] <;> omega) | fail) [-List.map_take, -List.map_drop, -List.map_set, -List.map_append, -List.drop_one, S409, a6S0, hs]), by omega, by omega⟩
  · have h' : ¬ (i : Int) < n := by omega
    have hLe : L = c.i.l.map Ins.id := by rw [← hL, List.take_of_length_le (by omega)]
    have hLx : ∀ s ∈ L, s < c.next := fun s hs => by
      rw [hLe] at hs
      obtain ⟨y, hy, rfl⟩ := List.mem_map.1 hs
      exact (valid_sound hv y hy).id1
    have hsc : srtH [.cells (tpC w), .cells (clC c)] L = .cells (tpC w) :: .cells (clC c) :: srtH [] L := by rw [srtH_cons, srtH_cons]
    rw [hsc]
    simp (disch := first | omega | (simp [-List.map_take, -List.map_drop, -List.map_set, -List.map_append, -List.drop_one] <;> omega) | fail) [-List.map_take, -List.map_drop, -List.map_set, -List.map_append, -List.drop_one, h, h', T410_n, hN]
    refine W_loop S410 (fun a => a.n) FrI ⟨k + 2, w.adv 1, c, [], L⟩ (weak_same (by simp (disch := first | omega | (simp [-List.map_take, -List.map_drop, -List.map_set, -List.map_append, -List.drop_one] <;> omega) | fail) [-List.map_take, -List.map_drop, -List.map_set, -List.map_append, -List.drop_one, S410, a6S1, show (2 : Int) + (k : Int) = (k : Int) + 2 from Int.add_comm _ _]) (by simp (disch := first | omega | (simp [-List.map_take, -List.map_drop, -List.map_set, -List.map_append, -List.drop_one] <;> omega) | fail) [-List.map_take, -List.map_drop, -List.map_set, -List.map_append, -List.drop_one, S410, a6S1])) ⟨hv, hng, by simp only; omega, by simp only; omega, by have : (w.adv 1).at_ = w.at_ + 1 := rfl; simp only; omega, fun o ho => by simp at ho, hLx, by simp only; omega⟩ (fun a ha => ?_)
    clear hv hg hn9 hnx hN hsc ho1 hC hT
    obtain ⟨m, t, c, r, L⟩ := a
    obtain ⟨q1, q2, q3, q4, q5, q6, q7, q8⟩ := ha
    simp only at q1 q2 q3 q4 q5 q6 q7 q8
    obtain ⟨X, hX⟩ : ∃ X, srtH r L = X := ⟨_, rfl⟩
    have hXp : PureH X := hX ▸ q6.srt
    have hXb : Am.below (X.length + 2) (srtV (r.length + 2) L) = true := by
      by_cases q : L = []
      · subst q; rfl
      · rw [srtV_ne q, ← hX, srtH_ne q]; simp [Am.below]
    have hoc : ∀ (a b : AObj) (l : List DV) (ver : Nat), objV (a :: b :: (X ++ [.cells l])) (X.length + 2) ver = if l.length = ver then some l else none := fun a b l ver => by
      have := objV_last (r := a :: b :: X) (l := l) (ver := ver)
      rwa [List.cons_append, List.cons_append] at this
    have hset : ∀ (a b o o' : AObj), (a :: b :: (X ++ [o])).set (X.length + 2) o' = a :: b :: (X ++ [o']) := fun a b o o' => by simp [List.set_append]
    have hN1 := cNext_pos (t := t) (n := 2) (by omega) (by decide) (by decide)
    have b1 := tpN_lo t 2
    have b2 := tpN_hi t (n := 2) (by decide)
    simp (disch := first | omega | (simp [-List.map_take, -List.map_drop, -List.map_set, -List.map_append, -List.drop_one] <;> omega) | fail) [-List.map_take, -List.map_drop, -List.map_set, -List.map_append, -List.drop_one, a6L1, a6S1, S410, hX]
    rcases m with _ | m
    · simp (disch := first | omega | (simp [-List.map_take, -List.map_drop, -List.map_set, -List.map_append, -List.drop_one] <;> omega) | fail) [-List.map_take, -List.map_drop, -List.map_set, -List.map_append, -List.drop_one, T410_a, cTrue]
    have hm : (0 : Int) < (m : Int) + 1 := by omega
    have hni := q1.ni
    by_cases hA : tpN t 2 = 0 ∧ 0 < c.i.l.length
    · obtain ⟨hA1, hA2⟩ := hA
      rw [hA1] at hN1
      have hA2' : (0 : Int) < (c.i.l.length : Int) := by omega
      have hN2 := cNext_pos (t := t.adv 1) (n := c.i.l.length) (by show t.at_ + 1 < _; omega) (by omega) (by omega)
      rw [adv_adv] at hN2
      have j1 := tpN_lo (t.adv 1) c.i.l.length
      have j2 := tpN_hi (t.adv 1) (n := c.i.l.length) (by omega)
      obtain ⟨j, hj⟩ : ∃ j : Nat, tpN (t.adv 1) c.i.l.length = j := ⟨(tpN (t.adv 1) c.i.l.length).toNat, by omega⟩
      rw [hj] at hN2 j2
      have hjl : j < c.i.l.length := by omega
      have hxi := fun H => idxSD_dv (x := c.i) (h := H) len_inC hjl
      obtain ⟨y, y1, y2, y3, y4, y5⟩ := remove_step q1 hjl
      have hy4 : (y.i.l.length : Int) = (c.i.l.length : Int) - 1 := by omega
      simp (disch := first | omega | (simp [-List.map_take, -List.map_drop, -List.map_set, -List.map_append, -List.drop_one] <;> omega) | fail) [-List.map_take, -List.map_drop, -List.map_set, -List.map_append, -List.drop_one, hm, T410_n, hN1, hA2, hA2', hN2, hxi, T410_r, cCk_eq, removeB, y1, hoc, hset, hy4]
      exact ⟨⟨m, t.adv 2, y, r, L⟩, weak_drop (tail := [.cells (clC y)]) (by simp (disch := first | omega | (simp [-List.map_take, -List.map_drop, -List.map_set, -List.map_append, -List.drop_one] <;> omega) | fail) [-List.map_take, -List.map_drop, -List.map_set, -List.map_append, -List.drop_one, S410, a6S1]) (by simp (disch := first | omega | (simp [-List.map_take, -List.map_drop, -List.map_set, -List.map_append, -List.drop_one] <;> omega) | fail) [-List.map_take, -List.map_drop, -List.map_set, -List.map_append, -List.drop_one, S410, a6S1, hX]) (Nat.zero_le _) (by simp (disch := first | omega | (simp [-List.map_take, -List.map_drop, -List.map_set, -List.map_append, -List.drop_one] <;> omega) | fail) [-List.map_take, -List.map_drop, -List.map_set, -List.map_append, -List.drop_one, S410, a6S1, hX, belowL, Am.below, hXb]) (by simp only [S410, a6S1, hX]; exact belowH_pure ((PureH.one (pure_tpC _)).app ((PureH.one (pure_clC _)).app hXp))), by simp only; omega, ⟨y2, by simp only; omega, by simp only; omega, by simp only; omega, by have : (t.adv 2).at_ = t.at_ + 2 := rfl; simp only; omega, q6, by simp only; rw [y5]; exact q7, by simp only; omega⟩⟩
    · have hB : ¬ tpN t 2 = 0 ∨ tpN t 2 = 0 ∧ c.i.l.length = 0 := by omega
      have hN2 := cNext_pos (t := t.adv 1) (n := c.g.l.length) (by show t.at_ + 1 < _; omega) (by have := q1.ng; omega) (by omega)
      have hN3 := cNext_pos (t := t.adv 2) (n := 3) (by show t.at_ + 2 < _; omega) (by decide) (by decide)
      have hN4 := cNext_pos (t := t.adv 3) (n := 50) (by show t.at_ + 3 < _; omega) (by decide) (by decide)
      rw [adv_adv] at hN2 hN3 hN4
      have g1 := tpN_lo (t.adv 1) c.g.l.length
      have g2 := tpN_hi (t.adv 1) (n := c.g.l.length) (by omega)
      have z1 := tpN_lo (t.adv 2) 3
      have z2 := tpN_hi (t.adv 2) (n := 3) (by decide)
      have s1 := tpN_lo (t.adv 3) 50
      have s2 := tpN_hi (t.adv 3) (n := 50) (by decide)
      obtain ⟨gr, hgr⟩ : ∃ g, tpN (t.adv 1) c.g.l.length = g := ⟨_, rfl⟩
      obtain ⟨zz, hzz⟩ : ∃ g, tpN (t.adv 2) 3 = g := ⟨_, rfl⟩
      obtain ⟨ss, hss⟩ : ∃ g, tpN (t.adv 3) 50 = g := ⟨_, rfl⟩
      rw [hgr] at hN2 g1 g2
      rw [hzz] at hN3 z1 z2
      rw [hss] at hN4 s1 s2
      obtain ⟨y, y1, y2, y3, y4, y5⟩ := start_step q1 (gr := gr) (t := ss) (d := dgB (1 + zz)) (dgB_ne (by omega) (by omega)) ⟨s1, by omega⟩ g1 g2 (by omega) (by omega)
      have hnew : c.next ∉ L := fun h => by have := q7 _ h; omega
      have hL' : ∀ s ∈ L ++ [c.next], s < y.next := fun s hs => by
        rcases List.mem_append.1 hs with hs | hs
        · have := q7 s hs; omega
        · simp at hs; omega
      have inv : ∀ r', PureH r' → FrI ⟨m, t.adv 4, y, r', L ++ [c.next]⟩ := fun r' hr => ⟨y2, by simp only; omega, by simp only; omega, by simp only; omega, by have : (t.adv 4).at_ = t.at_ + 4 := rfl; simp only; omega, hr, hL', by simp only; rw [List.length_append]; simp; omega⟩
      rcases hB with hB | ⟨hB, hB0⟩
      · by_cases q : L = []
        · subst q
          rw [srtH_nil] at hX
          subst hX
          have hh : cHas [.nils, .int .i64 c.next] = some (.bool false) := by
            have := cHas_eq (l := []) (n := c.next) (by simp)
            rw [liV_nil] at this
            rw [this]; simp
          have hob : objV (r ++ [.cells (clC y), .cells [.int .i64 c.next]]) r.length 3 = some (clC y) := by rw [objV_preD, objV_zero, if_pos (len_clC y)]
          have hH : srtH (r ++ [.cells (clC y)]) [c.next] = r ++ [.cells (clC y), .cells [.int .i64 c.next]] := by rw [srtH_ne (by simp), List.append_assoc]; rfl
          simp (disch := first | omega | (simp [-List.map_take, -List.map_drop, -List.map_set, -List.map_append, -List.drop_one] <;> omega) | fail) [-List.map_take, -List.map_drop, -List.map_set, -List.map_append, -List.drop_one, hm, T410_n, hN1, hB, hN2, hN3, hN4, conv_i_w8, build_dg, T410_s, cSta_eq, startB, y1, hoc, hset, T410_h, T410_v, cC1_eq, validCB, tv_true y2, srtV_nil, hh, hob]
          exact ⟨⟨m, t.adv 4, y, r ++ [.cells (clC y)], [] ++ [c.next]⟩, weak_same (by simp (disch := first | omega | (simp [-List.map_take, -List.map_drop, -List.map_set, -List.map_append, -List.drop_one] <;> omega) | fail) [-List.map_take, -List.map_drop, -List.map_set, -List.map_append, -List.drop_one, S410, a6S1, srtV]) (by simp (disch := first | omega | (simp [-List.map_take, -List.map_drop, -List.map_set, -List.map_append, -List.drop_one] <;> omega) | fail) [-List.map_take, -List.map_drop, -List.map_set, -List.map_append, -List.drop_one, S410, a6S1, hH]), by simp only; omega, inv _ (q6.app (.one (pure_clC y)))⟩
        · have hV := srtV_ne (p := r.length + 2) q
          have hobj : ∀ a b o, objV (a :: b :: (X ++ [o])) (r.length + 2) L.length = some (L.map (.int .i64)) := fun a b o => by
            have := objV_pre0 (pre := a :: b :: r) (l := [.cells (L.map (.int .i64)), o]) (ver := L.length)
            rw [objV_zero, if_pos (by simp)] at this
            rw [← hX, srtH_ne q, List.append_assoc]
            exact this
          have hh : cHas [.sl false 1 L.length (L.map (.int .i64)), .int .i64 c.next] = some (.bool false) := by
            have := cHas_eq (l := L) (n := c.next) (by omega)
            rw [liV_ne q, fm_i64x] at this
            rw [this]; simpa using hnew
          have hap : ∀ a b o y, appX (a :: b :: (X ++ [o])) 1 8 (.ms (r.length + 2) L.length 0 1 L.length L.length) 1 [.int .i64 y] = some (srtV (r.length + 2) (L ++ [y]), a :: b :: (srtH r (L ++ [y]) ++ [o])) := fun a b o y => by
            have := appX_srtx (pre := a :: b :: r) (L := L) (y := y) (o := o) q (by omega)
            rw [srtH_cons, srtH_cons, srtH_cons, srtH_cons, hX] at this
            rw [← hV]
            exact this
          obtain ⟨V2, hV2⟩ : ∃ v, srtV (r.length + 2) (L ++ [c.next]) = v := ⟨_, rfl⟩
          obtain ⟨X2, hX2⟩ : ∃ v, srtH r (L ++ [c.next]) = v := ⟨_, rfl⟩
          have hap := fun a b o => hap a b o c.next
          rw [hV2, hX2] at hap
          have hne : L ++ [c.next] ≠ [] := by simp
          have hXl : X2.length = X.length := by rw [← hX2, ← hX, srtH_ne q, srtH_ne hne, List.length_append, List.length_append]; rfl
          have hXp2 : PureH X2 := hX2 ▸ q6.srt
          have hoc2 : ∀ (a b : AObj) (l : List DV) (ver : Nat), objV (a :: b :: (X2 ++ [.cells l])) (X.length + 2) ver = if l.length = ver then some l else none := fun a b l ver => by
            have := objV_last (r := a :: b :: X2) (l := l) (ver := ver)
            rw [List.cons_append, List.cons_append, List.length_cons, List.length_cons, hXl] at this
            exact this
          have hXb2 : Am.below (X2.length + 2) V2 = true := by
            rw [← hV2, srtV_ne hne, ← hX2, srtH_ne hne, List.length_append]; simp only [Am.below, List.length_cons, List.length_nil, decide_eq_true_eq]; omega
          simp (disch := first | omega | (simp [-List.map_take, -List.map_drop, -List.map_set, -List.map_append, -List.drop_one] <;> omega) | fail) [-List.map_take, -List.map_drop, -List.map_set, -List.map_append, -List.drop_one, hm, T410_n, hN1, hB, hN2, hN3, hN4, conv_i_w8, build_dg, T410_s, cSta_eq, startB, y1, hoc, hset, T410_h, T410_v, cC1_eq, validCB, tv_true y2, hV, hobj, hh, hap, hoc2, List.take_of_length_le]
          exact ⟨⟨m, t.adv 4, y, r, L ++ [c.next]⟩, weak_drop (tail := [.cells (clC y)]) (by simp (disch := first | omega | (simp [-List.map_take, -List.map_drop, -List.map_set, -List.map_append, -List.drop_one] <;> omega) | fail) [-List.map_take, -List.map_drop, -List.map_set, -List.map_append, -List.drop_one, S410, a6S1, hV2]) (by simp (disch := first | omega | (simp [-List.map_take, -List.map_drop, -List.map_set, -List.map_append, -List.drop_one] <;> omega) | fail) [-List.map_take, -List.map_drop, -List.map_set, -List.map_append, -List.drop_one, S410, a6S1, hX2]) (Nat.zero_le _) (by simp (disch := first | omega | (simp [-List.map_take, -List.map_drop, -List.map_set, -List.map_append, -List.drop_one] <;> omega) | fail) [-List.map_take, -List.map_drop, -List.map_set, -List.map_append, -List.drop_one, S410, a6S1, hX2, hV2, belowL, Am.below, hXb2]) (by simp only [S410, a6S1, hX2]; exact belowH_pure ((PureH.one (pure_tpC _)).app ((PureH.one (pure_clC _)).app hXp2))), by simp only; omega, inv _ q6⟩
      · rw [hB] at hN1
        by_cases q : L = []
        · subst q
          rw [srtH_nil] at hX
          subst hX
          have hh : cHas [.nils, .int .i64 c.next] = some (.bool false) := by
            have := cHas_eq (l := []) (n := c.next) (by simp)
            rw [liV_nil] at this
            rw [this]; simp
          have hob : objV (r ++ [.cells (clC y), .cells [.int .i64 c.next]]) r.length 3 = some (clC y) := by rw [objV_preD, objV_zero, if_pos (len_clC y)]
          have hH : srtH (r ++ [.cells (clC y)]) [c.next] = r ++ [.cells (clC y), .cells [.int .i64 c.next]] := by rw [srtH_ne (by simp), List.append_assoc]; rfl
          simp (disch := first | omega | (simp [-List.map_take, -List.map_drop, -List.map_set, -List.map_append, -List.drop_one] <;> omega) | fail) [-List.map_take, -List.map_drop, -List.map_set, -List.map_append, -List.drop_one, hm, T410_n, hN1, hB0, hN2, hN3, hN4, conv_i_w8, build_dg, T410_s, cSta_eq, startB, y1, hoc, hset, T410_h, T410_v, cC1_eq, validCB, tv_true y2, srtV_nil, hh, hob]
          exact ⟨⟨m, t.adv 4, y, r ++ [.cells (clC y)], [] ++ [c.next]⟩, weak_same (by simp (disch := first | omega | (simp [-List.map_take, -List.map_drop, -List.map_set, -List.map_append, -List.drop_one] <;> omega) | fail) [-List.map_take, -List.map_drop, -List.map_set, -List.map_append, -List.drop_one, S410, a6S1, srtV]) (by simp (disch := first | omega | (simp [-List.map_take, -List.map_drop, -List.map_set, -List.map_append, -List.drop_one] <;> omega) | fail) [-List.map_take, -List.map_drop, -List.map_set, -List.map_append, -List.drop_one, S410, a6S1, hH]), by simp only; omega, inv _ (q6.app (.one (pure_clC y)))⟩
        · have hV := srtV_ne (p := r.length + 2) q
          have hobj : ∀ a b o, objV (a :: b :: (X ++ [o])) (r.length + 2) L.length = some (L.map (.int .i64)) := fun a b o => by
            have := objV_pre0 (pre := a :: b :: r) (l := [.cells (L.map (.int .i64)), o]) (ver := L.length)
            rw [objV_zero, if_pos (by simp)] at this
            rw [← hX, srtH_ne q, List.append_assoc]
            exact this
          have hh : cHas [.sl false 1 L.length (L.map (.int .i64)), .int .i64 c.next] = some (.bool false) := by
            have := cHas_eq (l := L) (n := c.next) (by omega)
            rw [liV_ne q, fm_i64x] at this
            rw [this]; simpa using hnew
          have hap : ∀ a b o y, appX (a :: b :: (X ++ [o])) 1 8 (.ms (r.length + 2) L.length 0 1 L.length L.length) 1 [.int .i64 y] = some (srtV (r.length + 2) (L ++ [y]), a :: b :: (srtH r (L ++ [y]) ++ [o])) := fun a b o y => by
            have := appX_srtx (pre := a :: b :: r) (L := L) (y := y) (o := o) q (by omega)
            rw [srtH_cons, srtH_cons, srtH_cons, srtH_cons, hX] at this
            rw [← hV]
            exact this
          obtain ⟨V2, hV2⟩ : ∃ v, srtV (r.length + 2) (L ++ [c.next]) = v := ⟨_, rfl⟩
          obtain ⟨X2, hX2⟩ : ∃ v, srtH r (L ++ [c.next]) = v := ⟨_, rfl⟩
          have hap := fun a b o => hap a b o c.next
          rw [hV2, hX2] at hap
          have hne : L ++ [c.next] ≠ [] := by simp
          have hXl : X2.length = X.length := by rw [← hX2, ← hX, srtH_ne q, srtH_ne hne, List.length_append, List.length_append]; rfl
          have hXp2 : PureH X2 := hX2 ▸ q6.srt
          have hoc2 : ∀ (a b : AObj) (l : List DV) (ver : Nat), objV (a :: b :: (X2 ++ [.cells l])) (X.length + 2) ver = if l.length = ver then some l else none := fun a b l ver => by
            have := objV_last (r := a :: b :: X2) (l := l) (ver := ver)
            rw [List.cons_append, List.cons_append, List.length_cons, List.length_cons, hXl] at this
            exact this
          have hXb2 : Am.below (X2.length + 2) V2 = true := by
            rw [← hV2, srtV_ne hne, ← hX2, srtH_ne hne, List.length_append]; simp only [Am.below, List.length_cons, List.length_nil, decide_eq_true_eq]; omega
          simp (disch := first | omega | (simp [-List.map_take, -List.map_drop, -List.map_set, -List.map_append, -List.drop_one] <;> omega) | fail) [-List.map_take, -List.map_drop, -List.map_set, -List.map_append, -List.drop_one, hm, T410_n, hN1, hB0, hN2, hN3, hN4, conv_i_w8, build_dg, T410_s, cSta_eq, startB, y1, hoc, hset, T410_h, T410_v, cC1_eq, validCB, tv_true y2, hV, hobj, hh, hap, hoc2, List.take_of_length_le]
          exact ⟨⟨m, t.adv 4, y, r, L ++ [c.next]⟩, weak_drop (tail := [.cells (clC y)]) (by simp (disch := first | omega | (simp [-List.map_take, -List.map_drop, -List.map_set, -List.map_append, -List.drop_one] <;> omega) | fail) [-List.map_take, -List.map_drop, -List.map_set, -List.map_append, -List.drop_one, S410, a6S1, hV2]) (by simp (disch := first | omega | (simp [-List.map_take, -List.map_drop, -List.map_set, -List.map_append, -List.drop_one] <;> omega) | fail) [-List.map_take, -List.map_drop, -List.map_set, -List.map_append, -List.drop_one, S410, a6S1, hX2]) (Nat.zero_le _) (by simp (disch := first | omega | (simp [-List.map_take, -List.map_drop, -List.map_set, -List.map_append, -List.drop_one] <;> omega) | fail) [-List.map_take, -List.map_drop, -List.map_set, -List.map_append, -List.drop_one, S410, a6S1, hX2, hV2, belowL, Am.below, hXb2]) (by simp only [S410, a6S1, hX2]; exact belowH_pure ((PureH.one (pure_tpC _)).app ((PureH.one (pure_clC _)).app hXp2))), by simp only; omega, inv _ q6⟩
namespace workloadFresh
theorem law_holds (dvs) (h : Ty.Args [.sl (.int .i64)] dvs) : Am.Sem P 6 dvs (.bool true) := by
  obtain ⟨d1, l1, rfl, h1, rfl⟩ := h
  obtain ⟨x, _, hx⟩ := ok_nl h1
  cases hx
  exact sem_runs mix T410_sound Tryd.func6 a6_ok (runs_lawfresh x)
end workloadFresh
end Go.Proofs.YtjhakjeioppijaaDoor
