/-
  The abstract machine, part 9: append, copy, conversions between strings and bytes, len, comparisons.
-/
import Derived.Test.YtjhakjeioppijaaDoorAmH
set_option linter.unusedSimpArgs false
set_option linter.unusedVariables false
namespace Go.Am
open Go.RowKit
section
variable {P : Program} {X0 : Forb} {base : Nat} {w : World} {h : List AObj} {E : Env}

theorem u8s_rep {X : Forb} {w : World} (l : List UInt8) : RepA E X w (l.map fun b => .int .u8 b.toNat) (u8s l) :=
  ⟨by simp [u8s], fun i h1 h2 => by simp [u8s]; exact .int _ _⟩

/-- append's second operand -/
theorem visY_sound (hh : HeapRel X0 base w h E) {v : Value} {d : DV} (hr : Rep E (FX X0 E) w v d) {m s : Nat} {cs : List DV} (hv : visY h d = some (m, cs)) (hm : m * s = cs.length) :
    ∃ vs, RepA E (FX X0 E) w vs cs ∧ ∀ w', (∀ a u, w.cell? a = some u → w'.cell? a = some u) → (Builtin.lenOf v).run P w' = .ok m w' ∧ (Builtin.firstCells s m v).run P w' = .ok vs.toArray w' := by
  cases d
  case str l =>
    simp [visY] at hv
    obtain ⟨rfl, rfl⟩ := hv
    cases hr with
    | str b _ hb =>
      subst hb
      have hsz : b.size = b.data.toList.length := by rw [Array.length_toList]; rfl
      refine ⟨_, u8s_rep _, fun w' _ => ⟨by simp only [Builtin.lenOf, Sem.run_pure, hsz], ?_⟩⟩
      simp only [Builtin.firstCells, Sem.run_pure]
      congr 1
      apply Array.ext'
      have e : (b.extract 0 b.data.toList.length).data.toList = b.data.toList := by
        rw [extract_data, Nat.sub_zero, List.drop_zero, List.take_length]
      rw [Array.toList_map, e]
  all_goals
    simp only [visY] at hv
    obtain ⟨a, cap, vs, rfl, hn, hR, h0, hc⟩ := visS_sound hh hr hv
    refine ⟨vs, hR, fun w' hw => ⟨by simp [Builtin.lenOf], ?_⟩⟩
    cases a with
    | none => obtain ⟨rfl, rfl⟩ := h0 rfl; simp [Builtin.firstCells]
    | some ad =>
      have hl : vs.length = m * s := by rw [hm]; exact hR.1
      exact run_firstCells_some _ s m ad m cap vs hl (fun j u hj => hw _ _ (hc ad rfl j u hj))

def okSrc (P : Program) (u : TypeId) : Prop := (∃ e, P.underlying u = some (.slice e)) ∨ P.underlying u = some .string

theorem run_append_fits {t u e : TypeId} (ht : P.underlying t = some (.slice e)) (hu : okSrc P u) {s : Nat} (hs : szT P e = some s) {v : Value} {m : Nat} {vs : List Value}
    (h1 : (Builtin.lenOf v).run P w = .ok m w) (h2 : (Builtin.firstCells s m v).run P w = .ok vs.toArray w) (a : Addr) (n cap : Nat) (hfit : n + m ≤ cap) (ty : TypeId) {w' : World} (h3 : (storeCells (a.add (n * s)) vs 0).run P w = .ok () w') :
    (Builtin.append_ #[t, u] ty #[.slice (some a) n cap, v]).run P w = .ok (.slice (some a) (n + m) cap) w' := by
  rcases hu with ⟨e', hu⟩ | hu <;> simp [Builtin.append_, run_underlying ht, run_underlying hu, run_sizeOf1 hs, h1, h2, hfit, h3]

/-- nothing to append -/
theorem run_append_none {t u e : TypeId} (ht : P.underlying t = some (.slice e)) (hu : okSrc P u) {s : Nat} (hs : szT P e = some s) {v : Value} 
    (h1 : (Builtin.lenOf v).run P w = .ok 0 w) (h2 : (Builtin.firstCells s 0 v).run P w = .ok #[] w) (a : Option Addr) (n cap : Nat) (hfit : n ≤ cap) (ty : TypeId) :
    (Builtin.append_ #[t, u] ty #[.slice a n cap, v]).run P w = .ok (.slice a n cap) w := by
  rcases hu with ⟨e', hu⟩ | hu <;> cases a <;> simp [Builtin.append_, run_underlying ht, run_underlying hu, run_sizeOf1 hs, h1, h2, hfit, storeCells]

theorem size_zeros (z : Array Value) (n : Nat) : (Builtin.zeroCells z n).size = n * z.size := by simp [Builtin.zeroCells]

theorem info_of {e : TypeId} {s bytes : Nat} {zs : List DV} (hs : szT P e = some s) (hb : bytesT P e = some bytes) (hz : zerosT P e = some zs) : ∃ i z, P.info? e = some i ∧ i.zero = some z ∧ i.size = s ∧ i.bytes = bytes ∧ ∀ E X (w' : World), RepA E X w' z.cells.toList zs := by
  unfold zerosT at hz
  simp only [Option.bind_eq_some_iff] at hz
  obtain ⟨z, ⟨i, hi, hiz⟩, hm⟩ := hz
  unfold szT at hs; unfold bytesT at hb
  rw [hi] at hs hb
  simp at hs hb
  exact ⟨i, z, hi, hiz, hs, hb, fun E X w' => constA hm⟩

/-- a new array -/
theorem run_append_new {t u e : TypeId} (ht : P.underlying t = some (.slice e)) (hu : okSrc P u) {s bytes : Nat} (hs : szT P e = some s) (hb : bytesT P e = some bytes) {zs : List DV} (hz : zerosT P e = some zs) (hzs : zs.length = s) {v : Value} {m : Nat} {vs old : List Value} {a : Option Addr} {n cap : Nat}
    (h1 : (Builtin.lenOf v).run P w = .ok m w) (h2 : (Builtin.firstCells s m v).run P w.drew = .ok vs.toArray w.drew) (h3 : (Builtin.firstCells s n (.slice a n cap)).run P w.drew = .ok old.toArray w.drew)
    (hgrow : ¬ n + m ≤ cap) (h4 : n + m ≤ big) (h5 : bytes ≤ 16384) (ty : TypeId) :
    ∃ (c : Nat) (more : List Value), n + m ≤ c ∧ more.length = (c - (n + m)) * s ∧
      (Builtin.append_ #[t, u] ty #[.slice a n cap, v]).run P w = .ok (.slice (some ⟨w.heap.size, 0, none⟩) (n + m) c) (w.drew.alloc (.cells ((old ++ vs) ++ more).toArray e)) := by
  obtain ⟨i, z, hi, hiz, i1, i2, hrep⟩ := info_of hs hb hz
  subst i1 i2
  have zsz : z.cells.size = i.size := by have := (hrep [] (fun _ _ => True) w).1; simp at this; omega
  simp only [big] at h4
  have f1 : (n + m) * i.bytes ≤ 140737488355328 := by
    have : (n + m) * i.bytes ≤ 4294967296 * 16384 := Nat.mul_le_mul (by omega) h5
    exact Nat.le_trans this (by omega)
  have f2 : ¬ (281474976710656 < Builtin.nextslicecap (n + m) cap * i.bytes) := by have := growslice_fits (need := n + m) (old := cap) (bytes := i.bytes) (by omega) f1; omega
  have f3 : ¬ (9223372036854775807 < ((n : Int) + (m : Int))) := by omega
  refine ⟨grownCap w (n + m) cap e, (Builtin.zeroCells z.cells (grownCap w (n + m) cap e - (n + m))).toList, grownCap_ge _ _ _ _, by simp [size_zeros, zsz], ?_⟩
  have hend : (old ++ vs ++ (Builtin.zeroCells z.cells (grownCap w (n + m) cap e - (n + m))).toList).toArray = old.toArray ++ vs.toArray ++ Builtin.zeroCells z.cells (grownCap w (n + m) cap e - (n + m)) := by
    apply Array.ext'; simp
  rw [hend]
  rcases hu with ⟨e', hu⟩ | hu
  · simp [Builtin.append_, run_underlying ht, run_underlying hu, sizeOf, typeInfo, zeroValue, hi, hiz, h1, hgrow, f3, f2, Question.forced, h2, h3, newRow, grownCap]
    congr 2
    apply Array.ext'
    simp
  · simp [Builtin.append_, run_underlying ht, run_underlying hu, sizeOf, typeInfo, zeroValue, hi, hiz, h1, hgrow, f3, f2, Question.forced, h2, h3, newRow, grownCap]
    congr 2
    apply Array.ext'
    simp

theorem mul_add_le {a b s : Nat} (h : a ≤ b) : a * s ≤ b * s := Nat.mul_le_mul_right s h

theorem app_ok (hh : HeapRel X0 base w h E) {t u e : TypeId} (ht : P.underlying t = some (.slice e)) (hu : okSrc P u) {s bytes : Nat} (hs : szT P e = some s) (hb : bytesT P e = some bytes) {zs : List DV} (hz : zerosT P e = some zs) (hzs : zs.length = s)
    {vx vy : Value} {x y : DV} (hx : Rep E (FX X0 E) w vx x) (hy : Rep E (FX X0 E) w vy y) {d : DV} {h' : List AObj} (he : evApp h s bytes x y = some (d, h')) (ty : TypeId) :
    Gives P X0 base E w (Builtin.append_ #[t, u] ty #[vx, vy]) d h' := by
  unfold evApp at he
  simp only [Option.bind_eq_some_iff] at he
  obtain ⟨⟨m, cs⟩, hv, he⟩ := he
  simp only at he
  split at he
  · simp at he
  rename_i hcond
  simp only [ne_eq, not_or, Decidable.not_not, gt_iff_lt, Nat.not_lt] at hcond
  obtain ⟨hms, hbytes, hspos⟩ := hcond
  obtain ⟨vs, hR, hrun⟩ := visY_sound (P := P) hh hy hv hms
  obtain ⟨l1, c1⟩ := hrun w (fun _ _ h => h)
  obtain ⟨l2, c2⟩ := hrun w.drew (fun _ _ h => h)
  have hvl : vs.length = m * s := by rw [hR.1, hms]
  have ht0 := trans_drew X0 base E w
  -- nothing to append
  have none_case : ∀ (a : Option Addr) (n cap : Nat), m = 0 → n ≤ cap → vx = .slice a n cap → d = x → h' = h → Gives P X0 base E w (Builtin.append_ #[t, u] ty #[vx, vy]) d h' := by
    intro a n cap hm hn ev ed eh
    subst hm ed eh ev
    have hvs : vs = [] := List.eq_nil_of_length_eq_zero (by simpa using hvl)
    subst hvs
    exact gives_pure hh (run_append_none ht hu hs l1 c1 a n cap hn ty) hx
  -- a new array
  have new_case : ∀ (a : Option Addr) (n cap : Nat) (old : List Value) (ds : List DV), vx = .slice a n cap → ¬ n + m ≤ cap → n + m ≤ big → RepA E (FX X0 E) w old ds → ds.length = n * s →
      (Builtin.firstCells s n (.slice a n cap)).run P w.drew = .ok old.toArray w.drew → d = .ms h.length (ds ++ cs).length 0 s (n + m) (ds ++ cs).length → h' = h ++ [.cells (ds ++ cs)] → Gives P X0 base E w (Builtin.append_ #[t, u] ty #[vx, vy]) d h' := by
    intro a n cap old ds ev hg hbig hRo hdl hfc ed eh
    subst ed eh ev
    obtain ⟨c, more, g1, g2, g3⟩ := run_append_new ht hu hs hb hz hzs l1 c2 hfc hg hbig hbytes ty
    have hRR := (hRo.append hR).mono ht0.env ht0.keep
    have hn := obj_new hh.drew hRR more e
    have hsum : (ds ++ cs).length = (n + m) * s := by rw [List.length_append, hdl, ← hms, Nat.add_mul]
    refine ⟨_, _, _, g3, hn.1, ?_, ht0.trans hn.2⟩
    rw [← hh.len]
    have hcl : c * s = (n + m) * s + (c - (n + m)) * s := by rw [← Nat.add_mul]; congr 1; omega
    refine ms_mk (b := w.heap.size) (L := (ds ++ cs).length) (arr := ((old ++ vs) ++ more).toArray) (t := e) (by simp) rfl (heap_alloc_new w.drew _) (by omega) g1 (fun _ => rfl) (by omega) ?_
    simp only [List.size_toArray, List.length_append, g2, hRo.1, hdl, hvl]
    rw [Nat.add_mul] at hcl
    omega
  cases x <;> try (simp at he; done)
  case nils =>
    simp only at he
    cases hx
    split at he
    · rename_i hm; simp at he; exact none_case none 0 0 hm (Nat.le_refl _) rfl he.1.symm he.2.symm
    · rename_i hm
      split at he
      · rename_i hbig
        simp at he
        exact new_case none 0 0 [] [] rfl (by omega) (by simpa using hbig) RepA.nil (by simp) (by simp [Builtin.firstCells]) (by simpa using he.1.symm) (by simpa using he.2.symm)
      · simp at he
  case sl full s' n ds =>
    simp only at he
    obtain ⟨a, cap, old, rfl, hn, hf, hdl, hRo, hc, hX⟩ := sl_inv hx
    split at he
    · rename_i hm; simp at he; exact none_case _ n cap hm hn rfl he.1.symm he.2.symm
    · rename_i hm
      split at he
      · rename_i hc2
        obtain ⟨hful, hss, hbig⟩ := hc2
        subst hss
        simp at he
        have hcap := hf hful
        refine new_case (some a) n cap old ds rfl (by omega) hbig hRo hdl ?_ (by rw [← he.1]; simp) (by rw [← he.2])
        exact run_firstCells_some w.drew s' n a n cap old (by rw [hRo.1, hdl]) (fun j u hj => by simpa using hc j u hj)
      · simp at he
  case ms id ver off s' n lim =>
    simp only [Option.bind_eq_some_iff] at he
    obtain ⟨l, ho, he⟩ := he
    split at he
    · rename_i hc2
      obtain ⟨hver, hss, hone⟩ := hc2
      subst hss
      obtain ⟨b, arr, ty', cap, a, e1, e2, e3, e4, rfl, k1, k2, k3, k4, k5⟩ := ms_inv hh hx ho hver
      split at he
      · rename_i hm; simp at he; exact none_case _ n cap hm k1 rfl he.1.symm he.2.symm
      · rename_i hm
        split at he
        · -- within the object
          rename_i hfit
          simp only [Option.some.injEq, Prod.mk.injEq] at he
          obtain ⟨rfl, rfl⟩ := he
          have hcap : n + m ≤ cap := by
            rcases Nat.lt_or_ge cap (n + m) with g | g
            · exfalso
              have g1 : cap + 1 ≤ n + m := g
              have g2 := Nat.mul_le_mul_right s' g1
              rw [Nat.add_mul cap] at g2
              omega
            · exact g
          have ha := k3 (by omega)
          subst ha
          obtain ⟨w', E', g1, g2, g3, g4, arr', g5, g6⟩ := store_run (P := P) hh ho e1 e2 e3 e4 hR hone (off := off + n * s') (by rw [Nat.add_mul] at hfit; omega)
          refine ⟨_, w', E', run_append_fits ht hu hs l1 c1 _ n cap hcap ty (by rw [add_mk]; exact g1), g2, ?_, g3⟩
          refine ms_mk g4 hver.symm g5 (by omega) hcap (fun _ => rfl) k4 (by omega)
        · split at he
          · -- at the end
            rename_i hend
            obtain ⟨h0, hns, hbig⟩ := hend
            subst h0
            simp only [Option.some.injEq, Prod.mk.injEq] at he
            obtain ⟨rfl, rfl⟩ := he
            have hlen : (l ++ cs).length = (n + m) * s' := by rw [List.length_append, hver, ← hns, ← hms, Nat.add_mul]
            by_cases hcap : n + m ≤ cap
            · have hfit := mul_add_le (s := s') hcap
              rw [Nat.add_mul] at hfit hlen
              by_cases hcap0 : 0 < cap
              · have ha := k3 hcap0
                subst ha
                have hst := run_storeCells_at P b (n * s') ty' vs 0 arr w e2 (by omega) (hR.oneCells hone)
                have hsz : ((arr.toList.take (n * s' + 0) ++ vs ++ arr.toList.drop (n * s' + 0 + vs.length)).toArray).size = arr.size := by simp; omega
                have hw := obj_write hh ho e1 e2 hsz (l' := l ++ cs) (by simp) (by rw [hlen]; omega) (by
                  have q1 : arr.toList.take (n * s' + 0) = arr.toList.take l.length := by rw [hver, hns]; simp
                  have q2 := e4.append hR
                  have q3 : ((arr.toList.take (n * s' + 0) ++ vs ++ arr.toList.drop (n * s' + 0 + vs.length)).toArray).toList.take (l ++ cs).length = arr.toList.take l.length ++ vs := by
                    rw [q1, List.toList_toArray, List.take_append_of_le_length (by simp [hR.1]; omega), List.take_of_length_le (by simp [hR.1]; omega)]
                  rw [q3]; exact q2)
                refine ⟨_, _, _, run_append_fits ht hu hs l1 c1 _ n cap hcap ty (by rw [add_mk, Nat.zero_add]; exact hst), hw.1, ?_, hw.2⟩
                refine ms_mk (List.getElem?_set_self (List.getElem?_eq_some_iff.1 e1).1) (by simp) (setRow_heap w b arr _ ty' (0, 0) e2) (by rw [hlen, Nat.add_mul]; omega) hcap (fun _ => rfl) (by simp at hlen ⊢; omega) (by rw [hsz]; exact k5)
              · omega
            · have hnew := run_append_new ht hu hs hb hz hzs (n := n) (cap := cap) (a := some a) (old := arr.toList.take l.length) l1 c2 (by
                refine run_firstCells_some w.drew s' n a n cap _ (by simp; omega) (fun j u hj => ?_)
                have hj' := (List.getElem?_eq_some_iff.1 hj).1
                simp at hj'
                have : 0 < cap := by
                  rcases Nat.eq_zero_or_pos cap with z | z
                  · subst z; have : n = 0 := by omega
                    subst this; simp at hns; omega
                  · exact z
                rw [k3 this, add_mk, World.cell?_drew, cell_of_block e2, Nat.zero_add]
                rw [List.getElem?_take] at hj
                split at hj
                · simpa using hj
                · simp at hj) hcap hbig hbytes ty
              obtain ⟨c, more, g1, g2, g3⟩ := hnew
              have hRR := (e4.append hR).mono ht0.env ht0.keep
              have hcs : 0 < cs.length := by rw [← hms]; exact Nat.mul_pos (by omega) (by omega)
              have hn := obj_move hh.drew ho e1 (l' := l ++ cs) (by simp; omega) hRR more e
              refine ⟨_, _, _, g3, hn.1, ?_, ht0.trans hn.2⟩
              have hcl : c * s' = (n + m) * s' + (c - (n + m)) * s' := by rw [← Nat.add_mul]; congr 1; omega
              refine ms_mk (b := w.heap.size) (arr := ((arr.toList.take l.length ++ vs) ++ more).toArray) (t := e) (List.getElem?_set_self (List.getElem?_eq_some_iff.1 e1).1) rfl (heap_alloc_new w.drew _) (by omega) g1 (fun _ => rfl) (by omega) ?_
              have := e4.1
              simp only [List.size_toArray, List.length_append, g2, this, hvl]
              rw [List.length_append] at hlen
              omega
          · simp at he
    · simp at he
end
end Go.Am
