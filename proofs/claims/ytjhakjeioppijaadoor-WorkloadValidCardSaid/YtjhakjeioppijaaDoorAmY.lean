/-
  The abstract machine, part 24: what arguments are: a type's shape 'Ty', data of that shape 'Ok', and that each argument has such data.
-/
import Derived.Test.YtjhakjeioppijaaDoorAmX
import Derived.Test.YtjhakjeioppijaaDoorAmW
set_option linter.unusedSimpArgs false
set_option linter.unusedVariables false
namespace Go.Am
open Go.ChangeShapes Go.WideShapes Go.ChangeAt Go.RowKit

/-- the shape of a type -/
inductive Ty where
  | int (k : IntKind)
  | bool
  | str
  | sl (e : Ty)
  | arr (n : Nat) (e : Ty)
  | st (fs : List Ty)
  deriving Inhabited

mutual
def Ty.size : Ty → Nat
  | .arr n e => n * e.size
  | .st fs => Ty.sizeL fs
  | _ => 1
def Ty.sizeL : List Ty → Nat
  | [] => 0
  | t :: r => t.size + Ty.sizeL r
end

mutual
/-- data of a shape: its cells -/
def Ty.Ok : Ty → List DV → Prop
  | .int k, ds => ∃ n, ds = [.int k n] ∧ (Lit.int k n).wf = true
  | .bool, ds => ∃ b, ds = [.bool b]
  | .str, ds => ∃ s, ds = [.str s]
  | .sl e, ds => ds = [.nils] ∨ ∃ gs : List (List DV), ds = [.sl false e.size gs.length gs.flatten] ∧ gs.length ≤ 9223372036854775807 ∧ ∀ g ∈ gs, e.Ok g
  | .arr n e, ds => ∃ gs : List (List DV), gs.length = n ∧ ds = gs.flatten ∧ ∀ g ∈ gs, e.Ok g
  | .st fs, ds => Ty.OkL fs ds
def Ty.OkL : List Ty → List DV → Prop
  | [], ds => ds = []
  | t :: r, ds => ∃ a b, ds = a ++ b ∧ t.Ok a ∧ Ty.OkL r b
end

mutual
/-- a type has this shape -/
def Ty.chk (P : Program) : Ty → TypeId → Bool
  | .int k, t => match P.underlying t with | some (.int k') => decide (k' = k) | _ => false
  | .bool, t => match P.underlying t with | some .bool => true | _ => false
  | .str, t => match P.underlying t with | some .string => true | _ => false
  | .sl e, t => match P.underlying t with | some (.slice u) => decide (P.cellsOf u = e.size) && e.chk P u | _ => false
  | .arr n e, t => match P.underlying t with | some (.array m u) => decide (m = n) && decide (P.cellsOf u = e.size) && decide (P.cellsOf t = n * e.size) && e.chk P u | _ => false
  | .st fs, t => match P.underlying t with | some (.struct l) => decide (P.cellsOf t = Ty.sizeL fs) && Ty.chkL P fs l.toList 0 | _ => false
def Ty.chkL (P : Program) : List Ty → List Field → Nat → Bool
  | [], [], _ => true
  | t :: r, f :: l, off => decide (f.offset = off) && decide (P.cellsOf f.type = t.size) && t.chk P f.type && Ty.chkL P r l (off + t.size)
  | _, _, _ => false
end

theorem exists_list {α : Type} {Q : Nat → α → Prop} : ∀ (n : Nat), (∀ i, i < n → ∃ g, Q i g) → ∃ gs : List α, gs.length = n ∧ ∀ i (h : i < gs.length), Q i gs[i]
  | 0, _ => ⟨[], rfl, fun i h => by simp at h⟩
  | n + 1, h => by
    obtain ⟨gs, h1, h2⟩ := exists_list n (fun i hi => h i (by omega))
    obtain ⟨g, hg⟩ := h n (by omega)
    refine ⟨gs ++ [g], by simp [h1], fun i hi => ?_⟩
    by_cases hin : i < gs.length
    · rw [List.getElem_append_left hin]; exact h2 i hin
    · obtain rfl : i = n := by simp at hi; omega
      rw [List.getElem_append_right (by omega)]
      simpa [h1] using hg

section
variable {E : Env} {X : Forb} {w : World}
theorem RepA.flat {s : Nat} : ∀ (gs : List (List DV)) (cs : List Value), cs.length = gs.length * s → (∀ i (h : i < gs.length), RepA E X w ((cs.drop (i * s)).take s) gs[i]) → RepA E X w cs gs.flatten
  | [], cs, hl, _ => by
    have : cs = [] := List.eq_nil_of_length_eq_zero (by simpa using hl)
    subst this; exact RepA.nil
  | g :: gs, cs, hl, h => by
    have hs : s ≤ cs.length := by
      have e : (g :: gs).length * s = gs.length * s + s := by rw [List.length_cons, Nat.add_mul, Nat.one_mul]
      omega
    have h0 := h 0 (by simp)
    simp only [Nat.zero_mul, List.drop_zero, List.getElem_cons_zero] at h0
    have := RepA.flat (s := s) gs (cs.drop s) (by rw [List.length_drop, hl, List.length_cons, Nat.add_mul]; omega) (fun i hi => by
      have := h (i + 1) (by simpa using hi)
      rw [List.drop_drop]
      simpa [Nat.add_mul, Nat.add_comm] using this)
    have q := h0.append this
    rwa [List.take_append_drop] at q

theorem add_zero' (a : Addr) : a.add 0 = a := by unfold Addr.add; simp

variable {H : Type} {enc : TypeId × Value → H} {P : Program} {base : Nat} {sp : Nat → Bool} {held : Bool}

theorem trod_array {t e : TypeId} {n fuel : Nat} {cs : List Value} {x : DataW H × List MemPlace} (ht : P.underlying t = some (.array n e)) (h : DataW.trod enc P w base sp held fuel t cs = some x) :
    ∃ m, fuel = m + 1 ∧ cs.length = P.cellsOf t ∧ ∀ i, i < n → ∃ y, DataW.trod enc P w base sp held m e ((cs.drop (i * P.cellsOf e)).take (P.cellsOf e)) = some y := by
  cases fuel with
  | zero => simp [DataW.trod] at h
  | succ m =>
    unfold DataW.trod at h
    rw [ht] at h
    split at h <;> simp_all
    obtain ⟨hl, xs, hp, hd⟩ := h
    intro i hi
    have h1 := mapM_some_length hp
    have := mapM_some_get hp i i (by simp [hi])
    rw [this]
    simp at h1
    rw [List.getElem?_eq_getElem (by omega)]
    exact ⟨_, _, rfl⟩

/-- **what is read has data of its type's shape** -/
theorem read_cells : ∀ (fuel : Nat) (τ : Ty) (t : TypeId) (cs : List Value) (x : DataW H × List MemPlace), τ.chk P t = true → DataW.trod enc P w base sp held fuel t cs = some x → cs.length = τ.size ∧ ∃ ds, RepA [] (fun _ _ => False) w cs ds ∧ τ.Ok ds
  | 0, _, _, _, _, _, h => by simp [DataW.trod] at h
  | fuel + 1, τ, t, cs, x, hc, h => by
    cases τ with
    | int k =>
      simp only [Ty.chk] at hc
      split at hc <;> try (simp at hc; done)
      rename_i k' hu
      simp at hc; subst hc
      obtain ⟨n, rfl, _, hw⟩ := DataW.trod_int hu h
      exact ⟨rfl, [.int k' n], RepA.cons (.int _ _) RepA.nil, by simp only [Ty.Ok]; exact ⟨n, rfl, hw⟩⟩
    | bool =>
      simp only [Ty.chk] at hc
      split at hc <;> try (simp at hc; done)
      rename_i hu
      obtain ⟨b, rfl, _⟩ := DataW.trod_bool hu h
      exact ⟨rfl, [.bool b], RepA.cons (.bool _) RepA.nil, by simp only [Ty.Ok]; exact ⟨b, rfl⟩⟩
    | str =>
      simp only [Ty.chk] at hc
      split at hc <;> try (simp at hc; done)
      rename_i hu
      obtain ⟨s, rfl, _, _⟩ := DataW.trod_string hu h
      exact ⟨rfl, [.str s.data.toList], RepA.cons (.str _ _ rfl) RepA.nil, by simp only [Ty.Ok]; exact ⟨_, rfl⟩⟩
    | arr n e =>
      simp only [Ty.chk] at hc
      split at hc <;> try (simp at hc; done)
      rename_i m u hu
      simp only [Bool.and_eq_true, decide_eq_true_eq] at hc
      obtain ⟨⟨⟨rfl, hsz⟩, hct⟩, hch⟩ := hc
      obtain ⟨m', hm', hl, he⟩ := trod_array hu h
      have hm' : fuel = m' := by omega
      subst hm'
      obtain ⟨gs, g1, g2⟩ := exists_list (Q := fun i g => RepA [] (fun _ _ => False) w ((cs.drop (i * e.size)).take e.size) g ∧ e.Ok g) m (fun i hi => by
        obtain ⟨y, hy⟩ := he i hi
        rw [hsz] at hy
        obtain ⟨_, ds, q1, q2⟩ := read_cells fuel e u _ _ hch hy
        exact ⟨ds, q1, q2⟩)
      refine ⟨by rw [hl, hct]; rfl, gs.flatten, RepA.flat (s := e.size) gs cs (by rw [hl, hct, g1]) (fun i hi => (g2 i hi).1), ?_⟩
      simp only [Ty.Ok]
      refine ⟨gs, g1, rfl, fun g hg => ?_⟩
      obtain ⟨i, hi, rfl⟩ := List.mem_iff_getElem.1 hg
      exact (g2 i hi).2
    | st fs =>
      simp only [Ty.chk] at hc
      split at hc <;> try (simp at hc; done)
      rename_i l hu
      simp only [Bool.and_eq_true, decide_eq_true_eq] at hc
      obtain ⟨hct, hch⟩ := hc
      obtain ⟨xs, m, hm, _, hl, hxl, he⟩ := DataW.trod_struct hu h
      have hm : fuel = m := by omega
      subst hm
      have go : ∀ (fs : List Ty) (l' : List Field) (off k : Nat), Ty.chkL P fs l' off = true → cs.length = off + Ty.sizeL fs → (∀ i f, l'[i]? = some f → l.toList[k + i]? = some f) → ∃ ds, RepA [] (fun _ _ => False) w (cs.drop off) ds ∧ Ty.OkL fs ds := by
        intro fs
        induction fs with
        | nil =>
          intro l' off k hch hlen _
          simp only [Ty.sizeL, Nat.add_zero] at hlen
          exact ⟨[], by rw [List.drop_of_length_le (by omega)]; exact RepA.nil, by simp [Ty.OkL]⟩
        | cons τ r ih =>
          intro l' off k hch hlen hsub
          cases l' with
          | nil => simp [Ty.chkL] at hch
          | cons f l' =>
            simp only [Ty.chkL, Bool.and_eq_true, decide_eq_true_eq] at hch
            obtain ⟨⟨⟨ho, hs⟩, hct'⟩, hr⟩ := hch
            simp only [Ty.sizeL] at hlen
            have hf : l[k]? = some f := by have := hsub 0 f rfl; simpa using this
            have hk : k < l.size := by
              rcases Nat.lt_or_ge k l.size with g | g
              · exact g
              · rw [Array.getElem?_eq_none g] at hf; simp at hf
            have hy := he k f hf
            rw [List.getElem?_eq_getElem (by omega), ho, hs] at hy
            obtain ⟨_, a, q1, q2⟩ := read_cells fuel τ f.type _ _ hct' hy
            obtain ⟨b, q3, q4⟩ := ih l' (off + τ.size) (k + 1) hr (by omega) (fun i f' hi => by
              have := hsub (i + 1) f' (by simpa using hi)
              rwa [show k + 1 + i = k + (i + 1) from by omega])
            refine ⟨a ++ b, ?_, by simp only [Ty.OkL]; exact ⟨a, b, rfl, q2, q4⟩⟩
            have q := q1.append q3
            rwa [← List.drop_drop, List.take_append_drop] at q
      obtain ⟨ds, q1, q2⟩ := go fs l.toList 0 0 hch (by rw [hl, hct]; omega) (fun i f hi => by simpa using hi)
      exact ⟨by rw [hl, hct]; rfl, ds, by simpa using q1, by simp only [Ty.Ok]; exact q2⟩
    | sl e =>
      simp only [Ty.chk] at hc
      split at hc <;> try (simp at hc; done)
      rename_i u hu
      simp only [Bool.and_eq_true, decide_eq_true_eq] at hc
      obtain ⟨hsz, hch⟩ := hc
      rcases DataW.trod_slice hu h with ⟨rfl, _⟩ | ⟨a, len, cap, elems, rest, n, hn, rfl, _, _, hlc, hcm, hel, he, _, _⟩
      · exact ⟨rfl, [.nils], RepA.cons .nils RepA.nil, by simp only [Ty.Ok]; exact .inl trivial⟩
      · have hn : fuel = n := by omega
        subst hn
        obtain ⟨ps, p1, p2⟩ := exists_list (Q := fun i (p : List Value × List DV) => p.1.length = e.size ∧ (∀ j, j < e.size → w.cell? (a.add (i * e.size + j)) = p.1[j]?) ∧ RepA [] (fun _ _ => False) w p.1 p.2 ∧ e.Ok p.2) len (fun i hi => by
          have := he i hi
          rw [List.getElem?_eq_getElem (by omega), Option.bind_eq_some_iff] at this
          obtain ⟨cs', hcs, hy⟩ := this
          obtain ⟨_, hcl, hcell⟩ := World.cells?_some hcs
          obtain ⟨_, ds, q1, q2⟩ := read_cells fuel e u _ _ hch hy
          rw [hsz] at hcl hcell
          exact ⟨(cs', ds), hcl, fun j hj => by have := hcell j hj; rw [Am.add_add] at this; exact this, q1, q2⟩)
        have key : ∀ (ps : List (List Value × List DV)), (∀ p ∈ ps, p.1.length = e.size ∧ RepA [] (fun _ _ => False) w p.1 p.2) → RepA [] (fun _ _ => False) w (ps.map (·.1)).flatten (ps.map (·.2)).flatten ∧ (ps.map (·.1)).flatten.length = ps.length * e.size := by
          intro ps
          induction ps with
          | nil => intro _; exact ⟨RepA.nil, by simp⟩
          | cons p r ih =>
            intro hp
            obtain ⟨i1, i2⟩ := ih (fun q hq => hp q (by simp [hq]))
            obtain ⟨j1, j2⟩ := hp p (by simp)
            refine ⟨by simpa using j2.append i1, ?_⟩
            simp only [List.map_cons, List.flatten_cons, List.length_append, i2, j1, List.length_cons, Nat.add_mul]
            omega
        have hps : ∀ p ∈ ps, p.1.length = e.size ∧ RepA [] (fun _ _ => False) w p.1 p.2 := fun p hp => by
          obtain ⟨i, hi, rfl⟩ := List.mem_iff_getElem.1 hp
          exact ⟨(p2 i hi).1, (p2 i hi).2.2.1⟩
        obtain ⟨k1, k2⟩ := key ps hps
        have cells : ∀ (ps : List (List Value × List DV)) (o : Nat), (∀ i (h : i < ps.length), (ps[i]).1.length = e.size ∧ ∀ j, j < e.size → w.cell? (a.add ((o + i) * e.size + j)) = (ps[i]).1[j]?) → ∀ j v, (ps.map (·.1)).flatten[j]? = some v → w.cell? (a.add (o * e.size + j)) = some v := by
          intro ps
          induction ps with
          | nil => intro o _ j v hj; simp at hj
          | cons p r ih =>
            intro o hp j v hj
            simp only [List.map_cons, List.flatten_cons] at hj
            obtain ⟨l0, c0⟩ := hp 0 (by simp)
            simp only [List.getElem_cons_zero, Nat.add_zero] at l0 c0
            by_cases hjs : j < e.size
            · rw [List.getElem?_append_left (by omega)] at hj
              rw [c0 j hjs]; exact hj
            · rw [List.getElem?_append_right (by omega), l0] at hj
              have := ih (o + 1) (fun i hi => by
                have := hp (i + 1) (by simpa using hi)
                simpa [show o + 1 + i = o + (i + 1) from by omega] using this) (j - e.size) v hj
              rw [Nat.add_mul, Nat.one_mul] at this
              rwa [show o * e.size + e.size + (j - e.size) = o * e.size + j from by omega] at this
        have hcell := cells ps 0 (fun i hi => ⟨(p2 i hi).1, by simpa using (p2 i hi).2.1⟩)
        simp only [Nat.zero_mul, Nat.zero_add] at hcell
        refine ⟨rfl, [.sl false e.size (ps.map (·.2)).length (ps.map (·.2)).flatten], RepA.cons ?_ RepA.nil, ?_⟩
        · have hlen : (ps.map (·.2)).length = len := by simp [p1]
          rw [hlen]
          exact sl_mk k1 hlc (fun hf => by simp at hf) (by rw [← k1.1, k2, p1]) (fun j u hj => hcell j u hj) (fun _ _ h => h)
        · simp only [Ty.Ok]
          refine .inr ⟨ps.map (·.2), rfl, by rw [List.length_map, p1]; exact Nat.le_trans hlc hcm, fun g hg => ?_⟩
          obtain ⟨p, hp, rfl⟩ := List.mem_map.1 hg
          obtain ⟨i, hi, rfl⟩ := List.mem_iff_getElem.1 hp
          exact (p2 i hi).2.2.2

/-- an argument's datum, of its cells -/
def Ty.dv (τ : Ty) (ds : List DV) : DV := match τ with
  | .arr _ _ => .agg ds
  | .st _ => .agg ds
  | _ => ds.headD .junk
theorem read_arg {r : Reach} {b0 : Nat} {τ : Ty} {t : TypeId} {v : Value} {d : DataW H} {ps : List MemPlace} (hc : τ.chk P t = true) (hval : Value.okWide P w r b0 t v) (hd : DataW.Trod enc P w base sp held t v d ps) :
    ∃ ds, Rep [] (fun _ _ => False) w v (τ.dv ds) ∧ τ.Ok ds := by
  obtain ⟨fuel, hd⟩ := hd
  obtain ⟨hl, ds, h1, h2⟩ := read_cells fuel τ t _ _ hc hd
  refine ⟨ds, ?_, h2⟩
  have agg : (∃ n e, P.underlying t = some (.array n e)) ∨ (∃ fs, P.underlying t = some (.struct fs)) → Rep [] (fun _ _ => False) w v (.agg ds) := by
    intro hu
    have : ∃ cs, v = .agg cs := by
      unfold Value.okWide at hval
      rcases hu with ⟨n, e, hu⟩ | ⟨fs, hu⟩ <;> rw [hu] at hval <;> exact ⟨_, hval.choose_spec.1⟩
    obtain ⟨cs, rfl⟩ := this
    simpa [Value.cells] using h1.agg
  have single : τ.size = 1 → (∀ cs, v ≠ .agg cs) → Rep [] (fun _ _ => False) w v (ds.headD .junk) := by
    intro hs hv
    have hcells : v.cells.toList = [v] := by
      cases v <;> first | rfl | (exact absurd rfl (hv _))
    rw [hcells] at h1
    match ds, h1 with
    | [d], h1 => exact h1.head
    | [], h1 => exact absurd h1.1 (by simp)
    | _ :: _ :: _, h1 => exact absurd h1.1 (by simp)
  cases τ with
  | arr n e =>
    simp only [Ty.chk] at hc
    split at hc <;> try (simp at hc; done)
    rename_i m u hu
    exact agg (.inl ⟨_, _, hu⟩)
  | st fs =>
    simp only [Ty.chk] at hc
    split at hc <;> try (simp at hc; done)
    rename_i l hu
    exact agg (.inr ⟨_, hu⟩)
  | int k =>
    simp only [Ty.chk] at hc
    split at hc <;> try (simp at hc; done)
    rename_i k' hu
    obtain ⟨n, hn⟩ := okWide_int hu hval
    exact single rfl (fun cs e => by rw [hn] at e; cases e)
  | bool =>
    simp only [Ty.chk] at hc
    split at hc <;> try (simp at hc; done)
    rename_i hu
    obtain ⟨n, hn⟩ := okWide_bool hu hval
    exact single rfl (fun cs e => by rw [hn] at e; cases e)
  | str =>
    simp only [Ty.chk] at hc
    split at hc <;> try (simp at hc; done)
    rename_i hu
    obtain ⟨n, hn⟩ := okWide_string hu hval
    exact single rfl (fun cs e => by rw [hn] at e; cases e)
  | sl e =>
    simp only [Ty.chk] at hc
    split at hc <;> try (simp at hc; done)
    rename_i u hu
    obtain ⟨a, len, cap, hn⟩ := okWide_slice hu hval
    exact single rfl (fun cs e => by rw [hn] at e; cases e)

/-- arguments of these shapes -/
def Ty.Args : List Ty → List DV → Prop
  | [], l => l = []
  | τ :: r, l => ∃ ds l', l = τ.dv ds :: l' ∧ τ.Ok ds ∧ Ty.Args r l'
theorem read_args {r : Reach} {b0 : Nat} : ∀ {τs : List Ty} {ts : List TypeId} {vs : List Value} {ds : List (DataW H)} {ps : List MemPlace}, τs.length = ts.length → (∀ (i : Nat) (τ : Ty) (t : TypeId), τs[i]? = some τ → ts[i]? = some t → τ.chk P t = true) →
    (∀ (j : Nat) t v, ts[j]? = some t → vs[j]? = some v → Value.okWide P w r b0 t v) → DataW.TrodAll enc P w base sp held ts vs ds ps →
    ∃ dvs, RepA [] (fun _ _ => False) w vs dvs ∧ Ty.Args τs dvs
  | [], [], vs, ds, ps, _, _, _, h => by
    obtain ⟨rfl, rfl, rfl⟩ := trodAll_nil h
    exact ⟨[], RepA.nil, rfl⟩
  | [], _ :: _, _, _, _, hl, _, _, _ => by simp at hl
  | _ :: _, [], _, _, _, hl, _, _, _ => by simp at hl
  | τ :: τs, t :: ts, vs, ds, ps, hl, hc, hv, h => by
    obtain ⟨v, vs', d, ds', p, q, rfl, rfl, rfl, h1, h2⟩ := trodAll_cons h
    obtain ⟨x, x1, x2⟩ := read_arg (hc 0 τ t rfl rfl) (hv 0 t v rfl rfl) h1
    obtain ⟨l, l1, l2⟩ := read_args (by simpa using hl) (fun i τ' t' a b => hc (i + 1) τ' t' a b) (fun j t' v' a b => hv (j + 1) t' v' a b) h2
    exact ⟨τ.dv x :: l, RepA.cons x1 l1, x, l, rfl, x2, l2⟩
def Ty.chkAll (P : Program) : List Ty → List TypeId → Bool
  | [], [] => true
  | τ :: r, t :: l => τ.chk P t && Ty.chkAll P r l
  | _, _ => false
theorem chkAll_of : ∀ {τs : List Ty} {ts : List TypeId}, Ty.chkAll P τs ts = true → τs.length = ts.length ∧ ∀ (i : Nat) (τ : Ty) (t : TypeId), τs[i]? = some τ → ts[i]? = some t → τ.chk P t = true
  | [], [], _ => ⟨rfl, fun i τ t h => by simp at h⟩
  | [], _ :: _, h => by simp [Ty.chkAll] at h
  | _ :: _, [], h => by simp [Ty.chkAll] at h
  | τ :: r, t :: l, h => by
    simp only [Ty.chkAll, Bool.and_eq_true] at h
    obtain ⟨h1, h2⟩ := chkAll_of h.2
    refine ⟨by simp [h1], fun i τ' t' a b => ?_⟩
    cases i with
    | zero => simp at a b; subst a b; exact h.1
    | succ i => exact h2 i τ' t' (by simpa using a) (by simpa using b)
def paramsOK (P : Program) (ts : List TypeId) : Bool := ts.all fun t => P.readableRec t && decide (t < P.types.size)
/-- **A LAW's CALL**, out of what is proved of its function on data -/
theorem calls_law {k : FuncId} {f : Func} {s : ChangeSpec} {apart fresh handsOn again : Bool} {W : World} {b0 : Nat} {args : Array Value} {ds gs : List (DataW H)} {before : List MemPlace} (τs : List Ty)
    (hchk : Ty.chkAll P τs f.params.toList = true) (hl : laidOutB P = true) (hps : paramsOK P f.params.toList = true) {tb : TypeId} (hres : f.resultTypes = #[tb]) (hbool : P.underlying tb = some .bool) (hv : s.vars = [])
    (hval : ∀ (j : Nat) t v, f.params[j]? = some t → args[j]? = some v → Value.okWide P W .any b0 t v)
    (hW : DataW.Whole enc P f.params.toList s.vars apart W args.toList ds gs before) (hs : ∀ ds : List (DataW H), τs.length = ds.length → s.fn H ds = { results := [.lit (.bool true)], args := ds, vars := [] })
    (hent : Ent P k) (hlaw : ∀ dvs, Ty.Args τs dvs → Am.Sem P k dvs (.bool true)) :
    Calls P k args W fun e W' => ∃ v, e = .returned v ∧ s.post enc P f apart fresh handsOn again W args v W' := by
  have hW' := hW
  obtain ⟨p, q, hA, hV, _⟩ := hW'
  have hg : gs = [] := by
    rw [hv] at hV
    exact (trodVars_none hV).1
  obtain ⟨c1, c2⟩ := chkAll_of hchk
  obtain ⟨dvs, r1, r2⟩ := read_args c1 c2 (fun j t v a b => hval j t v (by simpa using a) (by simpa using b)) hA
  have hlen : ∀ {ts : List TypeId} {vs : List Value} {ds : List (DataW H)} {ps : List MemPlace}, DataW.TrodAll enc P W 0 (fun _ => true) true ts vs ds ps → ts.length = ds.length := by
    intro ts
    induction ts with
    | nil => intro vs ds ps h; obtain ⟨_, rfl, _⟩ := trodAll_nil h; rfl
    | cons t ts ih => intro vs ds ps h; obtain ⟨v, vs', d, ds', p, q, rfl, rfl, rfl, h1, h2⟩ := trodAll_cons h; simp [ih h2]
  refine calls_true hl (fun t ht => ?_) hres hbool hv hW (by rw [hg, List.append_nil]; exact hs ds (by rw [c1]; exact hlen hA)) r1 hent (hlaw dvs r2)
  have := List.all_eq_true.1 hps t ht
  simpa using this
end
/-! shapes that occur often -/
theorem ok_u8 {ds : List DV} (h : Ty.Ok (.int .u8) ds) : ∃ x : BitVec 8, ds = [w8 x] := by
  simp only [Ty.Ok] at h
  obtain ⟨n, rfl, hw⟩ := h
  exact ⟨_, by rw [w8_of hw]⟩
theorem ok_list {α : Type} {e : Ty} {f : α → List DV} {R : α → Prop} (he : ∀ ds, e.Ok ds → ∃ a, R a ∧ ds = f a) : ∀ (gs : List (List DV)), (∀ g ∈ gs, e.Ok g) → ∃ l : List α, l.length = gs.length ∧ (∀ a ∈ l, R a) ∧ gs = l.map f
  | [], _ => ⟨[], rfl, fun a h => by simp at h, rfl⟩
  | g :: gs, h => by
    obtain ⟨a, ha, rfl⟩ := he g (h g (by simp))
    obtain ⟨l, h1, h2, rfl⟩ := ok_list he gs (fun g' hg => h g' (by simp [hg]))
    refine ⟨a :: l, by simp, fun b hb => ?_, rfl⟩
    rcases List.mem_cons.1 hb with rfl | hb
    · exact ha
    · exact h2 b hb
theorem ok_sl {α : Type} {e : Ty} {f : α → List DV} {R : α → Prop} (he : ∀ ds, e.Ok ds → ∃ a, R a ∧ ds = f a) {ds : List DV} (h : Ty.Ok (.sl e) ds) :
    ∃ (k : Option Bool) (l : List α), (k = none → l = []) ∧ (∀ a ∈ l, R a) ∧ ds = [slD k e.size l.length (l.flatMap f)] := by
  simp only [Ty.Ok] at h
  rcases h with rfl | ⟨gs, rfl, _, h⟩
  · exact ⟨none, [], fun _ => rfl, fun a h => by simp at h, rfl⟩
  · obtain ⟨l, h1, h2, rfl⟩ := ok_list he gs h
    exact ⟨some false, l, fun h => by simp at h, h2, by simp [slD, List.flatMap]⟩
theorem ok_slb {α : Type} {e : Ty} {f : α → List DV} {R : α → Prop} (he : ∀ ds, e.Ok ds → ∃ a, R a ∧ ds = f a) {ds : List DV} (h : Ty.Ok (.sl e) ds) :
    ∃ (k : Option Bool) (l : List α), (k = none → l = []) ∧ (∀ a ∈ l, R a) ∧ ds = [slD k e.size l.length (l.flatMap f)] ∧ l.length ≤ 9223372036854775807 := by
  simp only [Ty.Ok] at h
  rcases h with rfl | ⟨gs, rfl, hb, h⟩
  · exact ⟨none, [], fun _ => rfl, fun a h => by simp at h, rfl, by simp⟩
  · obtain ⟨l, h1, h2, rfl⟩ := ok_list he gs h
    exact ⟨some false, l, fun h => by simp at h, h2, by simp [slD, List.flatMap], by simpa using hb⟩
theorem ok_arr {α : Type} {e : Ty} {n : Nat} {f : α → List DV} {R : α → Prop} (he : ∀ ds, e.Ok ds → ∃ a, R a ∧ ds = f a) {ds : List DV} (h : Ty.Ok (.arr n e) ds) :
    ∃ (l : List α), l.length = n ∧ (∀ a ∈ l, R a) ∧ ds = l.flatMap f := by
  simp only [Ty.Ok] at h
  obtain ⟨gs, rfl, rfl, h⟩ := h
  obtain ⟨l, h1, h2, rfl⟩ := ok_list he gs h
  exact ⟨l, by simp, h2, by simp [List.flatMap]⟩
theorem flatMap_one {α : Type} {l : List α} {f : α → DV} : (l.flatMap fun a => [f a]) = l.map f := by
  induction l with
  | nil => rfl
  | cons a r ih => simp [ih]
theorem ok_u8' {ds : List DV} (h : Ty.Ok (.int .u8) ds) : ∃ x : BitVec 8, True ∧ ds = [w8 x] := let ⟨x, h⟩ := ok_u8 h; ⟨x, trivial, h⟩
theorem ok_bytes {ds : List DV} (h : Ty.Ok (.sl (.int .u8)) ds) : ∃ (k : Option Bool) (b : List (BitVec 8)), (k = none → b = []) ∧ ds = [slD k 1 b.length (b.map w8)] := by
  obtain ⟨k, l, h1, _, h3⟩ := ok_sl (f := fun x : BitVec 8 => [w8 x]) (R := fun _ => True) (fun ds h => ok_u8' h) h
  exact ⟨k, l, h1, by rw [h3, flatMap_one]; rfl⟩
theorem ok_words {n : Nat} {ds : List DV} (h : Ty.Ok (.arr n (.int .u8)) ds) : ∃ (b : List (BitVec 8)), b.length = n ∧ ds = b.map w8 := by
  obtain ⟨l, h1, _, h3⟩ := ok_arr (f := fun x : BitVec 8 => [w8 x]) (R := fun _ => True) (fun ds h => ok_u8' h) h
  exact ⟨l, h1, by rw [h3, flatMap_one]⟩
theorem ok_i64 {ds : List DV} (h : Ty.Ok (.int .i64) ds) : ∃ n : Int, (-9223372036854775808 ≤ n ∧ n ≤ 9223372036854775807) ∧ ds = [.int .i64 n] := by
  simp only [Ty.Ok] at h
  obtain ⟨n, rfl, hw⟩ := h
  exact ⟨n, by simpa [Lit.wf, IntKind.min, IntKind.max, IntKind.signed, IntKind.bits] using hw, rfl⟩
end Go.Am
