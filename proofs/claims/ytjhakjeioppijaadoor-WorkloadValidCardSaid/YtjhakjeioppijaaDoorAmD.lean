/-
  The abstract machine, part 4: the world's steps: reading cells, a new object, a store, an append that grows.
-/
import Derived.Test.YtjhakjeioppijaaDoorAmC
set_option linter.unusedSimpArgs false
set_option linter.unusedVariables false
namespace Go.Am
open Go.RowKit

def RepA (E : Env) (X : Forb) (w : World) (cs : List Value) (ds : List DV) : Prop :=
  cs.length = ds.length ∧ ∀ i (h1 : i < cs.length) (h2 : i < ds.length), Rep E X w cs[i] ds[i]

theorem RepA.nil {E X w} : RepA E X w [] [] := ⟨rfl, fun i h1 _ => by simp at h1⟩
theorem RepA.mono {E X w E' X' w'} {cs : List Value} {ds : List DV} (h : RepA E X w cs ds) (he : ERel E w E' w') (hk : Keep X w X' w') : RepA E' X' w' cs ds :=
  ⟨h.1, fun i h1 h2 => (h.2 i h1 h2).mono he hk⟩
theorem RepA.take {E X w} {cs : List Value} {ds : List DV} (h : RepA E X w cs ds) (n : Nat) : RepA E X w (cs.take n) (ds.take n) := by
  refine ⟨by simp [h.1], fun i h1 h2 => ?_⟩
  simp only [List.getElem_take]
  exact h.2 i (by simp at h1; omega) (by simp at h2; omega)
theorem RepA.drop {E X w} {cs : List Value} {ds : List DV} (h : RepA E X w cs ds) (n : Nat) : RepA E X w (cs.drop n) (ds.drop n) := by
  refine ⟨by simp [h.1], fun i h1 h2 => ?_⟩
  simp only [List.getElem_drop]
  exact h.2 (n + i) (by simp at h1; omega) (by simp at h2; omega)
theorem RepA.append {E X w} {cs cs' : List Value} {ds ds' : List DV} (h : RepA E X w cs ds) (k : RepA E X w cs' ds') : RepA E X w (cs ++ cs') (ds ++ ds') := by
  refine ⟨by simp [h.1, k.1], fun i h1 h2 => ?_⟩
  by_cases hi : i < cs.length
  · rw [List.getElem_append_left hi, List.getElem_append_left (by rw [← h.1]; exact hi)]
    exact h.2 i hi (by rw [← h.1]; exact hi)
  · rw [List.getElem_append_right (by omega), List.getElem_append_right (by rw [← h.1]; omega)]
    have e := h.1
    simp only [← e]
    exact k.2 _ (by simp at h1; omega) (by simp at h2; omega)
theorem RepA.cons {E X w} {c : Value} {d : DV} {cs : List Value} {ds : List DV} (h : Rep E X w c d) (k : RepA E X w cs ds) : RepA E X w (c :: cs) (d :: ds) := by
  refine ⟨by simp [k.1], fun i h1 h2 => ?_⟩
  cases i with
  | zero => exact h
  | succ i => exact k.2 i (by simpa using h1) (by simpa using h2)
theorem RepA.head {E X w} {c : Value} {d : DV} {cs : List Value} {ds : List DV} (k : RepA E X w (c :: cs) (d :: ds)) : Rep E X w c d := k.2 0 (by simp) (by simp)
theorem RepA.tail {E X w} {c : Value} {d : DV} {cs : List Value} {ds : List DV} (k : RepA E X w (c :: cs) (d :: ds)) : RepA E X w cs ds := by simpa using k.drop 1
theorem RepA.of_agg {E X w} {cs : Array Value} {ds : List DV} (h : Rep E X w (.agg cs) (.agg ds)) : RepA E X w cs.toList ds := by
  cases h with
  | agg _ _ hl h => exact ⟨by simpa using hl, fun i h1 h2 => by simpa using h i (by simpa using h1) h2⟩
theorem RepA.agg {E X w} {cs : List Value} {ds : List DV} (h : RepA E X w cs ds) : Rep E X w (.agg cs.toArray) (.agg ds) :=
  .agg _ _ (by simpa using h.1) (fun i h1 h2 => by simpa using h.2 i (by simpa using h1) h2)
theorem RepA.tup {E X w} {cs : List Value} {ds : List DV} (h : RepA E X w cs ds) : Rep E X w (.tuple cs.toArray) (.tup ds) :=
  .tup _ _ (by simpa using h.1) (fun i h1 h2 => by simpa using h.2 i (by simpa using h1) h2)

/-- a value's cells, where its datum is known -/
theorem Rep.cells {E X w} {v : Value} {d : DV} (h : Rep E X w v d) (hk : d.known = true) : RepA E X w v.cells.toList d.cells := by
  cases h with
  | agg cs ds hl h => exact RepA.of_agg (.agg cs ds hl h)
  | junk v => simp [DV.known] at hk
  | _ => exact RepA.cons (by constructor <;> assumption) RepA.nil

theorem Rep.oneCell {E X w} {v : Value} {d : DV} (h : Rep E X w v d) (h1 : d.one = true) : v.oneCell' = true := by
  cases h <;> first | rfl | simp [DV.one] at h1

theorem RepA.oneCells {E X w} {cs : List Value} {ds : List DV} (h : RepA E X w cs ds) (h1 : ds.all DV.one = true) : ∀ v ∈ cs, v.oneCell' = true := by
  intro v hv
  obtain ⟨i, hi, rfl⟩ := List.mem_iff_getElem.1 hv
  have h2 : i < ds.length := by rw [← h.1]; exact hi
  exact (h.2 i hi h2).oneCell (List.all_eq_true.1 h1 _ (List.getElem_mem h2))

theorem const1 {E X w} {v : Value} {d : DV} (h : constDV1 v = some d) : Rep E X w v d := by
  unfold constDV1 at h
  split at h <;> (simp at h; try subst h) <;> first | (constructor; done) | (constructor; rfl)
theorem mapAll_some {α β : Type} {f : α → Option β} : ∀ {l : List α} {r : List β}, mapAll f l = some r → l.length = r.length ∧ ∀ i (h1 : i < l.length) (h2 : i < r.length), f l[i] = some r[i]
  | [], r, h => by simp [mapAll] at h; subst h; exact ⟨rfl, fun i h1 => by simp at h1⟩
  | a :: l, r, h => by
    simp only [mapAll, Option.bind_eq_some_iff, Option.map_eq_some_iff] at h
    obtain ⟨b, hb, r', hr, rfl⟩ := h
    obtain ⟨h1, h2⟩ := mapAll_some hr
    refine ⟨by simp [h1], fun i h3 h4 => ?_⟩
    cases i with
    | zero => exact hb
    | succ i => exact h2 i (by simpa using h3) (by simpa using h4)
theorem constA {E X w} {vs : List Value} {ds : List DV} (h : mapAll constDV1 vs = some ds) : RepA E X w vs ds :=
  let ⟨h1, h2⟩ := mapAll_some h
  ⟨h1, fun i a b => const1 (h2 i a b)⟩
theorem const {E X w} {v : Value} {d : DV} (h : constDV v = some d) : Rep E X w v d := by
  unfold constDV at h
  split at h
  · rename_i cs
    obtain ⟨l, hl, rfl⟩ := Option.map_eq_some_iff.1 h
    simpa using (constA (E := E) (X := X) (w := w) hl).agg
  · exact const1 h

theorem objAt_some {h : List AObj} {id : Nat} {l : List DV} (e : objAt h id = some l) : h[id]? = some (.cells l) := by
  unfold objAt at e
  split at e
  · simp at e; subst e; assumption
  · simp at e

theorem add_add (a : Addr) (i j : Nat) : (a.add i).add j = a.add (i + j) := by
  unfold Addr.add
  by_cases hi : i = 0 <;> by_cases hj : j = 0 <;> simp_all [Nat.add_assoc]
theorem add_mk (b o i : Nat) : (⟨b, o, none⟩ : Addr).add i = ⟨b, o + i, none⟩ := by
  unfold Addr.add; split <;> simp_all

variable {X0 : Forb} {base : Nat} {w : World} {h : List AObj} {E : Env}

/-- what lies at an object -/
theorem HeapRel.obj (hh : HeapRel X0 base w h E) {id : Nat} {l : List DV} (e : objAt h id = some l) :
    ∃ b arr t, E[id]? = some (some (b, l.length)) ∧ base ≤ b ∧ w.heap[b]? = some (.cells arr t (0, 0)) ∧ l.length ≤ arr.size ∧ RepA E (FX X0 E) w (arr.toList.take l.length) l := by
  obtain ⟨b, arr, t, h1, h2, h3, h4, h5⟩ := hh.cells id l (objAt_some e)
  refine ⟨b, arr, t, h1, h2, h3, h4, by simp; omega, fun i g1 g2 => ?_⟩
  simp only [List.getElem_take, Array.getElem_toList]
  exact h5 i g2 (by omega)

theorem cell_of_block {b : Nat} {arr : Array Value} {t : TypeId} {fr : Nat × Nat} (hb : w.heap[b]? = some (.cells arr t fr)) (j : Nat) : w.cell? ⟨b, j, none⟩ = arr[j]? := by
  simp [World.cell?, hb]

theorem vis_sound (hh : HeapRel X0 base w h E) {v : Value} {d : DV} (hr : Rep E (FX X0 E) w v d) {cs : List DV} (hv : vis h d = some cs) :
    ∃ a vs, v = .pointer (some a) ∧ RepA E (FX X0 E) w vs cs ∧ ∀ j u, vs[j]? = some u → w.cell? (a.add j) = some u := by
  cases hr with
  | ref a ds cv hc hx hr =>
    simp [vis] at hv; subst hv
    refine ⟨a, (List.range ds.length).map cv, rfl, ⟨by simp, fun i h1 h2 => by simpa using hr i h2⟩, fun j u hj => ?_⟩
    obtain ⟨hj1, hj2⟩ := List.getElem?_eq_some_iff.1 hj
    simp at hj1 hj2
    rw [← hj2]; exact hc j hj1
  | mp id ver off a hid hm =>
    simp only [vis, Option.bind_eq_some_iff] at hv
    obtain ⟨l, hl, hv⟩ := hv
    split at hv
    · rename_i hver
      simp at hv; subst hv
      obtain ⟨b, arr, t, e1, e2, e3, e4, e5⟩ := hh.obj hl
      obtain ⟨_, g⟩ := hm b l.length e1
      have ga := g hver.symm
      subst ga
      refine ⟨⟨b, off, none⟩, (arr.toList.take l.length).drop off, rfl, e5.drop off, fun j u hj => ?_⟩
      rw [add_mk, cell_of_block e3]
      rw [List.getElem?_drop, List.getElem?_take] at hj
      split at hj
      · simpa using hj
      · simp at hj
    · simp at hv
  | _ => simp [vis] at hv

theorem visS_sound (hh : HeapRel X0 base w h E) {v : Value} {d : DV} (hr : Rep E (FX X0 E) w v d) {n : Nat} {cs : List DV} (hv : visS h d = some (n, cs)) :
    ∃ a cap vs, v = .slice a n cap ∧ n ≤ cap ∧ RepA E (FX X0 E) w vs cs ∧ (a = none → n = 0 ∧ vs = []) ∧ ∀ ad, a = some ad → ∀ j u, vs[j]? = some u → w.cell? (ad.add j) = some u := by
  cases hr with
  | nils => simp [visS] at hv; obtain ⟨rfl, rfl⟩ := hv; exact ⟨none, 0, [], rfl, Nat.le_refl _, RepA.nil, fun _ => ⟨rfl, rfl⟩, fun ad e => by simp at e⟩
  | sl full s m cap a ds cv hn hf hl hc hx hr =>
    simp [visS] at hv; obtain ⟨rfl, rfl⟩ := hv
    refine ⟨some a, cap, (List.range ds.length).map cv, rfl, hn, ⟨by simp, fun i h1 h2 => by simpa using hr i h2⟩, fun e => by simp at e, fun ad e j u hj => ?_⟩
    simp at e; subst e
    obtain ⟨hj1, hj2⟩ := List.getElem?_eq_some_iff.1 hj
    simp at hj1 hj2
    rw [← hj2]; exact hc j hj1
  | ms id ver off s m lim a k cap hid hm =>
    simp only [visS, Option.bind_eq_some_iff] at hv
    obtain ⟨l, hl, hv⟩ := hv
    split at hv
    · rename_i hver
      simp at hv; obtain ⟨rfl, rfl⟩ := hv
      obtain ⟨b, arr, t, e1, e2, e3, e4, e5⟩ := hh.obj hl
      obtain ⟨_, g⟩ := hm b l.length e1
      obtain ⟨g1, g2, g3, ⟨a', g4, g5⟩, g6, g7⟩ := g hver.symm
      subst g3 g4
      refine ⟨some a', cap, ((arr.toList.take l.length).drop off).take (k * s), rfl, g2, (e5.drop off).take (k * s), fun e => by simp at e, fun ad e j u hj => ?_⟩
      simp at e; subst e
      rw [List.getElem?_take] at hj
      split at hj
      · rename_i hj1
        have hk : 0 < cap := by
          rcases Nat.eq_zero_or_pos cap with h0 | h0
          · have : k = 0 := by omega
            subst this; simp at hj1
          · exact h0
        rw [g5 hk, add_mk, cell_of_block e3]
        rw [List.getElem?_drop, List.getElem?_take] at hj
        split at hj
        · simpa using hj
        · simp at hj
      · simp at hj
    · simp at hv
  | _ => simp [visS] at hv

theorem FX_new {b o : Nat} {x : Nat × Nat} (hf : FX X0 (E ++ [some x]) b o) : FX X0 E b o ∨ b = x.1 := by
  rcases hf with hf | ⟨id, L, hid⟩
  · exact .inl (.inl hf)
  · rw [List.getElem?_append] at hid
    split at hid
    · exact .inl (.inr ⟨id, L, hid⟩)
    · rename_i hge
      have : id - E.length = 0 := by
        rcases Nat.eq_zero_or_pos (id - E.length) with h0 | h0
        · exact h0
        · rw [List.getElem?_eq_none (by simp; omega)] at hid; simp at hid
      simp [this] at hid
      exact .inr (by rw [hid])

theorem cell_lt {a : Addr} {v : Value} (hc : w.cell? a = some v) : a.block < w.heap.size := World.block_lt_of_cell? w a hc

/-- a new block that is no object -/
theorem trans_alloc (hh : HeapRel X0 base w h E) (o : Obj) : Trans X0 base E w E (w.alloc o) := by
  refine ⟨⟨Nat.le_refl _, fun id hid b' L' h' => ⟨b', L', h', Nat.le_refl _, fun _ => ⟨rfl, fun c t fr hc => ?_⟩⟩⟩, ⟨fun a v hc hx => ⟨?_, hx⟩⟩, (Below.refl base w).alloc hh.size o, .alloc w o⟩
  · by_cases hb : b' < w.heap.size
    · exact ⟨c, t, fr, by rwa [Below.heap_alloc w o b' hb] at hc, rfl⟩
    · exfalso
      have hE : id < h.length := by rw [← hh.len]; exact hid
      cases ho : h[id] with
      | cells cs =>
        obtain ⟨b, arr, t0, g1, _, g3, _⟩ := hh.cells id cs (by rw [List.getElem?_eq_getElem hE, ho])
        rw [h'] at g1; simp at g1; rw [← g1.1] at g3
        exact hb (Array.getElem?_eq_some_iff.1 g3).1
      | dead => have := hh.dead id (by rw [List.getElem?_eq_getElem hE, ho]); rw [h'] at this; simp at this
  · rw [World.cell?_alloc_lt w o a (cell_lt hc)]; exact hc

theorem HeapRel.alloc (hh : HeapRel X0 base w h E) (o : Obj) : HeapRel X0 base (w.alloc o) h E := by
  have ht := trans_alloc hh o
  refine ⟨hh.len, hh.x0, by have := hh.size; simp; omega, fun id cs hid => ?_, hh.dead, hh.apart⟩
  obtain ⟨b, arr, t, g1, g2, g3, g4, g5⟩ := hh.cells id cs hid
  exact ⟨b, arr, t, g1, g2, by rw [Below.heap_alloc w o b (Array.getElem?_eq_some_iff.1 g3).1]; exact g3, g4, fun i h1 h2 => ht.rep (g5 i h1 h2)⟩

theorem trans_drew (X0 : Forb) (base : Nat) (E : Env) (w : World) : Trans X0 base E w E w.drew :=
  ⟨⟨Nat.le_refl _, fun _ _ b' L' h' => ⟨b', L', h', Nat.le_refl _, fun _ => ⟨rfl, fun c t fr hc => ⟨c, t, fr, hc, rfl⟩⟩⟩⟩, ⟨fun _ _ hc hx => ⟨hc, hx⟩⟩, (Below.refl base w).drew, .drew w⟩
theorem HeapRel.drew (hh : HeapRel X0 base w h E) : HeapRel X0 base w.drew h E :=
  ⟨hh.len, hh.x0, hh.size, fun id cs hid => let ⟨b, arr, t, g1, g2, g3, g4, g5⟩ := hh.cells id cs hid
    ⟨b, arr, t, g1, g2, g3, g4, fun i h1 h2 => (trans_drew X0 base E w).rep (g5 i h1 h2)⟩, hh.dead, hh.apart⟩

/-- live objects lie in blocks that are there -/
theorem HeapRel.live (hh : HeapRel X0 base w h E) {id b L : Nat} (hid : E[id]? = some (some (b, L))) : ∃ cs arr t, h[id]? = some (.cells cs) ∧ L = cs.length ∧ base ≤ b ∧ w.heap[b]? = some (.cells arr t (0, 0)) ∧ cs.length ≤ arr.size := by
  have hE : id < h.length := by rw [← hh.len]; exact (List.getElem?_eq_some_iff.1 hid).1
  cases ho : h[id] with
  | cells cs =>
    have hc : h[id]? = some (.cells cs) := by rw [List.getElem?_eq_getElem hE, ho]
    obtain ⟨b', arr, t0, g1, g2, g3, g4, _⟩ := hh.cells id cs hc
    rw [hid] at g1; simp at g1
    exact ⟨cs, arr, t0, hc, g1.2, g1.1 ▸ g2, g1.1 ▸ g3, g4⟩
  | dead => have := hh.dead id (by rw [List.getElem?_eq_getElem hE, ho]); rw [hid] at this; simp at this

/-- a new object -/
theorem obj_new (hh : HeapRel X0 base w h E) {vs : List Value} {cs : List DV} (hr : RepA E (FX X0 E) w vs cs) (more : List Value) (t : TypeId) :
    HeapRel X0 base (w.alloc (.cells (vs ++ more).toArray t)) (h ++ [.cells cs]) (E ++ [some (w.heap.size, cs.length)]) ∧
    Trans X0 base E w (E ++ [some (w.heap.size, cs.length)]) (w.alloc (.cells (vs ++ more).toArray t)) := by
  have hold : ∀ (id b L : Nat), E[id]? = some (some (b, L)) → b < w.heap.size := fun id b L hid => by
    obtain ⟨_, _, _, _, _, _, g, _⟩ := hh.live hid
    exact (Array.getElem?_eq_some_iff.1 g).1
  have hx : ∀ a v, w.cell? a = some v → ¬ FX X0 E a.block a.off → ¬ FX X0 (E ++ [some (w.heap.size, cs.length)]) a.block a.off := fun a v hc hn hf => by
    rcases FX_new hf with g | g
    · exact hn g
    · have := cell_lt hc; simp at g; omega
  have ht : Trans X0 base E w (E ++ [some (w.heap.size, cs.length)]) (w.alloc (.cells (vs ++ more).toArray t)) := by
    refine ⟨⟨by simp, fun id hid b' L' h' => ?_⟩, ⟨fun a v hc hn => ⟨?_, hx a v hc hn⟩⟩, (Below.refl base w).alloc hh.size _, .alloc w _⟩
    · rw [List.getElem?_append_left hid] at h'
      refine ⟨b', L', h', Nat.le_refl _, fun _ => ⟨rfl, fun c t' fr hc => ⟨c, t', fr, ?_, rfl⟩⟩⟩
      rwa [Below.heap_alloc w _ b' (hold id b' L' h')] at hc
    · rw [World.cell?_alloc_lt w _ a (cell_lt hc)]; exact hc
  refine ⟨⟨by simp [hh.len], hh.x0, by have := hh.size; simp; omega, fun id ds hid => ?_, fun id hid => ?_, fun id id' b L b' L' hne h1 h2 => ?_⟩, ht⟩
  · rw [List.getElem?_append] at hid
    split at hid
    · rename_i hlt
      obtain ⟨b, arr, t', g1, g2, g3, g4, g5⟩ := hh.cells id ds hid
      refine ⟨b, arr, t', ?_, g2, ?_, g4, fun i h1 h2 => ht.rep (g5 i h1 h2)⟩
      · rw [List.getElem?_append_left (by rw [hh.len]; exact hlt)]; exact g1
      · rw [Below.heap_alloc w _ b (Array.getElem?_eq_some_iff.1 g3).1]; exact g3
    · rename_i hge
      have h0 : id - h.length = 0 := by
        rcases Nat.eq_zero_or_pos (id - h.length) with h0 | h0
        · exact h0
        · rw [List.getElem?_eq_none (by simp; omega)] at hid; simp at hid
      have he : id = E.length := by rw [hh.len]; omega
      simp [h0] at hid; subst hid
      refine ⟨w.heap.size, (vs ++ more).toArray, t, ?_, hh.size, ?_, ?_, fun i h1 h2 => ?_⟩
      · subst he; simp
      · exact heap_alloc_new w _
      · have := hr.1; simp; omega
      · have h3 : i < vs.length := by rw [hr.1]; exact h1
        have e : (vs ++ more).toArray[i]'h2 = vs[i] := by simp [List.getElem_append_left h3]
        rw [e]; exact ht.rep (hr.2 i h3 h1)
  · rw [List.getElem?_append] at hid
    split at hid
    · rename_i hlt
      rw [List.getElem?_append_left (by rw [hh.len]; exact hlt)]; exact hh.dead id hid
    · rename_i hge
      have h0 : id - h.length = 0 := by
        rcases Nat.eq_zero_or_pos (id - h.length) with h0 | h0
        · exact h0
        · rw [List.getElem?_eq_none (by simp; omega)] at hid; simp at hid
      simp [h0] at hid
  · have key : ∀ (j c M : Nat), (E ++ [some (w.heap.size, cs.length)])[j]? = some (some (c, M)) → (j < E.length ∧ E[j]? = some (some (c, M)) ∧ c < w.heap.size) ∨ (j = E.length ∧ c = w.heap.size) := by
      intro j c M hj
      rw [List.getElem?_append] at hj
      split at hj
      · rename_i hlt; exact .inl ⟨hlt, hj, hold j c M hj⟩
      · rename_i hge
        have h0 : j - E.length = 0 := by
          rcases Nat.eq_zero_or_pos (j - E.length) with h0 | h0
          · exact h0
          · rw [List.getElem?_eq_none (by simp; omega)] at hj; simp at hj
        simp [h0] at hj
        exact .inr ⟨by omega, hj.1.symm⟩
    rcases key _ _ _ h1 with ⟨_, k1, l1⟩ | ⟨k1, l1⟩ <;> rcases key _ _ _ h2 with ⟨_, k2, l2⟩ | ⟨k2, l2⟩
    · exact hh.apart id id' b L b' L' hne k1 k2
    · omega
    · omega
    · omega

theorem FX_set {id b L L' : Nat} (hid : E[id]? = some (some (b, L))) {b' o : Nat} : FX X0 (E.set id (some (b, L'))) b' o ↔ FX X0 E b' o := by
  have hlt : id < E.length := (List.getElem?_eq_some_iff.1 hid).1
  constructor
  · rintro (h1 | ⟨j, M, hj⟩)
    · exact .inl h1
    · by_cases e : id = j
      · subst e; rw [List.getElem?_set_self hlt] at hj; simp at hj; exact .inr ⟨id, L, by rw [hid, hj.1]⟩
      · rw [List.getElem?_set_ne e] at hj; exact .inr ⟨j, M, hj⟩
  · rintro (h1 | ⟨j, M, hj⟩)
    · exact .inl h1
    · by_cases e : id = j
      · subst e; rw [hid] at hj; simp at hj; exact .inr ⟨id, L', by rw [List.getElem?_set_self hlt, hj.1]⟩
      · exact .inr ⟨j, M, by rw [List.getElem?_set_ne e]; exact hj⟩

theorem others_setRow {w : World} {b : Nat} {arr : Array Value} {t : TypeId} (hb : w.heap[b]? = some (.cells arr t (0, 0))) (arr' : Array Value) : KeepsOthers w (w.setRow b arr') :=
  ⟨by simp, fun k o hk ho => by
    by_cases e : k = b
    · subst e; rw [hb] at hk; cases hk; cases ho
    · rw [setRow_other w b k arr' e]; exact hk⟩
/-- a store into a live object; it may grow within its block -/
theorem obj_write (hh : HeapRel X0 base w h E) {id b : Nat} {l : List DV} {arr arr' : Array Value} {t : TypeId} (ho : objAt h id = some l) (hE : E[id]? = some (some (b, l.length)))
    (hb : w.heap[b]? = some (.cells arr t (0, 0))) (hs : arr'.size = arr.size) {l' : List DV} (h1 : l.length ≤ l'.length) (h2 : l'.length ≤ arr.size)
    (hr : RepA E (FX X0 E) w (arr'.toList.take l'.length) l') :
    HeapRel X0 base (w.setRow b arr') (h.set id (.cells l')) (E.set id (some (b, l'.length))) ∧ Trans X0 base E w (E.set id (some (b, l'.length))) (w.setRow b arr') := by
  have hlt : id < E.length := (List.getElem?_eq_some_iff.1 hE).1
  have hlt' : id < h.length := by rw [← hh.len]; exact hlt
  obtain ⟨cs0, arr0, t0, q1, q2, hbase, q4, q5⟩ := hh.live hE
  have ht : Trans X0 base E w (E.set id (some (b, l'.length))) (w.setRow b arr') := by
    refine ⟨⟨by simp, fun j hj b' L' hj' => ?_⟩, ⟨fun a v hc hn => ?_⟩, ⟨rfl, rfl, rfl, by simp, fun k hk => setRow_other w b k arr' (by omega)⟩, others_setRow hb arr'⟩
    · by_cases e : id = j
      · subst e; rw [List.getElem?_set_self hlt] at hj'; simp at hj'
        refine ⟨b, l.length, hE, by omega, fun e => ⟨hj'.1, fun c t' fr hc => ⟨arr, t, (0, 0), hb, ?_⟩⟩⟩
        rw [← hj'.1, setRow_heap w b arr arr' t (0, 0) hb] at hc
        simp at hc; rw [← hc.1, hs]
      · rw [List.getElem?_set_ne e] at hj'
        refine ⟨b', L', hj', Nat.le_refl _, fun _ => ⟨rfl, fun c t' fr hc => ⟨c, t', fr, ?_, rfl⟩⟩⟩
        rwa [setRow_other w b b' arr' (hh.apart _ _ _ _ _ _ (Ne.symm e) hj' hE)] at hc
    · have hne : a.block ≠ b := fun e => hn (.inr ⟨id, l.length, by rw [hE, e]⟩)
      exact ⟨by rw [cell_setRow_other w b arr' a hne]; exact hc, fun hf => hn ((FX_set hE).1 hf)⟩
  refine ⟨⟨by simp [hh.len], hh.x0, by have := hh.size; simpa using this, fun j cs hj => ?_, fun j hj => ?_, fun j j' c M c' M' hne g1 g2 => ?_⟩, ht⟩
  · by_cases e : id = j
    · subst e; rw [List.getElem?_set_self hlt'] at hj; simp at hj; subst hj
      refine ⟨b, arr', t, List.getElem?_set_self hlt, hbase, setRow_heap w b arr arr' t (0, 0) hb, by omega, fun i g1 g2 => ht.rep ?_⟩
      have := hr.2 i (by simp; omega) g1
      simpa using this
    · rw [List.getElem?_set_ne e] at hj
      obtain ⟨c, ar, t', g1, g2, g3, g4, g5⟩ := hh.cells j cs hj
      refine ⟨c, ar, t', by rw [List.getElem?_set_ne e]; exact g1, g2, ?_, g4, fun i k1 k2 => ht.rep (g5 i k1 k2)⟩
      rw [setRow_other w b c arr' (hh.apart _ _ _ _ _ _ (Ne.symm e) g1 hE)]; exact g3
  · by_cases e : id = j
    · subst e; rw [List.getElem?_set_self hlt'] at hj; simp at hj
    · rw [List.getElem?_set_ne e] at hj ⊢; exact hh.dead j hj
  · have key : ∀ (j c M : Nat), (E.set id (some (b, l'.length)))[j]? = some (some (c, M)) → ∃ M', E[j]? = some (some (c, M')) := by
      intro j c M hj
      by_cases e : id = j
      · subst e; rw [List.getElem?_set_self hlt] at hj; simp at hj; exact ⟨l.length, by rw [hE, hj.1]⟩
      · rw [List.getElem?_set_ne e] at hj; exact ⟨M, hj⟩
    obtain ⟨_, k1⟩ := key _ _ _ g1
    obtain ⟨_, k2⟩ := key _ _ _ g2
    exact hh.apart _ _ _ _ _ _ hne k1 k2

/-- an object moves into a new block and grows -/
theorem obj_move (hh : HeapRel X0 base w h E) {id b : Nat} {l : List DV} (ho : objAt h id = some l) (hE : E[id]? = some (some (b, l.length)))
    {l' : List DV} (h1 : l.length < l'.length) {vs : List Value} (hr : RepA E (FX X0 E) w vs l') (more : List Value) (t : TypeId) :
    HeapRel X0 base (w.alloc (.cells (vs ++ more).toArray t)) (h.set id (.cells l')) (E.set id (some (w.heap.size, l'.length))) ∧
    Trans X0 base E w (E.set id (some (w.heap.size, l'.length))) (w.alloc (.cells (vs ++ more).toArray t)) := by
  have hlt : id < E.length := (List.getElem?_eq_some_iff.1 hE).1
  have hlt' : id < h.length := by rw [← hh.len]; exact hlt
  have hold : ∀ (id b L : Nat), E[id]? = some (some (b, L)) → b < w.heap.size := fun id b L hid => by
    obtain ⟨_, _, _, _, _, _, g, _⟩ := hh.live hid
    exact (Array.getElem?_eq_some_iff.1 g).1
  have key : ∀ (j c M : Nat), (E.set id (some (w.heap.size, l'.length)))[j]? = some (some (c, M)) → (j = id ∧ c = w.heap.size) ∨ (j ≠ id ∧ E[j]? = some (some (c, M)) ∧ c < w.heap.size) := by
    intro j c M hj
    by_cases e : id = j
    · subst e; rw [List.getElem?_set_self hlt] at hj; simp at hj; exact .inl ⟨rfl, hj.1.symm⟩
    · rw [List.getElem?_set_ne e] at hj; exact .inr ⟨Ne.symm e, hj, hold _ _ _ hj⟩
  have ht : Trans X0 base E w (E.set id (some (w.heap.size, l'.length))) (w.alloc (.cells (vs ++ more).toArray t)) := by
    refine ⟨⟨by simp, fun j hj b' L' hj' => ?_⟩, ⟨fun a v hc hn => ⟨?_, fun hf => hn ?_⟩⟩, (Below.refl base w).alloc hh.size _, .alloc w _⟩
    · by_cases e : id = j
      · subst e; rw [List.getElem?_set_self hlt] at hj'; simp at hj'
        exact ⟨b, l.length, hE, by omega, fun e => by omega⟩
      · rw [List.getElem?_set_ne e] at hj'
        refine ⟨b', L', hj', Nat.le_refl _, fun _ => ⟨rfl, fun c t' fr hc => ⟨c, t', fr, ?_, rfl⟩⟩⟩
        rwa [Below.heap_alloc w _ b' (hold _ _ _ hj')] at hc
    · rw [World.cell?_alloc_lt w _ a (cell_lt hc)]; exact hc
    · rcases hf with g | ⟨j, M, hj⟩
      · exact .inl g
      · rcases key _ _ _ hj with ⟨_, g⟩ | ⟨_, g, _⟩
        · have := cell_lt hc; omega
        · exact .inr ⟨j, M, g⟩
  refine ⟨⟨by simp [hh.len], hh.x0, by have := hh.size; simp; omega, fun j cs hj => ?_, fun j hj => ?_, fun j j' c M c' M' hne g1 g2 => ?_⟩, ht⟩
  · by_cases e : id = j
    · subst e; rw [List.getElem?_set_self hlt'] at hj; simp at hj; subst hj
      refine ⟨w.heap.size, (vs ++ more).toArray, t, List.getElem?_set_self hlt, hh.size, heap_alloc_new w _, by have := hr.1; simp; omega, fun i g1 g2 => ?_⟩
      have h3 : i < vs.length := by rw [hr.1]; exact g1
      have e : (vs ++ more).toArray[i]'g2 = vs[i] := by simp [List.getElem_append_left h3]
      rw [e]; exact ht.rep (hr.2 i h3 g1)
    · rw [List.getElem?_set_ne e] at hj
      obtain ⟨c, ar, t', g1, g2, g3, g4, g5⟩ := hh.cells j cs hj
      refine ⟨c, ar, t', by rw [List.getElem?_set_ne e]; exact g1, g2, ?_, g4, fun i k1 k2 => ht.rep (g5 i k1 k2)⟩
      rw [Below.heap_alloc w _ c (hold _ _ _ g1)]; exact g3
  · by_cases e : id = j
    · subst e; rw [List.getElem?_set_self hlt'] at hj; simp at hj
    · rw [List.getElem?_set_ne e] at hj ⊢; exact hh.dead j hj
  · rcases key _ _ _ g1 with ⟨k1, l1⟩ | ⟨k1, m1, l1⟩ <;> rcases key _ _ _ g2 with ⟨k2, l2⟩ | ⟨k2, m2, l2⟩
    · omega
    · omega
    · omega
    · exact hh.apart _ _ _ _ _ _ hne m1 m2
end Go.Am
