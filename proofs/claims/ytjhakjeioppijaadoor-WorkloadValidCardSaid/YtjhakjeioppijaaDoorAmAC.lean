/-
  The abstract machine, part 29: a call with pure arguments, seen from a state with objects: what it has laid stands behind them.
-/
import Derived.Test.YtjhakjeioppijaaDoorAmAB
set_option linter.unusedSimpArgs false
set_option linter.unusedVariables false
namespace Go.Am
open Go.RowKit

mutual
/-- objects renumbered -/
def shD (n : Nat) : DV → DV
  | .agg cs => .agg (shL n cs)
  | .tup cs => .tup (shL n cs)
  | .sl b s m cs => .sl b s m (shL n cs)
  | .ref cs => .ref (shL n cs)
  | .fn f a b => .fn f (shL n a) (shL n b)
  | .iface t v => .iface t (shD n v)
  | .ms id ver off s m lim => .ms (n + id) ver off s m lim
  | .mp id ver off => .mp (n + id) ver off
  | .int k m => .int k m
  | .bool b => .bool b
  | .str s => .str s
  | .nilp => .nilp
  | .nilm => .nilm
  | .nilf => .nilf
  | .nili => .nili
  | .nils => .nils
  | .junk => .junk
def shL (n : Nat) : List DV → List DV
  | [] => []
  | d :: r => shD n d :: shL n r
end
def shO (n : Nat) : AObj → AObj
  | .cells cs => .cells (shL n cs)
  | .dead => .dead
theorem shL_map (n : Nat) : ∀ (l : List DV), shL n l = l.map (shD n)
  | [] => rfl
  | d :: r => by simp only [shL, List.map_cons, shL_map n r]
theorem shL_length (n : Nat) (l : List DV) : (shL n l).length = l.length := by simp [shL_map]
mutual
theorem shD_pure (n : Nat) : ∀ (d : DV), pureD d = true → shD n d = d
  | .agg cs, h => by simp only [pureD] at h; simp only [shD, shL_pure n cs h]
  | .tup cs, h => by simp only [pureD] at h; simp only [shD, shL_pure n cs h]
  | .sl b s m cs, h => by simp only [pureD] at h; simp only [shD, shL_pure n cs h]
  | .ref cs, h => by simp only [pureD] at h; simp only [shD, shL_pure n cs h]
  | .fn f a b, h => by simp only [pureD, Bool.and_eq_true] at h; simp only [shD, shL_pure n a h.1, shL_pure n b h.2]
  | .iface t v, h => by simp only [pureD] at h; simp only [shD, shD_pure n v h]
  | .ms .., h => by simp [pureD] at h
  | .mp .., h => by simp [pureD] at h
  | .int .., _ => rfl
  | .bool .., _ => rfl
  | .str .., _ => rfl
  | .nilp, _ => rfl
  | .nilm, _ => rfl
  | .nilf, _ => rfl
  | .nili, _ => rfl
  | .nils, _ => rfl
  | .junk, _ => rfl
theorem shL_pure (n : Nat) : ∀ (l : List DV), pureL l = true → shL n l = l
  | [], _ => rfl
  | d :: r, h => by simp only [pureL, Bool.and_eq_true] at h; simp only [shL, shD_pure n d h.1, shL_pure n r h.2]
end

theorem shL_get {n : Nat} {ds : List DV} {i : Nat} (h : i < (shL n ds).length) : (shL n ds)[i] = shD n (ds[i]'(by rwa [shL_length] at h)) := by simp [shL_map]
theorem Rep.shift {E E' : Env} {X X' : Forb} {w : World} {v : Value} {d : DV} (h : Rep E' X w v d) (hX : ∀ b o, X' b o → X b o) : Rep (E ++ E') X' w v (shD E.length d) := by
  induction h with
  | int k n => exact .int k n
  | bool b => exact .bool b
  | str s l h => exact .str s l h
  | agg cs ds hl _ ih => exact .agg cs _ (by rw [shL_length]; exact hl) (fun i h1 h2 => by rw [shL_get]; exact ih i h1 (by rwa [shL_length] at h2))
  | tup cs ds hl _ ih => exact .tup cs _ (by rw [shL_length]; exact hl) (fun i h1 h2 => by rw [shL_get]; exact ih i h1 (by rwa [shL_length] at h2))
  | nilp => exact .nilp
  | nilm => exact .nilm
  | nilf => exact .nilf
  | nili => exact .nili
  | nils => exact .nils
  | sl full s n cap a ds cv hn hf hl hc hx _ ih =>
    exact .sl full s n cap a _ cv hn hf (by rw [shL_length]; exact hl) (fun i hi => hc i (by rwa [shL_length] at hi)) (fun i hi h' => hx i (by rwa [shL_length] at hi) (hX _ _ h')) (fun i h1 => by rw [shL_get]; exact ih i (by rwa [shL_length] at h1))
  | ref a ds cv hc hx _ ih =>
    exact .ref a _ cv (fun i hi => hc i (by rwa [shL_length] at hi)) (fun i hi h' => hx i (by rwa [shL_length] at hi) (hX _ _ h')) (fun i h1 => by rw [shL_get]; exact ih i (by rwa [shL_length] at h1))
  | fn f first captured df dc h1 h2 _ _ ih1 ih2 =>
    exact .fn f first captured _ _ (by rw [shL_length]; exact h1) (by rw [shL_length]; exact h2) (fun i a b => by rw [shL_get]; exact ih1 i a (by rwa [shL_length] at b)) (fun i a b => by rw [shL_get]; exact ih2 i a (by rwa [shL_length] at b))
  | iface t v d _ ih => exact .iface t v _ ih
  | ms id ver off s n lim a k cap hid h =>
    refine .ms _ ver off s n lim a k cap (by rw [List.length_append]; omega) (fun b L he => h b L ?_)
    rwa [List.getElem?_append_right (by omega), Nat.add_sub_cancel_left] at he
  | mp id ver off a hid h =>
    refine .mp _ ver off a (by rw [List.length_append]; omega) (fun b L he => h b L ?_)
    rwa [List.getElem?_append_right (by omega), Nat.add_sub_cancel_left] at he
  | junk v => exact .junk v

/-- **A CALL WITH PURE ARGUMENTS, from any state.** -/
theorem CallsA.new {P : Program} {g : FuncId} {args : List DV} {d : DV} {k : List AObj} (hp : pureL args = true) (hc : CallsA P g args [] (fun r h' => r = d ∧ h' = k)) (h : List AObj) :
    CallsA P g args h (fun r h' => r = shD h.length d ∧ h' = h ++ k.map (shO h.length)) := by
  refine fun X0 base w E vs hh hr => ?_
  have hlive : ∀ {id b L : Nat}, E[id]? = some (some (b, L)) → b < w.heap.size := fun hE => by
    obtain ⟨_, _, _, _, _, _, g, _⟩ := hh.live hE
    exact (Array.getElem?_eq_some_iff.1 g).1
  have hX : ∀ b o, FX X0 E b o → b < w.heap.size := by
    rintro b o (q | ⟨id, L, q⟩)
    · exact Nat.lt_of_lt_of_le (hh.x0 b o q) hh.size
    · exact hlive q
  have h0 : HeapRel (FX X0 E) w.heap.size w [] [] := ⟨rfl, hX, Nat.le_refl _, fun id cs hid => by simp at hid, fun id hid => by simp at hid, fun id id' b L b' L' _ h1 => by simp at h1⟩
  have hfx : ∀ b o, FX (FX X0 E) [] b o → FX X0 E b o := by
    rintro b o (q | ⟨id, L, q⟩)
    · exact q
    · simp at q
  refine (hc (FX X0 E) w.heap.size w [] vs h0 ⟨hr.1, fun i h1 h2 => ((hr.2 i h1 h2).env (pureL_get hp i h2)).less hfx⟩).mono fun e w' ⟨v, r, k', E', e1, ⟨er, ek⟩, e3, e4, e5⟩ => ?_
  subst er ek
  obtain ⟨hh', ht⟩ := below_trans hh e5.below
  have hlenE : E.length = h.length := hh.len
  have hlenE' : E'.length = k'.length := e3.len
  have hnew : ∀ {id b L : Nat}, E'[id]? = some (some (b, L)) → w.heap.size ≤ b := fun hE => by
    obtain ⟨_, _, _, _, _, q, _, _⟩ := e3.live hE
    exact q
  have hFX : ∀ b o, FX X0 (E ++ E') b o → FX (FX X0 E) E' b o := by
    rintro b o (q | ⟨id, L, q⟩)
    · exact .inl (.inl q)
    · by_cases hi : id < E.length
      · rw [List.getElem?_append_left hi] at q; exact .inl (.inr ⟨id, L, q⟩)
      · rw [List.getElem?_append_right (by omega)] at q; exact .inr ⟨_, L, q⟩
  have htr : Trans X0 base E w (E ++ E') w' := by
    refine ⟨⟨by rw [List.length_append]; omega, fun id hid b' L' h' => ?_⟩, ⟨fun a u hcu hx => ?_⟩, ht.below, ht.others⟩
    · rw [List.getElem?_append_left hid] at h'
      exact ht.env.at_ id hid b' L' h'
    · obtain ⟨q1, q2⟩ := ht.keep.cell a u hcu hx
      refine ⟨q1, fun q => ?_⟩
      rcases q with q | ⟨id, L, q⟩
      · exact q2 (.inl q)
      · by_cases hi : id < E.length
        · rw [List.getElem?_append_left hi] at q; exact q2 (.inr ⟨id, L, q⟩)
        · rw [List.getElem?_append_right (by omega)] at q
          have := hnew q
          have := cell_lt hcu
          omega
  refine ⟨v, shD h.length r, h ++ k'.map (shO h.length), E ++ E', e1, ⟨rfl, rfl⟩, ⟨by simp [hlenE, hlenE'], hh.x0, hh'.size, fun id cs hid => ?_, fun id hid => ?_, fun id id' b L b' L' hne h1 h2 => ?_⟩, ?_, htr⟩
  · by_cases hi : id < h.length
    · rw [List.getElem?_append_left hi] at hid
      obtain ⟨b, arr, t, g1, g2, g3, g4, g5⟩ := hh.cells id cs hid
      obtain ⟨b', arr', t', q1, q2, q3, q4, q5⟩ := hh'.cells id cs hid
      rw [g1] at q1
      simp only [Option.some.injEq, Prod.mk.injEq] at q1
      obtain ⟨rfl, _⟩ := q1
      have hbs := e5.below.block b (hlive g1)
      rw [hbs, g3] at q3
      simp only [Option.some.injEq, Obj.cells.injEq] at q3
      obtain ⟨rfl, rfl, _⟩ := q3
      exact ⟨b, arr, t, by rw [List.getElem?_append_left (by omega)]; exact g1, g2, by rw [hbs]; exact g3, g4, fun i h1 h2 => htr.rep (g5 i h1 h2)⟩
    · rw [List.getElem?_append_right (by omega), List.getElem?_map] at hid
      obtain ⟨o, ho, hoe⟩ := Option.map_eq_some_iff.1 hid
      cases o with
      | dead => simp [shO] at hoe
      | cells cs0 =>
        simp only [shO, AObj.cells.injEq] at hoe
        subst hoe
        obtain ⟨b, arr, t, g1, g2, g3, g4, g5⟩ := e3.cells _ cs0 ho
        refine ⟨b, arr, t, by rw [List.getElem?_append_right (by omega), hlenE, shL_length]; exact g1, Nat.le_trans hh.size g2, g3, by rw [shL_length]; exact g4, fun i h1 h2 => ?_⟩
        have := Rep.shift (E := E) (g5 i (by rwa [shL_length] at h1) h2) hFX
        rw [hlenE] at this
        rw [shL_get]
        exact this
  · by_cases hi : id < h.length
    · rw [List.getElem?_append_left hi] at hid
      rw [List.getElem?_append_left (by omega)]
      exact hh.dead id hid
    · rw [List.getElem?_append_right (by omega), List.getElem?_map] at hid
      obtain ⟨o, ho, hoe⟩ := Option.map_eq_some_iff.1 hid
      cases o with
      | cells cs0 => simp [shO] at hoe
      | dead => rw [List.getElem?_append_right (by omega), hlenE]; exact e3.dead _ ho
  · by_cases hi : id < E.length
    · rw [List.getElem?_append_left hi] at h1
      by_cases hi' : id' < E.length
      · rw [List.getElem?_append_left hi'] at h2; exact hh.apart _ _ _ _ _ _ hne h1 h2
      · rw [List.getElem?_append_right (by omega)] at h2
        have := hlive h1; have := hnew h2; omega
    · rw [List.getElem?_append_right (by omega)] at h1
      by_cases hi' : id' < E.length
      · rw [List.getElem?_append_left hi'] at h2
        have := hlive h2; have := hnew h1; omega
      · rw [List.getElem?_append_right (by omega)] at h2
        exact e3.apart _ _ _ _ _ _ (by omega) h1 h2
  · rw [← hlenE]
    exact e4.shift hFX

open Classical in
/-- a contract of a call that lays new objects: for all data a with A a: at the arguments f a it answers and lays g a -/
noncomputable def conN {α : Type} (A : α → Prop) (f : α → List DV) (g : α → DV × List AObj) (args : List DV) (n : Nat) : Option (DV × List AObj) :=
  if h : ∃ a, A a ∧ f a = args then some (shD n (g h.choose).1, (g h.choose).2.map (shO n)) else none
theorem conN_eq {α : Type} {A : α → Prop} {f : α → List DV} {g : α → DV × List AObj} (hinj : ∀ a b, f a = f b → g a = g b) (a : α) (ha : A a) (n : Nat) : conN A f g (f a) n = some (shD n (g a).1, (g a).2.map (shO n)) := by
  have h : ∃ b, A b ∧ f b = f a := ⟨a, ha, rfl⟩
  unfold conN
  rw [dif_pos h, hinj _ _ h.choose_spec.2]
theorem conN_sound {P : Program} {k : FuncId} {α : Type} {A : α → Prop} {f : α → List DV} {g : α → DV × List AObj} (hp : ∀ a, A a → pureL (f a) = true) (hs : ∀ a, A a → CallsA P k (f a) [] (fun d h => d = (g a).1 ∧ h = (g a).2)) : (Con.new (conN A f g)).Sound P k := by
  intro args h v k' hv
  unfold conN at hv
  split at hv
  · rename_i hx
    simp only [Option.some.injEq, Prod.mk.injEq] at hv
    obtain ⟨rfl, rfl⟩ := hv
    have := (hs _ hx.choose_spec.1).new (hp _ hx.choose_spec.1) h
    rw [hx.choose_spec.2] at this
    exact this
  · simp at hv
theorem shD_int {n : Nat} {k : IntKind} {m : Int} : shD n (.int k m) = .int k m := rfl
theorem shD_agg {n : Nat} {cs : List DV} : shD n (.agg cs) = .agg (shL n cs) := rfl
theorem shD_tup {n : Nat} {cs : List DV} : shD n (.tup cs) = .tup (shL n cs) := rfl
theorem shD_ms {n id ver off s m lim : Nat} : shD n (.ms id ver off s m lim) = .ms (n + id) ver off s m lim := rfl
theorem shD_mp {n id ver off : Nat} : shD n (.mp id ver off) = .mp (n + id) ver off := rfl
theorem shL_nil {n : Nat} : shL n [] = [] := rfl
theorem shL_cons {n : Nat} {d : DV} {r : List DV} : shL n (d :: r) = shD n d :: shL n r := rfl
theorem shO_cells {n : Nat} {cs : List DV} : shO n (.cells cs) = .cells (shL n cs) := rfl
theorem shD_nils {n : Nat} : shD n .nils = .nils := rfl
attribute [simp] shD_int shD_agg shD_tup shD_ms shD_mp shL_nil shL_cons shO_cells shD_nils
end Go.Am
