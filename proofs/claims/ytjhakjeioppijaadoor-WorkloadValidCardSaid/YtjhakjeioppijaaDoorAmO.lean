/-
  The abstract machine, part 15: pure data, snapshots of objects, contracts of functions.
-/
import Derived.Test.YtjhakjeioppijaaDoorAmN
set_option linter.unusedSimpArgs false
set_option linter.unusedVariables false
namespace Go.Am
open Go.RowKit

mutual
/-- no reference to an object -/
def pureD : DV → Bool
  | .agg cs => pureL cs
  | .tup cs => pureL cs
  | .sl _ _ _ cs => pureL cs
  | .ref cs => pureL cs
  | .fn _ a b => pureL a && pureL b
  | .iface _ v => pureD v
  | .ms .. => false
  | .mp .. => false
  | _ => true
def pureL : List DV → Bool
  | [] => true
  | d :: r => pureD d && pureL r
end
mutual
/-- no memory at all -/
def scal : DV → Bool
  | .agg cs => scalL cs
  | .tup cs => scalL cs
  | .iface _ v => scal v
  | .fn _ a b => scalL a && scalL b
  | .sl .. => false
  | .ref .. => false
  | .ms .. => false
  | .mp .. => false
  | _ => true
def scalL : List DV → Bool
  | [] => true
  | d :: r => scal d && scalL r
end
mutual
def snapW (f : DV → Option DV) : DV → Option DV
  | .agg cs => (snapWL f cs).map .agg
  | .tup cs => (snapWL f cs).map .tup
  | .sl b s n cs => (snapWL f cs).map (.sl b s n)
  | .ref cs => (snapWL f cs).map .ref
  | .fn g a b => (snapWL f a).bind fun a => (snapWL f b).map fun b => .fn g a b
  | .iface t v => (snapW f v).map (.iface t)
  | .ms a b c d e l => f (.ms a b c d e l)
  | .mp a b c => f (.mp a b c)
  | d => some d
def snapWL (f : DV → Option DV) : List DV → Option (List DV)
  | [] => some []
  | d :: r => (snapW f d).bind fun d => (snapWL f r).map fun r => d :: r
end

/-- an object's cells as pure data -/
def snap (h : List AObj) : Nat → DV → Option DV
  | 0, d => snapW (fun _ => none) d
  | k + 1, d => snapW (fun d => match d with
    | .ms id ver off s n _ => (objAt h id).bind fun l => if l.length = ver then (mapAll (snap h k) ((l.drop off).take (n * s))).map fun cs => .sl false s n cs else none
    | .mp id ver off => (objAt h id).bind fun l => if l.length = ver then (mapAll (snap h k) (l.drop off)).map .ref else none
    | _ => none) d
def snapL (h : List AObj) (k : Nat) (l : List DV) : Option (List DV) := mapAll (snap h k) l

mutual
theorem snapW_pure (f : DV → Option DV) : ∀ (d : DV), pureD d = true → snapW f d = some d
  | .agg cs, h => by simp only [pureD] at h; simp [snapW, snapWL_pure f cs h]
  | .tup cs, h => by simp only [pureD] at h; simp [snapW, snapWL_pure f cs h]
  | .sl b s n cs, h => by simp only [pureD] at h; simp [snapW, snapWL_pure f cs h]
  | .ref cs, h => by simp only [pureD] at h; simp [snapW, snapWL_pure f cs h]
  | .fn g a b, h => by simp only [pureD, Bool.and_eq_true] at h; simp [snapW, snapWL_pure f a h.1, snapWL_pure f b h.2]
  | .iface t v, h => by simp only [pureD] at h; simp [snapW, snapW_pure f v h]
  | .ms .., h => by simp [pureD] at h
  | .mp .., h => by simp [pureD] at h
  | .int .., _ => rfl
  | .bool .., _ => rfl
  | .str .., _ => rfl
  | .nilp, _ => rfl
  | .nilm, _ => rfl
  | .nilf, _ => rfl
  | .nili, _ => rfl
  | .nils, _ => rfl
  | .junk, _ => rfl
theorem snapWL_pure (f : DV → Option DV) : ∀ (l : List DV), pureL l = true → snapWL f l = some l
  | [], _ => rfl
  | d :: r, h => by simp only [pureL, Bool.and_eq_true] at h; simp [snapWL, snapW_pure f d h.1, snapWL_pure f r h.2]
end
theorem snap_pure (h : List AObj) (k : Nat) {d : DV} (hp : pureD d = true) : snap h k d = some d := by
  cases k <;> exact snapW_pure _ d hp

theorem pureL_get : ∀ {l : List DV}, pureL l = true → ∀ i (h : i < l.length), pureD l[i] = true
  | [], _, i, h => by simp at h
  | d :: r, hp, i, h => by
    simp only [pureL, Bool.and_eq_true] at hp
    cases i with
    | zero => exact hp.1
    | succ i => exact pureL_get hp.2 i (by simpa using h)
theorem scalL_get : ∀ {l : List DV}, scalL l = true → ∀ i (h : i < l.length), scal l[i] = true
  | [], _, i, h => by simp at h
  | d :: r, hp, i, h => by
    simp only [scalL, Bool.and_eq_true] at hp
    cases i with
    | zero => exact hp.1
    | succ i => exact scalL_get hp.2 i (by simpa using h)

/-- pure data does not hang on the objects -/
theorem Rep.env {E E' : Env} {X : Forb} {w : World} {v : Value} {d : DV} (h : Rep E X w v d) (hp : pureD d = true) : Rep E' X w v d := by
  induction h with
  | int k n => exact .int k n
  | bool b => exact .bool b
  | str s l h => exact .str s l h
  | agg cs ds hl _ ih => simp only [pureD] at hp; exact .agg cs ds hl (fun i h1 h2 => ih i h1 h2 (pureL_get hp i h2))
  | tup cs ds hl _ ih => simp only [pureD] at hp; exact .tup cs ds hl (fun i h1 h2 => ih i h1 h2 (pureL_get hp i h2))
  | nilp => exact .nilp
  | nilm => exact .nilm
  | nilf => exact .nilf
  | nili => exact .nili
  | nils => exact .nils
  | sl full s n cap a ds cv hn hf hl hc hx _ ih => simp only [pureD] at hp; exact .sl full s n cap a ds cv hn hf hl hc hx (fun i h1 => ih i h1 (pureL_get hp i h1))
  | ref a ds cv hc hx _ ih => simp only [pureD] at hp; exact .ref a ds cv hc hx (fun i h1 => ih i h1 (pureL_get hp i h1))
  | fn f first captured df dc h1 h2 _ _ ih1 ih2 =>
    simp only [pureD, Bool.and_eq_true] at hp
    exact .fn f first captured df dc h1 h2 (fun i a b => ih1 i a b (pureL_get hp.1 i b)) (fun i a b => ih2 i a b (pureL_get hp.2 i b))
  | iface t v d _ ih => simp only [pureD] at hp; exact .iface t v d (ih hp)
  | ms => simp [pureD] at hp
  | mp => simp [pureD] at hp
  | junk v => exact .junk v

/-- without objects everything is pure -/
theorem Rep.of_nil {E' : Env} {X : Forb} {w : World} {v : Value} {d : DV} (h : Rep [] X w v d) : Rep E' X w v d := by
  induction h with
  | int k n => exact .int k n
  | bool b => exact .bool b
  | str s l h => exact .str s l h
  | agg cs ds hl _ ih => exact .agg cs ds hl ih
  | tup cs ds hl _ ih => exact .tup cs ds hl ih
  | nilp => exact .nilp
  | nilm => exact .nilm
  | nilf => exact .nilf
  | nili => exact .nili
  | nils => exact .nils
  | sl full s n cap a ds cv hn hf hl hc hx _ ih => exact .sl full s n cap a ds cv hn hf hl hc hx ih
  | ref a ds cv hc hx _ ih => exact .ref a ds cv hc hx ih
  | fn f first captured df dc h1 h2 _ _ ih1 ih2 => exact .fn f first captured df dc h1 h2 ih1 ih2
  | iface t v d _ ih => exact .iface t v d ih
  | ms id ver off s n lim a k cap hid => simp at hid
  | mp id ver off a hid => simp at hid
  | junk v => exact .junk v

theorem Rep.scal {E E' : Env} {X X' : Forb} {w w' : World} {v : Value} {d : DV} (h : Rep E X w v d) (hp : Am.scal d = true) : Rep E' X' w' v d := by
  induction h with
  | int k n => exact .int k n
  | bool b => exact .bool b
  | str s l h => exact .str s l h
  | agg cs ds hl _ ih => simp only [Am.scal] at hp; exact .agg cs ds hl (fun i h1 h2 => ih i h1 h2 (scalL_get hp i h2))
  | tup cs ds hl _ ih => simp only [Am.scal] at hp; exact .tup cs ds hl (fun i h1 h2 => ih i h1 h2 (scalL_get hp i h2))
  | nilp => exact .nilp
  | nilm => exact .nilm
  | nilf => exact .nilf
  | nili => exact .nili
  | nils => exact .nils
  | sl => simp [Am.scal] at hp
  | ref => simp [Am.scal] at hp
  | fn f first captured df dc h1 h2 _ _ ih1 ih2 =>
    simp only [Am.scal, Bool.and_eq_true] at hp
    exact .fn f first captured df dc h1 h2 (fun i a b => ih1 i a b (scalL_get hp.1 i b)) (fun i a b => ih2 i a b (scalL_get hp.2 i b))
  | iface t v d _ ih => simp only [Am.scal] at hp; exact .iface t v d (ih hp)
  | ms => simp [Am.scal] at hp
  | mp => simp [Am.scal] at hp
  | junk v => exact .junk v

theorem Rep.less {E : Env} {X X' : Forb} {w : World} {v : Value} {d : DV} (h : Rep E X w v d) (hX : ∀ b o, X' b o → X b o) : Rep E X' w v d :=
  h.mono (ERel.refl E w) ⟨fun a _ hc hx => ⟨hc, fun h' => hx (hX _ _ h')⟩⟩

theorem snapWL_get {f : DV → Option DV} : ∀ {l r : List DV}, snapWL f l = some r → l.length = r.length ∧ ∀ i (h1 : i < l.length) (h2 : i < r.length), snapW f l[i] = some r[i]
  | [], r, h => by simp [snapWL] at h; subst h; exact ⟨rfl, fun i h1 => by simp at h1⟩
  | d :: l, r, h => by
    simp only [snapWL, Option.bind_eq_some_iff, Option.map_eq_some_iff] at h
    obtain ⟨d', h1, r', h2, rfl⟩ := h
    obtain ⟨g1, g2⟩ := snapWL_get h2
    refine ⟨by simp [g1], fun i a b => ?_⟩
    cases i with
    | zero => exact h1
    | succ i => exact g2 i (by simpa using a) (by simpa using b)

theorem snapW_sound {E E2 : Env} {X X' : Forb} {w : World} {f : DV → Option DV} (hX : ∀ b o, X' b o → X b o)
    (hms : ∀ v a b c e g l d', Rep E X w v (.ms a b c e g l) → f (.ms a b c e g l) = some d' → Rep E2 X' w v d') (hmp : ∀ v a b c d', Rep E X w v (.mp a b c) → f (.mp a b c) = some d' → Rep E2 X' w v d')
    {v : Value} {d : DV} (h : Rep E X w v d) : ∀ {d' : DV}, snapW f d = some d' → Rep E2 X' w v d' := by
  induction h with
  | int k n => intro d' hs; simp [snapW] at hs; subst hs; exact .int k n
  | bool b => intro d' hs; simp [snapW] at hs; subst hs; exact .bool b
  | str s l h => intro d' hs; simp [snapW] at hs; subst hs; exact .str s l h
  | agg cs ds hl _ ih =>
    intro d' hs
    simp only [snapW, Option.map_eq_some_iff] at hs
    obtain ⟨r, hr, rfl⟩ := hs
    obtain ⟨g1, g2⟩ := snapWL_get hr
    exact .agg cs r (by omega) (fun i h1 h2 => ih i h1 (by omega) (g2 i (by omega) h2))
  | tup cs ds hl _ ih =>
    intro d' hs
    simp only [snapW, Option.map_eq_some_iff] at hs
    obtain ⟨r, hr, rfl⟩ := hs
    obtain ⟨g1, g2⟩ := snapWL_get hr
    exact .tup cs r (by omega) (fun i h1 h2 => ih i h1 (by omega) (g2 i (by omega) h2))
  | nilp => intro d' hs; simp [snapW] at hs; subst hs; exact .nilp
  | nilm => intro d' hs; simp [snapW] at hs; subst hs; exact .nilm
  | nilf => intro d' hs; simp [snapW] at hs; subst hs; exact .nilf
  | nili => intro d' hs; simp [snapW] at hs; subst hs; exact .nili
  | nils => intro d' hs; simp [snapW] at hs; subst hs; exact .nils
  | sl full s n cap a ds cv hn hf hl hc hx _ ih =>
    intro d' hs
    simp only [snapW, Option.map_eq_some_iff] at hs
    obtain ⟨r, hr, rfl⟩ := hs
    obtain ⟨g1, g2⟩ := snapWL_get hr
    exact .sl full s n cap a r cv hn hf (by omega) (fun i hi => hc i (by omega)) (fun i hi h' => hx i (by omega) (hX _ _ h')) (fun i h1 => ih i (by omega) (g2 i (by omega) h1))
  | ref a ds cv hc hx _ ih =>
    intro d' hs
    simp only [snapW, Option.map_eq_some_iff] at hs
    obtain ⟨r, hr, rfl⟩ := hs
    obtain ⟨g1, g2⟩ := snapWL_get hr
    exact .ref a r cv (fun i hi => hc i (by omega)) (fun i hi h' => hx i (by omega) (hX _ _ h')) (fun i h1 => ih i (by omega) (g2 i (by omega) h1))
  | fn g first captured df dc h1 h2 _ _ ih1 ih2 =>
    intro d' hs
    simp only [snapW, Option.bind_eq_some_iff, Option.map_eq_some_iff] at hs
    obtain ⟨r, hr, r', hr', rfl⟩ := hs
    obtain ⟨g1, g2⟩ := snapWL_get hr
    obtain ⟨g3, g4⟩ := snapWL_get hr'
    exact .fn g first captured r r' (by omega) (by omega) (fun i a b => ih1 i a (by omega) (g2 i (by omega) b)) (fun i a b => ih2 i a (by omega) (g4 i (by omega) b))
  | iface t v d _ ih =>
    intro d' hs
    simp only [snapW, Option.map_eq_some_iff] at hs
    obtain ⟨r, hr, rfl⟩ := hs
    exact .iface t v r (ih hr)
  | ms id ver off s n lim a k cap hid h => intro d' hs; simp only [snapW] at hs; exact hms _ _ _ _ _ _ _ _ (.ms id ver off s n lim a k cap hid h) hs
  | mp id ver off a hid h => intro d' hs; simp only [snapW] at hs; exact hmp _ _ _ _ _ (.mp id ver off a hid h) hs
  | junk v => intro d' hs; simp [snapW] at hs; subst hs; exact .junk v

theorem mapAll_rep {E E2 : Env} {X X' : Forb} {w : World} {g : DV → Option DV} : ∀ {vs : List Value} {ds r : List DV}, RepA E X w vs ds → (∀ v d d', Rep E X w v d → g d = some d' → Rep E2 X' w v d') → mapAll g ds = some r → RepA E2 X' w vs r := by
  intro vs ds r hR hg hm
  obtain ⟨h1, h2⟩ := mapAll_some hm
  exact ⟨by rw [hR.1, h1], fun i a b => hg _ _ _ (hR.2 i a (by omega)) (h2 i (by omega) b)⟩

theorem snap_sound {X0 : Forb} {base : Nat} {w : World} {h : List AObj} {E : Env} (hh : HeapRel X0 base w h E) : ∀ (k : Nat) {v : Value} {d d' : DV}, Rep E (FX X0 E) w v d → snap h k d = some d' → Rep [] X0 w v d'
  | 0, v, d, d', hr, hs => snapW_sound (fun b o h' => .inl h') (fun _ _ _ _ _ _ _ _ _ h' => by simp at h') (fun _ _ _ _ _ _ h' => by simp at h') hr hs
  | k + 1, v, d, d', hr, hs => by
    have hobj : ∀ {id b L : Nat}, E[id]? = some (some (b, L)) → ∀ o, ¬ X0 b o := fun hE o hx => by
      obtain ⟨_, _, _, _, _, hb, _, _⟩ := hh.live hE
      have := hh.x0 _ _ hx
      omega
    refine snapW_sound (fun b o h' => .inl h') (fun v id ver off s n lim d' hr' h' => ?_) (fun v id ver off d' hr' h' => ?_) hr hs
    · simp only [Option.bind_eq_some_iff] at h'
      obtain ⟨l, hl, h'⟩ := h'
      split at h'
      · rename_i hver
        obtain ⟨cs, hcs, rfl⟩ := Option.map_eq_some_iff.1 h'
        obtain ⟨b, arr, ty, cap, a, e1, e2, e3, e4, rfl, k1, k2, k3, k4, k5⟩ := ms_inv hh hr' hl hver
        have hR := mapAll_rep ((e4.drop off).take (n * s)) (fun v d d' q1 q2 => snap_sound hh k q1 q2) hcs
        have hlen : cs.length = n * s := by rw [← hR.1]; simp; omega
        refine sl_mk hR k1 (fun hf => by simp at hf) hlen (fun j u hj => ?_) (fun i hi => ?_)
        · have hj' : j < n * s := by have := (List.getElem?_eq_some_iff.1 hj).1; simp at this; omega
          have hcap : 0 < cap := by
            rcases Nat.eq_zero_or_pos cap with z | z
            · have : n = 0 := by omega
              subst this; simp at hj'
            · exact z
          rw [k3 hcap, add_mk, cell_of_block e2]
          rw [List.getElem?_take, if_pos hj', List.getElem?_drop, List.getElem?_take] at hj
          split at hj
          · simpa using hj
          · simp at hj
        · have hcap : 0 < cap := by
            rcases Nat.eq_zero_or_pos cap with z | z
            · have : n = 0 := by omega
              subst this; rw [hlen] at hi; simp at hi
            · exact z
          rw [k3 hcap]
          exact hobj e1 _
      · simp at h'
    · simp only [Option.bind_eq_some_iff] at h'
      obtain ⟨l, hl, h'⟩ := h'
      split at h'
      · rename_i hver
        obtain ⟨cs, hcs, rfl⟩ := Option.map_eq_some_iff.1 h'
        obtain ⟨b, arr, ty, e1, e2, e3, e4, rfl⟩ := mp_inv hh hr' hl hver
        have hR := mapAll_rep (e4.drop off) (fun v d d' q1 q2 => snap_sound hh k q1 q2) hcs
        refine ref_mk hR (fun j u hj => ?_) (fun i hi => hobj e1 _)
        rw [add_mk, cell_of_block e2]
        rw [List.getElem?_drop, List.getElem?_take] at hj
        split at hj
        · simpa using hj
        · simp at hj
      · simp at h'

/-- the call is of Go text -/
def Ent (P : Program) (f : FuncId) : Prop := ∀ args w, (callFunc f args).run P w = .ok (.enter f args) w

theorem ent_of {P : Program} {f : FuncId} {fn : Func} {c : Code} (hf : P.funcs[f]? = some fn) (hname : (fn.name == "runtime.NumGoroutine") = false) (hb : fn.body = some c) : Ent P f := by
  intro args w
  have hn : ¬ fn.name = "runtime.NumGoroutine" := by simpa using hname
  simp [callFunc, hf, hn, hb]

/-- a call of f: it enters Go text, or it is answered at once (a function without a body) -/
def Does (P : Program) (f : FuncId) (vs : Array Value) (w : World) (Φ : Ending → World → Prop) : Prop :=
  ((callFunc f vs).run P w = .ok (.enter f vs) w ∧ Calls P f vs w Φ) ∨ ∃ v w', (callFunc f vs).run P w = .ok (.value v) w' ∧ Φ (.returned v) w'
theorem Does.mono {P : Program} {f : FuncId} {vs : Array Value} {w : World} {Φ Φ' : Ending → World → Prop} (h : Does P f vs w Φ) (hm : ∀ e w', Φ e w' → Φ' e w') : Does P f vs w Φ' := by
  rcases h with ⟨h1, h2⟩ | ⟨v, w', h1, h2⟩
  · exact .inl ⟨h1, h2.mono hm⟩
  · exact .inr ⟨v, w', h1, hm _ _ h2⟩
theorem Does.of_ent {P : Program} {f : FuncId} {vs : Array Value} {w : World} {Φ : Ending → World → Prop} (he : Ent P f) (h : Calls P f vs w Φ) : Does P f vs w Φ := .inl ⟨he vs w, h⟩
theorem Does.calls {P : Program} {f : FuncId} {vs : Array Value} {w : World} {Φ : Ending → World → Prop} (he : Ent P f) (h : Does P f vs w Φ) : Calls P f vs w Φ := by
  rcases h with ⟨_, h⟩ | ⟨v, w', h1, _⟩
  · exact h
  · rw [he vs w] at h1; simp at h1

/-- **A PURE CONTRACT**: of whatever values stand for these data, the call returns a value that stands for that datum; nothing that was there has changed. -/
def Sem (P : Program) (f : FuncId) (args : List DV) (r : DV) : Prop :=
  ∀ (X : Forb) (w : World) (vs : Array Value), (∀ b o, X b o → b < w.heap.size) → RepA [] X w vs.toList args →
    Does P f vs w (fun e w' => ∃ v, e = .returned v ∧ Rep [] X w' v r ∧ Below w.heap.size w w')

/-- a call in a state with objects -/
def CallsA (P : Program) (f : FuncId) (args : List DV) (h : List AObj) (Ψ : DV → List AObj → Prop) : Prop :=
  ∀ (X0 : Forb) (base : Nat) (w : World) (E : Env) (vs : Array Value), HeapRel X0 base w h E → RepA E (FX X0 E) w vs.toList args →
    Does P f vs w (fun e w' => ∃ v r h' E', e = .returned v ∧ Ψ r h' ∧ HeapRel X0 base w' h' E' ∧ Rep E' (FX X0 E') w' v r ∧ Trans X0 base E w E' w')

theorem CallsA.mono {P : Program} {f : FuncId} {args : List DV} {h : List AObj} {Ψ Ψ' : DV → List AObj → Prop} (hc : CallsA P f args h Ψ) (hm : ∀ r h', Ψ r h' → Ψ' r h') : CallsA P f args h Ψ' :=
  fun X0 base w E vs hh hr => (hc X0 base w E vs hh hr).mono fun _ _ ⟨v, r, h', E', e1, e2, e3, e4, e5⟩ => ⟨v, r, h', E', e1, hm _ _ e2, e3, e4, e5⟩

/-- a pure call, at these data -/
def PureCall (P : Program) (f : FuncId) (args : List DV) (h : List AObj) (r : DV) : Prop :=
  (pureL args = true ∧ Sem P f args r) ∨ (scal r = true ∧ ∃ args', snapL h 3 args = some args' ∧ Sem P f args' r)

theorem below_trans {X0 : Forb} {base : Nat} {w w' : World} {h : List AObj} {E : Env} (hh : HeapRel X0 base w h E) (hb : Below w.heap.size w w') : HeapRel X0 base w' h E ∧ Trans X0 base E w E w' := by
  have hlive : ∀ {id b L : Nat}, E[id]? = some (some (b, L)) → b < w.heap.size := fun hE => by
    obtain ⟨_, _, _, _, _, _, g, _⟩ := hh.live hE
    exact (Array.getElem?_eq_some_iff.1 g).1
  have ht : Trans X0 base E w E w' := by
    refine ⟨⟨Nat.le_refl _, fun id hid b' L' h' => ⟨b', L', h', Nat.le_refl _, fun _ => ⟨rfl, fun c t fr hc => ⟨c, t, fr, ?_, rfl⟩⟩⟩⟩, ⟨fun a v hc hx => ⟨?_, hx⟩⟩, hb.mono hh.size, ⟨hb.size, fun k o hk _ => (hb.block k (Array.getElem?_eq_some_iff.1 hk).1).trans hk⟩⟩
    · rw [← hb.block _ (hlive h')]; exact hc
    · rw [hb.cell (cell_lt hc)]; exact hc
  refine ⟨⟨hh.len, hh.x0, Nat.le_trans hh.size hb.size, fun id cs hid => ?_, hh.dead, hh.apart⟩, ht⟩
  obtain ⟨b, arr, t, g1, g2, g3, g4, g5⟩ := hh.cells id cs hid
  exact ⟨b, arr, t, g1, g2, by rw [hb.block _ (hlive g1)]; exact g3, g4, fun i h1 h2 => ht.rep (g5 i h1 h2)⟩

theorem PureCall.calls {P : Program} {f : FuncId} {args : List DV} {h : List AObj} {r : DV} (hp : PureCall P f args h r) {X0 : Forb} {base : Nat} {w : World} {E : Env} (hh : HeapRel X0 base w h E) {vs : Array Value} (hr : RepA E (FX X0 E) w vs.toList args) :
    Does P f vs w (fun e w' => ∃ v, e = .returned v ∧ HeapRel X0 base w' h E ∧ Rep E (FX X0 E) w' v r ∧ Trans X0 base E w E w') := by
  have hlive : ∀ {id b L : Nat}, E[id]? = some (some (b, L)) → b < w.heap.size := fun hE => by
    obtain ⟨_, _, _, _, _, _, g, _⟩ := hh.live hE
    exact (Array.getElem?_eq_some_iff.1 g).1
  have hsz := hh.size
  rcases hp with ⟨hpu, hs⟩ | ⟨hsc, args', hsn, hs⟩
  · refine (hs (FX X0 E) w vs (fun b o hx => ?_) ⟨hr.1, fun i h1 h2 => (hr.2 i h1 h2).env (pureL_get hpu i h2)⟩).mono fun e w' ⟨v, e1, e2, e3⟩ => ?_
    · rcases hx with g | ⟨id, L, g⟩
      · have := hh.x0 _ _ g; omega
      · exact hlive g
    · obtain ⟨g1, g2⟩ := below_trans hh e3
      exact ⟨v, e1, g1, e2.of_nil, g2⟩
  · refine (hs X0 w vs (fun b o hx => by have := hh.x0 _ _ hx; omega) (mapAll_rep hr (fun v d d' q1 q2 => snap_sound hh 3 q1 q2) hsn)).mono fun e w' ⟨v, e1, e2, e3⟩ => ?_
    obtain ⟨g1, g2⟩ := below_trans hh e3
    exact ⟨v, e1, g1, e2.scal hsc, g2⟩

theorem callsA_pure {P : Program} {f : FuncId} {args : List DV} {h : List AObj} {r : DV} {Ψ : DV → List AObj → Prop} (hp : PureCall P f args h r) (hΨ : Ψ r h) : CallsA P f args h Ψ := by
  exact fun X0 base w E vs hh hr => (hp.calls hh hr).mono fun e w' ⟨v, e1, e2, e3, e4⟩ => ⟨v, r, h, E, e1, hΨ, e2, e3, e4⟩
end Go.Am
