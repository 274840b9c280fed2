/-
  The abstract machine, part 19: for walking: calls by a table of contracts, and wrappers that simp cannot look through.
-/
import Derived.Test.YtjhakjeioppijaaDoorAmQ
set_option linter.unusedSimpArgs false
set_option linter.unusedVariables false
namespace Go.Am
open Go.RowKit

/-- what is known of a function -/
inductive Con where
  | none
  | pure (c : List DV → Option DV)
  | heap (c : List DV → List AObj → Option (DV × List AObj))
  | new (c : List DV → Nat → Option (DV × List AObj))
  | seq (ok : Int → Bool) (s : IntKind → Int → Option (List Int))

abbrev Tbl := Nat → Con

def Con.Sound (P : Program) (g : FuncId) : Con → Prop
  | .none => True
  | .pure c => ∀ args v, c args = some v → Am.Sem P g args v
  | .heap c => ∀ args h v h', c args h = some (v, h') → CallsA P g args h (fun d k => d = v ∧ k = h')
  | .new c => ∀ args (h : List AObj) v k, c args h.length = some (v, k) → CallsA P g args h (fun d h' => d = v ∧ h' = h ++ k)
  | .seq ok s => ∀ k n l, s k n = some l → ∃ xs : List { x : Int // ok x = true }, xs.map (·.1) = l ∧ SeqSem P g k n (fun x : { x : Int // ok x = true } => .int .i64 x.1) xs

def Tbl.Sound (P : Program) (T : Tbl) : Prop := ∀ g, (T g).Sound P g

def tbl0 : Tbl := fun _ => .none
def addT (g : Nat) (c : Con) (T : Tbl) : Tbl := fun g' => if g' = g then c else T g'

theorem tbl0_sound {P : Program} : Tbl.Sound P tbl0 := fun _ => trivial
theorem addT_sound {P : Program} {g : Nat} {c : Con} {T : Tbl} (hc : c.Sound P g) (hT : T.Sound P) : (addT g c T).Sound P := by
  intro g'
  by_cases e : g' = g
  · subst e; simp only [addT, if_true]; exact hc
  · simp only [addT, if_neg e]; exact hT g'
theorem addT_same {g : Nat} {c : Con} {T : Tbl} : addT g c T g = c := by simp [addT]
theorem addT_ne {g g' : Nat} {c : Con} {T : Tbl} (h : g' ≠ g) : addT g c T g' = T g' := by simp [addT, h]

def pureC (c : List DV → Option DV) (args : List DV) (h : List AObj) : Option DV :=
  if pureL args = true then c args else (snapL h 3 args).bind fun a => (c a).bind fun v => if scal v = true then some v else none

theorem pureC_call {P : Program} {g : FuncId} {c : List DV → Option DV} (hc : ∀ args v, c args = some v → Am.Sem P g args v) {args : List DV} {h : List AObj} {v : DV} (hv : pureC c args h = some v) : PureCall P g args h v := by
  unfold pureC at hv
  split at hv
  · rename_i hp
    exact .inl ⟨hp, hc _ _ hv⟩
  · simp only [Option.bind_eq_some_iff] at hv
    obtain ⟨a, ha, v', hv', hs⟩ := hv
    split at hs
    · rename_i hs'
      simp at hs; subst hs
      exact .inr ⟨hs', a, ha, hc _ _ hv'⟩
    · simp at hs

def callD (c : Con) (draw : Bool) (args : List DV) (h : List AObj) : Option (DV × List AObj) :=
  match c with
  | .pure c => (pureC c args h).map fun v => (v, h)
  | .heap c => if draw = true then none else c args h
  | .new c => if draw = true then none else (c args h.length).map fun p => (p.1, h ++ p.2)
  | .none => none
  | .seq .. => none
/-- in a drawn region -/
def callDN (c : Con) (args : List DV) (h : List AObj) : Option (DV × List AObj) :=
  match c with
  | .pure c => (pureC c args h).map fun v => (v, h)
  | .new c => (c args h.length).map fun p => (p.1, h ++ p.2)
  | _ => none
def callFN (T : Tbl) (f : DV) (args : List DV) (h : List AObj) : Option (DV × List AObj) :=
  match f with
  | .fn (.func g) a b => callDN (T g) (a ++ args ++ b) h
  | _ => none

def callF (T : Tbl) (draw : Bool) (f : DV) (args : List DV) (h : List AObj) : Option (DV × List AObj) :=
  match f with
  | .fn (.func g) a b => callD (T g) draw (a ++ args ++ b) h
  | _ => none

def evAll (T : Tbl) (draw : Bool) (op : AOp) (t : List DV) (h : List AObj) : Option (DV × List AObj) :=
  match op with
  | .call f args => callF T draw (ev t f) (args.map (ev t)) h
  | .callN f args => if draw = true then callFN T (ev t f) (args.map (ev t)) h else none
  | op => evOp op t h

def dops (T : Tbl) (draw : Bool) : List AOper → List DV → List AObj → (St → Prop) → Prop
  | [], t, h, Φ => Φ ⟨t, h⟩
  | o :: r, t, h, Φ => guardP t o.g
      (match evAll T draw o.op t h with
       | some (d, h') => dops T draw r (putT t o.d d) h' Φ
       | none => False)
      (dops T draw r (putT t o.d (.tup [])) h Φ)

def dwp (T : Tbl) (n0 : Nat) : ACode → (AExit → St → Prop) → St → Prop
  | .skip, Φ, st => Φ .normal st
  | .region draw ops, Φ, st => dops T draw ops st.t st.h (Φ .normal)
  | .seq a b, Φ, st => dwp T n0 a (fun e st => match e with | .normal => dwp T n0 b Φ st | e => Φ e st) st
  | .cond c x y, Φ, st => match ev st.t c with
    | .bool b => (b = true → dwp T n0 x Φ st) ∧ (b = false → dwp T n0 y Φ st)
    | _ => False
  | .block id c, Φ, st => dwp T n0 c (fun e st => match e with | .exit i => if i = id then Φ .normal st else Φ (.exit i) st | e => Φ e st) st
  | .loop c, Φ, st => ∃ (I : Nat → St → Prop) (n : Nat) (st0 : St), Weak n0 st st0 ∧ I n st0 ∧
      ∀ n st, I n st → dwp T n0 c (fun e st' => match e with | .normal => ∃ n' st'', Weak n0 st' st'' ∧ n' < n ∧ I n' st'' | e => Φ e st') st
  | .exit id, Φ, st => Φ (.exit id) st
  | .ret, Φ, st => Φ .ret st
  | .rangeF f p d c, Φ, st => (simpleC c = true ∧ p < st.t.length) ∧ ∃ (g id : Nat) (ok : Int → Bool) (s : IntKind → Int → Option (List Int)) (k : IntKind) (n : Int) (l : List Int) (I : List Int → List AObj → Prop), ev st.t f = .fn (.func g) [] [.mp id 1 0] ∧ T g = .seq ok s ∧ s k n = some l ∧
      (∀ pre h, I pre h → objAt h id = some [.int k n]) ∧ I [] st.h ∧
      (∀ pre x h, ok x = true → pre.length < l.length → I pre h → dwp T n0 c (fun e st' => match e with | .normal => I (pre ++ [x]) st'.h | _ => False) ⟨(st.t.set p (.int .i64 x)).set d (.int .i64 x), h⟩) ∧
      (∀ h, I l h → Φ .normal ⟨st.t, h⟩)

theorem guardP_mono {t : List DV} {g : Option (Nat × Bool)} {a b a' b' : Prop} (h : guardP t g a b) (ha : a → a') (hb : b → b') : guardP t g a' b' := by
  unfold guardP at h ⊢
  split at h
  · exact ha h
  · split at h
    · exact ⟨fun e => ha (h.1 e), fun e => hb (h.2 e)⟩
    · exact hb h
    · exact h.elim

theorem dops_step {P : Program} {T : Tbl} (hT : T.Sound P) : ∀ (l : List AOper) (t : List DV) (h : List AObj) (Φ Ψ : St → Prop), (∀ st, Φ st → Ψ st) → dops T false l t h Φ → stepOps P l ⟨t, h⟩ Ψ
  | [], t, h, Φ, Ψ, hm, hd => hm _ hd
  | ⟨g, d, op⟩ :: r, t, h, Φ, Ψ, hm, hd => by
    simp only [dops] at hd
    simp only [stepOps]
    refine guardP_mono hd (fun hd => ?_) (fun hd => dops_step hT r _ _ Φ Ψ hm hd)
    cases op with
    | call f args =>
      simp only [evAll, callF] at hd ⊢
      split at hd <;> try exact hd.elim
      rename_i v h' hv
      split at hv <;> try (simp at hv; done)
      rename_i g' a b he
      have hs := hT g'
      simp only [he]
      unfold callD at hv
      split at hv
      · rename_i c hc
        rw [hc] at hs
        simp only [Option.map_eq_some_iff] at hv
        obtain ⟨v', hv', hv⟩ := hv
        simp at hv
        obtain ⟨rfl, rfl⟩ := hv
        exact callsA_pure (pureC_call hs hv') (dops_step hT r _ _ Φ Ψ hm hd)
      · rename_i c hc
        rw [hc] at hs
        simp only [Bool.false_eq_true, if_false] at hv
        refine (hs _ _ _ _ hv).mono fun d k hdk => ?_
        obtain ⟨rfl, rfl⟩ := hdk
        exact dops_step hT r _ _ Φ Ψ hm hd
      · rename_i c hc
        rw [hc] at hs
        simp only [Bool.false_eq_true, if_false, Option.map_eq_some_iff] at hv
        obtain ⟨⟨v', k'⟩, hv', hv⟩ := hv
        simp at hv
        obtain ⟨rfl, rfl⟩ := hv
        refine (hs _ _ _ _ hv').mono fun d k hdk => ?_
        obtain ⟨rfl, rfl⟩ := hdk
        exact dops_step hT r _ _ Φ Ψ hm hd
      · simp at hv
      · simp at hv
    | callN f args =>
      simp only [evAll, Bool.false_eq_true, if_false] at hd
    | _ =>
      simp only [evAll] at hd
      simp only
      split at hd
      · rename_i hv
        rw [hv]
        exact dops_step hT r _ _ Φ Ψ hm hd
      · exact hd.elim

theorem dops_draw {P : Program} {T : Tbl} (hT : T.Sound P) : ∀ (l : List AOper) (t : List DV) (h : List AObj) (Φ Ψ : St → Prop), (∀ st, Φ st → Ψ st) → dops T true l t h Φ → drawOps P l ⟨t, h⟩ Ψ
  | [], t, h, Φ, Ψ, hm, hd => hm _ hd
  | ⟨g, d, op⟩ :: r, t, h, Φ, Ψ, hm, hd => by
    simp only [dops] at hd
    simp only [drawOps]
    refine guardP_mono hd (fun hd => ?_) (fun hd => dops_draw hT r _ _ Φ Ψ hm hd)
    cases op with
    | call f args =>
      simp only [evAll, callF] at hd ⊢
      split at hd <;> try exact hd.elim
      rename_i v h' hv
      split at hv <;> try (simp at hv; done)
      rename_i g' a b he
      have hs := hT g'
      simp only [he]
      unfold callD at hv
      split at hv
      · rename_i c hc
        rw [hc] at hs
        simp only [Option.map_eq_some_iff] at hv
        obtain ⟨v', hv', hv⟩ := hv
        simp at hv
        obtain ⟨rfl, rfl⟩ := hv
        exact ⟨_, pureC_call hs hv', dops_draw hT r _ _ Φ Ψ hm hd⟩
      · simp at hv
      · simp at hv
      · simp at hv
      · simp at hv
    | callN f args =>
      simp only [evAll, callFN, if_true] at hd ⊢
      split at hd <;> try exact hd.elim
      rename_i v h' hv
      split at hv <;> try (simp at hv; done)
      rename_i g' a b he
      have hs := hT g'
      simp only [he]
      unfold callDN at hv
      split at hv
      · rename_i c hc
        rw [hc] at hs
        simp only [Option.map_eq_some_iff] at hv
        obtain ⟨v', hv', hv⟩ := hv
        simp at hv
        obtain ⟨rfl, rfl⟩ := hv
        exact ⟨_, _, .inl ⟨pureC_call hs hv', rfl⟩, dops_draw hT r _ _ Φ Ψ hm hd⟩
      · rename_i c hc
        rw [hc] at hs
        simp only [Option.map_eq_some_iff] at hv
        obtain ⟨⟨v', k'⟩, hv', hv⟩ := hv
        simp at hv
        obtain ⟨rfl, rfl⟩ := hv
        exact ⟨_, _, .inr ⟨hs _ _ _ _ hv', _, rfl⟩, dops_draw hT r _ _ Φ Ψ hm hd⟩
      · simp at hv
    | _ =>
      simp only [evAll] at hd
      simp only
      split at hd
      · rename_i hv
        rw [hv]
        exact dops_draw hT r _ _ Φ Ψ hm hd
      · exact hd.elim

theorem dwp_awp {P : Program} {T : Tbl} (hT : T.Sound P) {n0 : Nat} : ∀ (c : ACode) (Φ Ψ : AExit → St → Prop) (st : St), (∀ e st, Φ e st → Ψ e st) → dwp T n0 c Φ st → awp P n0 c Ψ st
  | .skip, Φ, Ψ, st, hm, h => hm _ _ h
  | .region draw ops, Φ, Ψ, st, hm, h => by
    simp only [dwp] at h
    simp only [awp]
    cases draw with
    | true => simp only [if_true]; exact dops_draw hT ops _ _ _ _ (hm _) h
    | false => simp only [Bool.false_eq_true, if_false]; exact dops_step hT ops _ _ _ _ (hm _) h
  | .seq a b, Φ, Ψ, st, hm, h => by
    simp only [dwp] at h
    simp only [awp]
    refine dwp_awp hT a _ _ st (fun e st h => ?_) h
    cases e with
    | normal => exact dwp_awp hT b _ _ st hm h
    | exit i => exact hm _ _ h
    | ret => exact hm _ _ h
  | .cond c x y, Φ, Ψ, st, hm, h => by
    simp only [dwp] at h
    simp only [awp]
    generalize ev st.t c = d at h ⊢
    cases d with
    | bool b => exact ⟨fun e => dwp_awp hT x _ _ st hm (h.1 e), fun e => dwp_awp hT y _ _ st hm (h.2 e)⟩
    | _ => exact h.elim
  | .block id c, Φ, Ψ, st, hm, h => by
    simp only [dwp] at h
    simp only [awp]
    refine dwp_awp hT c _ _ st (fun e st h => ?_) h
    cases e with
    | normal => exact hm _ _ h
    | exit i =>
      simp only at h ⊢
      split
      · rename_i e; rw [if_pos e] at h; exact hm _ _ h
      · rename_i e; rw [if_neg e] at h; exact hm _ _ h
    | ret => exact hm _ _ h
  | .loop c, Φ, Ψ, st, hm, h => by
    simp only [dwp] at h
    simp only [awp]
    obtain ⟨I, n, st0, h1, h2, h3⟩ := h
    refine ⟨I, n, st0, h1, h2, fun n st hI => dwp_awp hT c _ _ st (fun e st h => ?_) (h3 n st hI)⟩
    cases e with
    | normal => exact h
    | exit i => exact hm _ _ h
    | ret => exact hm _ _ h
  | .exit id, Φ, Ψ, st, hm, h => hm _ _ h
  | .ret, Φ, Ψ, st, hm, h => hm _ _ h
  | .rangeF f p d c, Φ, Ψ, st, hm, h => by
    simp only [dwp] at h
    simp only [awp]
    obtain ⟨h0, g, id, ok, s, k, n, l, I, h1, h2, h3, h4, h5, h6, h7⟩ := h
    have hs := hT g
    rw [h2] at hs
    obtain ⟨xs, e1, e2⟩ := hs k n l h3
    subst e1
    refine ⟨h0, g, id, k, n, { x : Int // ok x = true }, _, xs, fun pre h => I (pre.map (·.1)) h, h1, e2, fun pre h hI => h4 _ h hI, h5, fun pre x h hl hI => ?_, fun h hI => hm _ _ (h7 h hI)⟩
    refine dwp_awp hT c _ _ _ (fun e st hh => ?_) (h6 _ x.1 h x.2 (by simpa using hl) hI)
    cases e with
    | normal => simpa using hh
    | exit i => exact hh
    | ret => exact hh

/-! wrappers -/
structure SO (T : Tbl) (draw : Bool) (l : List AOper) (t : List DV) (h : List AObj) (Φ : St → Prop) : Prop where
  mk :: (out : dops T draw l t h Φ)
structure W (T : Tbl) (n0 : Nat) (c : ACode) (Φ : AExit → St → Prop) (st : St) : Prop where
  mk :: (out : dwp T n0 c Φ st)

theorem SO_eq {T : Tbl} {draw : Bool} {l : List AOper} {t : List DV} {h : List AObj} {Φ : St → Prop} : SO T draw l t h Φ = dops T draw l t h Φ := propext ⟨fun h => h.out, fun h => ⟨h⟩⟩
theorem W_eq {T : Tbl} {n0 : Nat} {c : ACode} {Φ : AExit → St → Prop} {st : St} : W T n0 c Φ st = dwp T n0 c Φ st := propext ⟨fun h => h.out, fun h => ⟨h⟩⟩

/-- after an operation -/
structure stepD (T : Tbl) (draw : Bool) (i : Option Nat) (r : List AOper) (t : List DV) (Φ : St → Prop) (o : Option (DV × List AObj)) : Prop where
  mk :: (out : ∃ v h', o = some (v, h') ∧ SO T draw r (putT t i v) h' Φ)
structure guardD (T : Tbl) (draw b : Bool) (i : Option Nat) (op : AOp) (r : List AOper) (t : List DV) (h : List AObj) (Φ : St → Prop) (d : DV) : Prop where
  mk :: (out : match d with
    | .bool c => (c = b → SO T draw (⟨none, i, op⟩ :: r) t h Φ) ∧ (c = !b → SO T draw r (putT t i (.tup [])) h Φ)
    | .tup [] => SO T draw r (putT t i (.tup [])) h Φ
    | _ => False)
def normK (Φ : AExit → St → Prop) : St → Prop := Φ .normal
def seqK (T : Tbl) (n0 : Nat) (b : ACode) (Φ : AExit → St → Prop) : AExit → St → Prop := fun e st => match e with | .normal => W T n0 b Φ st | e => Φ e st
def blockK (id : Nat) (Φ : AExit → St → Prop) : AExit → St → Prop := fun e st => match e with | .exit i => if i = id then Φ .normal st else Φ (.exit i) st | e => Φ e st
structure condD (T : Tbl) (n0 : Nat) (x y : ACode) (Φ : AExit → St → Prop) (st : St) (d : DV) : Prop where
  mk :: (out : match d with
    | .bool b => (b = true → W T n0 x Φ st) ∧ (b = false → W T n0 y Φ st)
    | _ => False)

section
variable {T : Tbl} {draw : Bool} {t : List DV} {h h' : List AObj} {Φ : St → Prop} {Ψ : AExit → St → Prop} {r : List AOper} {i : Option Nat} {op : AOp} {n0 : Nat} {st : St} {x y : ACode}

theorem SO_nil : SO T draw [] t h Φ = Φ ⟨t, h⟩ := by rw [SO_eq]; rfl
theorem SO_op : SO T draw (⟨none, i, op⟩ :: r) t h Φ = stepD T draw i r t Φ (evAll T draw op t h) := by
  rw [SO_eq]
  simp only [dops, guardP]
  apply propext
  constructor
  · intro hh
    split at hh
    · rename_i d h' e; exact ⟨⟨d, h', e, ⟨hh⟩⟩⟩
    · exact hh.elim
  · rintro ⟨⟨v, h', e, hh⟩⟩
    rw [e]; exact hh.out
theorem SO_guard {j : Nat} {b : Bool} : SO T draw (⟨some (j, b), i, op⟩ :: r) t h Φ = guardD T draw b i op r t h Φ (t.getD j .junk) := by
  rw [SO_eq]
  simp only [dops]
  apply propext
  have e1 : SO T draw (⟨none, i, op⟩ :: r) t h Φ = (match evAll T draw op t h with
       | some (d, h') => dops T draw r (putT t i d) h' Φ
       | none => False) := by rw [SO_eq]; simp only [dops, guardP]
  simp only [guardP]
  rw [← e1]
  generalize t.getD j .junk = d
  constructor
  · intro hh
    refine ⟨?_⟩
    simp only [← SO_eq] at hh
    exact hh
  · rintro ⟨hh⟩
    simp only [← SO_eq]
    exact hh
theorem stepD_some {v : DV} : stepD T draw i r t Φ (some (v, h)) = SO T draw r (putT t i v) h Φ :=
  propext ⟨fun ⟨⟨_, _, e, hh⟩⟩ => by simp at e; obtain ⟨rfl, rfl⟩ := e; exact hh, fun hh => ⟨⟨_, _, rfl, hh⟩⟩⟩
theorem stepD_none : stepD T draw i r t Φ none = False := propext ⟨fun ⟨⟨_, _, e, _⟩⟩ => by simp at e, fun h => h.elim⟩
theorem guardD_go : guardD T draw true i op r t h Φ (.bool true) = SO T draw (⟨none, i, op⟩ :: r) t h Φ := propext ⟨fun ⟨hh⟩ => hh.1 rfl, fun hh => ⟨⟨fun _ => hh, fun e => by simp at e⟩⟩⟩
theorem guardD_go' : guardD T draw false i op r t h Φ (.bool false) = SO T draw (⟨none, i, op⟩ :: r) t h Φ := propext ⟨fun ⟨hh⟩ => hh.1 rfl, fun hh => ⟨⟨fun _ => hh, fun e => by simp at e⟩⟩⟩
theorem guardD_skip : guardD T draw true i op r t h Φ (.bool false) = SO T draw r (putT t i (.tup [])) h Φ := propext ⟨fun ⟨hh⟩ => hh.2 rfl, fun hh => ⟨⟨fun e => by simp at e, fun _ => hh⟩⟩⟩
theorem guardD_skip' : guardD T draw false i op r t h Φ (.bool true) = SO T draw r (putT t i (.tup [])) h Φ := propext ⟨fun ⟨hh⟩ => hh.2 rfl, fun hh => ⟨⟨fun e => by simp at e, fun _ => hh⟩⟩⟩
theorem guardD_tup {b : Bool} : guardD T draw b i op r t h Φ (.tup []) = SO T draw r (putT t i (.tup [])) h Φ := propext ⟨fun ⟨hh⟩ => hh, fun hh => ⟨hh⟩⟩

theorem W_skip : W T n0 .skip Ψ st = Ψ .normal st := by rw [W_eq]; rfl
theorem W_exit {id : Nat} : W T n0 (.exit id) Ψ st = Ψ (.exit id) st := by rw [W_eq]; rfl
theorem W_ret : W T n0 .ret Ψ st = Ψ .ret st := by rw [W_eq]; rfl
theorem W_region {l : List AOper} : W T n0 (.region draw l) Ψ ⟨t, h⟩ = SO T draw l t h (normK Ψ) := by rw [W_eq, SO_eq]; rfl
theorem normK_eq : normK Ψ st = Ψ .normal st := rfl
theorem seqK_eq : (fun e st => match e with | .normal => dwp T n0 y Ψ st | e => Ψ e st) = seqK T n0 y Ψ := by
  funext e st
  cases e <;> simp [seqK, W_eq]
theorem W_seq : W T n0 (.seq x y) Ψ st = W T n0 x (seqK T n0 y Ψ) st := by
  rw [W_eq, W_eq, dwp, seqK_eq]
theorem seqK_normal : seqK T n0 y Ψ .normal st = W T n0 y Ψ st := rfl
theorem seqK_exit {id : Nat} : seqK T n0 y Ψ (.exit id) st = Ψ (.exit id) st := rfl
theorem seqK_ret : seqK T n0 y Ψ .ret st = Ψ .ret st := rfl
theorem W_block {id : Nat} : W T n0 (.block id x) Ψ st = W T n0 x (blockK id Ψ) st := by
  rw [W_eq, W_eq, dwp]; rfl
theorem blockK_normal {id : Nat} : blockK id Ψ .normal st = Ψ .normal st := rfl
theorem blockK_same {id : Nat} : blockK id Ψ (.exit id) st = Ψ .normal st := by simp [blockK]
theorem blockK_ne {id k : Nat} (h : k ≠ id) : blockK id Ψ (.exit k) st = Ψ (.exit k) st := by simp [blockK, h]
theorem blockK_ret {id : Nat} : blockK id Ψ .ret st = Ψ .ret st := rfl
theorem W_cond {c : Opd} : W T n0 (.cond c x y) Ψ ⟨t, h⟩ = condD T n0 x y Ψ ⟨t, h⟩ (ev t c) := by
  rw [W_eq, dwp]
  simp only [← W_eq]
  exact propext ⟨fun hh => ⟨hh⟩, fun ⟨hh⟩ => hh⟩
theorem condD_true : condD T n0 x y Ψ st (.bool true) = W T n0 x Ψ st := propext ⟨fun ⟨hh⟩ => hh.1 rfl, fun hh => ⟨⟨fun _ => hh, fun e => by simp at e⟩⟩⟩
theorem condD_false : condD T n0 x y Ψ st (.bool false) = W T n0 y Ψ st := propext ⟨fun ⟨hh⟩ => hh.2 rfl, fun hh => ⟨⟨fun e => by simp at e, fun _ => hh⟩⟩⟩
theorem condD_of {b : Bool} (h1 : b = true → W T n0 x Ψ st) (h2 : b = false → W T n0 y Ψ st) : condD T n0 x y Ψ st (.bool b) := ⟨⟨h1, h2⟩⟩
theorem guardD_of {b c : Bool} (h1 : c = b → SO T draw (⟨none, i, op⟩ :: r) t h Φ) (h2 : c = !b → SO T draw r (putT t i (.tup [])) h Φ) : guardD T draw b i op r t h Φ (.bool c) := ⟨⟨h1, h2⟩⟩

def loopK {α : Type} (n0 : Nat) (S : α → St) (m : α → Nat) (R : α → Prop) (a : α) (Ψ : AExit → St → Prop) : AExit → St → Prop :=
  fun e st => match e with | .normal => ∃ a', Weak n0 st (S a') ∧ m a' < m a ∧ R a' | e => Ψ e st
theorem loopK_normal {α : Type} {S : α → St} {m : α → Nat} {R : α → Prop} {a : α} : loopK n0 S m R a Ψ .normal st = ∃ a', Weak n0 st (S a') ∧ m a' < m a ∧ R a' := rfl
theorem loopK_exit {α : Type} {S : α → St} {m : α → Nat} {R : α → Prop} {a : α} {id : Nat} : loopK n0 S m R a Ψ (.exit id) st = Ψ (.exit id) st := rfl
theorem loopK_ret {α : Type} {S : α → St} {m : α → Nat} {R : α → Prop} {a : α} : loopK n0 S m R a Ψ .ret st = Ψ .ret st := rfl

/-- **LOOPS**: the states at the head of the loop, from a datum; a measure; what holds of the datum. -/
theorem W_loop {α : Type} (S : α → St) (m : α → Nat) (R : α → Prop) (a0 : α) (h0 : Weak n0 st (S a0)) (hR : R a0) (hs : ∀ a, R a → W T n0 x (loopK n0 S m R a Ψ) (S a)) : W T n0 (.loop x) Ψ st := by
  refine ⟨⟨fun n st => ∃ a, m a = n ∧ R a ∧ st = S a, m a0, S a0, h0, ⟨a0, rfl, hR, rfl⟩, ?_⟩⟩
  rintro _ _ ⟨a, rfl, ha, rfl⟩
  have := (hs a ha).out
  have e : (fun e st' => match e with | .normal => ∃ n' st'', Weak n0 st' st'' ∧ n' < m a ∧ ∃ a, m a = n' ∧ R a ∧ st'' = S a | e => Ψ e st' : AExit → St → Prop) = loopK n0 S m R a Ψ := by
    funext e st'
    cases e with
    | normal =>
      refine propext ⟨?_, ?_⟩
      · rintro ⟨n', st'', h1, h2, a', rfl, h3, rfl⟩; exact ⟨a', h1, h2, h3⟩
      · rintro ⟨a', h1, h2, h3⟩; exact ⟨_, _, h1, h2, a', rfl, h3, rfl⟩
    | exit i => rfl
    | ret => rfl
  rw [e]
  exact this

/-- behind a round -/
def roundK (I : List Int → List AObj → Prop) (l : List Int) : AExit → St → Prop := fun e st' => match e with | .normal => I l st'.h | _ => False
theorem roundK_normal {I : List Int → List AObj → Prop} {l : List Int} {st : St} : roundK I l .normal st = I l st.h := rfl
/-- **RANGES OVER FUNCTIONS** -/
theorem W_rangeF {f : Opd} {p d : Nat} {c : ACode} (g id : Nat) {ok : Int → Bool} {s : IntKind → Int → Option (List Int)} (k : IntKind) (n : Int) (l : List Int) (I : List Int → List AObj → Prop) (hsm : simpleC c = true) (hp : p < t.length) (he : ev t f = .fn (.func g) [] [.mp id 1 0]) (hT : T g = .seq ok s) (hs : s k n = some l)
    (hid : ∀ pre h, I pre h → objAt h id = some [.int k n]) (h0 : I [] h) (hb : ∀ pre x h, ok x = true → pre.length < l.length → I pre h → W T n0 c (roundK I (pre ++ [x])) ⟨(t.set p (.int .i64 x)).set d (.int .i64 x), h⟩)
    (hd : ∀ h, I l h → Ψ .normal ⟨t, h⟩) : W T n0 (.rangeF f p d c) Ψ ⟨t, h⟩ := by
  rw [W_eq, dwp]
  exact ⟨⟨hsm, hp⟩, g, id, ok, s, k, n, l, I, he, hT, hs, hid, h0, fun pre x h h1 h2 h3 => (hb pre x h h1 h2 h3).out, hd⟩

/-- a state between two parts -/
theorem W_mid (Q : AExit → St → Prop) (h1 : W T n0 x Q st) (h2 : ∀ e st, Q e st → Ψ e st) : W T n0 x Ψ st := by
  rw [W_eq] at h1 ⊢
  have mono : ∀ (c : ACode) (Φ Ψ : AExit → St → Prop) (st : St), (∀ e st, Φ e st → Ψ e st) → dwp T n0 c Φ st → dwp T n0 c Ψ st := by
    have ops : ∀ (d : Bool) (l : List AOper) (t : List DV) (h : List AObj) (Φ Ψ : St → Prop), (∀ st, Φ st → Ψ st) → dops T d l t h Φ → dops T d l t h Ψ := by
      intro d l
      induction l with
      | nil => intro t h Φ Ψ hm hh; exact hm _ hh
      | cons o r ih =>
        intro t h Φ Ψ hm hh
        simp only [dops] at hh ⊢
        refine guardP_mono hh (fun hh => ?_) (fun hh => ih _ _ _ _ hm hh)
        split at hh
        · exact ih _ _ _ _ hm hh
        · exact hh.elim
    intro c
    induction c with
    | skip => intro Φ Ψ st hm h; exact hm _ _ h
    | exit i => intro Φ Ψ st hm h; exact hm _ _ h
    | ret => intro Φ Ψ st hm h; exact hm _ _ h
    | region d l => intro Φ Ψ st hm h; exact ops d l _ _ _ _ (hm _) h
    | seq a b iha ihb =>
      intro Φ Ψ st hm h
      refine iha _ _ st (fun e st h => ?_) h
      cases e with
      | normal => exact ihb _ _ st hm h
      | exit i => exact hm _ _ h
      | ret => exact hm _ _ h
    | cond c a b iha ihb =>
      intro Φ Ψ st hm h
      simp only [dwp] at h ⊢
      generalize ev st.t c = d at h ⊢
      cases d with
      | bool b => exact ⟨fun e => iha _ _ st hm (h.1 e), fun e => ihb _ _ st hm (h.2 e)⟩
      | _ => exact h.elim
    | block id a iha =>
      intro Φ Ψ st hm h
      refine iha _ _ st (fun e st h => ?_) h
      cases e with
      | normal => exact hm _ _ h
      | exit i =>
        simp only at h ⊢
        split
        · rename_i e; rw [if_pos e] at h; exact hm _ _ h
        · rename_i e; rw [if_neg e] at h; exact hm _ _ h
      | ret => exact hm _ _ h
    | loop a iha =>
      intro Φ Ψ st hm h
      simp only [dwp] at h ⊢
      obtain ⟨I, n, st0, h1, h2, h3⟩ := h
      refine ⟨I, n, st0, h1, h2, fun n st hI => iha _ _ st (fun e st h => ?_) (h3 n st hI)⟩
      cases e with
      | normal => exact h
      | exit i => exact hm _ _ h
      | ret => exact hm _ _ h
    | rangeF f p d a iha =>
      intro Φ Ψ st hm h
      simp only [dwp] at h ⊢
      obtain ⟨h0, g, id, ok, s, k, n, l, I, h1, h2, h3, h4, h5, h6, h7⟩ := h
      exact ⟨h0, g, id, ok, s, k, n, l, I, h1, h2, h3, h4, h5, h6, fun h hI => hm _ _ (h7 h hI)⟩
  exact mono x Q Ψ st h2 h1
end

/-- the result, as pure data -/
def outD (rs : List ARes) (t : List DV) (h : List AObj) : Option DV := (resAll rs ⟨t, h⟩).bind (snap h 3)
structure retK (rs : List ARes) (r : DV) (e : AExit) (st : St) : Prop where
  mk :: (out : RetA rs (fun d h' => snap h' 3 d = some r) e st)
theorem retK_ret {rs : List ARes} {r : DV} {t : List DV} {h : List AObj} : retK rs r .ret ⟨t, h⟩ = (outD rs t h = some r) := by
  refine propext ⟨fun ⟨d, h1, h2⟩ => by simp [outD, h1]; exact h2, fun hh => ⟨?_⟩⟩
  simp only [outD, Option.bind_eq_some_iff] at hh
  exact hh
theorem retK_normal {rs : List ARes} {r : DV} {t : List DV} {h : List AObj} : retK rs r .normal ⟨t, h⟩ = (outD rs t h = some r) := by
  refine propext ⟨fun ⟨d, h1, h2⟩ => by simp [outD, h1]; exact h2, fun hh => ⟨?_⟩⟩
  simp only [outD, Option.bind_eq_some_iff] at hh
  exact hh
/-- the result, in a state with objects -/
structure retH (rs : List ARes) (v : DV) (k : List AObj) (e : AExit) (st : St) : Prop where
  mk :: (out : RetA rs (fun d h' => d = v ∧ h' = k) e st)
theorem retH_ret {rs : List ARes} {v : DV} {k : List AObj} {t : List DV} {h : List AObj} : retH rs v k .ret ⟨t, h⟩ = (resAll rs ⟨t, h⟩ = some v ∧ h = k) :=
  propext ⟨fun ⟨d, h1, h2, h3⟩ => ⟨h2 ▸ h1, h3⟩, fun ⟨h1, h2⟩ => ⟨⟨v, h1, rfl, h2⟩⟩⟩
theorem retH_normal {rs : List ARes} {v : DV} {k : List AObj} {t : List DV} {h : List AObj} : retH rs v k .normal ⟨t, h⟩ = (resAll rs ⟨t, h⟩ = some v ∧ h = k) :=
  propext ⟨fun ⟨d, h1, h2, h3⟩ => ⟨h2 ▸ h1, h3⟩, fun ⟨h1, h2⟩ => ⟨⟨v, h1, rfl, h2⟩⟩⟩

/-- what a function comes to, in the machine -/
structure Runs (T : Tbl) (af : AFn) (args : List DV) (r : DV) : Prop where
  mk :: (out : W T 0 af.code (retK af.res r) ⟨startT af.ntmps args, []⟩)
structure RunsH (T : Tbl) (af : AFn) (args : List DV) (h : List AObj) (v : DV) (k : List AObj) : Prop where
  mk :: (out : W T h.length af.code (retH af.res v k) ⟨startT af.ntmps args, h⟩)

theorem sem_runs {P : Program} (hmix : P.follows .mixedOrders = true) {T : Tbl} (hT : T.Sound P) {f : FuncId} {fn : Func} (hf : P.funcs[f]? = some fn) {af : AFn} (hc : compileFn P fn = some af) {args : List DV} {r : DV} (h : Runs T af args r) : Am.Sem P f args r :=
  sem_of hmix hf hc (dwp_awp hT _ _ _ _ (fun _ _ h => h.out) h.out.out)
theorem calls_runs {P : Program} (hmix : P.follows .mixedOrders = true) {T : Tbl} (hT : T.Sound P) {f : FuncId} {fn : Func} (hf : P.funcs[f]? = some fn) {af : AFn} (hc : compileFn P fn = some af) {args : List DV} {h : List AObj} {v : DV} {k : List AObj} (hr : RunsH T af args h v k) : CallsA P f args h (fun d k' => d = v ∧ k' = k) :=
  callsA_of hmix hf hc (dwp_awp hT _ _ _ _ (fun _ _ h => h.out) hr.out.out)

/-- the last objects of a call are dropped -/
theorem CallsA.drop {P : Program} {g : FuncId} {args : List DV} {h k : List AObj} {v : DV} (hc : CallsA P g args h (fun d h' => d = v ∧ ∃ tail, h' = k ++ tail)) (hn : h.length ≤ k.length) (hb : Am.below k.length v = true) (hbh : belowH k.length k = true) :
    CallsA P g args h (fun d h' => d = v ∧ h' = k) := by
  refine fun X0 base w E vs hh hr => (hc X0 base w E vs hh hr).mono fun e w' ⟨u, r, h', E', e1, ⟨er, tail, et⟩, e3, e4, e5⟩ => ?_
  subst er et
  have hsr : SR X0 base E w ⟨[r], k ++ tail⟩ { tmps := #[u], defers := [] } w' := by
    refine ⟨E', e3, rfl, fun i => ?_, .nil, e5⟩
    cases i with
    | zero => simpa using e4
    | succ i => simpa using Rep.junk _
  have hlen := hh.len
  obtain ⟨E'', g1, g2, g3, g4, g5⟩ := hsr.weak (st' := ⟨[r], k⟩) (.inl ⟨by simp [weakL], .inr ⟨tail, rfl, by rw [hlen]; exact hn, by simp [belowL, hb], hbh⟩⟩)
  exact ⟨u, r, k, E'', e1, ⟨rfl, rfl⟩, g1, by simpa using g3 0, g5⟩

/-- the last objects of a call are made pure -/
theorem CallsA.freeze {P : Program} {g : FuncId} {args : List DV} {h k : List AObj} {v : DV} (hc : CallsA P g args h (fun d h' => k.length ≤ h'.length ∧ fz k.length h' 3 d = some v ∧ fzH k.length h' h' k)) (hn : h.length ≤ k.length) :
    CallsA P g args h (fun d h' => d = v ∧ h' = k) := by
  refine fun X0 base w E vs hh hr => (hc X0 base w E vs hh hr).mono fun e w' ⟨u, r, h', E', e1, ⟨q1, q2, q3⟩, e3, e4, e5⟩ => ?_
  have hsr : SR X0 base E w ⟨[r], h'⟩ { tmps := #[u], defers := [] } w' := by
    refine ⟨E', e3, rfl, fun i => ?_, .nil, e5⟩
    cases i with
    | zero => simpa using e4
    | succ i => simpa using Rep.junk _
  obtain ⟨E'', g1, g2, g3, g4, g5⟩ := hsr.freeze (st' := ⟨[v], k⟩) (by rw [hh.len]; exact hn) q1 (by simp [fzL, q2]) q3
  exact ⟨u, v, k, E'', e1, ⟨rfl, rfl⟩, g1, by simpa using g3 0, g5⟩

/-- the result, in a state with objects, new ones behind it made pure -/
structure retF (rs : List ARes) (v : DV) (k : List AObj) (e : AExit) (st : St) : Prop where
  mk :: (out : RetA rs (fun d h' => k.length ≤ h'.length ∧ fz k.length h' 3 d = some v ∧ fzH k.length h' h' k) e st)
/-- the result, from object n on made pure -/
def outF (n : Nat) (rs : List ARes) (t : List DV) (h : List AObj) : Option DV := (resAll rs ⟨t, h⟩).bind (fz n h 3)
theorem retF_ret {rs : List ARes} {v : DV} {k : List AObj} {t : List DV} {h : List AObj} : retF rs v k .ret ⟨t, h⟩ = (outF k.length rs t h = some v ∧ k.length ≤ h.length ∧ fzH k.length h h k) := by
  refine propext ⟨fun ⟨d, h1, h2, h3, h4⟩ => ⟨by simp [outF, h1, h3], h2, h4⟩, fun ⟨h1, h2, h3⟩ => ?_⟩
  simp only [outF, Option.bind_eq_some_iff] at h1
  obtain ⟨d, e1, e2⟩ := h1
  exact ⟨d, e1, h2, e2, h3⟩
theorem retF_normal {rs : List ARes} {v : DV} {k : List AObj} {t : List DV} {h : List AObj} : retF rs v k .normal ⟨t, h⟩ = (outF k.length rs t h = some v ∧ k.length ≤ h.length ∧ fzH k.length h h k) := by
  refine propext ⟨fun ⟨d, h1, h2, h3, h4⟩ => ⟨by simp [outF, h1, h3], h2, h4⟩, fun ⟨h1, h2, h3⟩ => ?_⟩
  simp only [outF, Option.bind_eq_some_iff] at h1
  obtain ⟨d, e1, e2⟩ := h1
  exact ⟨d, e1, h2, e2, h3⟩
structure RunsF (T : Tbl) (af : AFn) (args : List DV) (h : List AObj) (v : DV) (k : List AObj) : Prop where
  mk :: (out : W T h.length af.code (retF af.res v k) ⟨startT af.ntmps args, h⟩)
theorem calls_runsF {P : Program} (hmix : P.follows .mixedOrders = true) {T : Tbl} (hT : T.Sound P) {f : FuncId} {fn : Func} (hf : P.funcs[f]? = some fn) {af : AFn} (hc : compileFn P fn = some af) {args : List DV} {h : List AObj} {v : DV} {k : List AObj} (hr : RunsF T af args h v k)
    (hn : h.length ≤ k.length) : CallsA P f args h (fun d k' => d = v ∧ k' = k) :=
  (callsA_of hmix hf hc (dwp_awp hT _ _ _ _ (fun _ _ h => h.out) hr.out.out)).freeze hn

/-- the result, in a state with objects, new ones behind it dropped -/
structure retG (rs : List ARes) (v : DV) (k : List AObj) (e : AExit) (st : St) : Prop where
  mk :: (out : RetA rs (fun d h' => d = v ∧ ∃ tail, h' = k ++ tail) e st)
theorem retG_ret {rs : List ARes} {v : DV} {k : List AObj} {t : List DV} {h : List AObj} : retG rs v k .ret ⟨t, h⟩ = (resAll rs ⟨t, h⟩ = some v ∧ ∃ tail, h = k ++ tail) :=
  propext ⟨fun ⟨d, h1, h2, h3⟩ => ⟨h2 ▸ h1, h3⟩, fun ⟨h1, h2⟩ => ⟨⟨v, h1, rfl, h2⟩⟩⟩
theorem retG_normal {rs : List ARes} {v : DV} {k : List AObj} {t : List DV} {h : List AObj} : retG rs v k .normal ⟨t, h⟩ = (resAll rs ⟨t, h⟩ = some v ∧ ∃ tail, h = k ++ tail) :=
  propext ⟨fun ⟨d, h1, h2, h3⟩ => ⟨h2 ▸ h1, h3⟩, fun ⟨h1, h2⟩ => ⟨⟨v, h1, rfl, h2⟩⟩⟩
structure RunsG (T : Tbl) (af : AFn) (args : List DV) (h : List AObj) (v : DV) (k : List AObj) : Prop where
  mk :: (out : W T h.length af.code (retG af.res v k) ⟨startT af.ntmps args, h⟩)
theorem calls_runsG {P : Program} (hmix : P.follows .mixedOrders = true) {T : Tbl} (hT : T.Sound P) {f : FuncId} {fn : Func} (hf : P.funcs[f]? = some fn) {af : AFn} (hc : compileFn P fn = some af) {args : List DV} {h : List AObj} {v : DV} {k : List AObj} (hr : RunsG T af args h v k)
    (hn : h.length ≤ k.length) (hb : Am.below k.length v = true) (hbh : belowH k.length k = true) : CallsA P f args h (fun d k' => d = v ∧ k' = k) :=
  (callsA_of hmix hf hc (dwp_awp hT _ _ _ _ (fun _ _ h => h.out) hr.out.out)).drop hn hb hbh
end Go.Am
