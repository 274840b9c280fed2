/-
  The abstract machine, part 16: a statement's operations, in the order of the text.
-/
import Derived.Test.YtjhakjeioppijaaDoorAmO
set_option linter.unusedSimpArgs false
set_option linter.unusedVariables false
namespace Go.Am
open Go.RowKit

def putT (t : List DV) (d : Option Nat) (v : DV) : List DV :=
  match d with
  | some i => t.set i v
  | none => t

def guardP (t : List DV) (g : Option (Nat × Bool)) (go skip : Prop) : Prop :=
  match g with
  | none => go
  | some (i, b) => match t.getD i .junk with
    | .bool c => (c = b → go) ∧ (c = !b → skip)
    | .tup [] => skip
    | _ => False

/-- the operations, one by one -/
def stepOps (P : Program) : List AOper → St → (St → Prop) → Prop
  | [], st, Φ => Φ st
  | o :: r, st, Φ => guardP st.t o.g
      (match o.op with
       | .call f args => match ev st.t f with
         | .fn (.func g) first captured => CallsA P g (first ++ args.map (ev st.t) ++ captured) st.h (fun d h' => stepOps P r ⟨putT st.t o.d d, h'⟩ Φ)
         | _ => False
       | op => match evOp op st.t st.h with
         | some (d, h') => stepOps P r ⟨putT st.t o.d d, h'⟩ Φ
         | none => False)
      (stepOps P r ⟨putT st.t o.d (.tup []), st.h⟩ Φ)

def markOf (D : Nat) : Deferred := { target := .collected D, args := #[] }
/-- what ranges over functions have left among the deferred calls: marks of blocks of their own, from n0 on -/
def Marks (n0 : Nat) (w : World) (ds : List Deferred) : Prop := ∃ l : List Nat, ds = l.map markOf ∧ l.Nodup ∧ ∀ D ∈ l, n0 ≤ D ∧ w.heap[D]? = some (.deferred (some []))
theorem Marks.nil {n0 : Nat} {w : World} : Marks n0 w [] := ⟨[], rfl, List.nodup_nil, fun D h => by simp at h⟩
theorem Marks.mono {n0 : Nat} {w w' : World} {ds : List Deferred} (h : Marks n0 w ds) (hk : KeepsOthers w w') : Marks n0 w' ds := by
  obtain ⟨l, e, hn, h⟩ := h
  exact ⟨l, e, hn, fun D hD => ⟨(h D hD).1, hk.same D _ (h D hD).2 rfl⟩⟩

/-- a state on data and the machine's -/
def SR (X0 : Forb) (base : Nat) (E0 : Env) (w0 : World) (st : St) (a : Act) (w : World) : Prop :=
  ∃ E, HeapRel X0 base w st.h E ∧ a.tmps.size = st.t.length ∧ RepL E (FX X0 E) w a.tmps st.t ∧ Marks w0.heap.size w a.defers ∧ Trans X0 base E0 w0 E w

theorem put_rep {E : Env} {X : Forb} {w : World} {tm : Array Value} {ts : List DV} (hs : tm.size = ts.length) (h : RepL E X w tm ts) {v : Value} {d : DV} (hv : Rep E X w v d) (dst : Option Nat) {a : Act} (ha : a.tmps = tm) :
    (a.put dst v).tmps.size = (putT ts dst d).length ∧ RepL E X w (a.put dst v).tmps (putT ts dst d) := by
  subst ha
  cases dst with
  | none => exact ⟨hs, h⟩
  | some i =>
    refine ⟨by simp [Act.put, putT, hs], fun j => ?_⟩
    simp only [Act.put, putT]
    have hj := h j
    by_cases e : i = j
    · subst e
      by_cases hlt : i < a.tmps.size
      · simp [Array.getD_eq_getD_getElem?, hlt, List.getD_eq_getElem?_getD, show i < ts.length by omega]
        exact hv
      · simp [Array.getD_eq_getD_getElem?, hlt, List.getD_eq_getElem?_getD, show ¬ i < ts.length by omega]
        exact .junk _
    · rw [List.getD_eq_getElem?_getD, List.getElem?_set_ne e, ← List.getD_eq_getElem?_getD]
      rw [Array.getD_eq_getD_getElem?, Array.getElem?_setIfInBounds_ne e, ← Array.getD_eq_getD_getElem?]
      exact hj

theorem put_defers (a : Act) (dst : Option Nat) (v : Value) : (a.put dst v).defers = a.defers := by cases dst <;> rfl

theorem undef_rep {E : Env} {X : Forb} {w : World} : Rep E X w undef (.tup []) := .tup #[] [] rfl (fun i h => by simp at h)

section
variable {P : Program} {X0 : Forb} {base : Nat} {E0 : Env} {w0 : World}

/-- the guard, looked at on both sides -/
theorem guard_sound {E : Env} {w : World} {ops : Array Oper} {o : Oper} {ao : AOper} (hc : compOper P ops o = some ao) {a : Act} {ts : List DV} (hs : a.tmps.size = ts.length) (hr : RepL E (FX X0 E) w a.tmps ts) {go skip : Prop} (hg : guardP ts ao.g go skip) :
    (Region.wanted o (yielded ops a.tmps) = true ∧ go) ∨ (Region.wanted o (yielded ops a.tmps) = false ∧ skip) := by
  obtain ⟨hg1, _, _⟩ := compOper_inv hc
  obtain ⟨g, dd, op⟩ := ao
  simp only at hg1 hg
  unfold compG at hg1
  cases hgd : o.guard with
  | none =>
    rw [hgd] at hg1
    simp at hg1; subst hg1
    left
    exact ⟨by simp [Region.wanted, hgd], hg⟩
  | some jb =>
    obtain ⟨j, b⟩ := jb
    rw [hgd] at hg1
    simp only [Option.map_eq_some_iff] at hg1
    obtain ⟨t, ht, rfl⟩ := hg1
    simp only [guardP] at hg
    have hrt := hr t
    have hy : ∀ c, a.tmps.getD t undef = .bool c → t < a.tmps.size → yielded ops a.tmps j = some c := by
      intro c h1 h2
      unfold yielded
      rw [ht]
      simp only [Option.bind_some]
      rw [Array.getElem?_eq_getElem h2]
      rw [Array.getD_eq_getD_getElem?, Array.getElem?_eq_getElem h2] at h1
      simp at h1
      rw [h1]
    split at hg
    · rename_i c hc
      rw [hc] at hrt
      have hlt : t < a.tmps.size := by
        rcases Nat.lt_or_ge t a.tmps.size with g | g
        · exact g
        · rw [List.getD_eq_getElem?_getD, List.getElem?_eq_none (by omega)] at hc; simp at hc
      generalize hv : a.tmps.getD t undef = v at hrt
      cases hrt
      have := hy c hv hlt
      by_cases e : c = b
      · left; exact ⟨by simp [Region.wanted, hgd, this, e], hg.1 e⟩
      · right; exact ⟨by simp [Region.wanted, hgd, this, e], hg.2 (by cases c <;> cases b <;> simp_all)⟩
    · rename_i hc
      rw [hc] at hrt
      right
      refine ⟨?_, hg⟩
      have : yielded ops a.tmps j = none := by
        unfold yielded
        rw [ht]
        simp only [Option.bind_some]
        generalize hv : a.tmps.getD t undef = v at hrt
        cases hrt with
        | tup cs _ hl _ =>
          rw [Array.getD_eq_getD_getElem?] at hv
          cases hq : a.tmps[t]? with
          | none => rfl
          | some q => rw [hq] at hv; simp at hv; rw [hv]
      simp [Region.wanted, hgd, this]
    · exact hg.elim

theorem ops_rep {E : Env} {w : World} {a : Act} {ts : List DV} (hr : RepL E (FX X0 E) w a.tmps ts) : ∀ x y, opd x = some y → Rep E (FX X0 E) w (a.eval x) (ev ts y) :=
  fun _ _ ho => opd_rep ho (fun i _ => hr i) rfl

/-- a call's target and arguments -/
theorem call_run {E : Env} {w : World} {o : Oper} {c : Call} (ho : o.op = .call c) {f : Operand} (hf : c.callee = .value f) {f' : Opd} (hf' : opd f = some f') {as : List Opd} (has : opds c.args = some as) {ρ : Operand → Value} {ts : List DV}
    (hρ : ∀ x y, x ∈ o.op.operands → opd x = some y → Rep E (FX X0 E) w (ρ x) (ev ts y)) {g : FuncId} {first captured : List DV} (hev : ev ts f' = .fn (.func g) first captured) :
    ∃ vs, (∀ nx w', (callFunc g vs).run P w = .ok nx w' → (execOp ρ o).run P w = .ok nx w') ∧ RepA E (FX X0 E) w vs.toList (first ++ as.map (ev ts) ++ captured) := by
  have rf := hρ f f' (by simp [Op.operands, ho, Call.operands, hf]) hf'
  have ra := opds_repA has (fun x y hx => hρ x y (by simp [Op.operands, ho, Call.operands, hf, hx]))
  rw [hev] at rf
  generalize hv : ρ f = v at rf
  cases rf with
  | fn _ fi ca _ _ h1 h2 r1 r2 =>
    refine ⟨fi ++ c.args.map ρ ++ ca, ?_, ?_⟩
    · intro nx w' hcf
      rw [Array.append_assoc] at hcf
      simp [execOp, ho, resolve, hf, hv, Deferred.ofValue, invoke, hcf]
    · have q1 : RepA E (FX X0 E) w fi.toList first := ⟨by simpa using h1, fun i a b => by have := r1 i (by simpa using a) b; simpa using this⟩
      have q2 : RepA E (FX X0 E) w ca.toList captured := ⟨by simpa using h2, fun i a b => by have := r2 i (by simpa using a) b; simpa using this⟩
      have := (q1.append ra).append q2
      simpa using this

/-- one operation that is no call -/
theorem oper_wp {E : Env} {w : World} {o : Oper} {op : AOp} (hc : compOp P o = some op) {st : St} {d : DV} {h' : List AObj} (he : evOp op st.t st.h = some (d, h')) (hh : HeapRel X0 base w st.h E) {a : Act} (hr : RepL E (FX X0 E) w a.tmps st.t)
    {K : Act → World → Prop} {Q : Exit → Act → World → Prop} (hK : ∀ v w' E', HeapRel X0 base w' h' E' → Rep E' (FX X0 E') w' v d → Trans X0 base E w E' w' → K (a.put o.dst v) w') : o.wp P a w K Q := by
  obtain ⟨v, w', E', h1, h2, h3, h4⟩ := evOp_sound hc he hh (fun x y _ ho => ops_rep hr x y ho)
  unfold Oper.wp
  rcases h1 with h1 | ⟨h1, rfl⟩
  · rw [h1]; exact hK v w' E' h2 h3 h4
  · rw [h1]; exact hK undef w' E' h2 h3 h4

theorem stepOps_sound {ops : Array Oper} {Q : Exit → Act → World → Prop} {Φ : St → Prop} (hQ : ∀ st a w, Φ st → SR X0 base E0 w0 st a w → Q .normal a w) : ∀ (l : List Oper) (al : List AOper), mapAll (compOper P ops) l = some al →
    ∀ (st : St) (a : Act) (w : World), stepOps P al st Φ → SR X0 base E0 w0 st a w → wpList P ops Q l a w
  | [], al, hm, st, a, w, hs, hr => by
    simp [mapAll] at hm; subst hm
    exact hQ st a w hs hr
  | o :: l, al, hm, st, a, w, hs, hr => by
    simp only [mapAll, Option.bind_eq_some_iff, Option.map_eq_some_iff] at hm
    obtain ⟨ao, hao, al', hal, rfl⟩ := hm
    obtain ⟨E, hh, hsz, hrep, hdef, ht⟩ := hr
    simp only [stepOps] at hs
    obtain ⟨hco1, hco2, hco3⟩ := compOper_inv hao
    have hgs := guard_sound (X0 := X0) hao hsz hrep hs
    obtain ⟨g, dd, op⟩ := ao
    simp only at hco2 hco3 hgs
    subst hco2
    unfold wpList
    have next : ∀ (v : Value) (d : DV) (w' : World) (E' : Env) (h' : List AObj), HeapRel X0 base w' h' E' → Rep E' (FX X0 E') w' v d → Trans X0 base E w E' w' → stepOps P al' ⟨putT st.t o.dst d, h'⟩ Φ → wpList P ops Q l (a.put o.dst v) w' := by
      intro v d w' E' h' g1 g2 g3 g4
      obtain ⟨p1, p2⟩ := put_rep hsz (g3.repL hrep) g2 o.dst rfl
      exact stepOps_sound hQ l al' hal _ _ _ g4 ⟨E', g1, p1, p2, by rw [put_defers]; exact hdef.mono g3.others, ht.trans g3⟩
    rcases hgs with ⟨hw, hs⟩ | ⟨hw, hs⟩
    · rw [if_pos hw]
      left
      rcases hco3 with ⟨c, f0, f, as, c1, c2, c3, c4, rfl⟩ | ⟨hop, hnc⟩ | hbad
      · simp only at hs
        split at hs <;> try (exact hs.elim)
        rename_i gg first captured hev
        obtain ⟨vs, hrun, hra⟩ := call_run c1 c2 c3 c4 (fun x y _ ho => ops_rep hrep x y ho) hev
        unfold Oper.wp
        rcases hs X0 base w E vs hh hra with ⟨he, hcl⟩ | ⟨v0, w0', he, v, r, h', E', e1, e2, e3, e4, e5⟩
        · rw [hrun _ _ he]
          refine hcl.mono fun e w' ⟨v, r, h', E', e1, e2, e3, e4, e5⟩ => ?_
          subst e1
          exact next v r w' E' h' e3 e4 e5 e2
        · rw [hrun _ _ he]
          cases e1
          exact next v0 r w0' E' h' e3 e4 e5 e2
      · have hs' : ∃ d h', evOp op st.t st.h = some (d, h') ∧ stepOps P al' ⟨putT st.t o.dst d, h'⟩ Φ := by
          cases op <;> first
            | (simp [AOp.isCall] at hnc; done)
            | (simp only at hs
               split at hs
               · rename_i d h' e; exact ⟨d, h', e, hs⟩
               · exact hs.elim)
        obtain ⟨d, h', hev, hs⟩ := hs'
        exact oper_wp hop hev hh hrep (fun v w' E' g1 g2 g3 => next v d w' E' h' g1 g2 g3 hs)
      · subst hbad; exact (show False from hs).elim
    · rw [if_neg (by simp [hw])]
      exact next undef (.tup []) w E st.h hh undef_rep (.refl _ _ _ _) hs
end
end Go.Am
