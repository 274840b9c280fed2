/-
  The abstract machine, part 17: a statement that leaves its order open: the order of the text serves.
-/
import Derived.Test.YtjhakjeioppijaaDoorAmV
set_option linter.unusedSimpArgs false
set_option linter.unusedVariables false
namespace Go.Am
open Go.RowKit

/-- a call that is pure, or lays new objects only -/
def NewCall (P : Program) (g : FuncId) (args : List DV) (h : List AObj) (v : DV) (h' : List AObj) : Prop :=
  (PureCall P g args h v ∧ h' = h) ∨ (CallsA P g args h (fun d k => d = v ∧ k = h') ∧ ∃ tail, h' = h ++ tail)
/-- the operations of a statement that leaves its order open, in the order of the text: calls are pure -/
def drawOps (P : Program) : List AOper → St → (St → Prop) → Prop
  | [], st, Φ => Φ st
  | o :: r, st, Φ => guardP st.t o.g
      (match o.op with
       | .call f args => match ev st.t f with
         | .fn (.func g) first captured => ∃ d, PureCall P g (first ++ args.map (ev st.t) ++ captured) st.h d ∧ drawOps P r ⟨putT st.t o.d d, st.h⟩ Φ
         | _ => False
       | .callN f args => match ev st.t f with
         | .fn (.func g) first captured => ∃ d h', NewCall P g (first ++ args.map (ev st.t) ++ captured) st.h d h' ∧ drawOps P r ⟨putT st.t o.d d, h'⟩ Φ
         | _ => False
       | op => match evOp op st.t st.h with
         | some (d, h') => drawOps P r ⟨putT st.t o.d d, h'⟩ Φ
         | none => False)
      (drawOps P r ⟨putT st.t o.d (.tup []), st.h⟩ Φ)

/-- what an operation yields -/
def outA (P : Program) (op : AOp) (t : List DV) (h : List AObj) (v : DV) (h' : List AObj) : Prop :=
  match op with
  | .call f args => match ev t f with
    | .fn (.func g) first captured => PureCall P g (first ++ args.map (ev t) ++ captured) h v ∧ h' = h
    | _ => False
  | .callN f args => match ev t f with
    | .fn (.func g) first captured => NewCall P g (first ++ args.map (ev t) ++ captured) h v h'
    | _ => False
  | op => evOp op t h = some (v, h')

def goes (t : List DV) (g : Option (Nat × Bool)) : Option Bool :=
  match g with
  | none => some true
  | some (i, b) => match t.getD i .junk with
    | .bool c => some (c == b)
    | .tup [] => some false
    | _ => none

def stepA (P : Program) (o : AOper) (st : St) (v : DV) (h' : List AObj) : Prop :=
  match goes st.t o.g with
  | some true => outA P o.op st.t st.h v h'
  | some false => v = .tup [] ∧ h' = st.h
  | none => False

theorem guardP_iff {t : List DV} {g : Option (Nat × Bool)} {a b : Prop} : guardP t g a b ↔ (goes t g = some true ∧ a) ∨ (goes t g = some false ∧ b) := by
  cases g with
  | none => simp [guardP, goes]
  | some p =>
    obtain ⟨i, b'⟩ := p
    simp only [guardP, goes]
    generalize t.getD i .junk = d
    cases d with
    | bool c => cases c <;> cases b' <;> simp
    | tup l => cases l <;> simp
    | _ => simp
theorem guardP_goes {t : List DV} {g : Option (Nat × Bool)} {a b : Prop} (h : guardP t g a b) : (goes t g = some true ∧ a) ∨ (goes t g = some false ∧ b) := guardP_iff.1 h
theorem goes_guardP {t : List DV} {g : Option (Nat × Bool)} {a b : Prop} (h : (goes t g = some true ∧ a) ∨ (goes t g = some false ∧ b)) : guardP t g a b := guardP_iff.2 h

theorem drawOps_cons {P : Program} {o : AOper} {r : List AOper} {st : St} {Φ : St → Prop} : drawOps P (o :: r) st Φ ↔ ∃ v h', stepA P o st v h' ∧ drawOps P r ⟨putT st.t o.d v, h'⟩ Φ := by
  constructor
  · intro h
    simp only [drawOps] at h
    rcases guardP_goes h with ⟨hg, h⟩ | ⟨hg, h⟩
    · simp only [stepA, hg]
      obtain ⟨g, d, op⟩ := o
      cases op with
      | call f args =>
        simp only [outA] at h ⊢
        split at h
        · obtain ⟨d', h1, h2⟩ := h; exact ⟨d', st.h, ⟨h1, rfl⟩, h2⟩
        · exact h.elim
      | callN f args =>
        simp only [outA] at h ⊢
        split at h
        · obtain ⟨d', k, h1, h2⟩ := h; exact ⟨d', k, h1, h2⟩
        · exact h.elim
      | _ =>
        simp only [outA] at h ⊢
        split at h
        · rename_i d' h' e; exact ⟨d', h', e, h⟩
        · exact h.elim
    · exact ⟨.tup [], st.h, by simp [stepA, hg], h⟩
  · rintro ⟨v, h', hs, h⟩
    simp only [drawOps]
    apply goes_guardP
    unfold stepA at hs
    split at hs
    · rename_i hg
      refine .inl ⟨hg, ?_⟩
      obtain ⟨g, d, op⟩ := o
      cases op with
      | call f args =>
        simp only [outA] at hs ⊢
        split at hs
        · obtain ⟨h1, rfl⟩ := hs; exact ⟨v, h1, h⟩
        · exact hs.elim
      | callN f args =>
        simp only [outA] at hs ⊢
        split at hs
        · exact ⟨v, h', hs, h⟩
        · exact hs.elim
      | _ =>
        simp only [outA] at hs ⊢
        rw [hs]; exact h
    · rename_i hg
      obtain ⟨rfl, rfl⟩ := hs
      exact .inr ⟨hg, h⟩
    · exact hs.elim

/-! reads -/
theorem ev_congr {t t' : List DV} {x : Opd} (h : ∀ i ∈ x.tmps, t.getD i .junk = t'.getD i .junk) : ev t x = ev t' x := by
  cases x with
  | t i => exact h i (by simp [Opd.tmps])
  | k d => rfl
theorem evI_congr {t t' : List DV} {x : Opd} (h : ∀ i ∈ x.tmps, t.getD i .junk = t'.getD i .junk) : evI t x = evI t' x := by
  unfold evI; rw [ev_congr h]
theorem bounds_congr {t t' : List DV} {n : Nat} {lo hi : Option Opd} (h1 : ∀ i ∈ tmpsO lo, t.getD i .junk = t'.getD i .junk) (h2 : ∀ i ∈ tmpsO hi, t.getD i .junk = t'.getD i .junk) : bounds t n lo hi = bounds t' n lo hi := by
  cases lo with
  | none => cases hi with
    | none => rfl
    | some y =>
      have e2 := evI_congr (t := t) (t' := t') (x := y) h2
      simp only [bounds, e2]
  | some x => cases hi with
    | none =>
      have e1 := evI_congr (t := t) (t' := t') (x := x) h1
      simp only [bounds, e1]
    | some y =>
      have e1 := evI_congr (t := t) (t' := t') (x := x) h1
      have e2 := evI_congr (t := t) (t' := t') (x := y) h2
      simp only [bounds, e1, e2]
theorem evs_congr {t t' : List DV} {l : List Opd} (h : ∀ i ∈ l.flatMap Opd.tmps, t.getD i .junk = t'.getD i .junk) : l.map (ev t) = l.map (ev t') :=
  List.map_congr_left fun x hx => ev_congr fun i hi => h i (List.mem_flatMap.2 ⟨x, hx, hi⟩)
theorem mapAll_congr {α β : Type} {f g : α → Option β} : ∀ {l : List α}, (∀ x ∈ l, f x = g x) → mapAll f l = mapAll g l
  | [], _ => rfl
  | a :: r, h => by simp only [mapAll]; rw [h a (by simp), mapAll_congr fun x hx => h x (by simp [hx])]

theorem evOp_congr {op : AOp} {t t' : List DV} {h : List AObj} (hr : ∀ i ∈ op.reads, t.getD i .junk = t'.getD i .junk) : evOp op t h = evOp op t' h := by
  cases op with
  | slcS s x lo hi mx =>
    simp only [AOp.reads, List.mem_append] at hr
    have e1 : ev t x = ev t' x := ev_congr fun i hi => hr i (by simp [hi])
    have e2 : ∀ n, bounds t n lo hi = bounds t' n lo hi := fun n => bounds_congr (fun i hi => hr i (by simp [hi])) (fun i hi => hr i (by simp [hi]))
    simp only [evOp, e1, e2]
    cases mx with
    | none => rfl
    | some m =>
      have e3 : evI t m = evI t' m := evI_congr fun i hi => hr i (.inr hi)
      simp only [e3]
  | slcA n s x lo hi =>
    simp only [AOp.reads, List.mem_append] at hr
    have e1 : ev t x = ev t' x := ev_congr fun i hi => hr i (by simp [hi])
    have e2 : ∀ n, bounds t n lo hi = bounds t' n lo hi := fun n => bounds_congr (fun i hi => hr i (by simp [hi])) (fun i hi => hr i (by simp [hi]))
    simp only [evOp, e1, e2]
  | slcStr x lo hi =>
    simp only [AOp.reads, List.mem_append] at hr
    have e1 : ev t x = ev t' x := ev_congr fun i hi => hr i (by simp [hi])
    have e2 : ∀ n, bounds t n lo hi = bounds t' n lo hi := fun n => bounds_congr (fun i hi => hr i (by simp [hi])) (fun i hi => hr i (by simp [hi]))
    simp only [evOp, e1, e2]
  | build zs ps =>
    simp only [AOp.reads] at hr
    have e : ∀ p ∈ ps, ev t p.2.2 = ev t' p.2.2 := fun p hp => ev_congr fun i hi => hr i (List.mem_flatMap.2 ⟨p, hp, hi⟩)
    have e1 : ps.all (fun p => (ev t p.2.2).known) = ps.all (fun p => (ev t' p.2.2).known) := by
      rw [Bool.eq_iff_iff, List.all_eq_true, List.all_eq_true]
      exact ⟨fun h p hp => e p hp ▸ h p hp, fun h p hp => (e p hp).symm ▸ h p hp⟩
    have e2 : ps.map (fun p => (p.1, p.2.1, ev t p.2.2)) = ps.map (fun p => (p.1, p.2.1, ev t' p.2.2)) := List.map_congr_left fun p hp => by rw [e p hp]
    simp only [evOp, e1, e2]
  | bsl s n zs ps =>
    simp only [AOp.reads] at hr
    have e : ∀ p ∈ ps, ev t p.2.2 = ev t' p.2.2 := fun p hp => ev_congr fun i hi => hr i (List.mem_flatMap.2 ⟨p, hp, hi⟩)
    have e1 : ps.all (fun p => (ev t p.2.2).known) = ps.all (fun p => (ev t' p.2.2).known) := by
      rw [Bool.eq_iff_iff, List.all_eq_true, List.all_eq_true]
      exact ⟨fun h p hp => e p hp ▸ h p hp, fun h p hp => (e p hp).symm ▸ h p hp⟩
    have e2 : ps.map (fun p => (p.1, p.2.1, ev t p.2.2)) = ps.map (fun p => (p.1, p.2.1, ev t' p.2.2)) := List.map_congr_left fun p hp => by rw [e p hp]
    simp only [evOp, e1, e2]
  | mkf f a b =>
    simp only [AOp.reads, List.mem_append] at hr
    have e1 : a.map (ev t) = a.map (ev t') := evs_congr fun i hi => hr i (.inl hi)
    have e2 : b.map (ev t) = b.map (ev t') := evs_congr fun i hi => hr i (.inr hi)
    simp only [evOp, e1, e2]
  | mm m xs =>
    simp only [AOp.reads] at hr
    simp only [evOp]
    rw [mapAll_congr fun x hx => by rw [ev_congr fun i hi => hr i (List.mem_flatMap.2 ⟨x, hx, hi⟩)]]
  | alloc zs => rfl
  | call f as => rfl
  | callN f as => rfl
  | pick c a b =>
    simp only [AOp.reads, List.mem_append] at hr
    have e1 : ev t c = ev t' c := ev_congr fun i hi => hr i (by simp [hi])
    have e2 : ev t a = ev t' a := ev_congr fun i hi => hr i (by simp [hi])
    have e3 : ev t b = ev t' b := ev_congr fun i hi => hr i (by simp [hi])
    simp only [evOp, e1, e2, e3]
  | mks s b zs l c =>
    simp only [AOp.reads, List.mem_append] at hr
    have e1 : evI t l = evI t' l := evI_congr fun i hi => hr i (.inl hi)
    have e2 : evI t c = evI t' c := evI_congr fun i hi => hr i (.inr hi)
    simp only [evOp, e1, e2]
  | apart x y | bin op x y | eqa n ks x y | eqb n x y | eqn k n x y | store n x y | app s b x y | cpy s x y =>
    simp only [AOp.reads, List.mem_append] at hr
    have e1 : ev t x = ev t' x := ev_congr fun i hi => hr i (.inl hi)
    have e2 : ev t y = ev t' y := ev_congr fun i hi => hr i (.inr hi)
    simp only [evOp, e1, e2]
  | idxS s x y | idxA l s x y | idxV l n a x y | idxStr x y =>
    simp only [AOp.reads, List.mem_append] at hr
    have e1 : ev t x = ev t' x := ev_congr fun i hi => hr i (.inl hi)
    have e2 : evI t y = evI t' y := evI_congr fun i hi => hr i (.inr hi)
    simp only [evOp, e1, e2]
  | clr s zs x | mov x | un op x | conv k x | strid x | csb x | cbs x | load n a x | fld o x | getf o n a x | box x | len x | lenStr x | nilc x | ext x i =>
    simp only [AOp.reads] at hr
    have e1 : ev t x = ev t' x := ev_congr hr
    simp only [evOp, e1]

theorem outA_congr {P : Program} {op : AOp} {t t' : List DV} {h h' : List AObj} {v : DV} (hr : ∀ i ∈ op.reads, t.getD i .junk = t'.getD i .junk) (ho : outA P op t h v h') : outA P op t' h v h' := by
  cases op with
  | call f as =>
    simp only [AOp.reads, List.mem_append] at hr
    have e1 : ev t f = ev t' f := ev_congr fun i hi => hr i (.inl hi)
    have e2 : as.map (ev t) = as.map (ev t') := evs_congr fun i hi => hr i (.inr hi)
    simp only [outA, e1, e2] at ho ⊢
    exact ho
  | callN f as =>
    simp only [AOp.reads, List.mem_append] at hr
    have e1 : ev t f = ev t' f := ev_congr fun i hi => hr i (.inl hi)
    have e2 : as.map (ev t) = as.map (ev t') := evs_congr fun i hi => hr i (.inr hi)
    simp only [outA, e1, e2] at ho ⊢
    exact ho
  | _ => exact (evOp_congr hr).symm.trans ho

theorem pr_keep {o : Option DV} {h h' : List AObj} {v : DV} (e : pr o h = some (v, h')) : h' = h := by
  cases o with
  | none => simp [pr] at e
  | some d => simp [pr] at e; exact e.2.symm
theorem pr_any {o : Option DV} {h h' h2 : List AObj} {v : DV} (e : pr o h = some (v, h')) : pr o h2 = some (v, h2) := by
  cases o with
  | none => simp [pr] at e
  | some d => simp [pr] at e ⊢; exact e.1

/-- operations that do not write leave memory as it is -/
theorem outA_keep {P : Program} {op : AOp} {t : List DV} {h h' : List AObj} {v : DV} (he : effOf op ≤ 1) (ho : outA P op t h v h') : h' = h := by
  cases op with
  | call f as =>
    simp only [outA] at ho
    split at ho
    · exact ho.2
    · exact ho.elim
  | mov x => simp only [outA, V_mov] at ho; simp at ho; exact ho.2.symm
  | apart x y =>
    simp only [outA, evOp] at ho
    split at ho
    · simp at ho; exact ho.2.symm
    · simp at ho
  | mkf f a b => simp only [outA, V_mkf] at ho; simp at ho; exact ho.2.symm
  | mm m xs =>
    simp only [outA, evOp, Option.bind_eq_some_iff] at ho
    obtain ⟨l, _, ho⟩ := ho
    split at ho
    · simp at ho
    · simp at ho; exact ho.2.symm
  | _ => first
    | (simp [effOf] at he; done)
    | (simp only [outA, V_pick, V_bin, V_eqa, V_eqb, V_eqn, V_un, V_conv, V_strid, V_csb, V_cbs, V_load, V_idxS, V_idxA, V_fld, V_getf, V_idxV, V_idxStr, V_slcS, V_slcA, V_slcStr, V_build, V_bsl, V_lenStr, V_len, V_nilc, V_ext] at ho
       exact pr_keep ho)

/-- operations that do not touch memory -/
theorem outA_any {P : Program} {op : AOp} {t : List DV} {h h' h2 : List AObj} {v : DV} (he : effOf op = 0) (ho : outA P op t h v h') : outA P op t h2 v h2 := by
  cases op with
  | mov x => simp only [outA, V_mov] at ho ⊢; simp at ho ⊢; exact ho.1
  | apart x y =>
    simp only [outA, evOp] at ho ⊢
    split at ho
    · rename_i hc; rw [if_pos hc]; simp at ho ⊢; exact ho.1
    · simp at ho
  | mkf f a b => simp only [outA, V_mkf] at ho ⊢; simp at ho ⊢; exact ho.1
  | mm m xs =>
    simp only [outA, evOp, Option.bind_eq_some_iff] at ho ⊢
    obtain ⟨l, hl, ho⟩ := ho
    refine ⟨l, hl, ?_⟩
    split at ho
    · simp at ho
    · simp at ho ⊢; exact ho.1
  | _ => first
    | (simp [effOf] at he; done)
    | (simp only [outA, V_pick, V_bin, V_eqa, V_eqb, V_un, V_conv, V_strid, V_csb, V_getf, V_idxV, V_idxStr, V_slcStr, V_build, V_bsl, V_lenStr, V_ext] at ho ⊢
       exact pr_any ho)
/-! changing places -/
theorem getD_put {t : List DV} {d : Option Nat} {v : DV} {i : Nat} (h : d ≠ some i) : (putT t d v).getD i .junk = t.getD i .junk := by
  cases d with
  | none => rfl
  | some j => simp only [putT]; rw [List.getD_eq_getElem?_getD, List.getElem?_set_ne (by simpa using h), ← List.getD_eq_getElem?_getD]
theorem putT_comm {t : List DV} {d e : Option Nat} {v u : DV} (h : ∀ i, d = some i → e ≠ some i) : putT (putT t d v) e u = putT (putT t e u) d v := by
  cases d with
  | none => rfl
  | some i =>
    cases e with
    | none => rfl
    | some j =>
      have hij : i ≠ j := fun e => h i rfl (by rw [e])
      exact List.set_comm _ _ hij
theorem goes_congr {t t' : List DV} {g : Option (Nat × Bool)} (h : ∀ i b, g = some (i, b) → t.getD i .junk = t'.getD i .junk) : goes t g = goes t' g := by
  cases g with
  | none => rfl
  | some p => simp only [goes, h p.1 p.2 rfl]
theorem stepA_congr {P : Program} {o : AOper} {t t' : List DV} {h h' : List AObj} {v : DV} (hr : ∀ i ∈ o.looks, t.getD i .junk = t'.getD i .junk) (hs : stepA P o ⟨t, h⟩ v h') : stepA P o ⟨t', h⟩ v h' := by
  have hg : goes t o.g = goes t' o.g := goes_congr fun i b e => hr i (by simp [AOper.looks, e])
  simp only [stepA, ← hg] at hs ⊢
  split at hs
  · exact outA_congr (fun i hi => hr i (by simp [AOper.looks, hi])) hs
  · exact hs
  · exact hs
theorem stepA_keep {P : Program} {o : AOper} {t : List DV} {h h' : List AObj} {v : DV} (he : effOf o.op ≤ 1) (hs : stepA P o ⟨t, h⟩ v h') : h' = h := by
  simp only [stepA] at hs
  split at hs
  · exact outA_keep he hs
  · exact hs.2
  · exact hs.elim
theorem stepA_any {P : Program} {o : AOper} {t : List DV} {h h' h2 : List AObj} {v : DV} (he : effOf o.op = 0) (hs : stepA P o ⟨t, h⟩ v h') : stepA P o ⟨t, h2⟩ v h2 := by
  simp only [stepA] at hs ⊢
  split at hs
  · exact outA_any he hs
  · exact ⟨hs.1, trivial⟩
  · exact hs
theorem eff_le (op : AOp) : effOf op ≤ 2 := by cases op <;> simp [effOf]

/-! more objects -/
def SubH (h h' : List AObj) : Prop := ∀ id l, objAt h id = some l → objAt h' id = some l
theorem subH_append (h k : List AObj) : SubH h (h ++ k) := by
  intro id l e
  unfold objAt at e ⊢
  by_cases hi : id < h.length
  · rw [List.getElem?_append_left hi]; exact e
  · rw [List.getElem?_eq_none (by omega)] at e; simp at e
section
variable {h h' : List AObj} (hs : SubH h h')
include hs
theorem objV_sub {id ver : Nat} {l : List DV} (e : objV h id ver = some l) : objV h' id ver = some l := by
  unfold objV at e ⊢
  obtain ⟨k, h1, h2⟩ := Option.bind_eq_some_iff.1 e
  rw [hs id k h1]; exact h2
theorem mapV_sub {α : Type} {id ver : Nat} {f : List DV → α} {d : α} (e : (objV h id ver).map f = some d) : (objV h' id ver).map f = some d := by
  obtain ⟨k, h1, h2⟩ := Option.map_eq_some_iff.1 e
  rw [objV_sub hs h1]; exact congrArg some h2
theorem bindV_sub {α : Type} {id ver : Nat} {f : List DV → Option α} {d : α} (e : (objV h id ver).bind f = some d) : (objV h' id ver).bind f = some d := by
  obtain ⟨k, h1, h2⟩ := Option.bind_eq_some_iff.1 e
  rw [objV_sub hs h1]; exact h2
theorem bindA_sub {α : Type} {id : Nat} {f : List DV → Option α} {d : α} (e : (objAt h id).bind f = some d) : (objAt h' id).bind f = some d := by
  obtain ⟨k, h1, h2⟩ := Option.bind_eq_some_iff.1 e
  rw [hs _ _ h1]; exact h2
theorem vis_sub {x : DV} {d : List DV} (e : vis h x = some d) : vis h' x = some d := by
  cases x with
  | mp id ver off => exact bindA_sub hs e
  | _ => exact e
theorem visS_sub {x : DV} {d : Nat × List DV} (e : visS h x = some d) : visS h' x = some d := by
  cases x with
  | ms id ver off s n lim => exact bindA_sub hs e
  | _ => exact e
theorem nilKind_sub {x : DV} {d : Nat × Bool} (e : nilKind h x = some d) : nilKind h' x = some d := by
  cases x with
  | ms id ver off s n lim => exact bindA_sub hs e
  | mp id ver off => exact bindA_sub hs e
  | _ => exact e
theorem eqn_sub {kd : Nat} {neg : Bool} {x y d : DV} (e : eqnD kd neg (nilKind h x) (nilKind h y) = some d) : eqnD kd neg (nilKind h' x) (nilKind h' y) = some d := by
  cases h1 : nilKind h x with
  | none => rw [h1] at e; simp [eqnD] at e
  | some a =>
    cases h2 : nilKind h y with
    | none => rw [h1, h2] at e; simp [eqnD] at e
    | some b => rw [nilKind_sub hs h1, nilKind_sub hs h2, ← e, h1, h2]
theorem load_sub {n : Nat} {agg : Bool} {x d : DV} (e : loadD n agg (vis h x) = some d) : loadD n agg (vis h' x) = some d := by
  cases h1 : vis h x with
  | none => rw [h1] at e; simp [loadD] at e
  | some a => rw [vis_sub hs h1, ← e, h1]
theorem cbs_sub {x d : DV} (e : cbsD (visS h x) = some d) : cbsD (visS h' x) = some d := by
  cases h1 : visS h x with
  | none => rw [h1] at e; simp [cbsD] at e
  | some a => rw [visS_sub hs h1, ← e, h1]
theorem idxSD_sub {s : Nat} {x : DV} {i : Int} {d : DV} (e : idxSD h s x i = some d) : idxSD h' s x i = some d := by
  cases x with
  | ms id ver off s' n lim =>
    simp only [idxSD] at e ⊢
    split at e
    · rename_i hc; rw [if_pos hc]; exact mapV_sub hs e
    · simp at e
  | _ => exact e
theorem idxAD_sub {len s : Nat} {x : DV} {i : Int} {d : DV} (e : idxAD h len s x i = some d) : idxAD h' len s x i = some d := by
  cases x with
  | mp id ver off =>
    simp only [idxAD] at e ⊢
    split at e
    · rename_i hc; rw [if_pos hc]; exact mapV_sub hs e
    · simp at e
  | _ => exact e
theorem fldD_sub {off : Nat} {x d : DV} (e : fldD h off x = some d) : fldD h' off x = some d := by
  cases x with
  | mp id ver o => exact mapV_sub hs e
  | _ => exact e
theorem slcSD_sub {s : Nat} {x : DV} {lo hi mx : Option DV} {d : DV} (e : slcSD h s x lo hi mx = some d) : slcSD h' s x lo hi mx = some d := by
  cases x with
  | ms id ver off s' n lim =>
    simp only [slcSD] at e ⊢
    obtain ⟨⟨l, k⟩, h1, h2⟩ := Option.bind_eq_some_iff.1 e
    rw [h1]
    simp only [Option.bind_some] at h2 ⊢
    split at h2
    · simp at h2
    · rename_i hc
      rw [if_neg hc]
      cases mx with
      | none => exact mapV_sub hs h2
      | some m =>
        simp only at h2 ⊢
        obtain ⟨M, h3, h4⟩ := Option.bind_eq_some_iff.1 h2
        rw [h3]
        simp only [Option.bind_some] at h4 ⊢
        split at h4
        · rename_i hc2; rw [if_pos hc2]; exact mapV_sub hs h4
        · simp at h4
  | _ => exact e
theorem slcAD_sub {len s : Nat} {x : DV} {lo hi : Option DV} {d : DV} (e : slcAD h len s x lo hi = some d) : slcAD h' len s x lo hi = some d := by
  cases x with
  | mp id ver off =>
    simp only [slcAD] at e ⊢
    obtain ⟨⟨l, k⟩, h1, h2⟩ := Option.bind_eq_some_iff.1 e
    rw [h1]
    exact bindV_sub hs h2
  | _ => exact e
theorem lenD_sub {x d : DV} (e : lenD h x = some d) : lenD h' x = some d := by
  cases x with
  | ms id ver off s n lim => exact mapV_sub hs e
  | _ => exact e
theorem nilcD_sub {x d : DV} (e : nilcD h x = some d) : nilcD h' x = some d := by
  cases x with
  | mp id ver o => exact mapV_sub hs e
  | fn f a b => cases f <;> exact e
  | _ => exact e
omit hs in
theorem withI_sub {α : Type} {i : Option Int} {f f' : Int → Option α} {d : α} (hf : ∀ n, f n = some d → f' n = some d) (e : withI i f = some d) : withI i f' = some d := by
  cases i with
  | none => simp [withI] at e
  | some n => exact hf n e
end
mutual
theorem snapW_sub {f f' : DV → Option DV} (hf : ∀ x d, f x = some d → f' x = some d) : ∀ (x d : DV), snapW f x = some d → snapW f' x = some d
  | .agg cs, d, e => by simp only [snapW, Option.map_eq_some_iff] at e ⊢; obtain ⟨a, h1, h2⟩ := e; exact ⟨a, snapWL_sub hf _ _ h1, h2⟩
  | .tup cs, d, e => by simp only [snapW, Option.map_eq_some_iff] at e ⊢; obtain ⟨a, h1, h2⟩ := e; exact ⟨a, snapWL_sub hf _ _ h1, h2⟩
  | .sl b s n cs, d, e => by simp only [snapW, Option.map_eq_some_iff] at e ⊢; obtain ⟨a, h1, h2⟩ := e; exact ⟨a, snapWL_sub hf _ _ h1, h2⟩
  | .ref cs, d, e => by simp only [snapW, Option.map_eq_some_iff] at e ⊢; obtain ⟨a, h1, h2⟩ := e; exact ⟨a, snapWL_sub hf _ _ h1, h2⟩
  | .fn g a b, d, e => by
    simp only [snapW, Option.bind_eq_some_iff, Option.map_eq_some_iff] at e ⊢
    obtain ⟨u, h1, v, h2, h3⟩ := e; exact ⟨u, snapWL_sub hf _ _ h1, v, snapWL_sub hf _ _ h2, h3⟩
  | .iface t v, d, e => by simp only [snapW, Option.map_eq_some_iff] at e ⊢; obtain ⟨a, h1, h2⟩ := e; exact ⟨a, snapW_sub hf _ _ h1, h2⟩
  | .ms a b c x y l, d, e => hf _ _ e
  | .mp a b c, d, e => hf _ _ e
  | .int .., _, e => e
  | .bool .., _, e => e
  | .str .., _, e => e
  | .nilp, _, e => e
  | .nilm, _, e => e
  | .nilf, _, e => e
  | .nili, _, e => e
  | .nils, _, e => e
  | .junk, _, e => e
theorem snapWL_sub {f f' : DV → Option DV} (hf : ∀ x d, f x = some d → f' x = some d) : ∀ (x d : List DV), snapWL f x = some d → snapWL f' x = some d
  | [], d, e => e
  | a :: r, d, e => by
    simp only [snapWL, Option.bind_eq_some_iff, Option.map_eq_some_iff] at e ⊢
    obtain ⟨u, h1, v, h2, h3⟩ := e; exact ⟨u, snapW_sub hf _ _ h1, v, snapWL_sub hf _ _ h2, h3⟩
end
theorem mapAll_sub {α β : Type} {f f' : α → Option β} (hf : ∀ x d, f x = some d → f' x = some d) : ∀ {l : List α} {r : List β}, mapAll f l = some r → mapAll f' l = some r
  | [], _, e => e
  | a :: l, r, e => by
    simp only [mapAll, Option.bind_eq_some_iff, Option.map_eq_some_iff] at e ⊢
    obtain ⟨u, h1, v, h2, h3⟩ := e; exact ⟨u, hf _ _ h1, v, mapAll_sub hf h2, h3⟩
theorem snap_sub {h h' : List AObj} (hs : SubH h h') : ∀ (k : Nat) (x d : DV), snap h k x = some d → snap h' k x = some d
  | 0, x, d, e => e
  | k + 1, x, d, e => by
    simp only [snap] at e ⊢
    refine snapW_sub (fun x d e => ?_) _ _ e
    have ih := snap_sub hs k
    cases x with
    | ms id ver off s n lim =>
      obtain ⟨l, h1, h2⟩ := Option.bind_eq_some_iff.1 e
      simp only [hs _ _ h1, Option.bind_some]
      split at h2
      · rename_i hc
        rw [if_pos hc]
        obtain ⟨cs, h3, h4⟩ := Option.map_eq_some_iff.1 h2
        rw [mapAll_sub (fun x d => ih x d) h3]; exact congrArg some h4
      · simp at h2
    | mp id ver off =>
      obtain ⟨l, h1, h2⟩ := Option.bind_eq_some_iff.1 e
      simp only [hs _ _ h1, Option.bind_some]
      split at h2
      · rename_i hc
        rw [if_pos hc]
        obtain ⟨cs, h3, h4⟩ := Option.map_eq_some_iff.1 h2
        rw [mapAll_sub (fun x d => ih x d) h3]; exact congrArg some h4
      · simp at h2
    | _ => exact e
theorem pr_sub {o o' : Option DV} {h k h' : List AObj} {v : DV} (hf : o = some v → o' = some v) (e : pr o h = some (v, h)) : pr o' k = some (v, k) := by
  cases o with
  | none => simp [pr] at e
  | some d =>
    simp [pr] at e
    subst e
    rw [hf rfl]; rfl
/-- operations that only look go through with more objects, too -/
theorem outA_sub {P : Program} {op : AOp} {t : List DV} {h h' : List AObj} {v : DV} (hs : SubH h h') (he : effOf op = 1) (ho : outA P op t h v h) : outA P op t h' v h' := by
  cases op with
  | call f as =>
    simp only [outA] at ho ⊢
    split at ho
    · refine ⟨?_, by first | rfl | trivial⟩
      rcases ho.1 with h1 | ⟨h1, a, h2, h3⟩
      · exact .inl h1
      · exact .inr ⟨h1, a, mapAll_sub (fun x d => snap_sub hs 3 x d) h2, h3⟩
    · exact ho.elim
  | load n agg x => simp only [outA, V_load] at ho ⊢; exact pr_sub (h' := h') (load_sub hs) ho
  | idxS s x i => simp only [outA, V_idxS] at ho ⊢; exact pr_sub (h' := h') (withI_sub (fun _ => idxSD_sub hs)) ho
  | idxA l s x i => simp only [outA, V_idxA] at ho ⊢; exact pr_sub (h' := h') (withI_sub (fun _ => idxAD_sub hs)) ho
  | fld o x => simp only [outA, V_fld] at ho ⊢; exact pr_sub (h' := h') (fldD_sub hs) ho
  | slcS s x lo hi mx => simp only [outA, V_slcS] at ho ⊢; exact pr_sub (h' := h') (slcSD_sub hs) ho
  | slcA l s x lo hi => simp only [outA, V_slcA] at ho ⊢; exact pr_sub (h' := h') (slcAD_sub hs) ho
  | cbs x => simp only [outA, V_cbs] at ho ⊢; exact pr_sub (h' := h') (cbs_sub hs) ho
  | len x => simp only [outA, V_len] at ho ⊢; exact pr_sub (h' := h') (lenD_sub hs) ho
  | nilc x => simp only [outA, V_nilc] at ho ⊢; exact pr_sub (h' := h') (nilcD_sub hs) ho
  | eqn kd neg x y => simp only [outA, V_eqn] at ho ⊢; exact pr_sub (h' := h') (eqn_sub hs) ho
  | _ => simp [effOf] at he
theorem stepA_sub {P : Program} {o : AOper} {t : List DV} {h h' : List AObj} {v : DV} (hs : SubH h h') (he : effOf o.op = 1) (ho : stepA P o ⟨t, h⟩ v h) : stepA P o ⟨t, h'⟩ v h' := by
  simp only [stepA] at ho ⊢
  split at ho
  · exact outA_sub hs he ho
  · exact ⟨ho.1, trivial⟩
  · exact ho.elim
theorem outA_new {P : Program} {op : AOp} {t : List DV} {h h' : List AObj} {v : DV} (he : isNewOp op = true) (ho : outA P op t h v h') : SubH h h' := by
  cases op with
  | callN f as =>
    simp only [outA] at ho
    split at ho
    · rcases ho with ⟨_, rfl⟩ | ⟨_, tail, rfl⟩
      · exact fun _ _ e => e
      · exact subH_append _ _
    · exact ho.elim
  | alloc zs => simp only [outA, V_alloc] at ho; simp at ho; rw [← ho.2]; exact subH_append _ _
  | box x =>
    simp only [outA, V_box, boxD] at ho
    split at ho
    · simp at ho; rw [← ho.2]; exact subH_append _ _
    · simp at ho
  | mks s b zs l c =>
    simp only [outA, evOp, Option.bind_eq_some_iff] at ho
    obtain ⟨l', _, c', _, ho⟩ := ho
    split at ho
    · simp at ho; rw [← ho.2]; exact subH_append _ _
    · simp at ho
  | _ => simp [isNewOp] at he
theorem stepA_new {P : Program} {o : AOper} {st : St} {h' : List AObj} {v : DV} (he : isNewOp o.op = true) (ho : stepA P o st v h') : SubH st.h h' := by
  simp only [stepA] at ho
  split at ho
  · exact outA_new he ho
  · rw [ho.2]; exact fun _ _ e => e
  · exact ho.elim

theorem swap {P : Program} {x y : AOper} (hok : swapOK x y = true) {r : List AOper} {st : St} {Φ : St → Prop} (h : drawOps P (x :: y :: r) st Φ) : drawOps P (y :: x :: r) st Φ := by
  obtain ⟨t, m⟩ := st
  obtain ⟨v, h1, hx, h⟩ := drawOps_cons.1 h
  obtain ⟨u, h2, hy, h⟩ := drawOps_cons.1 h
  simp only at hy h
  simp only [swapOK, Bool.and_eq_true, Bool.or_eq_true, Bool.not_eq_true', Bool.and_eq_false_iff, beq_eq_false_iff_ne, beq_iff_eq, ne_eq, decide_eq_false_iff_not, ge_iff_le] at hok
  obtain ⟨⟨⟨q1, q2⟩, q3⟩, q4⟩ := hok
  have a1 : ∀ i ∈ y.looks, x.d ≠ some i := fun i hi e => by
    rw [e] at q1; simp only [Bool.and_eq_true, Bool.not_eq_true', bne_iff_ne, ne_eq] at q1
    have := q1.1; simp at this; exact this hi
  have a2 : ∀ i, x.d = some i → y.d ≠ some i := fun i e e' => by
    rw [e] at q1; simp [e'] at q1
  have a3 : ∀ i ∈ x.looks, y.d ≠ some i := fun i hi e => by
    rw [e] at q2; simp at q2; exact q2 hi
  have hy' : stepA P y ⟨t, h1⟩ u h2 := stepA_congr (fun i hi => getD_put (a1 i hi)) hy
  have ex := eff_le x.op
  have ey := eff_le y.op
  have fin : ∀ k, stepA P y ⟨t, m⟩ u k → stepA P x ⟨t, k⟩ v h2 → drawOps P (y :: x :: r) ⟨t, m⟩ Φ := by
    intro k g1 g2
    refine drawOps_cons.2 ⟨u, k, g1, drawOps_cons.2 ⟨v, h2, ?_, ?_⟩⟩
    · exact stepA_congr (fun i hi => (getD_put (a3 i hi)).symm) g2
    · simp only
      rw [← putT_comm a2]; exact h
  by_cases e2 : effOf x.op = 2
  · have ey0 : effOf y.op = 0 := by omega
    have := stepA_keep (by omega) hy'
    subst this
    exact fin m (stepA_any ey0 hy') hx
  · have k1 := stepA_keep (by omega) hx
    subst k1
    by_cases e3 : effOf y.op = 2
    · by_cases e4 : effOf x.op = 0
      · exact fin h2 hy' (stepA_any e4 hx)
      · have q5 : isNewOp y.op = true := by
          rcases q4 with q4 | q4
          · omega
          · exact q4.1
        exact fin h2 hy' (stepA_sub (stepA_new q5 hy') (by omega) hx)
    · have := stepA_keep (by omega) hy'
      subst this
      exact fin _ hy' hx

/-! readers and writers that are apart -/
section
variable {h h' : List AObj}
theorem objV_one {id ver : Nat} {l : List DV} (hs : ∀ l, objAt h id = some l → objAt h' id = some l) (e : objV h id ver = some l) : objV h' id ver = some l := by
  unfold objV at e ⊢
  obtain ⟨k, h1, h2⟩ := Option.bind_eq_some_iff.1 e
  rw [hs k h1]; exact h2
theorem mapV_one {α : Type} {id ver : Nat} {f : List DV → α} {d : α} (hs : ∀ l, objAt h id = some l → objAt h' id = some l) (e : (objV h id ver).map f = some d) : (objV h' id ver).map f = some d := by
  obtain ⟨k, h1, h2⟩ := Option.map_eq_some_iff.1 e
  rw [objV_one hs h1]; exact congrArg some h2
theorem bindA_one {α : Type} {id : Nat} {f : List DV → Option α} {d : α} (hs : ∀ l, objAt h id = some l → objAt h' id = some l) (e : (objAt h id).bind f = some d) : (objAt h' id).bind f = some d := by
  obtain ⟨k, h1, h2⟩ := Option.bind_eq_some_iff.1 e
  rw [hs _ h1]; exact h2
theorem vis_one {x : DV} {d : List DV} (hs : ∀ id, objId x = some id → ∀ l, objAt h id = some l → objAt h' id = some l) (e : vis h x = some d) : vis h' x = some d := by
  cases x with
  | mp id ver off => exact bindA_one (hs _ rfl) e
  | _ => exact e
theorem load_one {n : Nat} {agg : Bool} {x d : DV} (hs : ∀ id, objId x = some id → ∀ l, objAt h id = some l → objAt h' id = some l) (e : loadD n agg (vis h x) = some d) : loadD n agg (vis h' x) = some d := by
  cases h1 : vis h x with
  | none => rw [h1] at e; simp [loadD] at e
  | some a => rw [vis_one hs h1, ← e, h1]
theorem idxSD_one {s : Nat} {x : DV} {i : Int} {d : DV} (hs : ∀ id, objId x = some id → ∀ l, objAt h id = some l → objAt h' id = some l) (e : idxSD h s x i = some d) : idxSD h' s x i = some d := by
  cases x with
  | ms id ver off s' n lim =>
    simp only [idxSD] at e ⊢
    split at e
    · rename_i hc; rw [if_pos hc]; exact mapV_one (hs _ rfl) e
    · simp at e
  | _ => exact e
theorem fldD_one {off : Nat} {x d : DV} (hs : ∀ id, objId x = some id → ∀ l, objAt h id = some l → objAt h' id = some l) (e : fldD h off x = some d) : fldD h' off x = some d := by
  cases x with
  | mp id ver o => exact mapV_one (hs _ rfl) e
  | _ => exact e
theorem lenD_one {x d : DV} (hs : ∀ id, objId x = some id → ∀ l, objAt h id = some l → objAt h' id = some l) (e : lenD h x = some d) : lenD h' x = some d := by
  cases x with
  | ms id ver off s n lim => exact mapV_one (hs _ rfl) e
  | _ => exact e
theorem slcSD_one {s : Nat} {x : DV} {lo hi mx : Option DV} {d : DV} (hs : ∀ id, objId x = some id → ∀ l, objAt h id = some l → objAt h' id = some l) (e : slcSD h s x lo hi mx = some d) : slcSD h' s x lo hi mx = some d := by
  cases x with
  | ms id ver off s' n lim =>
    simp only [slcSD] at e ⊢
    obtain ⟨⟨l, k⟩, h1, h2⟩ := Option.bind_eq_some_iff.1 e
    rw [h1]
    simp only [Option.bind_some] at h2 ⊢
    split at h2
    · simp at h2
    · rename_i hc
      rw [if_neg hc]
      cases mx with
      | none => exact mapV_one (hs _ rfl) h2
      | some m =>
        simp only at h2 ⊢
        obtain ⟨M, h3, h4⟩ := Option.bind_eq_some_iff.1 h2
        rw [h3]
        simp only [Option.bind_some] at h4 ⊢
        split at h4
        · rename_i hc2; rw [if_pos hc2]; exact mapV_one (hs _ rfl) h4
        · simp at h4
  | _ => exact e
end
theorem read_eff {op : AOp} {a : Nat} (ha : readsOf op = some a) : effOf op = 1 ∧ a ∈ op.reads := by
  unfold readsOf at ha
  split at ha <;> simp at ha <;> subst ha <;> simp [effOf, AOp.reads, Opd.tmps]
theorem outA_read {P : Program} {op : AOp} {a : Nat} {t : List DV} {h h' : List AObj} {v : DV} (ha : readsOf op = some a) (hs : ∀ id, objId (t.getD a .junk) = some id → ∀ l, objAt h id = some l → objAt h' id = some l) (ho : outA P op t h v h) : outA P op t h' v h' := by
  unfold readsOf at ha
  split at ha <;> simp at ha <;> subst ha
  · simp only [outA, V_load] at ho ⊢; exact pr_sub (h' := h') (load_one hs) ho
  · simp only [outA, V_fld] at ho ⊢; exact pr_sub (h' := h') (fldD_one hs) ho
  · simp only [outA, V_idxS] at ho ⊢; exact pr_sub (h' := h') (withI_sub (fun _ => idxSD_one hs)) ho
  · simp only [outA, V_slcS] at ho ⊢; exact pr_sub (h' := h') (slcSD_one hs) ho
  · simp only [outA, V_len] at ho ⊢; exact pr_sub (h' := h') (lenD_one hs) ho
theorem stepA_read {P : Program} {o : AOper} {a : Nat} {t : List DV} {h h' : List AObj} {v : DV} (ha : readsOf o.op = some a) (hs : ∀ id, objId (t.getD a .junk) = some id → ∀ l, objAt h id = some l → objAt h' id = some l) (ho : stepA P o ⟨t, h⟩ v h) : stepA P o ⟨t, h'⟩ v h' := by
  simp only [stepA] at ho ⊢
  split at ho
  · exact outA_read ha hs ho
  · exact ⟨ho.1, trivial⟩
  · exact ho.elim
theorem objAt_set {h : List AObj} {id id' : Nat} {o : AObj} (hne : id ≠ id') : objAt (h.set id o) id' = objAt h id' := by
  unfold objAt; rw [List.getElem?_set_ne hne]
theorem objAt_app {h : List AObj} {id : Nat} {o : AObj} (hne : h.length ≠ id) : objAt (h ++ [o]) id = objAt h id := by
  unfold objAt
  by_cases hi : id < h.length
  · rw [List.getElem?_append_left hi]
  · rw [List.getElem?_eq_none (by simp; omega), List.getElem?_eq_none (by omega)]
theorem evApp_touch {h h' : List AObj} {s b : Nat} {x y v : DV} (e : evApp h s b x y = some (v, h')) : ∀ id, objId v ≠ some id → objAt h' id = objAt h id := by
  intro id hne
  unfold evApp at e
  obtain ⟨⟨m, cs⟩, _, e⟩ := Option.bind_eq_some_iff.1 e
  simp only at e
  split at e
  · simp at e
  split at e
  · split at e
    · simp at e; rw [← e.2]
    · split at e
      · simp at e; obtain ⟨rfl, rfl⟩ := e
        exact objAt_app fun q => hne (by rw [← q]; rfl)
      · simp at e
  · split at e
    · simp at e; rw [← e.2]
    · split at e
      · simp at e; obtain ⟨rfl, rfl⟩ := e
        exact objAt_app fun q => hne (by rw [← q]; rfl)
      · simp at e
  · obtain ⟨l, _, e⟩ := Option.bind_eq_some_iff.1 e
    split at e
    · split at e
      · simp at e; rw [← e.2]
      · split at e
        · simp at e; obtain ⟨rfl, rfl⟩ := e
          exact objAt_set fun q => hne (by rw [← q]; rfl)
        · split at e
          · simp at e; obtain ⟨rfl, rfl⟩ := e
            exact objAt_set fun q => hne (by rw [← q]; rfl)
          · simp at e
    · simp at e
  · simp at e
/-- a writer touches what it names, and nothing else -/
theorem stepA_touch {P : Program} {o : AOper} {b : Nat} {res : Bool} {t : List DV} {h h' : List AObj} {v : DV} (ht : touchOf o = some (b, res)) (ho : stepA P o ⟨t, h⟩ v h') : ∀ id, objId (if res = true then v else t.getD b .junk) ≠ some id → objAt h' id = objAt h id := by
  intro id hne
  simp only [stepA] at ho
  split at ho
  · unfold touchOf at ht
    split at ht
    · rename_i n a y hop
      simp at ht; obtain ⟨rfl, rfl⟩ := ht
      rw [hop] at ho
      simp only [outA, evOp, ev] at ho
      simp only [Bool.false_eq_true, if_false] at hne
      split at ho
      · rename_i id' ver off hmp
        obtain ⟨l, _, ho⟩ := Option.bind_eq_some_iff.1 ho
        obtain ⟨_, ho⟩ := Option.ite_none_right_eq_some.1 ho
        simp only [Option.some.injEq, Prod.mk.injEq] at ho
        rw [← ho.2]
        exact objAt_set fun q => hne (by rw [← q, hmp]; rfl)
      · simp at ho
    · rename_i s b' x y hop
      obtain ⟨d, hd, ht⟩ := Option.map_eq_some_iff.1 ht
      simp at ht; obtain ⟨rfl, rfl⟩ := ht
      rw [hop] at ho
      simp only [if_true] at hne
      exact evApp_touch (show evApp _ _ _ _ _ = _ from ho) id hne
    · simp at ht
  · rw [ho.2]
  · exact ho.elim
theorem drawOps_end {P : Program} {Φ : St → Prop} {a b : Nat} : ∀ (r : List AOper) (st : St), drawOps P r st Φ → (∀ o ∈ r, o.d ≠ some a ∧ o.d ≠ some b) → ∃ st', Φ st' ∧ st'.t.getD a .junk = st.t.getD a .junk ∧ st'.t.getD b .junk = st.t.getD b .junk
  | [], st, h, _ => ⟨st, h, rfl, rfl⟩
  | o :: r, st, h, hr => by
    obtain ⟨v, h', _, h2⟩ := drawOps_cons.1 h
    obtain ⟨st', g1, g2, g3⟩ := drawOps_end r _ h2 (fun x hx => hr x (by simp [hx]))
    have := hr o (by simp)
    exact ⟨st', g1, by rw [g2]; exact getD_put this.1, by rw [g3]; exact getD_put this.2⟩
theorem getD_put_self {t : List DV} {i : Nat} {v : DV} : (putT t (some i) v).getD i .junk = v ∨ (putT t (some i) v).getD i .junk = .junk := by
  simp only [putT, List.getD_eq_getElem?_getD]
  by_cases hi : i < t.length
  · left; rw [List.getElem?_set_self hi]; rfl
  · right; rw [List.getElem?_eq_none (by simp; omega)]; rfl
theorem apart_ne {a b : DV} (h : apartD a b = true) : b ≠ .junk ∧ ∀ id, objId a = some id → objId b ≠ some id := by
  unfold apartD at h
  split at h
  · simp at h
  · rename_i hb
    refine ⟨fun e => hb e, fun id h1 h2 => ?_⟩
    rw [h1, h2] at h
    simp at h
/-- what the static look at a reader and a writer says -/
structure Dyn (x y : AOper) (a b : Nat) (res : Bool) : Prop where
  rd : readsOf x.op = some a
  wr : touchOf y = some (b, res)
  tm : ∀ i, x.d = some i → i ∉ y.looks ∧ y.d ≠ some i
  tm' : ∀ i, y.d = some i → i ∉ x.looks
  xa : x.d ≠ some a
  yb : res = false → y.d ≠ some b
theorem touch_d {y : AOper} {b : Nat} (h : touchOf y = some (b, true)) : y.d = some b := by
  unfold touchOf at h
  split at h <;> simp at h
  exact h
theorem touch_looks {y : AOper} {b : Nat} (h : touchOf y = some (b, false)) : b ∈ y.looks := by
  unfold touchOf at h
  split at h
  · rename_i hop
    simp at h; subst h
    simp [AOper.looks, hop, AOp.reads, Opd.tmps]
  · simp at h
  · simp at h
theorem swapD {P : Program} {rd wr : AOper} {a b : Nat} {res : Bool} (hd : Dyn rd wr a b res) {x y : AOper} (hxy : (x = rd ∧ y = wr) ∨ (x = wr ∧ y = rd)) {r : List AOper} {st : St} {Φ : St → Prop} (hr : ∀ o ∈ r, o.d ≠ some a ∧ o.d ≠ some b)
    (hΦ : ∀ st', Φ st' → apartD (st'.t.getD a .junk) (st'.t.getD b .junk) = true) (h : drawOps P (x :: y :: r) st Φ) : drawOps P (y :: x :: r) st Φ := by
  obtain ⟨t, m⟩ := st
  obtain ⟨v, h1, hx, h⟩ := drawOps_cons.1 h
  obtain ⟨u, h2, hy, hrest⟩ := drawOps_cons.1 h
  simp only at hy hrest
  obtain ⟨st', f1, f2, f3⟩ := drawOps_end r _ hrest hr
  have hap := apart_ne (hΦ st' f1)
  rw [f2, f3] at hap
  simp only at hap
  have hra : a ∈ rd.looks := by simp [AOper.looks, (read_eff hd.rd).2]
  have hwa : wr.d ≠ some a := fun e => hd.tm' _ e hra
  rcases hxy with ⟨rfl, rfl⟩ | ⟨rfl, rfl⟩
  · -- the reader first
    have hk := stepA_keep (by have := (read_eff hd.rd).1; omega) hx
    subst hk
    have hy' : stepA P y ⟨t, h1⟩ u h2 := stepA_congr (fun i hi => getD_put (fun e => (hd.tm i e).1 hi)) hy
    have ea : (putT (putT t x.d v) y.d u).getD a .junk = t.getD a .junk := by rw [getD_put hwa, getD_put hd.xa]
    have eb : objId (if res = true then u else t.getD b .junk) = objId ((putT (putT t x.d v) y.d u).getD b .junk) := by
      cases res with
      | true =>
        have hyd := touch_d hd.wr
        rw [hyd] at hap ⊢
        rcases getD_put_self (t := putT t x.d v) (i := b) (v := u) with e | e
        · rw [e]; rfl
        · exact absurd e hap.1
      | false =>
        have hb := touch_looks hd.wr
        simp only [Bool.false_eq_true, if_false]
        rw [getD_put (hd.yb rfl), getD_put (fun e => (hd.tm b e).1 hb)]
    have st1 : ∀ id, objId (t.getD a .junk) = some id → ∀ l, objAt h1 id = some l → objAt h2 id = some l := fun id e l hl => by
      rw [stepA_touch hd.wr hy' id (by rw [eb]; exact hap.2 id (by rw [ea]; exact e))]; exact hl
    have hx' := stepA_read hd.rd st1 hx
    refine drawOps_cons.2 ⟨u, h2, hy', drawOps_cons.2 ⟨v, h2, ?_, ?_⟩⟩
    · exact stepA_congr (fun i hi => (getD_put (fun e => hd.tm' i e hi)).symm) hx'
    · simp only
      rw [← putT_comm (fun i e => (hd.tm i e).2)]; exact hrest
  · -- the writer first
    have hk := stepA_keep (by have := (read_eff hd.rd).1; omega) hy
    subst hk
    have hy' : stepA P y ⟨t, h2⟩ u h2 := stepA_congr (fun i hi => getD_put (fun e => hd.tm' i e hi)) hy
    have ea : (putT (putT t x.d v) y.d u).getD a .junk = t.getD a .junk := by rw [getD_put hd.xa, getD_put hwa]
    have eb : objId (if res = true then v else t.getD b .junk) = objId ((putT (putT t x.d v) y.d u).getD b .junk) := by
      cases res with
      | true =>
        have hxd := touch_d hd.wr
        have hyb : y.d ≠ some b := fun e => (hd.tm b e).2 hxd
        rw [getD_put hyb, hxd] at hap ⊢
        rcases getD_put_self (t := t) (i := b) (v := v) with e | e
        · rw [e]; rfl
        · exact absurd e hap.1
      | false =>
        have hb := touch_looks hd.wr
        simp only [Bool.false_eq_true, if_false]
        rw [getD_put (fun e => (hd.tm b e).1 hb), getD_put (hd.yb rfl)]
    have st1 : ∀ id, objId (t.getD a .junk) = some id → ∀ l, objAt h2 id = some l → objAt m id = some l := fun id e l hl => by
      rw [← stepA_touch hd.wr hx id (by rw [eb]; exact hap.2 id (by rw [ea]; exact e))]; exact hl
    have hy'' := stepA_read hd.rd st1 hy'
    refine drawOps_cons.2 ⟨u, m, hy'', drawOps_cons.2 ⟨v, h2, ?_, ?_⟩⟩
    · exact stepA_congr (fun i hi => (getD_put (fun e => (hd.tm i e).1 hi)).symm) hx
    · simp only
      rw [putT_comm (fun i e => (hd.tm i e).2)]; exact hrest

/-- what makes two operations change places: a look at them, or at what they have read and written -/
def SwapG (Φ : St → Prop) (x y : AOper) (r : List AOper) : Prop :=
  swapOK x y = true ∨ ∃ rd wr a b res, Dyn rd wr a b res ∧ ((x = rd ∧ y = wr) ∨ (x = wr ∧ y = rd)) ∧ (∀ o ∈ r, o.d ≠ some a ∧ o.d ≠ some b) ∧ ∀ st', Φ st' → apartD (st'.t.getD a .junk) (st'.t.getD b .junk) = true
theorem swapG {P : Program} {x y : AOper} {r : List AOper} {st : St} {Φ : St → Prop} (hg : SwapG Φ x y r) (h : drawOps P (x :: y :: r) st Φ) : drawOps P (y :: x :: r) st Φ := by
  rcases hg with hg | ⟨rd, wr, a, b, res, h1, h2, h3, h4⟩
  · exact swap hg h
  · exact swapD h1 h2 h3 h4 h

theorem toFrontG {P : Program} {j : AOper} {l2 : List AOper} {Φ : St → Prop} : ∀ (l1 : List AOper) (st : St), (∀ pre x post, l1 = pre ++ x :: post → SwapG Φ x j (post ++ l2)) → drawOps P (l1 ++ j :: l2) st Φ → drawOps P (j :: (l1 ++ l2)) st Φ
  | [], st, _, h => h
  | x :: l1, st, hs, h => by
    obtain ⟨v, h', h1, h2⟩ := drawOps_cons.1 (show drawOps P (x :: (l1 ++ j :: l2)) st Φ from h)
    have := toFrontG l1 _ (fun pre y post e => hs (x :: pre) y post (by rw [e]; rfl)) h2
    exact swapG (hs [] x l1 rfl) (drawOps_cons.2 ⟨v, h', h1, this⟩)

theorem toFront {P : Program} {j : AOper} {l2 : List AOper} {Φ : St → Prop} : ∀ (l1 : List AOper) (st : St), (∀ x ∈ l1, swapOK x j = true) → drawOps P (l1 ++ j :: l2) st Φ → drawOps P (j :: (l1 ++ l2)) st Φ
  | [], st, _, h => h
  | x :: l1, st, hs, h => by
    obtain ⟨v, h', h1, h2⟩ := drawOps_cons.1 (show drawOps P (x :: (l1 ++ j :: l2)) st Φ from h)
    have := toFront l1 _ (fun y hy => hs y (by simp [hy])) h2
    exact swap (hs x (by simp)) (drawOps_cons.2 ⟨v, h', h1, this⟩)

theorem mapAll_length {α β : Type} {f : α → Option β} : ∀ {l : List α} {r : List β}, mapAll f l = some r → r.length = l.length
  | [], r, h => by simp [mapAll] at h; subst h; rfl
  | a :: l, r, h => by
    simp only [mapAll, Option.bind_eq_some_iff, Option.map_eq_some_iff] at h
    obtain ⟨b, _, r', h', rfl⟩ := h
    simp [mapAll_length h']
theorem mapAll_at {α β : Type} {f : α → Option β} : ∀ {l : List α} {r : List β}, mapAll f l = some r → ∀ (i : Nat) (a : α), l[i]? = some a → ∃ b, r[i]? = some b ∧ f a = some b
  | [], r, h, i, a, hi => by simp at hi
  | c :: l, r, h, i, a, hi => by
    simp only [mapAll, Option.bind_eq_some_iff, Option.map_eq_some_iff] at h
    obtain ⟨b, hb, r', h', rfl⟩ := h
    cases i with
    | zero => simp at hi; subst hi; exact ⟨b, rfl, hb⟩
    | succ i => simpa using mapAll_at h' i a (by simpa using hi)

section
variable {P : Program} {X0 : Forb} {base : Nat} {E0 : Env} {w0 : World} {ops : Array Oper} {Q : Exit → Act → World → Prop} {Φ : St → Prop}

/-- one operation at the machine, out of one on data -/
theorem step_wpOp {al : List AOper} (hc : mapAll (compOper P ops) ops.toList = some al) {j : Nat} {ao : AOper} (hj : al[j]? = some ao) {st : St} {v : DV} {h' : List AObj} (hs : stepA P ao st v h') {a : Act} {w : World} (hr : SR X0 base E0 w0 st a w)
    {K : Act → World → Prop} (hK : ∀ a' w', SR X0 base E0 w0 ⟨putT st.t ao.d v, h'⟩ a' w' → K a' w') : wpOp P ops Q j K a w := by
  have hlen := mapAll_length hc
  have hjl : j < al.length := (List.getElem?_eq_some_iff.1 hj).1
  have hjs : j < ops.size := by simpa [hlen] using hjl
  obtain ⟨ao', h1, hao⟩ := mapAll_at hc j ops[j] (by simp [hjs])
  rw [hj] at h1; simp at h1; subst h1
  unfold wpOp
  rw [Array.getElem?_eq_getElem hjs]
  simp only
  generalize ops[j] = o at hao
  obtain ⟨E, hh, hsz, hrep, hdef, ht⟩ := hr
  obtain ⟨hco1, hco2, hco3⟩ := compOper_inv hao
  have next : ∀ (v' : Value) (w' : World) (E' : Env), HeapRel X0 base w' h' E' → Rep E' (FX X0 E') w' v' v → Trans X0 base E w E' w' → K (a.put o.dst v') w' := by
    intro v' w' E' g1 g2 g3
    obtain ⟨p1, p2⟩ := put_rep hsz (g3.repL hrep) g2 o.dst rfl
    rw [hco2] at hK
    exact hK _ _ ⟨E', g1, p1, p2, by rw [put_defers]; exact hdef.mono g3.others, ht.trans g3⟩
  unfold stepA at hs
  split at hs
  · rename_i hg
    have hw : Region.wanted o (yielded ops a.tmps) = true := by
      rcases guard_sound (X0 := X0) hao hsz hrep (goes_guardP (a := True) (b := False) (.inl ⟨hg, trivial⟩)) with ⟨h, _⟩ | ⟨_, h⟩
      · exact h
      · exact h.elim
    rw [if_pos hw]
    left
    obtain ⟨g, dd, op⟩ := ao
    simp only at hco2 hco3 hs
    rcases hco3 with ⟨c, f0, f, as, c1, c2, c3, c4, rfl⟩ | ⟨hop, hnc⟩ | hbad
    · simp only [outA] at hs
      split at hs <;> try (exact hs.elim)
      rename_i gg first captured hev
      obtain ⟨hp, rfl⟩ := hs
      obtain ⟨vs, hrun, hra⟩ := call_run c1 c2 c3 c4 (fun x y _ ho => ops_rep hrep x y ho) hev
      unfold Oper.wp
      rcases hp.calls hh hra with ⟨he, hcl⟩ | ⟨v0, w0', he, v', e1, e2, e3, e4⟩
      · rw [hrun _ _ he]
        refine hcl.mono fun e w' ⟨v', e1, e2, e3, e4⟩ => ?_
        subst e1
        exact next v' w' E e2 e3 e4
      · rw [hrun _ _ he]
        cases e1
        exact next v0 w0' E e2 e3 e4
    · have hev : evOp op st.t st.h = some (v, h') := by
        cases op <;> first
          | (simp [AOp.isCall] at hnc; done)
          | exact hs
      exact oper_wp hop hev hh hrep (fun v' w' E' g1 g2 g3 => next v' w' E' g1 g2 g3)
    · subst hbad; simp [outA, badOp, evOp, ev] at hs
  · rename_i hg
    obtain ⟨rfl, rfl⟩ := hs
    have hw : Region.wanted o (yielded ops a.tmps) = false := by
      rcases guard_sound (X0 := X0) hao hsz hrep (goes_guardP (a := False) (b := True) (.inr ⟨hg, trivial⟩)) with ⟨_, h⟩ | ⟨h, _⟩
      · exact h.elim
      · exact h
    rw [if_neg (by simp [hw])]
    exact next undef w E hh undef_rep (.refl _ _ _ _)
  · exact hs.elim

theorem tN_d {b : Bool} {o : AOper} : (tN b o).d = o.d := by unfold tN; split <;> rfl
theorem tN_g {b : Bool} {o : AOper} : (tN b o).g = o.g := by unfold tN; split <;> rfl
theorem tN_op (b : Bool) (o : AOper) : tN b o = o ∨ ∃ f as, o.op = .call f as ∧ (tN b o).op = .callN f as := by
  unfold tN
  split
  · rename_i f a e
    exact .inr ⟨f, a, e, rfl⟩
  · exact .inl rfl
/-- the same for a call that may lay new objects -/
theorem step_wpOpN {al : List AOper} (hc : mapAll (compOper P ops) ops.toList = some al) {b : Bool} {j : Nat} {ao : AOper} (hj : (al.map (tN b))[j]? = some ao) {st : St} {v : DV} {h' : List AObj} (hs : stepA P ao st v h') {a : Act} {w : World} (hr : SR X0 base E0 w0 st a w)
    {K : Act → World → Prop} (hK : ∀ a' w', SR X0 base E0 w0 ⟨putT st.t ao.d v, h'⟩ a' w' → K a' w') : wpOp P ops Q j K a w := by
  rw [List.getElem?_map] at hj
  obtain ⟨a0, hj0, rfl⟩ := Option.map_eq_some_iff.1 hj
  rcases tN_op b a0 with e | ⟨f, as, eo, en⟩
  · rw [e] at hs hK
    exact step_wpOp hc hj0 hs hr hK
  rw [tN_d] at hK
  have hlen := mapAll_length hc
  have hjl : j < al.length := (List.getElem?_eq_some_iff.1 hj0).1
  have hjs : j < ops.size := by simpa [hlen] using hjl
  obtain ⟨ao', h1, hao⟩ := mapAll_at hc j ops[j] (by simp [hjs])
  rw [hj0] at h1; simp at h1; subst h1
  unfold wpOp
  rw [Array.getElem?_eq_getElem hjs]
  simp only
  generalize ops[j] = o at hao
  obtain ⟨E, hh, hsz, hrep, hdef, ht⟩ := hr
  obtain ⟨hco1, hco2, hco3⟩ := compOper_inv hao
  have next : ∀ (v' : Value) (w' : World) (E' : Env), HeapRel X0 base w' h' E' → Rep E' (FX X0 E') w' v' v → Trans X0 base E w E' w' → K (a.put o.dst v') w' := by
    intro v' w' E' g1 g2 g3
    obtain ⟨p1, p2⟩ := put_rep hsz (g3.repL hrep) g2 o.dst rfl
    rw [hco2] at hK
    exact hK _ _ ⟨E', g1, p1, p2, by rw [put_defers]; exact hdef.mono g3.others, ht.trans g3⟩
  unfold stepA at hs
  rw [tN_g] at hs
  split at hs
  · rename_i hg
    have hw : Region.wanted o (yielded ops a.tmps) = true := by
      rcases guard_sound (X0 := X0) hao hsz hrep (goes_guardP (a := True) (b := False) (.inl ⟨hg, trivial⟩)) with ⟨h, _⟩ | ⟨_, h⟩
      · exact h
      · exact h.elim
    rw [if_pos hw]
    left
    rw [en] at hs
    rcases hco3 with ⟨c, f0, f', as', c1, c2, c3, c4, e5⟩ | ⟨_, hnc⟩ | hbad
    · rw [eo] at e5
      simp only [AOp.call.injEq] at e5
      obtain ⟨rfl, rfl⟩ := e5
      simp only [outA] at hs
      split at hs <;> try (exact hs.elim)
      rename_i gg first captured hev
      obtain ⟨vs, hrun, hra⟩ := call_run c1 c2 c3 c4 (fun x y _ ho => ops_rep hrep x y ho) hev
      unfold Oper.wp
      rcases hs with ⟨hp, rfl⟩ | ⟨hcs, _⟩
      · rcases hp.calls hh hra with ⟨he, hcl⟩ | ⟨v0, w0', he, v', e1, e2, e3, e4⟩
        · rw [hrun _ _ he]
          refine hcl.mono fun e w' ⟨v', e1, e2, e3, e4⟩ => ?_
          subst e1
          exact next v' w' E e2 e3 e4
        · rw [hrun _ _ he]
          cases e1
          exact next v0 w0' E e2 e3 e4
      · rcases hcs X0 base w E vs hh hra with ⟨he, hcl⟩ | ⟨v0, w0', he, v', r', k, E', e1, ⟨e2, e3⟩, e4, e5, e6⟩
        · rw [hrun _ _ he]
          refine hcl.mono fun e w' ⟨v', r', k, E', e1, ⟨e2, e3⟩, e4, e5, e6⟩ => ?_
          subst e1 e2 e3
          exact next v' w' E' e4 e5 e6
        · rw [hrun _ _ he]
          subst e2 e3
          cases e1
          exact next v0 w0' E' e4 e5 e6
    · rw [eo] at hnc; simp [AOp.isCall] at hnc
    · rw [eo] at hbad; simp [badOp] at hbad
  · rename_i hg
    obtain ⟨rfl, rfl⟩ := hs
    have hw : Region.wanted o (yielded ops a.tmps) = false := by
      rcases guard_sound (X0 := X0) hao hsz hrep (goes_guardP (a := False) (b := True) (.inr ⟨hg, trivial⟩)) with ⟨_, h⟩ | ⟨h, _⟩
      · exact h.elim
      · exact h
    rw [if_neg (by simp [hw])]
    exact next undef w E hh undef_rep (.refl _ _ _ _)
  · exact hs.elim

/-- two operations in the order in which they are taken -/
def QR (as : List Nat) (al : List AOper) (D : Nat → Nat → Prop) (i j : Nat) : Prop := i ≠ j ∧ isAnc as i j = false ∧ (isAnc as j i = true ∨ swapOK (al.getD i default) (al.getD j default) = true ∨ ∃ p, dynOf as al i j = some p ∧ D p.1 p.2)
theorem pairsOK_pairwise {as : List Nat} {al : List AOper} {D : Nat → Nat → Prop} : ∀ {l : List Nat}, pairsOK as al l = true → (∀ a b, (⟨none, none, .apart (.t a) (.t b)⟩ : AOper) ∈ chks as al l → D a b) → l.Pairwise (QR as al D)
  | [], _, _ => .nil
  | i :: r, h, hD => by
    simp only [pairsOK, Bool.and_eq_true, List.all_eq_true] at h
    refine List.pairwise_cons.2 ⟨fun j hj => ?_, pairsOK_pairwise h.2 (fun a b hm => hD a b (by rw [chks]; exact List.mem_append_right _ hm))⟩
    have := h.1 j hj
    simp only [pairOK, Bool.and_eq_true, Bool.or_eq_true, bne_iff_ne, ne_eq, Bool.not_eq_true'] at this
    refine ⟨this.1.1, this.1.2, ?_⟩
    by_cases han : isAnc as j i = true
    · exact .inl han
    refine .inr ?_
    by_cases hsw : swapOK (al.getD i default) (al.getD j default) = true
    · exact .inl hsw
    refine .inr ?_
    rcases this.2 with h | h
    · exact absurd h han
    · split at h
      · rename_i a b e1 e2
        simp only [Bool.or_eq_true] at h
        rcases h with h | h
        · rw [List.getD_eq_getElem?_getD, List.getD_eq_getElem?_getD, e1, e2] at hsw
          exact absurd h hsw
        · obtain ⟨p, hp⟩ := Option.isSome_iff_exists.1 h
          refine ⟨p, hp, hD _ _ ?_⟩
          rw [chks]
          refine List.mem_append_left _ (List.mem_filterMap.2 ⟨j, hj, ?_⟩)
          have hc : (isAnc as j i || swapOK (al.getD i default) (al.getD j default)) = false := Bool.or_eq_false_iff.2 ⟨Bool.eq_false_iff.2 han, Bool.eq_false_iff.2 hsw⟩
          rw [hc, hp]; rfl
      · simp at h
theorem dynPair_inv {as : List Nat} {al : List AOper} {rd wr a b : Nat} (h : dynPair as al rd wr = some (a, b)) : ∃ res, Dyn (al.getD rd default) (al.getD wr default) a b res ∧
    ∀ k o, al[k]? = some o → (o.d = some a → isAnc as rd k = true) ∧ (o.d = some b → if res = true then k = wr else isAnc as wr k = true) := by
  unfold dynPair at h
  split at h <;> try (simp at h; done)
  rename_i x y e1 e2
  split at h <;> try (simp at h; done)
  rename_i a' b' res h1 h2
  obtain ⟨hc, h⟩ := Option.ite_none_right_eq_some.1 h
  simp only [Option.some.injEq, Prod.mk.injEq] at h
  obtain ⟨rfl, rfl⟩ := h
  simp only [Bool.and_eq_true, List.all_eq_true, List.mem_range] at hc
  obtain ⟨⟨⟨c1, c2⟩, c3⟩, c4⟩ := hc
  rw [List.getD_eq_getElem?_getD, List.getD_eq_getElem?_getD, e1, e2]
  simp only [tmpsApart, Bool.and_eq_true] at c1
  refine ⟨res, ⟨h1, h2, fun i e => ?_, fun i e => ?_, fun e => ?_, fun e e' => ?_⟩, fun k o hk => ?_⟩
  · have := c1.1
    simp only [Option.getD_some] at e
    rw [e] at this
    simp at this
    exact ⟨this.1, this.2⟩
  · have := c1.2
    simp only [Option.getD_some] at e
    rw [e] at this
    simp at this
    exact this
  · simp only [Option.getD_some] at e
    rw [e] at c2; simp at c2
  · simp only [Option.getD_some] at e'
    rw [e, e'] at c3; simp at c3
  · have hlt : k < al.length := (List.getElem?_eq_some_iff.1 hk).1
    have := c4 k hlt
    rw [hk] at this
    simp only [Bool.and_eq_true, Bool.or_eq_true, bne_iff_ne, ne_eq] at this
    refine ⟨fun e => this.1.resolve_left (fun g => g e), fun e => ?_⟩
    have q := this.2.resolve_left (fun g => g e)
    split at q
    · rename_i hr; rw [if_pos hr]; simpa using q
    · rename_i hr; rw [if_neg hr]; exact q

theorem any_sound (hQ : ∀ st a w, Φ st → SR X0 base E0 w0 st a w → Q .normal a w) {D : Nat → Nat → Prop} (hD : ∀ a b st', D a b → Φ st' → apartD (st'.t.getD a .junk) (st'.t.getD b .junk) = true) {al0 : List AOper} (hc : mapAll (compOper P ops) ops.toList = some al0) {b : Bool} {al : List AOper} (hal : al = al0.map (tN b)) (hd : drawOK ops.toList al = true) :
    ∀ (fuel : Nat) (rem : List Nat) (listed : Array Bool) (st : St) (a : Act) (w : World), rem.length ≤ fuel → rem.Pairwise (QR (ancs ops.toList) al D) → (∀ k ∈ rem, k < ops.size) → listed.size = ops.size →
      (∀ k, k < ops.size → (listed.getD k true = false ↔ k ∈ rem)) →
      (∀ m, m < ops.size → m ∉ rem → ∀ k, isAnc (ancs ops.toList) m k = true → k ∉ rem) →
      drawOps P (rem.map fun k => al.getD k default) st Φ → SR X0 base E0 w0 st a w → wpAny P .any ops Q fuel listed a w := by
  have hlen : al.length = ops.toList.length := by rw [hal, List.length_map]; exact mapAll_length hc
  simp only [drawOK, Bool.and_eq_true] at hd
  obtain ⟨⟨⟨hd, _⟩, _⟩, _⟩ := hd
  simp only [List.all_eq_true, List.mem_range, Bool.and_eq_true] at hd
  -- what the check says of an operation
  have fact : ∀ j o, ops[j]? = some o → (∀ e ∈ o.after, Region.binds .any e = true → e.on < j ∧ isAnc (ancs ops.toList) j e.on = true) ∧
      (∀ k, k < ops.size → isAnc (ancs ops.toList) j k = true → ∃ e ∈ o.after, Region.binds .any e = true ∧ (e.on = k ∨ isAnc (ancs ops.toList) e.on k = true)) := by
    intro j o ho
    have hjs : j < ops.size := (Array.getElem?_eq_some_iff.1 ho).1
    obtain ⟨_, g1⟩ := hd j (by simpa using hjs)
    have ho' : ops.toList[j]? = some o := by simpa using ho
    rw [ho'] at g1
    simp only [Option.map_some, Option.getD_some, Bool.and_eq_true, List.all_eq_true, Bool.or_eq_true, Bool.not_eq_true', decide_eq_true_eq, List.any_eq_true, beq_iff_eq, List.mem_range] at g1
    refine ⟨fun e he hb => ?_, fun k hks hk => ?_⟩
    · rcases g1.1 e (by simpa using he) with h | h
      · rw [hb] at h; simp at h
      · exact h
    · have g12 := g1.2 k (by simpa using hks)
      rw [hk] at g12
      obtain ⟨e, he, hb, h⟩ := g12.resolve_left (by simp)
      exact ⟨e, by simpa using he, hb, by simpa using h⟩
  have unl : ∀ {listed : Array Bool} {rem : List Nat}, listed.size = ops.size → (∀ k, k < ops.size → (listed.getD k true = false ↔ k ∈ rem)) → ∀ k, k < ops.size → k ∉ rem → listed.getD k false = true := by
    intro listed rem hsz hl k hk hn
    have hk' : k < listed.size := by omega
    have := mt (hl k hk).1 hn
    simp [hk'] at this ⊢
    exact this
  have lis : ∀ {listed : Array Bool} {rem : List Nat}, listed.size = ops.size → (∀ k, k < ops.size → (listed.getD k true = false ↔ k ∈ rem)) → ∀ k, k < ops.size → listed.getD k false = true → k ∉ rem := by
    intro listed rem hsz hl k hk hn hm
    have hk' : k < listed.size := by omega
    have := (hl k hk).2 hm
    simp [hk'] at this hn
    rw [this] at hn; simp at hn
  -- the first one that is left is ready
  have some_ready : ∀ {listed : Array Bool} {k : Nat} {rem : List Nat}, (k :: rem).Pairwise (QR (ancs ops.toList) al D) → (∀ i ∈ k :: rem, i < ops.size) → listed.size = ops.size → (∀ i, i < ops.size → (listed.getD i true = false ↔ i ∈ k :: rem)) → k ∈ Region.ready .any ops listed := by
    intro listed k rem hp hb hsz hl
    have hk : k < ops.size := hb k (by simp)
    refine mem_ready.2 ⟨(hl k hk).2 (by simp), ops[k], by simp [hk], fun e he hbd => ?_⟩
    obtain ⟨hlt, han⟩ := (fact k ops[k] (by simp [hk])).1 e he hbd
    refine unl hsz hl e.on (by omega) fun hm => ?_
    simp only [List.mem_cons] at hm
    rcases hm with hm | hm
    · omega
    · have := ((List.pairwise_cons.1 hp).1 _ hm).2.1
      rw [this] at han; simp at han
  intro fuel
  induction fuel with
  | zero =>
    intro rem listed st a w hf hp hb hsz hl hcl hs hr
    have hnil : rem = [] := by cases rem with | nil => rfl | cons x l => simp at hf
    subst hnil
    refine ⟨?_, hQ st a w hs hr⟩
    rw [List.eq_nil_iff_forall_not_mem]
    intro j hj
    obtain ⟨h0, o, ho, _⟩ := mem_ready.1 hj
    have := (hl j (Array.getElem?_eq_some_iff.1 ho).1).1 h0
    simp at this
  | succ fuel ih =>
    intro rem listed st a w hf hp hb hsz hl hcl hs hr
    refine ⟨fun hnr => ?_, fun j hj => ?_⟩
    · cases rem with
      | nil => exact hQ st a w hs hr
      | cons k rem =>
        have := some_ready hp hb hsz hl
        rw [hnr] at this; simp at this
    · obtain ⟨h0, o, ho, hall⟩ := mem_ready.1 hj
      have hjs : j < ops.size := (Array.getElem?_eq_some_iff.1 ho).1
      have hjr : j ∈ rem := (hl j hjs).1 h0
      obtain ⟨l1, l2, rfl⟩ := List.append_of_mem hjr
      obtain ⟨f1, f2⟩ := fact j o ho
      have hanc : ∀ k, isAnc (ancs ops.toList) j k = true → k ∉ l1 ++ j :: l2 := by
        intro k hk
        by_cases hks : k < ops.size
        case neg => exact fun hm => hks (hb k hm)
        obtain ⟨e, he, hbd, h⟩ := f2 k hks hk
        have hlt := (f1 e he hbd).1
        have hne := lis hsz hl e.on (by omega) (hall e he hbd)
        rcases h with h | h
        · subst h; exact hne
        · exact hcl e.on (by omega) hne k h
      rw [List.pairwise_append] at hp
      obtain ⟨p1, p2, p3⟩ := hp
      rw [List.pairwise_cons] at p2
      have hfront : drawOps P (al.getD j default :: ((l1 ++ l2).map fun k => al.getD k default)) st Φ := by
        rw [List.map_append]
        refine toFrontG _ st (fun pre x post hx => ?_) (by simpa using hs)
        obtain ⟨pre', rest', hl1, e1, e2⟩ := List.map_eq_append_iff.1 hx
        obtain ⟨k, post', rfl, rfl, rfl⟩ := List.map_eq_cons_iff.1 e2
        subst hl1
        have hk : k ∈ pre' ++ k :: post' := by simp
        have hkj := p3 k hk j (by simp)
        rcases hkj.2.2 with h | h | ⟨p, hp, hDp⟩
        · exact absurd (by simp) (hanc k h)
        · exact .inl h
        · -- what comes later
          have later : ∀ m, m ∈ post' ++ l2 → isAnc (ancs ops.toList) k m = false ∧ isAnc (ancs ops.toList) j m = false ∧ m ≠ k ∧ m ≠ j ∧ m < ops.size := by
            intro m hm
            have hm1 : QR (ancs ops.toList) al D k m := by
              rcases List.mem_append.1 hm with hm | hm
              · exact (List.pairwise_cons.1 (List.pairwise_append.1 p1).2.1).1 m hm
              · exact p3 k hk m (by simp [hm])
            have hmr : m ∈ (pre' ++ k :: post') ++ j :: l2 := by
              rcases List.mem_append.1 hm with hm | hm <;> simp [hm]
            refine ⟨hm1.2.1, ?_, fun e => hm1.1 e.symm, fun e => ?_, hb m hmr⟩
            · cases hjm : isAnc (ancs ops.toList) j m with
              | false => rfl
              | true => exact absurd hmr (hanc m hjm)
            · subst e
              rcases List.mem_append.1 hm with hm | hm
              · exact (p3 m (by simp [hm]) m (by simp)).1 rfl
              · exact (p2.1 m hm).1 rfl
          have fin : ∀ rd wr, dynPair (ancs ops.toList) al rd wr = some (p.1, p.2) → ((k = rd ∧ j = wr) ∨ (k = wr ∧ j = rd)) → SwapG Φ (al.getD k default) (al.getD j default) ((post'.map fun k => al.getD k default) ++ (l2.map fun k => al.getD k default)) := by
            intro rd wr hdp hkw
            obtain ⟨res, hdyn, hass⟩ := dynPair_inv hdp
            refine .inr ⟨_, _, p.1, p.2, res, hdyn, ?_, fun o ho => ?_, fun st' hst' => hD _ _ st' hDp hst'⟩
            · rcases hkw with ⟨rfl, rfl⟩ | ⟨rfl, rfl⟩
              · exact .inl ⟨rfl, rfl⟩
              · exact .inr ⟨rfl, rfl⟩
            · rw [← List.map_append] at ho
              obtain ⟨m, hm, rfl⟩ := List.mem_map.1 ho
              obtain ⟨g1, g2, g3, g4, g5⟩ := later m hm
              have hml : m < al.length := by rw [hlen]; simpa using g5
              obtain ⟨q1, q2⟩ := hass m (al.getD m default) (by simp [List.getElem?_eq_getElem hml])
              rcases hkw with ⟨rfl, rfl⟩ | ⟨rfl, rfl⟩
              · refine ⟨fun e => by rw [q1 e] at g1; simp at g1, fun e => ?_⟩
                have := q2 e
                split at this
                · exact g4 this
                · rw [this] at g2; simp at g2
              · refine ⟨fun e => by rw [q1 e] at g2; simp at g2, fun e => ?_⟩
                have := q2 e
                split at this
                · exact g3 this
                · rw [this] at g1; simp at g1
          unfold dynOf at hp
          split at hp
          · rename_i p' hp'
            simp at hp; subst hp
            exact fin k j hp' (.inl ⟨rfl, rfl⟩)
          · exact fin j k hp (.inr ⟨rfl, rfl⟩)
      obtain ⟨v, h', hst, hrest⟩ := drawOps_cons.1 hfront
      have hjl : j < al.length := by rw [hlen]; simpa using hjs
      have hjr1 : j ∉ l1 := fun hm => (p3 j hm j (by simp)).1 rfl
      have hjr2 : j ∉ l2 := fun hm => (p2.1 j hm).1 rfl
      refine step_wpOpN hc (b := b) (j := j) (ao := al.getD j default) (by rw [← hal]; simp [List.getElem?_eq_getElem hjl]) hst hr fun a' w' hr' => ?_
      refine ih (l1 ++ l2) (listed.setIfInBounds j true) _ a' w' (by simp at hf ⊢; omega) ?_ (fun k hk => hb k (by simp at hk ⊢; rcases hk with h | h <;> simp [h])) (by simpa using hsz) (fun k hk => ?_) (fun m hm hn k hk => ?_) hrest hr'
      · rw [List.pairwise_append]
        exact ⟨p1, p2.2, fun x hx y hy => p3 x hx y (by simp [hy])⟩
      · by_cases e : j = k
        · subst e
          have hj' : j < listed.size := by omega
          simp [hj', hjr1, hjr2]
        · rw [getD_set_ne true e, hl k hk]
          simp [show ¬ k = j from fun h => e h.symm]
      · have key : k ∉ l1 ++ j :: l2 := by
          by_cases e : m = j
          · subst e; exact hanc k hk
          · exact hcl m hm (by simp at hn ⊢; exact ⟨hn.1, e, hn.2⟩) k hk
        simp at key ⊢
        exact ⟨key.1, key.2.2⟩

theorem drawOps_append {P : Program} {Φ : St → Prop} : ∀ (l r : List AOper) (st : St), drawOps P (l ++ r) st Φ → drawOps P l st (fun st' => drawOps P r st' Φ)
  | [], r, st, h => h
  | o :: l, r, st, h => by
    obtain ⟨v, h', h1, h2⟩ := drawOps_cons.1 (show drawOps P (o :: (l ++ r)) st Φ from h)
    exact drawOps_cons.2 ⟨v, h', h1, drawOps_append l r _ h2⟩
def isChk (o : AOper) : Prop := ∃ a b, o = ⟨none, none, .apart (.t a) (.t b)⟩
theorem chk_run {P : Program} {Φ : St → Prop} : ∀ (r : List AOper) (st : St), (∀ o ∈ r, isChk o) → drawOps P r st Φ → Φ st ∧ ∀ a b, (⟨none, none, .apart (.t a) (.t b)⟩ : AOper) ∈ r → apartD (st.t.getD a .junk) (st.t.getD b .junk) = true
  | [], st, _, h => ⟨h, fun a b hm => by simp at hm⟩
  | o :: r, st, hc, h => by
    obtain ⟨v, h', h1, h2⟩ := drawOps_cons.1 h
    obtain ⟨a, b, rfl⟩ := hc o (by simp)
    simp only [stepA, goes, outA, evOp, ev] at h1
    obtain ⟨hap, h1⟩ := Option.ite_none_right_eq_some.1 h1
    simp only [Option.some.injEq, Prod.mk.injEq] at h1
    obtain ⟨rfl, rfl⟩ := h1
    obtain ⟨g1, g2⟩ := chk_run r _ (fun o ho => hc o (by simp [ho])) h2
    refine ⟨g1, fun a' b' hm => ?_⟩
    rcases List.mem_cons.1 hm with e | hm
    · simp at e; obtain ⟨rfl, rfl⟩ := e; exact hap
    · exact g2 a' b' hm
theorem chks_chk {as : List Nat} {al : List AOper} : ∀ (l : List Nat), ∀ o ∈ chks as al l, isChk o
  | [], o, h => by simp [chks] at h
  | i :: r, o, h => by
    rw [chks] at h
    rcases List.mem_append.1 h with h | h
    · obtain ⟨j, _, hj⟩ := List.mem_filterMap.1 h
      split at hj
      · simp at hj
      · obtain ⟨p, _, rfl⟩ := Option.map_eq_some_iff.1 hj
        exact ⟨p.1, p.2, rfl⟩
    · exact chks_chk r o h

theorem drawOps_sound {id : Nat} (hQ : ∀ st a w, Φ st → SR X0 base E0 w0 st a w → Q .normal a w) (hm : P.follows .mixedOrders = true)
    (al0 : List AOper) (hc : mapAll (compOper P ops) ops.toList = some al0) (b : Bool) (al : List AOper) (hal : al = al0.map (tN b)) (hd : drawOK ops.toList al = true)
    (st : St) (a : Act) (w : World) (hs : drawOps P (regOps (ancs ops.toList) al) st Φ) (hr : SR X0 base E0 w0 st a w) : (Code.region id ops true).wp P Q a w := by
  have hlen : al.length = ops.toList.length := by rw [hal, List.length_map]; exact mapAll_length hc
  unfold regOps at hs
  have hd' := hd
  simp only [drawOK, Bool.and_eq_true] at hd'
  obtain ⟨⟨⟨d1, d2⟩, hle⟩, d3⟩ := hd'
  simp only [List.all_eq_true, List.mem_range, Bool.and_eq_true, List.contains_iff_mem, decide_eq_true_eq] at d1 d2
  have hpw := pairsOK_pairwise (D := fun a b => (⟨none, none, .apart (.t a) (.t b)⟩ : AOper) ∈ chks (ancs ops.toList) al (permOf (ancs ops.toList) al)) d3 (fun a b h => h)
  have hchk := chks_chk (as := ancs ops.toList) (al := al) (permOf (ancs ops.toList) al)
  have hs := drawOps_append _ _ st hs
  generalize chks (ancs ops.toList) al (permOf (ancs ops.toList) al) = ck at *
  generalize permOf (ancs ops.toList) al = perm at *
  have hle : perm.length ≤ ops.size := by simpa using hle
  refine wp_region_any hm ?_
  refine any_sound (Φ := fun st' => drawOps P ck st' Φ) (fun st a w h1 h2 => hQ st a w (chk_run ck st hchk h1).1 h2) (fun a b st' h1 h2 => (chk_run ck st' hchk h2).2 a b h1) hc hal hd ops.size perm _ st a _ hle hpw (fun k hk => by simpa using d2 k hk) (by simp) (fun k hk => by simpa [hk] using (d1 k (by simpa using hk)).1) (fun m hm hn => absurd ((d1 m (by simpa using hm)).1) hn) hs ?_
  · obtain ⟨E, hh, hsz, hrep, hdef, ht⟩ := hr
    obtain ⟨g1, g2⟩ := below_trans hh (w' := { w with drawn := w.drawn + 1 }) ⟨rfl, rfl, rfl, Nat.le_refl _, fun _ _ => rfl⟩
    exact ⟨E, g1, hsz, g2.repL hrep, hdef.mono g2.others, ht.trans g2⟩
end
end Go.Am
