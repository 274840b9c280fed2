/-
  The abstract machine, part 18: code, and functions: 'awp', 'sem_of'.
-/
import Derived.Test.YtjhakjeioppijaaDoorAmR
import Derived.Deep.LoopGhost
import Derived.RangeFuncLeaves
set_option linter.unusedSimpArgs false
set_option linter.unusedVariables false
namespace Go.Am
open Go.RowKit

inductive AExit where
  | normal
  | exit (id : Nat)
  | ret

mutual
/-- all objects that are named have a number below n -/
def below (n : Nat) : DV → Bool
  | .agg cs => belowL n cs
  | .tup cs => belowL n cs
  | .sl _ _ _ cs => belowL n cs
  | .ref cs => belowL n cs
  | .fn _ a b => belowL n a && belowL n b
  | .iface _ v => below n v
  | .ms id _ _ _ _ _ => decide (id < n)
  | .mp id _ _ => decide (id < n)
  | _ => true
def belowL (n : Nat) : List DV → Bool
  | [] => true
  | d :: r => below n d && belowL n r
end
def belowH (n : Nat) : List AObj → Bool
  | [] => true
  | .cells cs :: r => belowL n cs && belowH n r
  | .dead :: r => belowH n r

/-- temporaries that are forgotten -/
def weakL : List DV → List DV → Prop
  | [], [] => True
  | a :: r, b :: s => (b = .junk ∨ b = a) ∧ weakL r s
  | _, _ => False

/-- a datum in which what names an object from n on has become pure -/
def fz (n : Nat) (h : List AObj) : Nat → DV → Option DV
  | 0, d => snapW (fun d => match d with
    | .ms id ver off s m lim => if id < n then some (.ms id ver off s m lim) else none
    | .mp id ver off => if id < n then some (.mp id ver off) else none
    | _ => none) d
  | k + 1, d => snapW (fun d => match d with
    | .ms id ver off s m lim => if id < n then some (.ms id ver off s m lim) else (objAt h id).bind fun l => if l.length = ver then (mapAll (fz n h k) ((l.drop off).take (m * s))).map fun cs => .sl false s m cs else none
    | .mp id ver off => if id < n then some (.mp id ver off) else (objAt h id).bind fun l => if l.length = ver then (mapAll (fz n h k) (l.drop off)).map .ref else none
    | _ => none) d
/-- cells that were made pure, or forgotten -/
def fzL (n : Nat) (h : List AObj) : List DV → List DV → Prop
  | [], [] => True
  | a :: r, b :: s => (b = .junk ∨ fz n h 3 a = some b) ∧ fzL n h r s
  | _, _ => False
def fzH (n : Nat) (h : List AObj) : List AObj → List AObj → Prop
  | _, [] => True
  | .cells a :: r, .cells b :: s => fzL n h a b ∧ fzH n h r s
  | .dead :: r, .dead :: s => fzH n h r s
  | _, _ => False
/-- a state that says less: temporaries forgotten, the last objects dropped; or the last objects made pure -/
def Weak (n0 : Nat) (st st' : St) : Prop :=
  (weakL st.t st'.t ∧ (st'.h = st.h ∨ (∃ tail, st.h = st'.h ++ tail ∧ n0 ≤ st'.h.length ∧ belowL st'.h.length st'.t = true ∧ belowH st'.h.length st'.h = true))) ∨
  (n0 ≤ st'.h.length ∧ st'.h.length ≤ st.h.length ∧ fzL st'.h.length st.h st.t st'.t ∧ fzH st'.h.length st.h st.h st'.h)

/-- what a round keeps: the iterator's own variable -/
def KpB (b : Nat) (v : Value) (W W' : World) : Prop := W.cell? ⟨b, 0, none⟩ = some v → W'.cell? ⟨b, 0, none⟩ = some v
/-- an iterator's contract: with this number in its variable it yields these, if no round ends it -/
def SeqSem (P : Program) (g : FuncId) (k : IntKind) (n : Int) {α : Type} (encD : α → DV) (xs : List α) : Prop :=
  Ent P g ∧ ∃ encV : α → Value, (∀ x E X w, Rep E X w (encV x) (encD x)) ∧ ∀ (b : Nat) (w : World), w.cell? ⟨b, 0, none⟩ = some (.int k n) →
    SeqStopsK Fence.wide 2 P g #[.pointer (some ⟨b, 0, none⟩)] (fun x => #[encV x]) (KpB b (.int k n)) (fun ys => ys = xs) (fun _ => True) xs.length w
/-- code that may be a round's body -/
def simpleC : ACode → Bool
  | .skip => true
  | .region draw ops => !draw && ops.all fun o => !o.op.isCall
  | .seq a b => simpleC a && simpleC b
  | .cond _ a b => simpleC a && simpleC b
  | .block _ a => simpleC a
  | .exit _ => true
  | _ => false

/-- the weakest precondition, on data -/
def awp (P : Program) (n0 : Nat) : ACode → (AExit → St → Prop) → St → Prop
  | .skip, Φ, st => Φ .normal st
  | .region draw ops, Φ, st => if draw = true then drawOps P ops st (Φ .normal) else stepOps P ops st (Φ .normal)
  | .seq a b, Φ, st => awp P n0 a (fun e st => match e with | .normal => awp P n0 b Φ st | e => Φ e st) st
  | .cond c x y, Φ, st => match ev st.t c with
    | .bool b => (b = true → awp P n0 x Φ st) ∧ (b = false → awp P n0 y Φ st)
    | _ => False
  | .block id c, Φ, st => awp P n0 c (fun e st => match e with | .exit i => if i = id then Φ .normal st else Φ (.exit i) st | e => Φ e st) st
  | .loop c, Φ, st => ∃ (I : Nat → St → Prop) (n : Nat) (st0 : St), Weak n0 st st0 ∧ I n st0 ∧
      ∀ n st, I n st → awp P n0 c (fun e st' => match e with | .normal => ∃ n' st'', Weak n0 st' st'' ∧ n' < n ∧ I n' st'' | e => Φ e st') st
  | .exit id, Φ, st => Φ (.exit id) st
  | .ret, Φ, st => Φ .ret st
  | .rangeF f p d c, Φ, st => (simpleC c = true ∧ p < st.t.length) ∧ ∃ (g id : Nat) (k : IntKind) (n : Int) (α : Type) (encD : α → DV) (xs : List α) (I : List α → List AObj → Prop), ev st.t f = .fn (.func g) [] [.mp id 1 0] ∧ SeqSem P g k n encD xs ∧
      (∀ pre h, I pre h → objAt h id = some [.int k n]) ∧ I [] st.h ∧
      (∀ pre x h, pre.length < xs.length → I pre h → awp P n0 c (fun e st' => match e with | .normal => I (pre ++ [x]) st'.h | _ => False) ⟨(st.t.set p (encD x)).set d (encD x), h⟩) ∧
      (∀ h, I xs h → Φ .normal ⟨st.t, h⟩)

def AQ (X0 : Forb) (base : Nat) (E0 : Env) (w0 : World) (Φ : AExit → St → Prop) : Exit → Act → World → Prop
  | .normal, a, w => ∃ st, Φ .normal st ∧ SR X0 base E0 w0 st a w
  | .exit id, a, w => ∃ st, Φ (.exit id) st ∧ SR X0 base E0 w0 st a w
  | .ret, a, w => ∃ st, Φ .ret st ∧ SR X0 base E0 w0 st a w
  | _, _, _ => False

theorem weakL_length : ∀ {l l' : List DV}, weakL l l' → l'.length = l.length
  | [], [], _ => rfl
  | [], _ :: _, h => by simp [weakL] at h
  | _ :: _, [], h => by simp [weakL] at h
  | _ :: _, _ :: _, h => by simp [weakL_length h.2]
theorem weakL_get : ∀ {l l' : List DV}, weakL l l' → ∀ i, l'.getD i .junk = .junk ∨ l'.getD i .junk = l.getD i .junk
  | [], [], _, i => .inr rfl
  | [], _ :: _, h, _ => by simp [weakL] at h
  | _ :: _, [], h, _ => by simp [weakL] at h
  | a :: r, b :: s, h, i => by
    cases i with
    | zero => simpa using h.1
    | succ i => simpa using weakL_get h.2 i

theorem belowL_get {n : Nat} : ∀ {l : List DV}, belowL n l = true → ∀ i (h : i < l.length), below n l[i] = true
  | [], _, i, h => by simp at h
  | d :: r, hp, i, h => by
    simp only [belowL, Bool.and_eq_true] at hp
    cases i with
    | zero => exact hp.1
    | succ i => exact belowL_get hp.2 i (by simpa using h)
theorem belowH_get {n : Nat} : ∀ {l : List AObj}, belowH n l = true → ∀ (i : Nat) (cs : List DV), l[i]? = some (.cells cs) → belowL n cs = true
  | [], _, i, cs, h => by simp at h
  | .cells c :: r, hp, i, cs, h => by
    simp only [belowH, Bool.and_eq_true] at hp
    cases i with
    | zero => simp at h; subst h; exact hp.1
    | succ i => exact belowH_get hp.2 i cs (by simpa using h)
  | .dead :: r, hp, i, cs, h => by
    simp only [belowH] at hp
    cases i with
    | zero => simp at h
    | succ i => exact belowH_get hp i cs (by simpa using h)

/-- data that names none of the dropped objects -/
theorem Rep.drop {E : Env} {X X' : Forb} {w : World} {n : Nat} (hn : n ≤ E.length) {v : Value} {d : DV} (h : Rep E X w v d) (hX : ∀ b o, X' b o → X b o) (hp : Am.below n d = true) : Rep (E.take n) X' w v d := by
  induction h with
  | int k n => exact .int k n
  | bool b => exact .bool b
  | str s l h => exact .str s l h
  | agg cs ds hl _ ih => simp only [Am.below] at hp; exact .agg cs ds hl (fun i h1 h2 => ih i h1 h2 (belowL_get hp i h2))
  | tup cs ds hl _ ih => simp only [Am.below] at hp; exact .tup cs ds hl (fun i h1 h2 => ih i h1 h2 (belowL_get hp i h2))
  | nilp => exact .nilp
  | nilm => exact .nilm
  | nilf => exact .nilf
  | nili => exact .nili
  | nils => exact .nils
  | sl full s n cap a ds cv hn hf hl hc hx _ ih => simp only [Am.below] at hp; exact .sl full s n cap a ds cv hn hf hl hc (fun i hi h' => hx i hi (hX _ _ h')) (fun i h1 => ih i h1 (belowL_get hp i h1))
  | ref a ds cv hc hx _ ih => simp only [Am.below] at hp; exact .ref a ds cv hc (fun i hi h' => hx i hi (hX _ _ h')) (fun i h1 => ih i h1 (belowL_get hp i h1))
  | fn f first captured df dc h1 h2 _ _ ih1 ih2 =>
    simp only [Am.below, Bool.and_eq_true] at hp
    exact .fn f first captured df dc h1 h2 (fun i a b => ih1 i a b (belowL_get hp.1 i b)) (fun i a b => ih2 i a b (belowL_get hp.2 i b))
  | iface t v d _ ih => simp only [Am.below] at hp; exact .iface t v d (ih hp)
  | ms id ver off s m lim a k cap hid h =>
    simp only [Am.below, decide_eq_true_eq] at hp
    refine .ms id ver off s m lim a k cap (by simp; omega) (fun b L he => h b L ?_)
    rw [List.getElem?_take, if_pos hp] at he; exact he
  | mp id ver off a hid h =>
    simp only [Am.below, decide_eq_true_eq] at hp
    refine .mp id ver off a (by simp; omega) (fun b L he => h b L ?_)
    rw [List.getElem?_take, if_pos hp] at he; exact he
  | junk v => exact .junk v

theorem belowL_getD {n : Nat} {l : List DV} (h : belowL n l = true) (i : Nat) : below n (l.getD i .junk) = true := by
  rw [List.getD_eq_getElem?_getD]
  by_cases hi : i < l.length
  · rw [List.getElem?_eq_getElem hi]; exact belowL_get h i hi
  · rw [List.getElem?_eq_none (by omega)]; rfl

theorem fzL_length {n : Nat} {h : List AObj} : ∀ {l l' : List DV}, fzL n h l l' → l'.length = l.length
  | [], [], _ => rfl
  | [], _ :: _, h => by simp [fzL] at h
  | _ :: _, [], h => by simp [fzL] at h
  | _ :: _, _ :: _, h => by simp [fzL_length h.2]
theorem fzL_get {n : Nat} {h : List AObj} : ∀ {l l' : List DV}, fzL n h l l' → ∀ i, l'.getD i .junk = .junk ∨ fz n h 3 (l.getD i .junk) = some (l'.getD i .junk)
  | [], [], _, i => .inl rfl
  | [], _ :: _, h, _ => by simp [fzL] at h
  | _ :: _, [], h, _ => by simp [fzL] at h
  | a :: r, b :: s, h, i => by
    cases i with
    | zero => simpa using h.1
    | succ i => simpa using fzL_get h.2 i
theorem fzH_cells {n : Nat} {h : List AObj} : ∀ {l l' : List AObj}, fzH n h l l' → ∀ (id : Nat) (cs : List DV), l'[id]? = some (.cells cs) → ∃ cs0, l[id]? = some (.cells cs0) ∧ fzL n h cs0 cs
  | _, [], _, id, cs, e => by simp at e
  | [], .cells _ :: _, h, _, _, _ => by simp [fzH] at h
  | [], .dead :: _, h, _, _, _ => by simp [fzH] at h
  | .cells a :: r, .cells b :: s, h, id, cs, e => by
    cases id with
    | zero => simp at e; subst e; exact ⟨a, rfl, h.1⟩
    | succ id => exact fzH_cells h.2 id cs e
  | .dead :: r, .dead :: s, h, id, cs, e => by
    cases id with
    | zero => simp at e
    | succ id => simp only [fzH] at h; exact fzH_cells h id cs e
  | .cells _ :: _, .dead :: _, h, _, _, _ => by simp [fzH] at h
  | .dead :: _, .cells _ :: _, h, _, _, _ => by simp [fzH] at h
theorem fzH_dead {n : Nat} {h : List AObj} : ∀ {l l' : List AObj}, fzH n h l l' → ∀ (id : Nat), l'[id]? = some .dead → l[id]? = some .dead
  | _, [], _, id, e => by simp at e
  | [], .cells _ :: _, h, _, _ => by simp [fzH] at h
  | [], .dead :: _, h, _, _ => by simp [fzH] at h
  | .cells a :: r, .cells b :: s, h, id, e => by
    cases id with
    | zero => simp at e
    | succ id => exact fzH_dead h.2 id e
  | .dead :: r, .dead :: s, h, id, e => by
    cases id with
    | zero => rfl
    | succ id => simp only [fzH] at h; exact fzH_dead h id e
  | .cells _ :: _, .dead :: _, h, _, _ => by simp [fzH] at h
  | .dead :: _, .cells _ :: _, h, _, _ => by simp [fzH] at h

theorem FX_take {X0 : Forb} {E : Env} {n : Nat} {b o : Nat} (h : FX X0 (E.take n) b o) : FX X0 E b o := by
  rcases h with g | ⟨id, L, g⟩
  · exact .inl g
  · rw [List.getElem?_take] at g
    split at g
    · exact .inr ⟨id, L, g⟩
    · simp at g
theorem fz_sound {X0 : Forb} {base : Nat} {w : World} {h : List AObj} {E : Env} (hh : HeapRel X0 base w h E) {n : Nat} (hn : n ≤ E.length) : ∀ (k : Nat) {v : Value} {d d' : DV}, Rep E (FX X0 E) w v d → fz n h k d = some d' → Rep (E.take n) (FX X0 (E.take n)) w v d'
  | 0, v, d, d', hr, hs => by
    refine snapW_sound (fun b o h' => FX_take h') (fun v id ver off s m lim d' hr' h' => ?_) (fun v id ver off d' hr' h' => ?_) hr hs
    · simp only at h'
      split at h'
      · rename_i hlt
        simp at h'; subst h'
        exact hr'.drop hn (fun b o h' => FX_take h') (by simp [Am.below, hlt])
      · simp at h'
    · simp only at h'
      split at h'
      · rename_i hlt
        simp at h'; subst h'
        exact hr'.drop hn (fun b o h' => FX_take h') (by simp [Am.below, hlt])
      · simp at h'
  | k + 1, v, d, d', hr, hs => by
    have hobj : ∀ {id b L : Nat}, ¬ id < n → E[id]? = some (some (b, L)) → ∀ o, ¬ FX X0 (E.take n) b o := fun hid hE o hx => by
      rcases hx with hx | ⟨id', L', g⟩
      · obtain ⟨_, _, _, _, _, hb, _, _⟩ := hh.live hE
        have := hh.x0 _ _ hx
        omega
      · rw [List.getElem?_take] at g
        split at g
        · exact hh.apart _ _ _ _ _ _ (fun e => hid (by omega)) g hE rfl
        · simp at g
    refine snapW_sound (fun b o h' => FX_take h') (fun v id ver off s m lim d' hr' h' => ?_) (fun v id ver off d' hr' h' => ?_) hr hs
    · simp only at h'
      split at h'
      · rename_i hlt
        simp at h'; subst h'
        exact hr'.drop hn (fun b o h' => FX_take h') (by simp [Am.below, hlt])
      rename_i hge
      simp only [Option.bind_eq_some_iff] at h'
      obtain ⟨l, hl, h'⟩ := h'
      split at h'
      · rename_i hver
        obtain ⟨cs, hcs, rfl⟩ := Option.map_eq_some_iff.1 h'
        obtain ⟨b, arr, ty, cap, a, e1, e2, e3, e4, rfl, k1, k2, k3, k4, k5⟩ := ms_inv hh hr' hl hver
        have hR := mapAll_rep ((e4.drop off).take (m * s)) (fun v d d' q1 q2 => fz_sound hh hn k q1 q2) hcs
        have hlen : cs.length = m * s := by rw [← hR.1]; simp; omega
        refine sl_mk hR k1 (fun hf => by simp at hf) hlen (fun j u hj => ?_) (fun i hi => ?_)
        · have hj' : j < m * s := by have := (List.getElem?_eq_some_iff.1 hj).1; simp at this; omega
          have hcap : 0 < cap := by
            rcases Nat.eq_zero_or_pos cap with z | z
            · have : m = 0 := by omega
              subst this; simp at hj'
            · exact z
          rw [k3 hcap, add_mk, cell_of_block e2]
          rw [List.getElem?_take, if_pos hj', List.getElem?_drop, List.getElem?_take] at hj
          split at hj
          · simpa using hj
          · simp at hj
        · have hcap : 0 < cap := by
            rcases Nat.eq_zero_or_pos cap with z | z
            · have : m = 0 := by omega
              subst this; rw [hlen] at hi; simp at hi
            · exact z
          rw [k3 hcap]
          exact hobj hge e1 _
      · simp at h'
    · simp only at h'
      split at h'
      · rename_i hlt
        simp at h'; subst h'
        exact hr'.drop hn (fun b o h' => FX_take h') (by simp [Am.below, hlt])
      rename_i hge
      simp only [Option.bind_eq_some_iff] at h'
      obtain ⟨l, hl, h'⟩ := h'
      split at h'
      · rename_i hver
        obtain ⟨cs, hcs, rfl⟩ := Option.map_eq_some_iff.1 h'
        obtain ⟨b, arr, ty, e1, e2, e3, e4, rfl⟩ := mp_inv hh hr' hl hver
        have hR := mapAll_rep (e4.drop off) (fun v d d' q1 q2 => fz_sound hh hn k q1 q2) hcs
        refine ref_mk hR (fun j u hj => ?_) (fun i hi => hobj hge e1 _)
        rw [add_mk, cell_of_block e2]
        rw [List.getElem?_drop, List.getElem?_take] at hj
        split at hj
        · simpa using hj
        · simp at hj
      · simp at h'

theorem SR.freeze {X0 : Forb} {base : Nat} {E0 : Env} {w0 : World} {st st' : St} {a : Act} {w : World} (h : SR X0 base E0 w0 st a w) (hn0 : E0.length ≤ st'.h.length) (hle : st'.h.length ≤ st.h.length) (ht' : fzL st'.h.length st.h st.t st'.t) (hh' : fzH st'.h.length st.h st.h st'.h) : SR X0 base E0 w0 st' a w := by
  obtain ⟨E, hh, hsz, hrep, hdef, ht⟩ := h
  have hlen : st'.h.length ≤ E.length := by rw [hh.len]; exact hle
  have cell : ∀ {v d d'}, Rep E (FX X0 E) w v d → (d' = .junk ∨ fz st'.h.length st.h 3 d = some d') → Rep (E.take st'.h.length) (FX X0 (E.take st'.h.length)) w v d' := fun r q => by
    rcases q with q | q
    · subst q; exact .junk _
    · exact fz_sound hh hlen 3 r q
  refine ⟨E.take st'.h.length, ⟨by simp; omega, hh.x0, hh.size, fun id cs hid => ?_, fun id hid => ?_, fun id id' b L b' L' hne h1 h2 => ?_⟩, by rw [fzL_length ht']; exact hsz, fun i => cell (hrep i) (fzL_get ht' i), hdef, ?_⟩
  · have hlt : id < st'.h.length := (List.getElem?_eq_some_iff.1 hid).1
    obtain ⟨cs0, hid', hcs⟩ := fzH_cells hh' id cs hid
    obtain ⟨b, arr, t, g1, g2, g3, g4, g5⟩ := hh.cells id cs0 hid'
    have hl := fzL_length hcs
    refine ⟨b, arr, t, by rw [List.getElem?_take, if_pos hlt, hl]; exact g1, g2, g3, by omega, fun i h1 h2 => ?_⟩
    have := cell (g5 i (by omega) h2) (by
      have := fzL_get hcs i
      rwa [List.getD_eq_getElem?_getD, List.getD_eq_getElem?_getD, List.getElem?_eq_getElem h1, List.getElem?_eq_getElem (by omega)] at this)
    simpa using this
  · have hlt : id < st'.h.length := (List.getElem?_eq_some_iff.1 hid).1
    rw [List.getElem?_take, if_pos hlt]
    exact hh.dead id (fzH_dead hh' id hid)
  · rw [List.getElem?_take] at h1 h2
    split at h1 <;> try (simp at h1; done)
    split at h2 <;> try (simp at h2; done)
    exact hh.apart _ _ _ _ _ _ hne h1 h2
  · refine ⟨⟨by rw [List.length_take]; have := ht.env.len; omega, fun id hid b' L' h' => ?_⟩, ⟨fun ad v hc hx => ?_⟩, ht.below, ht.others⟩
    · rw [List.getElem?_take] at h'
      split at h'
      · exact ht.env.at_ id hid b' L' h'
      · simp at h'
    · obtain ⟨g1, g2⟩ := ht.keep.cell ad v hc hx
      exact ⟨g1, fun g => g2 (FX_take g)⟩

theorem SR.weak {X0 : Forb} {base : Nat} {E0 : Env} {w0 : World} {st st' : St} {a : Act} {w : World} (h : SR X0 base E0 w0 st a w) (hw : Weak E0.length st st') : SR X0 base E0 w0 st' a w := by
  refine hw.elim (fun hw => ?_) (fun q => h.freeze q.1 q.2.1 q.2.2.1 q.2.2.2)
  obtain ⟨E, hh, hsz, hrep, hdef, ht⟩ := h
  obtain ⟨hwt, hwh⟩ := hw
  have hrep' : ∀ i, Rep E (FX X0 E) w (a.tmps.getD i undef) (st'.t.getD i .junk) := fun i => by
    rcases weakL_get hwt i with e | e
    · rw [e]; exact .junk _
    · rw [e]; exact hrep i
  rcases hwh with e | ⟨tail, e, hn0, hbt, hbh⟩
  · exact ⟨E, e ▸ hh, by rw [weakL_length hwt]; exact hsz, hrep', hdef, ht⟩
  · have hlen : st'.h.length ≤ E.length := by rw [hh.len, e]; simp
    have hX : ∀ b o, FX X0 (E.take st'.h.length) b o → FX X0 E b o := by
      rintro b o (g | ⟨id, L, g⟩)
      · exact .inl g
      · rw [List.getElem?_take] at g
        split at g
        · exact .inr ⟨id, L, g⟩
        · simp at g
    refine ⟨E.take st'.h.length, ⟨by simp; omega, hh.x0, hh.size, fun id cs hid => ?_, fun id hid => ?_, fun id id' b L b' L' hne h1 h2 => ?_⟩, by rw [weakL_length hwt]; exact hsz, fun i => ?_, hdef, ?_⟩
    · have hlt : id < st'.h.length := (List.getElem?_eq_some_iff.1 hid).1
      have hid' : st.h[id]? = some (.cells cs) := by rw [e, List.getElem?_append_left hlt]; exact hid
      obtain ⟨b, arr, t, g1, g2, g3, g4, g5⟩ := hh.cells id cs hid'
      exact ⟨b, arr, t, by rw [List.getElem?_take, if_pos hlt]; exact g1, g2, g3, g4, fun i h1 h2 => (g5 i h1 h2).drop hlen hX (belowL_get (belowH_get hbh id cs hid) i h1)⟩
    · have hlt : id < st'.h.length := (List.getElem?_eq_some_iff.1 hid).1
      rw [List.getElem?_take, if_pos hlt]
      exact hh.dead id (by rw [e, List.getElem?_append_left hlt]; exact hid)
    · rw [List.getElem?_take] at h1 h2
      split at h1 <;> try (simp at h1; done)
      split at h2 <;> try (simp at h2; done)
      exact hh.apart _ _ _ _ _ _ hne h1 h2
    · exact (hrep' i).drop hlen hX (belowL_getD hbt i)
    · refine ⟨⟨by rw [List.length_take]; have := ht.env.len; omega, fun id hid b' L' h' => ?_⟩, ⟨fun ad v hc hx => ?_⟩, ht.below, ht.others⟩
      · rw [List.getElem?_take] at h'
        split at h'
        · exact ht.env.at_ id hid b' L' h'
        · simp at h'
      · obtain ⟨g1, g2⟩ := ht.keep.cell ad v hc hx
        exact ⟨g1, fun g => g2 (hX _ _ g)⟩

/-- a world that has turned where no cells are -/
theorem grown_other {X0 : Forb} {base : Nat} {E0 E : Env} {w0 w w' : World} {h : List AObj} {row : Option Nat} (hh : HeapRel X0 base w h E) (ht : Trans X0 base E0 w0 E w) (hb : base ≤ w0.heap.size)
    (hg : w.grownBy w' row) (hr : ∀ r, row = some r → w0.heap.size ≤ r ∧ ∃ o : Obj, w.heap[r]? = some o ∧ o.isCells = false) :
    HeapRel X0 base w' h E ∧ (∀ v d, Rep E (FX X0 E) w v d → Rep E (FX X0 E) w' v d) ∧ Trans X0 base E0 w0 E w' := by
  have hcells : ∀ (b : Nat) (arr : Array Value) (t : TypeId) (fr : Nat × Nat), w.heap[b]? = some (.cells arr t fr) → w'.heap[b]? = some (.cells arr t fr) := fun b arr t fr hc => by
    rw [hg.block b (Array.getElem?_eq_some_iff.1 hc).1 (fun e => by
      obtain ⟨_, o, ho, hoc⟩ := hr b e.symm
      rw [hc] at ho; cases ho; cases hoc)]
    exact hc
  have hkeep : Keep (FX X0 E) w (FX X0 E) w' := ⟨fun a v hc hx => ⟨cell_kept hc hg (fun r e => (hr r e).2), hx⟩⟩
  have herel : ERel E w E w' := ⟨Nat.le_refl _, fun id hid b' L' h' => ⟨b', L', h', Nat.le_refl _, fun _ => ⟨rfl, fun c' t' fr' hc => by
    obtain ⟨cs, arr, t, g1, g2, g3, g4, g5⟩ := hh.live h'
    have := hcells _ _ _ _ g4
    rw [this] at hc; cases hc
    exact ⟨_, _, _, g4, rfl⟩⟩⟩⟩
  have hrep : ∀ v d, Rep E (FX X0 E) w v d → Rep E (FX X0 E) w' v d := fun v d r => r.mono herel hkeep
  refine ⟨⟨hh.len, hh.x0, Nat.le_trans hh.size hg.size, fun id cs hid => ?_, hh.dead, hh.apart⟩, hrep, ?_⟩
  · obtain ⟨b, arr, t, g1, g2, g3, g4, g5⟩ := hh.cells id cs hid
    exact ⟨b, arr, t, g1, g2, hcells _ _ _ _ g3, g4, fun i h1 h2 => hrep _ _ (g5 i h1 h2)⟩
  · refine ⟨ht.env.trans herel, ht.keep.trans hkeep, ht.below.grown hg hh.size (fun k e => Nat.le_trans hb (hr k e).1), ⟨Nat.le_trans ht.others.size hg.size, fun k o hk ho => ?_⟩⟩
    have hk' := ht.others.same k o hk ho
    rw [hg.block k (Array.getElem?_eq_some_iff.1 hk').1 (fun e => by
      have h1 := (hr k e.symm).1
      have h2 := (Array.getElem?_eq_some_iff.1 hk).1
      omega)]
    exact hk'

section
variable {P : Program} {X0 : Forb} {base : Nat} {E0 : Env} {w0 : World}
/-- operations in a round -/
theorem roundOps_sound {l m : Nat} {ops : Array Oper} {Q : Exit → Act → World → Prop} {Φ : St → Prop} (hQ : ∀ st a w, Φ st → SR X0 base E0 w0 st a w → Q .normal a w) : ∀ (lo : List Oper) (al : List AOper), mapAll (compOper P ops) lo = some al → (al.all fun o => !o.op.isCall) = true →
    ∀ (st : St) (a : Act) (w : World), stepOps P al st Φ → SR X0 base E0 w0 st a w → wpListIn (Fence.wide.inRound l) m P ops Q lo a w
  | [], al, hm, _, st, a, w, hs, hr => by
    simp [mapAll] at hm; subst hm
    exact hQ st a w hs hr
  | o :: lo, al, hm, hca, st, a, w, hs, hr => by
    simp only [mapAll, Option.bind_eq_some_iff, Option.map_eq_some_iff] at hm
    obtain ⟨ao, hao, al', hal, rfl⟩ := hm
    simp only [List.all_cons, Bool.and_eq_true, Bool.not_eq_true'] at hca
    obtain ⟨E, hh, hsz, hrep, hdef, ht⟩ := hr
    simp only [stepOps] at hs
    obtain ⟨hco1, hco2, hco3⟩ := compOper_inv hao
    have hgs := guard_sound (X0 := X0) hao hsz hrep hs
    obtain ⟨g, dd, op⟩ := ao
    simp only at hco2 hco3 hgs hca
    subst hco2
    unfold wpListIn
    have next : ∀ (v : Value) (d : DV) (w' : World) (E' : Env) (h' : List AObj), HeapRel X0 base w' h' E' → Rep E' (FX X0 E') w' v d → Trans X0 base E w E' w' → stepOps P al' ⟨putT st.t o.dst d, h'⟩ Φ → wpListIn (Fence.wide.inRound l) m P ops Q lo (a.put o.dst v) w' := by
      intro v d w' E' h' g1 g2 g3 g4
      obtain ⟨p1, p2⟩ := put_rep hsz (g3.repL hrep) g2 o.dst rfl
      exact roundOps_sound hQ lo al' hal hca.2 _ _ _ g4 ⟨E', g1, p1, p2, by rw [put_defers]; exact hdef.mono g3.others, ht.trans g3⟩
    rcases hgs with ⟨hw, hs⟩ | ⟨hw, hs⟩
    · rw [if_pos hw]
      rcases hco3 with ⟨c, f0, f, as, c1, c2, c3, c4, rfl⟩ | ⟨hop, hnc⟩ | hbad
      · simp [AOp.isCall] at hca
      · have hs' : ∃ d h', evOp op st.t st.h = some (d, h') ∧ stepOps P al' ⟨putT st.t o.dst d, h'⟩ Φ := by
          cases op <;> first
            | (simp [AOp.isCall] at hnc; done)
            | (simp only at hs
               split at hs
               · rename_i d h' e; exact ⟨d, h', e, hs⟩
               · exact hs.elim)
        obtain ⟨d, h', hev, hs⟩ := hs'
        obtain ⟨v, w', E', h1, h2, h3, h4⟩ := evOp_sound hop hev hh (fun x y _ ho => ops_rep hrep x y ho)
        have hnd : ∀ c, o.op ≠ .defer c := fun c e => by simp [compOp, e] at hop
        unfold Oper.wpIn
        refine ⟨fun _ _ => trivial, ?_⟩
        rw [Oper.semAt_eq _ _ _ hnd]
        rcases h1 with h1 | ⟨h1, rfl⟩
        · rw [h1]; exact next v d w' E' h' h2 h3 h4 hs
        · rw [h1]; exact next undef d w' E' h' h2 h3 h4 hs
      · subst hbad; exact (show False from hs).elim
    · rw [if_neg (by simp [hw])]
      exact ⟨fun _ _ => trivial, next undef (.tup []) w E st.h hh undef_rep (.refl _ _ _ _) hs⟩

theorem round_sound {l m n0 : Nat} : ∀ (c : Code) (ac : ACode), compile P c = some ac → simpleC ac = true → ∀ (Φ : AExit → St → Prop) (st : St) (a : Act) (w : World), awp P n0 ac Φ st →
    SR X0 base E0 w0 st a w → c.wpIn (Fence.wide.inRound l) m P (AQ X0 base E0 w0 Φ) a w
  | .skip, ac, hc, _, Φ, st, a, w, h, hr => by
    simp [compile] at hc; subst hc
    exact wpIn_skip ⟨st, h, hr⟩
  | .region id ops draw, ac, hc, hsm, Φ, st, a, w, h, hr => by
    simp only [compile, Option.bind_eq_some_iff] at hc
    obtain ⟨al, hl, hc⟩ := hc
    cases draw with
    | true =>
      simp only [if_true] at hc
      split at hc
      · simp at hc; subst hc; simp [simpleC] at hsm
      · simp at hc; obtain ⟨_, rfl⟩ := hc; simp [simpleC] at hsm
    | false =>
      simp only [Bool.false_eq_true, if_false] at hc
      simp at hc; subst hc
      simp only [simpleC, Bool.and_eq_true, Bool.not_eq_true'] at hsm
      obtain ⟨_, hca⟩ := hsm
      simp only [awp, Bool.false_eq_true, if_false] at h
      exact wpIn_region_list (roundOps_sound (fun st a w h1 h2 => ⟨st, h1, h2⟩) ops.toList al hl (by simpa using hca) st a w h hr)
  | .seq x y, ac, hc, hsm, Φ, st, a, w, h, hr => by
    simp only [compile, Option.bind_eq_some_iff, Option.map_eq_some_iff] at hc
    obtain ⟨ax, hx, ay, hy, rfl⟩ := hc
    simp only [simpleC, Bool.and_eq_true] at hsm
    simp only [awp] at h
    refine wpIn_seq (wpIn_mono (round_sound x ax hx hsm.1 _ st a w h hr) fun e a' w' hq => ?_)
    cases e with
    | normal => obtain ⟨st', h1, h2⟩ := hq; exact round_sound y ay hy hsm.2 Φ st' a' w' h1 h2
    | exit id => exact hq
    | ret => exact hq
    | goto l => exact hq.elim
    | panic ch => exact hq.elim
    | outgrown => exact hq.elim
  | .cond c x y, ac, hc, hsm, Φ, st, a, w, h, hr => by
    simp only [compile, Option.bind_eq_some_iff, Option.map_eq_some_iff] at hc
    obtain ⟨c', hcc, ax, hx, ay, hy, rfl⟩ := hc
    simp only [simpleC, Bool.and_eq_true] at hsm
    simp only [awp] at h
    have hrep := hr
    obtain ⟨E, hh, hsz, hrep, hdef, ht⟩ := hrep
    have rc := ops_rep hrep c c' hcc
    split at h <;> try (exact h.elim)
    rename_i b hb
    rw [hb] at rc
    generalize hv : a.eval c = v at rc
    cases rc
    refine wpIn_cond hv ?_
    cases b with
    | true => exact round_sound x ax hx hsm.1 Φ st a w (h.1 rfl) hr
    | false => exact round_sound y ay hy hsm.2 Φ st a w (h.2 rfl) hr
  | .block id c, ac, hc, hsm, Φ, st, a, w, h, hr => by
    simp only [compile, Option.map_eq_some_iff] at hc
    obtain ⟨ax, hx, rfl⟩ := hc
    simp only [simpleC] at hsm
    simp only [awp] at h
    refine wpIn_block (wpIn_mono (round_sound c ax hx hsm _ st a w h hr) fun e a' w' hq => ?_)
    cases e with
    | normal => exact hq
    | exit i =>
      obtain ⟨st', h1, h2⟩ := hq
      change if i = id then Φ .normal st' else Φ (.exit i) st' at h1
      simp only [Exit.inBlock]
      by_cases e : i = id
      · rw [if_pos e] at h1 ⊢; exact ⟨st', h1, h2⟩
      · rw [if_neg e] at h1 ⊢; exact ⟨st', h1, h2⟩
    | ret => exact hq
    | goto l => exact hq.elim
    | panic ch => exact hq.elim
    | outgrown => exact hq.elim
  | .exit id, ac, hc, _, Φ, st, a, w, h, hr => by
    simp [compile] at hc; subst hc
    exact wpIn_exit ⟨st, h, hr⟩
  | .loop c, ac, hc, hsm, _, _, _, _, _, _ => by
    simp only [compile, Option.map_eq_some_iff] at hc
    obtain ⟨ax, hx, rfl⟩ := hc
    simp [simpleC] at hsm
  | .ret, ac, hc, hsm, _, _, _, _, _, _ => by
    simp [compile] at hc; subst hc
    simp [simpleC] at hsm
  | .rangeFunc g ps x y, ac, hc, hsm, _, _, _, _, _, _ => by
    simp only [compile] at hc
    split at hc
    · simp only [Option.bind_eq_some_iff, Option.map_eq_some_iff] at hc
      obtain ⟨d, _, f, _, c, _, rfl⟩ := hc
      simp [simpleC] at hsm
    · simp at hc
  | .scope .., ac, hc, _, _, _, _, _, _, _ => by simp [compile] at hc
  | .label .., ac, hc, _, _, _, _, _, _, _ => by simp [compile] at hc
  | .goto .., ac, hc, _, _, _, _, _, _, _ => by simp [compile] at hc
  | .refuse .., ac, hc, _, _, _, _, _, _, _ => by simp [compile] at hc

/-- the assignment of a range over a function -/
theorem rfAssign_sound {p d l m : Nat} {c : Code} (h : rfAssign p c = some d) {K : Act → World → Prop} {tm : Array Value} {v : Value} {W : World} (hp : p < tm.size) (hK : K { tmps := (tm.setIfInBounds p v).setIfInBounds d v, defers := [] } W) :
    c.wpIn (Fence.wide.inRound l) m P (Exit.then K (fun _ _ _ => False)) { tmps := tm.setIfInBounds p v, defers := [] } W := by
  unfold rfAssign at h
  split at h <;> try (simp at h; done)
  rename_i id ops
  split at h <;> try (simp at h; done)
  rename_i o ho
  split at h <;> try (simp at h; done)
  rename_i q d' e1 e2 e3
  split at h <;> try (simp at h; done)
  rename_i hq
  simp at h
  subst hq h
  refine wpIn_region_list ?_
  rw [ho]
  unfold wpListIn
  rw [if_pos (by simp [Region.wanted, e3])]
  unfold Oper.wpIn
  refine ⟨fun _ _ => trivial, ?_⟩
  rw [Oper.semAt_eq _ _ _ (fun c e => by rw [e1] at e; cases e)]
  have hrun : (execOp (Act.eval { tmps := tm.setIfInBounds q v, defers := [] }) o).run P W = .ok (.value v) W := by
    simp [execOp, e1, Act.eval, hp]
  rw [hrun, Oper.uponIn_value]
  simp only [wpListIn, Act.put, e2]
  exact hK
end

theorem awp_sound {P : Program} (hmix : P.follows .mixedOrders = true) {X0 : Forb} {base : Nat} {E0 : Env} {w0 : World} : ∀ (c : Code) (ac : ACode), compile P c = some ac → ∀ (Φ : AExit → St → Prop) (st : St) (a : Act) (w : World), awp P E0.length ac Φ st →
    SR X0 base E0 w0 st a w → c.wp P (AQ X0 base E0 w0 Φ) a w
  | .skip, ac, hc, Φ, st, a, w, h, hr => by
    simp [compile] at hc; subst hc
    exact wp_skip ⟨st, h, hr⟩
  | .region id ops draw, ac, hc, Φ, st, a, w, h, hr => by
    simp only [compile, Option.bind_eq_some_iff] at hc
    obtain ⟨l, hl, hc⟩ := hc
    cases draw with
    | true =>
      simp only [if_true] at hc
      split at hc
      · rename_i hd
        simp at hc; subst hc
        simp only [awp, if_true] at h
        exact drawOps_sound (fun st a w h1 h2 => ⟨st, h1, h2⟩) hmix l hl true _ rfl hd st a w h hr
      split at hc
      · rename_i hd
        simp at hc; subst hc
        simp only [awp, if_true] at h
        exact drawOps_sound (fun st a w h1 h2 => ⟨st, h1, h2⟩) hmix l hl false _ rfl hd st a w h hr
      · simp at hc
    | false =>
      simp only [Bool.false_eq_true, if_false] at hc
      simp at hc; subst hc
      simp only [awp, Bool.false_eq_true, if_false] at h
      exact wp_region_list (stepOps_sound (fun st a w h1 h2 => ⟨st, h1, h2⟩) ops.toList l hl st a w h hr)
  | .seq x y, ac, hc, Φ, st, a, w, h, hr => by
    simp only [compile, Option.bind_eq_some_iff, Option.map_eq_some_iff] at hc
    obtain ⟨ax, hx, ay, hy, rfl⟩ := hc
    simp only [awp] at h
    refine wp_seq (wp_mono (awp_sound hmix x ax hx _ st a w h hr) fun e a' w' hq => ?_)
    cases e with
    | normal => obtain ⟨st', h1, h2⟩ := hq; exact awp_sound hmix y ay hy Φ st' a' w' h1 h2
    | exit id => exact hq
    | ret => exact hq
    | goto l => exact hq.elim
    | panic ch => exact hq.elim
    | outgrown => exact hq.elim
  | .cond c x y, ac, hc, Φ, st, a, w, h, hr => by
    simp only [compile, Option.bind_eq_some_iff, Option.map_eq_some_iff] at hc
    obtain ⟨c', hcc, ax, hx, ay, hy, rfl⟩ := hc
    simp only [awp] at h
    have hrep := hr
    obtain ⟨E, hh, hsz, hrep, hdef, ht⟩ := hrep
    have rc := ops_rep hrep c c' hcc
    split at h <;> try (exact h.elim)
    rename_i b hb
    rw [hb] at rc
    generalize hv : a.eval c = v at rc
    cases rc
    refine wp_cond hv ?_
    cases b with
    | true => exact awp_sound hmix x ax hx Φ st a w (h.1 rfl) hr
    | false => exact awp_sound hmix y ay hy Φ st a w (h.2 rfl) hr
  | .block id c, ac, hc, Φ, st, a, w, h, hr => by
    simp only [compile, Option.map_eq_some_iff] at hc
    obtain ⟨ax, hx, rfl⟩ := hc
    simp only [awp] at h
    refine wp_block (wp_mono (awp_sound hmix c ax hx _ st a w h hr) fun e a' w' hq => ?_)
    cases e with
    | normal => exact hq
    | exit i =>
      obtain ⟨st', h1, h2⟩ := hq
      change if i = id then Φ .normal st' else Φ (.exit i) st' at h1
      simp only [Exit.inBlock]
      by_cases e : i = id
      · rw [if_pos e] at h1 ⊢; exact ⟨st', h1, h2⟩
      · rw [if_neg e] at h1 ⊢; exact ⟨st', h1, h2⟩
    | ret => exact hq
    | goto l => exact hq.elim
    | panic ch => exact hq.elim
    | outgrown => exact hq.elim
  | .loop c, ac, hc, Φ, st, a, w, h, hr => by
    simp only [compile, Option.map_eq_some_iff] at hc
    obtain ⟨ax, hx, rfl⟩ := hc
    simp only [awp] at h
    obtain ⟨I, n, st0, hw, h0, hround⟩ := h
    refine wp_loop_ghost (fun n a w => ∃ st, I n st ∧ SR X0 base E0 w0 st a w) n ⟨st0, h0, hr.weak hw⟩ ?_
    rintro n a w ⟨st, hI, hr⟩
    refine wp_mono (awp_sound hmix c ax hx _ st a w (hround n st hI) hr) fun e a' w' hq => ?_
    cases e with
    | normal =>
      obtain ⟨st', ⟨n', st'', hw', hlt, hI'⟩, hr'⟩ := hq
      exact ⟨n', hlt, st'', hI', hr'.weak hw'⟩
    | exit i => exact hq
    | ret => exact hq
    | goto l => exact hq.elim
    | panic ch => exact hq.elim
    | outgrown => exact hq.elim
  | .exit id, ac, hc, Φ, st, a, w, h, hr => by
    simp [compile] at hc; subst hc
    exact wp_exit ⟨st, h, hr⟩
  | .ret, ac, hc, Φ, st, a, w, h, hr => by
    simp [compile] at hc; subst hc
    exact wp_ret ⟨st, h, hr⟩
  | .rangeFunc g ps assign body, ac, hc, Φ, st, a, w, h, hr => by
    simp only [compile] at hc
    split at hc <;> try (simp at hc; done)
    rename_i p hps
    simp only [Option.bind_eq_some_iff, Option.map_eq_some_iff] at hc
    obtain ⟨d, hd, f, hf, c, hcb, rfl⟩ := hc
    simp only [awp] at h
    obtain ⟨⟨hsm, hpl⟩, gf, id, k, n, α, encD, xs, I, hev, ⟨hent, encV, henc, hseq⟩, hId, hI0, hbody, hdone⟩ := h
    obtain ⟨E, hh, hsz, hrep, hdef, ht⟩ := hr
    have rf := ops_rep hrep g f hf
    rw [hev] at rf
    generalize hv : a.eval g = v at rf
    cases rf with
    | fn _ fi ca _ _ h1 h2 r1 r2 =>
    have hfi : fi = #[] := by simpa using h1
    subst hfi
    have hca : ca.size = 1 := by simpa using h2
    obtain ⟨cv, rfl⟩ : ∃ cv, ca = #[cv] := by
      match ca, hca with
      | ⟨[x]⟩, _ => exact ⟨x, rfl⟩
    have rcv := r2 0 (by simp) (by simp)
    simp only [List.getElem_cons_zero, List.getElem_toArray] at rcv
    have hobj := hId [] st.h hI0
    obtain ⟨b, arr, ty, e1, e2, e3, e4, rfl⟩ := mp_inv hh rcv hobj rfl
    have cellOf : ∀ {W : World} {E' : Env} {h' : List AObj}, HeapRel X0 base W h' E' → Trans X0 base E w E' W → objAt h' id = some [.int k n] → W.cell? ⟨b, 0, none⟩ = some (.int k n) := by
      intro W E' h' hhW htW hob
      have hid : id < E.length := (List.getElem?_eq_some_iff.1 e1).1
      have hob' : h'[id]? = some (.cells [.int k n]) := by
        unfold objAt at hob
        split at hob
        · rename_i e; simp at hob; subst hob; exact e
        · simp at hob
      obtain ⟨b', arr', t', g1, g2, g3, g4, g5⟩ := hhW.cells id _ hob'
      obtain ⟨b0, L0, q1, q2, q3⟩ := htW.env.at_ id hid b' _ g1
      rw [e1] at q1
      simp at q1
      obtain ⟨rfl, rfl⟩ := q1
      obtain ⟨rfl, _⟩ := q3 rfl
      have hs : 0 < arr'.size := by simp at g4; omega
      have hr0 := g5 0 (by simp) hs
      simp only [List.getElem_cons_zero] at hr0
      generalize hx : arr'[0] = x at hr0
      cases hr0
      simp [World.cell?, g3, hs, hx]
    have hbase := hh.size
    refine (wpIn_wide (n := 3)).1 (wpIn_rangeFunc_ownF (F := Fence.wide) (n := 3) (w0 := w) rfl (by omega) (gf := gf) (lb := #[.pointer (some ⟨b, 0, none⟩)]) hv trivial hent
      (hseq b w (cellOf hh (.refl _ _ _ _) hobj)) (fun h1 h2 h3 => h2 (h1 h3)) (fun W l o o' hl ho hoc _ hcell => cell_kept hcell (grownBy_putObj' W l o') (fun r e => by cases e; exact ⟨o, ho, hoc⟩)) (Below.refl _ _) (fun x => by
        have := congrArg List.length hps
        simpa using this.symm)
      (fun pre W => ∃ h' E', I pre h' ∧ HeapRel X0 base W h' E' ∧ Trans X0 base E w E' W) (fun _ _ _ => False) ?_ (fun _ _ _ _ _ hs _ _ => hs) ⟨st.h, E, hI0, hh, .refl _ _ _ _⟩
      (fun x => { tmps := (a.tmps.setIfInBounds p (encV x)).setIfInBounds d (encV x), defers := [] }) ?_ ?_ ?_ (fun _ _ _ _ _ _ hx _ => hx.elim))
    · rintro pre W W' row ⟨h', E', i1, i2, i3⟩ hg hrow
      obtain ⟨g1, _, g3⟩ := grown_other i2 i3 hbase hg hrow
      exact ⟨h', E', i1, g1, g3⟩
    · intro l x W K hK
      have hps' : ps = #[p] := by
        apply Array.toList_inj.1; simpa using hps
      subst hps'
      have e : (#[p].zip #[encV x]).foldl (fun t (p, v) => t.setIfInBounds p v) a.tmps = a.tmps.setIfInBounds p (encV x) := by simp
      show assign.wpIn _ _ P _ { tmps := (#[p].zip #[encV x]).foldl (fun t (p, v) => t.setIfInBounds p v) a.tmps, defers := [] } W
      rw [e]
      exact rfAssign_sound hd (by omega) hK
    · intro l pre x W ⟨h', E', i1, i2, i3⟩ hlt
      have hb := hbody pre x h' hlt i1
      have hsr : SR X0 base E' W ⟨(st.t.set p (encD x)).set d (encD x), h'⟩ { tmps := (a.tmps.setIfInBounds p (encV x)).setIfInBounds d (encV x), defers := [] } W := by
        have hl0 := i3.repL hrep
        obtain ⟨p1, p2⟩ := put_rep (a := { tmps := a.tmps, defers := [] }) hsz hl0 (henc x E' (FX X0 E') W) (some p) rfl
        obtain ⟨p3, p4⟩ := put_rep (a := { tmps := a.tmps.setIfInBounds p (encV x), defers := [] }) p1 p2 (henc x E' (FX X0 E') W) (some d) rfl
        exact ⟨E', i2, p3, p4, .nil, .refl _ _ _ _⟩
      refine wpIn_mono (round_sound body c hcb hsm _ _ _ W hb hsr) fun e a' W' hq => ?_
      cases e with
      | normal =>
        obtain ⟨st', q1, E'', q2, _, _, _, q3⟩ := hq
        refine ⟨q3.others, fun hcell => cellOf q2 (i3.trans q3) (hId _ _ q1), st'.h, E'', q1, q2, i3.trans q3⟩
      | exit i => obtain ⟨st', q1, _⟩ := hq; exact q1.elim
      | ret => obtain ⟨st', q1, _⟩ := hq; exact q1.elim
      | goto l => exact hq.elim
      | panic ch => exact hq.elim
      | outgrown => exact hq.elim
    · rintro D ys W hD rfl ⟨h', E', i1, i2, i3⟩ hmark
      refine ⟨⟨st.t, h'⟩, hdone h' i1, E', i2, hsz, i3.repL hrep, ?_, ht.trans i3⟩
      obtain ⟨l, el, hn, hl⟩ := hdef.mono i3.others
      obtain ⟨l0, el0, _, hl0⟩ := hdef
      refine ⟨D :: l, by simp only [List.map_cons, ← el]; rfl, List.nodup_cons.2 ⟨fun hmem => ?_, hn⟩, fun D' hD' => ?_⟩
      · have : markOf D ∈ l0.map markOf := by rw [← el0, el]; exact List.mem_map_of_mem hmem
        obtain ⟨D2, m1, m2⟩ := List.mem_map.1 this
        have : D2 = D := by simpa [markOf] using m2
        subst this
        have := (Array.getElem?_eq_some_iff.1 (hl0 D2 m1).2).1
        omega
      · rcases List.mem_cons.1 hD' with rfl | hD'
        · exact ⟨Nat.le_trans ht.below.size hD, hmark⟩
        · exact hl D' hD'
  | .scope .., ac, hc, _, _, _, _, _, _ => by simp [compile] at hc
  | .label .., ac, hc, _, _, _, _, _, _ => by simp [compile] at hc
  | .goto .., ac, hc, _, _, _, _, _, _ => by simp [compile] at hc
  | .refuse .., ac, hc, _, _, _, _, _, _ => by simp [compile] at hc

/-- where a result lies -/
inductive ARes where
  | tmp (t : Nat)
  | cell (t n : Nat) (agg : Bool)
  deriving Inhabited

def compRes (P : Program) : ResultVar → Option ARes
  | .tmp t => some (.tmp t)
  | .cell t ty => (szT P ty).bind fun n => (aggT P ty).map fun a => .cell t n a

structure AFn where
  code : ACode
  ntmps : Nat
  res : List ARes
  deriving Inhabited

def compileFn (P : Program) (fn : Func) : Option AFn :=
  if fn.name == "runtime.NumGoroutine" then none else
  fn.body.bind fun c => (compile P c).bind fun ac => (mapAll (compRes P) fn.results.toList).map fun rs => ⟨ac, fn.ntmps, rs⟩

def resOf (st : St) : ARes → Option DV
  | .tmp t => some (st.t.getD t .junk)
  | .cell t n agg => (vis st.h (st.t.getD t .junk)).bind fun cs => Am.one n agg cs

def resAll (rs : List ARes) (st : St) : Option DV :=
  (mapAll (resOf st) rs).map fun l => match l with
    | [d] => d
    | l => .tup l

def startT (n : Nat) (args : List DV) : List DV := args ++ List.replicate (n - args.length) (.tup [])

/-- what a function's code must come to, for a call in a state with objects -/
def RetA (rs : List ARes) (Ψ : DV → List AObj → Prop) : AExit → St → Prop
  | .normal, st => ∃ d, resAll rs st = some d ∧ Ψ d st.h
  | .ret, st => ∃ d, resAll rs st = some d ∧ Ψ d st.h
  | _, _ => False

def resF (tm : Array Value) : ResultVar → Go.Sem Value
  | .tmp t => pure (tm.getD t undef)
  | .cell a t => do loadVar t (← asAddr (tm.getD a undef))

theorem results_eq (fn : Func) (tm : Array Value) : results fn tm = (do
    let vs ← fn.results.mapM (resF tm)
    pure (if h : vs.size = 1 then vs[0] else .tuple vs)) := by
  have e : ∀ (g : ResultVar → Go.Sem Value), (∀ r, g r = resF tm r) → (do
    let vs ← fn.results.mapM g
    pure (if h : vs.size = 1 then vs[0] else .tuple vs)) = (do
    let vs ← fn.results.mapM (resF tm)
    pure (if h : vs.size = 1 then vs[0] else .tuple vs) : Go.Sem Value) := fun g hg => by rw [show g = resF tm from funext hg]
  exact e _ (fun r => by cases r <;> rfl)

theorem res_run {P : Program} {X0 : Forb} {base : Nat} {w : World} {h : List AObj} {E : Env} (hh : HeapRel X0 base w h E) {tm : Array Value} {ts : List DV} (hrep : RepL E (FX X0 E) w tm ts) : ∀ (rs : List ResultVar) (as : List ARes), mapAll (compRes P) rs = some as → ∀ (l : List DV), mapAll (resOf ⟨ts, h⟩) as = some l →
    ∃ vs : List Value, (rs.mapM (resF tm)).run P w = .ok vs w ∧ RepA E (FX X0 E) w vs l
  | [], as, hm, l, hl => by
    simp [mapAll] at hm; subst hm
    simp [mapAll] at hl; subst hl
    exact ⟨[], by simp, RepA.nil⟩
  | r :: rs, as, hm, l, hl => by
    simp only [mapAll, Option.bind_eq_some_iff, Option.map_eq_some_iff] at hm
    obtain ⟨a, ha, as', has, rfl⟩ := hm
    simp only [mapAll, Option.bind_eq_some_iff, Option.map_eq_some_iff] at hl
    obtain ⟨d, hd, l', hl', rfl⟩ := hl
    obtain ⟨vs, h1, h2⟩ := res_run hh hrep rs as' has l' hl'
    have head : ∃ v, (resF tm r).run P w = .ok v w ∧ Rep E (FX X0 E) w v d := by
      cases r with
      | tmp t =>
        simp [compRes] at ha; subst ha
        simp [resOf] at hd; subst hd
        exact ⟨_, rfl, by simpa using hrep t⟩
      | cell t ty =>
        simp only [compRes, Option.bind_eq_some_iff, Option.map_eq_some_iff] at ha
        obtain ⟨n, hn, ag, hag, rfl⟩ := ha
        simp only [resOf, Option.bind_eq_some_iff] at hd
        obtain ⟨cs, hv, ho⟩ := hd
        obtain ⟨ad, us, e, hra, hc⟩ := vis_sound hh (hrep t) hv
        obtain ⟨v, g1, g2⟩ := one_load (P := P) ho hra hn hag hc
        refine ⟨v, ?_, g2⟩
        simp only [resF, e, asAddr, Sem.run_bind, Sem.run_pure, Result.andThen_ok, g1]
    obtain ⟨v, g1, g2⟩ := head
    refine ⟨v :: vs, ?_, RepA.cons g2 h2⟩
    simp only [List.mapM_cons, Sem.run_bind, g1, Result.andThen_ok, h1, Sem.run_pure]

/-- on the way out: the marks are struck, one by one -/
theorem leaves_marks {P : Program} {fn : Func} {tmps : Array Value} {R : Ending → World → Prop} {n0 : Nat} {S : World → Prop} (hS : ∀ w D, S w → n0 ≤ D → w.heap[D]? = some (.deferred (some [])) → S (w.putObj D (.deferred none)))
    (hfin : ∀ w, S w → ∃ v, (results fn tmps).run P w = .ok v w ∧ R (.returned v) w) (ds : List Deferred) (w : World) (hm : Marks n0 w ds) (hs : S w) : LeavesInM Fence.wide 0 P fn tmps R ds .returning w := by
  obtain ⟨l, rfl, hn, h⟩ := hm
  induction l generalizing w with
  | nil => exact hfin w hs
  | cons D l ih =>
    have h0 := h D (by simp)
    refine ⟨by simp, .inl ⟨D, w.putObj D (.deferred none), rfl, run_takeDeferred h0.2, ih _ (hS w D hs h0.1 h0.2) (List.nodup_cons.1 hn).2 (fun D' hD' => ?_)⟩⟩
    have hne : D' ≠ D := fun e => (List.nodup_cons.1 hn).1 (e ▸ hD')
    exact ⟨(h D' (by simp [hD'])).1, by rw [World.putObj_heap_other hne]; exact (h D' (by simp [hD'])).2⟩

/-- **A FUNCTION's CONTRACT, in any state.** -/
theorem callsA_of {P : Program} (hmix : P.follows .mixedOrders = true) {f : FuncId} {fn : Func} (hf : P.funcs[f]? = some fn) {af : AFn} (hc : compileFn P fn = some af) {args : List DV} {h : List AObj} {Ψ : DV → List AObj → Prop}
    (hb : awp P h.length af.code (RetA af.res Ψ) ⟨startT af.ntmps args, h⟩) : CallsA P f args h Ψ := by
  unfold compileFn at hc
  split at hc
  · simp at hc
  · rename_i hname
    simp only [Option.bind_eq_some_iff, Option.map_eq_some_iff] at hc
    obtain ⟨c, hbody, ac, hac, rs, hrs, rfl⟩ := hc
    refine fun X0 base w E vs hh hr => .of_ent (ent_of hf (by simpa using hname) hbody) ?_
    refine callsIn_wide.1 (callsIn_of_wp_marks (F := Fence.wide) (n := 0) hf hbody trivial (wpIn_wide.2 ?_) rfl)
    have hsz : vs.size = args.length := by simpa using hr.1
    have hSR : SR X0 base E w ⟨startT fn.ntmps args, h⟩ { tmps := vs ++ Array.replicate (fn.ntmps - vs.size) undef, defers := [] } w := by
      refine ⟨E, hh, by simp [startT, hsz], fun i => ?_, .nil, .refl _ _ _ _⟩
      simp only [startT]
      rw [Array.getD_eq_getD_getElem?, List.getD_eq_getElem?_getD]
      by_cases hi : i < vs.size
      · rw [Array.getElem?_append_left hi, List.getElem?_append_left (by omega), Array.getElem?_eq_getElem hi, List.getElem?_eq_getElem (by omega)]
        have := hr.2 i (by simpa using hi) (by omega)
        simpa using this
      · rw [Array.getElem?_append_right (by omega), List.getElem?_append_right (by omega), hsz]
        by_cases hj : i - args.length < fn.ntmps - args.length
        · simp [hj]; exact undef_rep
        · simp [hj]; exact .junk _
    have hlen : E.length = h.length := hh.len
    rw [← hlen] at hb
    refine wp_mono (awp_sound hmix c ac hac _ _ _ w hb hSR) fun e a' w' hq => ?_
    have fin : ∀ st, (∃ d, resAll rs st = some d ∧ Ψ d st.h) → SR X0 base E w st a' w' → LeavesInM Fence.wide 0 P fn a'.tmps (fun e w' => ∃ v r h' E', e = .returned v ∧ Ψ r h' ∧ HeapRel X0 base w' h' E' ∧ Rep E' (FX X0 E') w' v r ∧ Trans X0 base E w E' w') a'.defers .returning w' := by
      rintro st ⟨d, hd, hΨ⟩ ⟨E', hh', hsz', hrep', hdef', ht'⟩
      refine leaves_marks (S := fun W => ∃ E', HeapRel X0 base W st.h E' ∧ RepL E' (FX X0 E') W a'.tmps st.t ∧ Trans X0 base E w E' W) (n0 := w.heap.size) ?_ ?_ a'.defers w' hdef' ⟨E', hh', hrep', ht'⟩
      · rintro W D ⟨E1, k1, k2, k3⟩ hD ho
        obtain ⟨g1, g2, g3⟩ := grown_other k1 k3 hh.size (grownBy_putObj' W D (.deferred none)) (fun r e => by cases e; exact ⟨hD, _, ho, rfl⟩)
        exact ⟨E1, g1, fun i => g2 _ _ (k2 i), g3⟩
      clear hh' hrep' ht' hdef'
      rintro w' ⟨E', hh', hrep', ht'⟩
      unfold resAll at hd
      obtain ⟨l, hl, hd⟩ := Option.map_eq_some_iff.1 hd
      obtain ⟨us, g1, g2⟩ := res_run hh' hrep' fn.results.toList rs hrs l hl
      have hl0 := g2.1
      have hrun : ∀ v, (if h : us.length = 1 then us[0] else Value.tuple us.toArray) = v → (results fn a'.tmps).run P w' = .ok v w' := by
        intro v hv
        rw [results_eq, Array.mapM_eq_mapM_toList, ← hv]
        simp [g1]
      match l, us, hl0, g2, hd, hrun with
      | [x], [u], _, g2, hd, hrun =>
        simp at hd; subst hd
        exact ⟨u, hrun u (by simp), u, x, st.h, E', rfl, hΨ, hh', g2.head, ht'⟩
      | [], [], _, g2, hd, hrun =>
        simp at hd; subst hd
        exact ⟨_, hrun _ rfl, _, _, st.h, E', rfl, hΨ, hh', by simpa using g2.tup, ht'⟩
      | x :: y :: l, u :: u' :: us, _, g2, hd, hrun =>
        simp at hd; subst hd
        exact ⟨_, hrun _ rfl, _, _, st.h, E', rfl, hΨ, hh', by simpa using g2.tup, ht'⟩
    cases e with
    | normal => obtain ⟨st, h1, h2⟩ := hq; exact fin st h1 h2
    | ret => obtain ⟨st, h1, h2⟩ := hq; exact fin st h1 h2
    | exit id => obtain ⟨st, h1, h2⟩ := hq; exact h1.elim
    | goto l => exact hq.elim
    | panic ch => exact hq.elim
    | outgrown => exact hq.elim

/-- a pure contract out of a call in the empty state -/
theorem sem_of_calls {P : Program} {f : FuncId} {args : List DV} {r : DV} (hc : CallsA P f args [] (fun d h' => snap h' 3 d = some r)) : Sem P f args r := by
  refine fun X w vs hX hr => ?_
  have hh : HeapRel X w.heap.size w [] [] := ⟨rfl, hX, Nat.le_refl _, fun id cs hid => by simp at hid, fun id hid => by simp at hid, fun id id' b L b' L' _ h1 => by simp at h1⟩
  have hfx : ∀ b o, FX X [] b o → X b o := by
    rintro b o (g | ⟨id, L, g⟩)
    · exact g
    · simp at g
  refine (hc X w.heap.size w [] vs hh ⟨hr.1, fun i h1 h2 => (hr.2 i h1 h2).less hfx⟩).mono fun e w' ⟨v, d, h', E', e1, e2, e3, e4, e5⟩ => ?_
  exact ⟨v, e1, snap_sound e3 3 e4 e2, e5.below⟩

/-- **A FUNCTION's PURE CONTRACT.** -/
theorem sem_of {P : Program} (hmix : P.follows .mixedOrders = true) {f : FuncId} {fn : Func} (hf : P.funcs[f]? = some fn) {af : AFn} (hc : compileFn P fn = some af) {args : List DV} {r : DV}
    (hb : awp P 0 af.code (RetA af.res fun d h' => snap h' 3 d = some r) ⟨startT af.ntmps args, []⟩) : Sem P f args r :=
  sem_of_calls (callsA_of hmix hf hc hb)
end Go.Am
