/-
  The abstract machine, part 22: from a pure contract to a law's statement: the answer is true, the arguments read as they did.
-/
import Derived.Test.YtjhakjeioppijaaDoorAmU
import Derived.WalkKit
import Derived.ProofKit
import Derived.OpenShut
import Derived.JoinedCond
import Derived.Carry
set_option linter.unusedSimpArgs false
set_option linter.unusedVariables false
namespace Go.Am
open Go.ChangeShapes Go.WideShapes Go.ChangeAt Go.RowKit

theorem trodAll_below {H : Type} {enc : TypeId × Value → H} {P : Program} (hl : laidOutB P = true) {W W' : World} (hb : Below W.heap.size W W') {sp : Nat → Bool} :
    ∀ {ts : List TypeId} {vs : List Value} {ds : List (DataW H)} {ps : List MemPlace}, (∀ t ∈ ts, P.readableRec t = true ∧ t < P.types.size) → DataW.TrodAll enc P W 0 (fun _ => true) true ts vs ds ps →
      (∀ p ∈ ps, p.block < W.heap.size) → (∀ p ∈ ps, sp p.block = true) → DataW.TrodAll enc P W' 0 sp true ts vs ds ps
  | [], vs, ds, ps, _, h, _, _ => by
    obtain ⟨rfl, rfl, rfl⟩ := trodAll_nil h
    exact trodAll_mk0
  | t :: ts, vs, ds, ps, ht, h, hlt, hsp => by
    obtain ⟨v, vs', d, ds', p, q, rfl, rfl, rfl, h1, h2⟩ := trodAll_cons h
    refine trodAll_cons_mk ?_ (trodAll_below hl hb (fun t ht' => ht t (by simp [ht'])) h2 (fun x hx => hlt x (by simp [hx])) (fun x hx => hsp x (by simp [hx])))
    exact WideElems.Trod_stays hl (ht t (by simp)).1 (ht t (by simp)).2 h1 (fun x hx => hb.same (hlt x (by simp [hx]))) (fun x hx => hsp x (by simp [hx]))

/-- what a law's statement asks behind the call -/
theorem post_true {H : Type} {enc : TypeId × Value → H} {P : Program} {f : Func} {s : ChangeSpec} {apart fresh handsOn again : Bool} {W W' : World} {args : Array Value} {ds gs : List (DataW H)} {before : List MemPlace}
    (hl : laidOutB P = true) (hps : ∀ t ∈ f.params.toList, P.readableRec t = true ∧ t < P.types.size) {tb : TypeId} (hres : f.resultTypes = #[tb]) (hbool : P.underlying tb = some .bool) (hv : s.vars = [])
    (hW : DataW.Whole enc P f.params.toList s.vars apart W args.toList ds gs before) (hs : s.fn H (ds ++ gs) = { results := [.lit (.bool true)], args := ds, vars := [] }) (hb : Below W.heap.size W W') :
    s.post enc P f apart fresh handsOn again W args (.bool true) W' := by
  have hlt := hW.lt
  have hW' := hW
  obtain ⟨p, q, hA, hV, rfl, hfz, hnd⟩ := hW
  rw [hv] at hV
  obtain ⟨rfl, rfl⟩ := trodVars_none hV
  simp only [List.append_nil] at *
  have hsp : ∀ x ∈ p, (fun b => decide (b < W.heap.size)) x.block = true := fun x hx => by simpa using hlt x hx
  have hr : ∀ (b : Nat) (sp : Nat → Bool) (hd : Bool), DataW.TrodAll enc P W' b sp hd f.resultTypes.toList ((Value.bool true).resultList f.resultTypes.size) [DataW.lit (Lit.bool true)] [] := by
    intro b sp hd
    rw [hres]
    exact trodAll_cons_mk (p := []) (p' := []) (shut_bool hbool true) trodAll_mk0
  have ha : ∀ sp : Nat → Bool, (∀ x ∈ p, sp x.block = true) → DataW.TrodAll enc P W' 0 sp true f.params.toList args.toList ds p := fun sp hsp => trodAll_below hl hb hps hA hlt hsp
  refine ⟨ds, [], p, [], p, [], hW', ?_, ?_, ?_, ?_, fun _ => ⟨ok_one hres rfl (okWide_bool_mk hbool true), ?_⟩⟩
  · simp only [List.append_nil, hs]; exact hr _ _ _
  · simp only [List.append_nil, hs]; exact ha _ hsp
  · simp only [List.append_nil, hs, hv]; rfl
  · exact hb.frame _
  · refine ⟨DataW.lit (Lit.bool true) :: ds, [], [] ++ p, ⟨[] ++ p, [], ?_, ?_, by simp, ?_, fun h => by simpa using hnd h⟩, fun x hx _ => by simpa using hx⟩
    · exact trodAll_append (ha (fun _ => true) (fun _ _ => rfl)) (hr _ _ _)
    · rw [hv]; rfl
    · intro b off hx
      have hx' : MemPlace.cell b off ∈ p := by simpa using hx
      have := hlt _ hx'
      rw [hb.frozen (p := ⟨b, off, none⟩) this]
      exact hfz b off hx'
/-- the call of a law, out of its pure contract -/
theorem calls_true {H : Type} {enc : TypeId × Value → H} {P : Program} {k : FuncId} {f : Func} {s : ChangeSpec} {apart fresh handsOn again : Bool} {W : World} {args : Array Value} {ds gs : List (DataW H)} {before : List MemPlace} {dvs : List DV}
    (hl : laidOutB P = true) (hps : ∀ t ∈ f.params.toList, P.readableRec t = true ∧ t < P.types.size) {tb : TypeId} (hres : f.resultTypes = #[tb]) (hbool : P.underlying tb = some .bool) (hv : s.vars = [])
    (hW : DataW.Whole enc P f.params.toList s.vars apart W args.toList ds gs before) (hs : s.fn H (ds ++ gs) = { results := [.lit (.bool true)], args := ds, vars := [] })
    (hr : RepA [] (fun _ _ => False) W args.toList dvs) (hent : Ent P k) (hc : Am.Sem P k dvs (.bool true)) :
    Calls P k args W fun e W' => ∃ v, e = .returned v ∧ s.post enc P f apart fresh handsOn again W args v W' := by
  refine ((hc (fun _ _ => False) W args (fun _ _ h => h.elim) hr).calls hent).mono fun e W' ⟨v, he, hrv, hb⟩ => ?_
  cases hrv
  exact ⟨_, he, post_true hl hps hres hbool hv hW hs hb⟩

/-! what the arguments are -/
theorem w8_of {n : Int} (h : (Lit.int .u8 n).wf = true) : DV.int .u8 n = w8 (BitVec.ofInt 8 n) := by
  have hx : 0 ≤ n ∧ n ≤ 255 := by simpa [Lit.wf, IntKind.min, IntKind.max, IntKind.signed, IntKind.bits] using h
  unfold w8
  rw [BitVec.toNat_ofInt]
  congr 1
  omega

/-- a slice of bytes -/
theorem read_bytes {H : Type} {enc : TypeId × Value → H} {P : Program} {W : World} {base : Nat} {sp : Nat → Bool} {held : Bool} {r : Reach} {b0 : Nat} {t e : TypeId} {v : Value} {d : DataW H} {ps : List MemPlace}
    (ht : P.underlying t = some (.slice e)) (he : P.underlying e = some (.int .u8)) (hc : P.cellsOf e = 1) (hval : Value.okWide P W r b0 t v) (hd : DataW.Trod enc P W base sp held t v d ps) :
    ∃ dv, Rep [] (fun _ _ => False) W v dv ∧ (dv = .nils ∨ ∃ bs : List (BitVec 8), dv = .sl false 1 bs.length (bs.map w8)) := by
  obtain ⟨a, len, cap, rfl⟩ := okWide_slice ht hval
  obtain ⟨fuel, hd⟩ := hd
  rcases open_ints ht he hc hd with ⟨hcs, _⟩ | ⟨a', len', cap', zs, hcs, _, hl, _, hz, _, hcell, hwf⟩
  · simp [Value.cells] at hcs
    obtain ⟨rfl, rfl, rfl⟩ := hcs
    exact ⟨.nils, .nils, .inl rfl⟩
  · simp [Value.cells] at hcs
    obtain ⟨rfl, rfl, rfl⟩ := hcs
    have hlen : len ≤ zs.length := by rw [hz]; split <;> omega
    have hbl : ((zs.take len).map (BitVec.ofInt 8)).length = len := by simp; omega
    refine ⟨.sl false 1 _ _, ?_, .inr ⟨(zs.take len).map (BitVec.ofInt 8), rfl⟩⟩
    rw [hbl]
    refine Rep.sl false 1 len cap a' _ (fun i => .int .u8 (zs.getD i 0)) hl (by simp) (by simp; omega) (fun i hi => hcell i ?_) (fun _ _ h => h) (fun i hi => ?_)
    · simp at hi; omega
    · have hi' : i < zs.length := by simp at hi; omega
      have e : ((List.map (BitVec.ofInt 8) (List.take len zs)).map w8)[i] = DV.int .u8 (zs.getD i 0) := by
        simp only [List.getElem_map, List.getElem_take, List.getD_eq_getElem?_getD, List.getElem?_eq_getElem hi', Option.getD_some]
        exact (w8_of (hwf _ (List.getElem_mem hi'))).symm
      rw [e]
      exact .int _ _
end Go.Am
