/-
  The abstract machine, part 14: every operation.
-/
import Derived.Test.YtjhakjeioppijaaDoorAmM
set_option linter.unusedSimpArgs false
set_option linter.unusedVariables false
namespace Go.Am
open Go.RowKit
section
variable {P : Program} {X0 : Forb} {base : Nat} {w : World} {h : List AObj} {E : Env}

set_option maxHeartbeats 1000000 in
theorem evOp_sound {o : Oper} {op : AOp} (hc : compOp P o = some op) {ts : List DV} {d : DV} {h' : List AObj} (he : evOp op ts h = some (d, h')) (hh : HeapRel X0 base w h E) {ρ : Operand → Value}
    (hρ : ∀ x y, x ∈ o.op.operands → opd x = some y → Rep E (FX X0 E) w (ρ x) (ev ts y)) : Leaves P X0 base E w (execOp ρ o) d h' := by
  obtain ⟨dst, oop, ty, pos, after, guard⟩ := o
  have val : ∀ {s : Sem Value}, execOp ρ ⟨dst, oop, ty, pos, after, guard⟩ = (do pure (.value (← s))) → Gives P X0 base E w s d h' → Leaves P X0 base E w (execOp ρ ⟨dst, oop, ty, pos, after, guard⟩) d h' := fun e g => by rw [e]; exact g.leaves
  simp only at hρ
  cases oop <;> simp only [compOp] at hc <;> try (simp at hc; done)
  case call c => exact call_sound rfl hc he hh hρ
  case move x =>
    obtain ⟨x', hx, rfl⟩ := Option.map_eq_some_iff.1 hc
    simp [evOp] at he; obtain ⟨rfl, rfl⟩ := he
    exact leaves_pure hh (hρ x x' (by simp [Op.operands]) hx)
  case assign x =>
    obtain ⟨x', hx, rfl⟩ := Option.map_eq_some_iff.1 hc
    simp [evOp] at he; obtain ⟨rfl, rfl⟩ := he
    exact leaves_pure hh (hρ x x' (by simp [Op.operands]) hx)
  case pick c a b =>
    simp only [Option.bind_eq_some_iff, Option.map_eq_some_iff] at hc
    obtain ⟨c', hc', a', ha', b', hb', rfl⟩ := hc
    have rc := hρ c c' (by simp [Op.operands]) hc'
    have ra := hρ a a' (by simp [Op.operands]) ha'
    have rb := hρ b b' (by simp [Op.operands]) hb'
    simp only [evOp] at he
    split at he <;> try (simp at he; done)
    · rename_i e; rw [e] at rc
      simp at he; obtain ⟨rfl, rfl⟩ := he
      generalize hcv : ρ c = v at rc
      cases rc
      exact ⟨_, w, E, .inl (by simp [execOp, hcv, asBool]), hh, ra, .refl _ _ _ _⟩
    · rename_i e; rw [e] at rc
      simp at he; obtain ⟨rfl, rfl⟩ := he
      generalize hcv : ρ c = v at rc
      cases rc
      exact ⟨_, w, E, .inl (by simp [execOp, hcv, asBool]), hh, rb, .refl _ _ _ _⟩
  case alloc e =>
    obtain ⟨zs, hz, rfl⟩ := Option.map_eq_some_iff.1 hc
    simp [evOp] at he; obtain ⟨rfl, rfl⟩ := he
    exact val rfl (alloc_ok hh hz)
  case box e x =>
    obtain ⟨x', hx, rfl⟩ := Option.map_eq_some_iff.1 hc
    simp only [evOp] at he
    split at he <;> try (simp at he; done)
    rename_i hk
    simp only [Option.some.injEq, Prod.mk.injEq] at he; obtain ⟨rfl, rfl⟩ := he
    exact val rfl (box_ok hh (hρ x x' (by simp [Op.operands]) hx) hk)
  case build t parts =>
    obtain ⟨zs, hz, hc⟩ := Option.bind_eq_some_iff.1 hc
    have hρ' : ∀ x y, x ∈ parts.map (·.2) → opd x = some y → Rep E (FX X0 E) w (ρ x) (ev ts y) := fun x y hx => hρ x y (by simpa [Op.operands] using hx)
    split at hc <;> try (simp at hc; done)
    · rename_i fs hu
      simp only [Option.bind_eq_some_iff, Option.map_eq_some_iff] at hc
      obtain ⟨pl, hpl, ps, hps, rfl⟩ := hc
      simp only [evOp] at he
      split at he <;> try (simp at he; done)
      rename_i hk
      simp only [Option.map_eq_some_iff] at he
      obtain ⟨_, ⟨r, hr, rfl⟩, he⟩ := he
      simp at he; obtain ⟨rfl, rfl⟩ := he
      obtain ⟨g1, g2⟩ := parts_rep (place := (pl[·]?)) hps hρ' hk
      exact val rfl (build_struct hh hu hz hpl g1 g2 hr)
    · rename_i n e hu
      simp only [Option.bind_eq_some_iff, Option.map_eq_some_iff] at hc
      obtain ⟨s, hs, ps, hps, rfl⟩ := hc
      simp only [evOp] at he
      split at he <;> try (simp at he; done)
      rename_i hk
      simp only [Option.map_eq_some_iff] at he
      obtain ⟨_, ⟨r, hr, rfl⟩, he⟩ := he
      simp at he; obtain ⟨rfl, rfl⟩ := he
      obtain ⟨g1, g2⟩ := parts_rep (place := fun i => some (i * s, s)) (by rw [← hps]; congr 1; funext p; cases opd p.2 <;> rfl) hρ' hk
      exact val rfl (build_array hh hu hs hz g1 (fun i a b => ⟨by have := (g2 i a b).1; simpa using this, (g2 i a b).2⟩) hr)
  case buildSlice t len parts =>
    have hρ' : ∀ x y, x ∈ parts.map (·.2) → opd x = some y → Rep E (FX X0 E) w (ρ x) (ev ts y) := fun x y hx => hρ x y (by simpa [Op.operands] using hx)
    split at hc <;> try (simp at hc; done)
    rename_i e hu
    simp only [Option.bind_eq_some_iff] at hc
    obtain ⟨s, hs, zs, hz, ps, hps, hc⟩ := hc
    split at hc <;> try (simp at hc; done)
    rename_i hcond
    obtain ⟨c1, c2, c3⟩ := hcond
    simp at hc; subst hc
    simp only [evOp] at he
    split at he <;> try (simp at he; done)
    rename_i hk
    simp only [Option.map_eq_some_iff] at he
    obtain ⟨_, ⟨r, hr, rfl⟩, he⟩ := he
    simp at he; obtain ⟨rfl, rfl⟩ := he
    obtain ⟨g1, g2⟩ := parts_rep (place := fun i => some (i * s, s)) (by rw [← hps]; congr 1; funext p; cases opd p.2 <;> rfl) hρ' hk
    exact val rfl (bsl_ok hh hu hs hz c1 c2 c3 g1 (fun i a b => ⟨by have := (g2 i a b).1; simpa using this, (g2 i a b).2⟩) hr (by rw [fillD_length hr, reps_length c2]))
  case load t x =>
    simp only [Option.bind_eq_some_iff, Option.map_eq_some_iff] at hc
    obtain ⟨n, hn, a, ha, x', hx, rfl⟩ := hc
    simp only [evOp, Option.bind_eq_some_iff, Option.map_eq_some_iff] at he
    obtain ⟨cs, hv, d', hd, he⟩ := he
    simp at he; obtain ⟨rfl, rfl⟩ := he
    exact val rfl (load_ok hh (hρ x x' (by simp [Op.operands]) hx) hn ha hv hd)
  case store t x y =>
    simp only [Option.bind_eq_some_iff, Option.map_eq_some_iff] at hc
    obtain ⟨n, hn, x', hx, y', hy, rfl⟩ := hc
    have rx := hρ x x' (by simp [Op.operands]) hx
    have ry := hρ y y' (by simp [Op.operands]) hy
    simp only [evOp] at he
    generalize ev ts x' = dx at rx he
    cases dx <;> (try simp only at he) <;> try (simp at he; done)
    rename_i id ver off
    simp only [Option.bind_eq_some_iff] at he
    obtain ⟨l, hl, he⟩ := he
    split at he <;> try (simp at he; done)
    rename_i hcond
    obtain ⟨c1, c2, c3, c4⟩ := hcond
    simp only [Option.some.injEq, Prod.mk.injEq] at he; obtain ⟨rfl, rfl⟩ := he
    obtain ⟨w', E', g1, g2, g3⟩ := store_ok (P := P) hh hn rx ry hl c1 c2 c3 c4
    exact ⟨undef, w', E', .inr ⟨by simp [execOp, g1], rfl⟩, g2, .junk _, g3⟩
  case nilCheck x =>
    obtain ⟨x', hx, rfl⟩ := Option.map_eq_some_iff.1 hc
    have rx := hρ x x' (by simp [Op.operands]) hx
    simp only [evOp] at he
    generalize ev ts x' = dx at rx he
    cases dx <;> (try simp only at he) <;> try (simp at he; done)
    case ref cs =>
      simp at he; obtain ⟨rfl, rfl⟩ := he
      obtain ⟨a, vs, e, _⟩ := ref_inv rx
      exact ⟨ρ x, w, E, .inl (by simp [execOp, e]), hh, rx, .refl _ _ _ _⟩
    case mp id ver off =>
      simp only [Option.bind_eq_some_iff] at he
      obtain ⟨l, hl, he⟩ := he
      split at he <;> try (simp at he; done)
      rename_i hver
      simp at he; obtain ⟨rfl, rfl⟩ := he
      obtain ⟨b, arr, t, e1, e2, e3, e4, e⟩ := mp_inv hh rx hl hver
      exact ⟨ρ x, w, E, .inl (by simp [execOp, e]), hh, rx, .refl _ _ _ _⟩
    case fn f a b =>
      cases f <;> simp at he
      obtain ⟨rfl, rfl⟩ := he
      generalize hq : ρ x = q at rx
      have rx' := rx
      cases rx
      exact ⟨_, w, E, .inl (by simp [execOp, hq]), hh, rx', .refl _ _ _ _⟩
  case binOp op t x y yt =>
    simp only [Option.bind_eq_some_iff] at hc
    obtain ⟨x', hx, y', hy, hc⟩ := hc
    have rx := hρ x x' (by simp [Op.operands]) hx
    have ry := hρ y y' (by simp [Op.operands]) hy
    split at hc
    · rename_i hop
      cases hk : eqKind P t with
      | none => rw [hk] at hc; simp at hc
      | some kd =>
      rw [hk] at hc
      split at hc
      · simp at hc; subst hc
        simp only [evOp, Option.map_eq_some_iff] at he
        obtain ⟨d', hd, he⟩ := he
        simp at he; obtain ⟨rfl, rfl⟩ := he
        exact val rfl (bin_ok hh x y t rx ry hd)
      · simp at hc; subst hc
        simp only [evOp] at he
        split at he <;> try (simp at he; done)
        rename_i a b ea eb
        rw [ea] at rx; rw [eb] at ry
        simp only [Option.map_some, Option.some.injEq, Prod.mk.injEq] at he; obtain ⟨rfl, rfl⟩ := he
        have ht : P.underlying t = some .bool := by
          unfold eqKind at hk
          split at hk <;> simp_all
        exact val rfl (eqb_ok hh x y t ht hop rx ry)
      · simp only [Option.bind_eq_some_iff] at hc
        obtain ⟨ks, hks, hc⟩ := hc
        split at hc <;> try (simp at hc; done)
        rename_i hcond
        obtain ⟨c1, c2⟩ := hcond
        simp at hc; subst hc
        simp only [evOp] at he
        split at he <;> try (simp at he; done)
        rename_i xs ys ea eb
        rw [ea] at rx; rw [eb] at ry
        simp only [Option.map_eq_some_iff] at he
        obtain ⟨_, ⟨b, hb, rfl⟩, he⟩ := he
        simp only [Prod.mk.injEq] at he; obtain ⟨rfl, rfl⟩ := he
        rw [c1] at hb
        have hagg : aggT P t = some true := by
          unfold eqKind at hk
          unfold aggT
          split at hk <;> simp_all [isAggD]
        exact val rfl (eqa_ok hh x y hks c2 hop rx ry hb hagg)
      · rename_i e7
        simp only [Option.some.injEq] at e7
        subst e7
        split at hc <;> try (simp at hc; done)
        rename_i hnc
        simp at hc; subst hc
        simp only [evOp] at he
        split at he <;> try (simp at he; done)
        rename_i k a k' b ea eb
        split at he <;> try (simp at he; done)
        rename_i hcond
        obtain ⟨c1, c2, c3⟩ := hcond
        subst c1 c2
        simp only [Option.map_some, Option.some.injEq, Prod.mk.injEq] at he; obtain ⟨rfl, rfl⟩ := he
        exact val rfl (eqn_ok hh (k := 4) hk (fun _ => hnc) hop rx ry ea eb c3)
      · rename_i k h0 h1 h2 h7 e
        simp only [Option.some.injEq] at e
        subst e
        split at hc <;> try (simp at hc; done)
        rename_i h3
        simp at hc; subst hc
        simp only [evOp] at he
        split at he <;> try (simp at he; done)
        rename_i k1 a k2 b ea eb
        split at he <;> try (simp at he; done)
        rename_i hcond
        obtain ⟨c1, c2, c3⟩ := hcond
        subst c1 c2
        simp only [Option.map_some, Option.some.injEq, Prod.mk.injEq] at he; obtain ⟨rfl, rfl⟩ := he
        refine val rfl (eqn_ok hh (k := kd - 3) (by rw [hk]; congr 1; omega) (fun e4 => ?_) hop rx ry ea eb c3)
        exact absurd (show kd = 7 by omega) (by intro e7; exact h7 (by rw [e7]))
      · simp at hc
    · rename_i hop
      simp at hc; subst hc
      simp only [evOp, Option.map_eq_some_iff] at he
      obtain ⟨d', hd, he⟩ := he
      simp at he; obtain ⟨rfl, rfl⟩ := he
      exact val rfl (bin_ok hh x y t rx ry hd)
  case unOp op t x =>
    obtain ⟨x', hx, rfl⟩ := Option.map_eq_some_iff.1 hc
    exact val rfl (un_ok hh (hρ x x' (by simp [Op.operands]) hx) rfl he)
  case convert src dst' x =>
    simp only [Option.bind_eq_some_iff] at hc
    obtain ⟨x', hx, hc⟩ := hc
    have rx := hρ x x' (by simp [Op.operands]) hx
    split at hc <;> try (simp at hc; done)
    · rename_i k0 k hs hd
      simp at hc; subst hc
      simp only [evOp] at he
      split at he <;> try (simp at he; done)
      rename_i kk n e
      rw [e] at rx
      simp at he; obtain ⟨rfl, rfl⟩ := he
      exact val rfl (conv_ok hh hs hd rx)
    · rename_i hs hd
      simp at hc; subst hc
      simp only [evOp] at he
      split at he <;> try (simp at he; done)
      rename_i l e
      rw [e] at rx
      simp at he; obtain ⟨rfl, rfl⟩ := he
      refine val (s := convert src dst' (ρ x)) rfl (gives_pure hh (v := ρ x) ?_ rx)
      generalize ρ x = v at rx
      cases rx
      simp [convert, run_underlying hs, run_underlying hd]
    · rename_i e hs hd
      split at hc <;> try (simp at hc; done)
      rename_i hu
      simp at hc; subst hc
      simp only [evOp] at he
      split at he <;> try (simp at he; done)
      rename_i l ex
      rw [ex] at rx
      simp only [Option.some.injEq, Prod.mk.injEq] at he; obtain ⟨rfl, rfl⟩ := he
      exact val rfl (csb_ok hh hs hd hu rx)
    · rename_i e hs hd
      split at hc <;> try (simp at hc; done)
      rename_i hu
      split at hc <;> try (simp at hc; done)
      simp at hc; subst hc
      simp only [evOp, Option.bind_eq_some_iff] at he
      obtain ⟨⟨n, cs⟩, hv, he⟩ := he
      simp only at he
      split at he <;> try (simp at he; done)
      rename_i hn
      simp only [Option.map_eq_some_iff] at he
      obtain ⟨_, ⟨l, hb, rfl⟩, he⟩ := he
      simp at he; obtain ⟨rfl, rfl⟩ := he
      exact val rfl (cbs_ok hh hs hd hu rx hv hn hb)
  case makeFunc f first captured =>
    simp only [Option.bind_eq_some_iff, Option.map_eq_some_iff] at hc
    obtain ⟨a, ha, b, hb, rfl⟩ := hc
    simp [evOp] at he; obtain ⟨rfl, rfl⟩ := he
    refine val (s := Instr.makeFunc f (first.map ρ) (captured.map ρ)) rfl (gives_pure hh (v := .func f (first.map ρ) (captured.map ρ)) (by simp [Instr.makeFunc]) ?_)
    exact fn_rep (opds_repA ha fun x y hx => hρ x y (by simp [Op.operands, hx])) (opds_repA hb fun x y hx => hρ x y (by simp [Op.operands, hx]))
  case makeSlice t l c =>
    split at hc <;> try (simp at hc; done)
    rename_i e hu
    simp only [Option.bind_eq_some_iff] at hc
    obtain ⟨s, hs, b, hb, z, hz, l', hl, c', hc', hc⟩ := hc
    split at hc <;> try (simp at hc; done)
    rename_i hcond
    simp at hc; subst hc
    simp only [evOp, Option.bind_eq_some_iff] at he
    obtain ⟨L, eL, C, eC, he⟩ := he
    split at he <;> try (simp at he; done)
    rename_i hb2
    obtain ⟨b1, b2, b3, b4⟩ := hb2
    simp only [Option.some.injEq, Prod.mk.injEq] at he; obtain ⟨rfl, rfl⟩ := he
    obtain ⟨k1, e1, _⟩ := evI_rep (hρ l l' (by simp [Op.operands]) hl) eL
    obtain ⟨k2, e2, _⟩ := evI_rep (hρ c c' (by simp [Op.operands]) hc') eC
    have := mks_ok hh hu hs hb hz hcond.1 hcond.2 (k := k1) (k' := k2) b1 b2 b3 b4
    exact val (s := Instr.makeSlice t (ρ l) (ρ c)) rfl (by rw [e1, e2]; exact this)
  case slice t x lo hi mx =>
    simp only [Option.bind_eq_some_iff] at hc
    obtain ⟨x', hx, lo', hlo, hi', hhi, mx', hmx, hc⟩ := hc
    have rx := hρ x x' (by simp [Op.operands]) hx
    have rlo := opdO_rep (X0 := X0) (E := E) (w := w) (ts := ts) (ρ := ρ) hlo (fun a b ha hb => hρ a b (by simp [Op.operands, ha]) hb)
    have rhi := opdO_rep (X0 := X0) (E := E) (w := w) (ts := ts) (ρ := ρ) hhi (fun a b ha hb => hρ a b (by simp [Op.operands, ha]) hb)
    have hmn : mx' = none → mx = none := by
      intro e; subst e
      cases mx with
      | none => rfl
      | some q => simp [opdO] at hmx
    split at hc <;> try (simp at hc; done)
    · rename_i n e hu
      simp only [Option.bind_eq_some_iff] at hc
      obtain ⟨s, hs, hc⟩ := hc
      split at hc <;> try (simp at hc; done)
      rename_i hm
      have hm' := hmn (by simpa using hm)
      subst hm'
      simp at hc; subst hc
      simp only [evOp, Option.bind_eq_some_iff] at he
      obtain ⟨⟨l, h2⟩, hb, he⟩ := he
      simp only at he
      generalize ev ts x' = dx at rx he
      cases dx <;> (try simp only at he) <;> try (simp at he; done)
      case ref cs =>
        split at he <;> try (simp at he; done)
        rename_i hfit
        simp only [Option.map_some, Option.some.injEq, Prod.mk.injEq] at he; obtain ⟨rfl, rfl⟩ := he
        exact val rfl (slcA_ref hh hu hs rx rlo rhi hb hfit)
      case mp id ver off =>
        simp only [Option.bind_eq_some_iff] at he
        obtain ⟨k, hk, he⟩ := he
        split at he <;> try (simp at he; done)
        rename_i hfit
        simp only [Option.map_some, Option.some.injEq, Prod.mk.injEq] at he; obtain ⟨rfl, rfl⟩ := he
        exact val rfl (slcA_mp hh hu hs rx rlo rhi hb hk hfit.1 hfit.2)
    · rename_i e hu
      obtain ⟨s, hs, rfl⟩ := Option.map_eq_some_iff.1 hc
      simp only [evOp] at he
      generalize ev ts x' = dx at rx he
      cases dx <;> (try simp only at he) <;> try (simp at he; done)
      case nils =>
        simp only [Option.bind_eq_some_iff] at he
        obtain ⟨⟨l, h2⟩, hb, he⟩ := he
        cases mx' with
        | none =>
          have hm' := hmn rfl
          subst hm'
          simp at he; obtain ⟨rfl, rfl⟩ := he
          exact val rfl (slcS_nils hh hu hs rx rlo rhi hb)
        | some m =>
          simp only [Option.bind_eq_some_iff] at he
          obtain ⟨M, hM, he⟩ := he
          split at he <;> try (simp at he; done)
          rename_i hcond
          simp only [Option.map_some, Option.some.injEq, Prod.mk.injEq] at he; obtain ⟨rfl, rfl⟩ := he
          cases mx with
          | none => simp [opdO] at hmx
          | some q =>
            simp [opdO] at hmx
            have rm := hρ q m (by simp [Op.operands]) hmx
            exact val rfl (slcS_nils3 hh hu hs rx rlo rhi rm hcond.2 hb (by rw [hM, hcond.1]))
      case sl full s' n cs =>
        simp only [Option.bind_eq_some_iff] at he
        obtain ⟨⟨l, h2⟩, hb, he⟩ := he
        simp only at he
        split at he <;> try (simp at he; done)
        rename_i hss
        simp only [ne_eq, Decidable.not_not] at hss
        subst hss
        cases mx' with
        | none =>
          have hm' := hmn rfl
          subst hm'
          simp only [Option.map_some, Option.some.injEq, Prod.mk.injEq] at he; obtain ⟨rfl, rfl⟩ := he
          exact val rfl (slcS_sl hh hu hs rx rlo rhi hb)
        | some m =>
          simp only [Option.bind_eq_some_iff] at he
          obtain ⟨M, hM, he⟩ := he
          split at he <;> try (simp at he; done)
          rename_i hcond
          simp only [Option.map_some, Option.some.injEq, Prod.mk.injEq] at he; obtain ⟨rfl, rfl⟩ := he
          cases mx with
          | none => simp [opdO] at hmx
          | some q =>
            simp [opdO] at hmx
            have rm := hρ q m (by simp [Op.operands]) hmx
            exact val rfl (slcS_sl3 hh hu hs rx rlo rhi rm hcond.2.2 hb hM hcond.1 hcond.2.1)
      case ms id ver off s' n lim =>
        simp only [Option.bind_eq_some_iff] at he
        obtain ⟨⟨l, h2⟩, hb, he⟩ := he
        simp only at he
        split at he <;> try (simp at he; done)
        rename_i hss
        simp only [ne_eq, Decidable.not_not] at hss
        subst hss
        cases mx' with
        | none =>
          have hm' := hmn rfl
          subst hm'
          simp only [Option.bind_eq_some_iff] at he
          obtain ⟨k, hk, he⟩ := he
          split at he <;> try (simp at he; done)
          rename_i hver
          simp only [Option.map_some, Option.some.injEq, Prod.mk.injEq] at he; obtain ⟨rfl, rfl⟩ := he
          exact val rfl (slcS_ms hh hu hs rx rlo rhi hb hk hver)
        | some m =>
          simp only [Option.bind_eq_some_iff] at he
          obtain ⟨M, hM, he⟩ := he
          split at he <;> try (simp at he; done)
          rename_i hcond
          simp only [Option.bind_eq_some_iff] at he
          obtain ⟨k, hk, he⟩ := he
          split at he <;> try (simp at he; done)
          rename_i hver
          simp only [Option.map_some, Option.some.injEq, Prod.mk.injEq] at he; obtain ⟨rfl, rfl⟩ := he
          cases mx with
          | none => simp [opdO] at hmx
          | some q =>
            simp [opdO] at hmx
            have rm := hρ q m (by simp [Op.operands]) hmx
            exact val rfl (slcS_ms3 hh hu hs rx rlo rhi rm hcond.2.2 hb hM hcond.1 hcond.2.1 hk hver)
    · rename_i hu
      split at hc <;> try (simp at hc; done)
      rename_i hm
      have hm' := hmn (by simpa using hm)
      subst hm'
      simp at hc; subst hc
      simp only [evOp] at he
      generalize ev ts x' = dx at rx he
      cases dx <;> (try simp only at he) <;> try (simp at he; done)
      simp only [Option.bind_eq_some_iff] at he
      obtain ⟨⟨l, h2⟩, hb, he⟩ := he
      simp only [Option.map_some, Option.some.injEq, Prod.mk.injEq] at he; obtain ⟨rfl, rfl⟩ := he
      exact val rfl (slcStr_ok hh hu rx rlo rhi hb)
  case fieldAddr s x f =>
    simp only [Option.bind_eq_some_iff] at hc
    obtain ⟨x', hx, hc⟩ := hc
    have rx := hρ x x' (by simp [Op.operands]) hx
    split at hc <;> try (simp at hc; done)
    rename_i fs hu
    simp only [Option.bind_eq_some_iff] at hc
    obtain ⟨fl, hf, n, hn, hc⟩ := hc
    split at hc <;> try (simp at hc; done)
    rename_i h0
    simp at hc; subst hc
    simp only [evOp] at he
    generalize ev ts x' = dx at rx he
    cases dx <;> (try simp only at he) <;> try (simp at he; done)
    case ref cs =>
      simp at he; obtain ⟨rfl, rfl⟩ := he
      exact val rfl (fld_ref hh hu hf hn h0 rx)
    case mp id ver off =>
      simp only [Option.bind_eq_some_iff] at he
      obtain ⟨l, hl, he⟩ := he
      split at he <;> try (simp at he; done)
      rename_i hver
      simp at he; obtain ⟨rfl, rfl⟩ := he
      exact val rfl (fld_mp hh hu hf hn h0 rx hl hver)
  case field t x f =>
    simp only [Option.bind_eq_some_iff] at hc
    obtain ⟨x', hx, hc⟩ := hc
    have rx := hρ x x' (by simp [Op.operands]) hx
    split at hc <;> try (simp at hc; done)
    rename_i fs hu
    simp only [Option.bind_eq_some_iff, Option.map_eq_some_iff] at hc
    obtain ⟨fl, hf, n, hn, a, ha, rfl⟩ := hc
    simp only [evOp] at he
    split at he <;> try (simp at he; done)
    rename_i cs e
    rw [e] at rx
    split at he <;> try (simp at he; done)
    obtain ⟨d', hd, he⟩ := Option.map_eq_some_iff.1 he
    simp at he; obtain ⟨rfl, rfl⟩ := he
    exact val rfl (getf_ok hh hu hf hn ha rx hd)
  case indexAddr t x i =>
    simp only [Option.bind_eq_some_iff] at hc
    obtain ⟨x', hx, i', hi, hc⟩ := hc
    have rx := hρ x x' (by simp [Op.operands]) hx
    have ri := hρ i i' (by simp [Op.operands]) hi
    split at hc <;> try (simp at hc; done)
    · rename_i n e hu
      obtain ⟨s, hs, rfl⟩ := Option.map_eq_some_iff.1 hc
      simp only [evOp, Option.bind_eq_some_iff] at he
      obtain ⟨j, hj, he⟩ := he
      obtain ⟨k, ek, _⟩ := evI_rep ri hj
      split at he <;> try (simp at he; done)
      rename_i hb
      generalize ev ts x' = dx at rx he
      cases dx <;> (try simp only at he) <;> try (simp at he; done)
      case ref cs =>
        simp only [Option.map_some, Option.some.injEq, Prod.mk.injEq] at he; obtain ⟨rfl, rfl⟩ := he
        exact val (s := Instr.indexAt t (ρ x) (ρ i)) rfl (by rw [ek]; exact idxA_ref hh hu hs rx hb.1 hb.2)
      case mp id ver off =>
        simp only [Option.bind_eq_some_iff] at he
        obtain ⟨l, hl, he⟩ := he
        split at he <;> try (simp at he; done)
        rename_i hver
        simp only [Option.map_some, Option.some.injEq, Prod.mk.injEq] at he; obtain ⟨rfl, rfl⟩ := he
        exact val (s := Instr.indexAt t (ρ x) (ρ i)) rfl (by rw [ek]; exact idxA_mp hh hu hs rx hl hver hb.1 hb.2)
    · rename_i e hu
      obtain ⟨s, hs, rfl⟩ := Option.map_eq_some_iff.1 hc
      simp only [evOp, Option.bind_eq_some_iff] at he
      obtain ⟨j, hj, he⟩ := he
      obtain ⟨k, ek, _⟩ := evI_rep ri hj
      generalize ev ts x' = dx at rx he
      cases dx <;> (try simp only at he) <;> try (simp at he; done)
      case sl full s' n cs =>
        split at he <;> try (simp at he; done)
        rename_i hb
        obtain ⟨rfl, b1, b2⟩ := hb
        simp only [Option.map_some, Option.some.injEq, Prod.mk.injEq] at he; obtain ⟨rfl, rfl⟩ := he
        exact val (s := Instr.indexAt t (ρ x) (ρ i)) rfl (by rw [ek]; exact idxS_sl hh hu hs rx b1 b2)
      case ms id ver off s' n lim =>
        split at he <;> try (simp at he; done)
        rename_i hb
        obtain ⟨rfl, b1, b2⟩ := hb
        simp only [Option.bind_eq_some_iff] at he
        obtain ⟨l, hl, he⟩ := he
        split at he <;> try (simp at he; done)
        rename_i hver
        simp only [Option.map_some, Option.some.injEq, Prod.mk.injEq] at he; obtain ⟨rfl, rfl⟩ := he
        exact val (s := Instr.indexAt t (ρ x) (ρ i)) rfl (by rw [ek]; exact idxS_ms hh hu hs rx hl hver b1 b2)
  case index t x i =>
    simp only [Option.bind_eq_some_iff] at hc
    obtain ⟨x', hx, i', hi, hc⟩ := hc
    have rx := hρ x x' (by simp [Op.operands]) hx
    have ri := hρ i i' (by simp [Op.operands]) hi
    split at hc <;> try (simp at hc; done)
    · rename_i n e hu
      simp only [Option.bind_eq_some_iff, Option.map_eq_some_iff] at hc
      obtain ⟨s, hs, a, ha, rfl⟩ := hc
      simp only [evOp, Option.bind_eq_some_iff] at he
      obtain ⟨j, hj, he⟩ := he
      obtain ⟨k, ek, _⟩ := evI_rep ri hj
      split at he <;> try (simp at he; done)
      rename_i cs ec
      rw [ec] at rx
      split at he <;> try (simp at he; done)
      rename_i hb
      obtain ⟨d', hd, he⟩ := Option.map_eq_some_iff.1 he
      simp at he; obtain ⟨rfl, rfl⟩ := he
      exact val (s := Instr.index t (ρ x) (ρ i)) rfl (by rw [ek]; exact idxV_ok hh hu hs ha rx hb.1 hb.2.1 hd)
    · rename_i hu
      simp at hc; subst hc
      simp only [evOp, Option.bind_eq_some_iff] at he
      obtain ⟨j, hj, he⟩ := he
      obtain ⟨k, ek, _⟩ := evI_rep ri hj
      split at he <;> try (simp at he; done)
      rename_i l ec
      rw [ec] at rx
      split at he <;> try (simp at he; done)
      rename_i hb
      simp only [Option.map_eq_some_iff] at he
      obtain ⟨_, ⟨b, hbb, rfl⟩, he⟩ := he
      simp at he; obtain ⟨rfl, rfl⟩ := he
      exact val (s := Instr.index t (ρ x) (ρ i)) rfl (by rw [ek]; exact idxStr_ok hh hu rx hb hbb)
  case extract x i =>
    obtain ⟨x', hx, rfl⟩ := Option.map_eq_some_iff.1 hc
    have rx := hρ x x' (by simp [Op.operands]) hx
    simp only [evOp] at he
    split at he <;> try (simp at he; done)
    rename_i vs e
    rw [e] at rx
    obtain ⟨d', hd, he⟩ := Option.map_eq_some_iff.1 he
    simp at he; obtain ⟨rfl, rfl⟩ := he
    refine val (s := Instr.extract (ρ x) i) rfl ?_
    generalize ρ x = v at rx
    cases rx with
    | tup cs _ hl hr =>
      obtain ⟨hlt, rfl⟩ := List.getElem?_eq_some_iff.1 hd
      exact gives_pure hh (v := cs[i]'(by omega)) (by simp [Instr.extract, Array.getElem?_eq_getElem (show i < cs.size by omega)]) (hr i (by omega) hlt)
end
end Go.Am
