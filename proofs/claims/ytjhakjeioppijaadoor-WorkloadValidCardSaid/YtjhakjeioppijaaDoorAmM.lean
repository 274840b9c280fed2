/-
  The abstract machine, part 13: the dispatch: 'evOp_sound'.
-/
import Derived.Test.YtjhakjeioppijaaDoorAmL
set_option linter.unusedSimpArgs false
set_option linter.unusedVariables false
namespace Go.Am
open Go.RowKit
section
variable {P : Program} {X0 : Forb} {base : Nat} {w : World} {h : List AObj} {E : Env}

theorem fillD_length : ∀ {ps : List (Nat × Nat × DV)} {cells r : List DV}, fillD cells ps = some r → r.length = cells.length
  | [], cells, r, h => by simp [fillD] at h; rw [h]
  | (off, n, v) :: ps, cells, r, h => by
    simp only [fillD] at h
    split at h
    · rename_i hc
      rw [fillD_length h, splice_length _ _ _ (by omega)]
    · simp at h

theorem call_sound {o : Oper} {c : Call} (ho : o.op = .call c) {op : AOp} (hc : compCall P c = some op) {ts : List DV} {d : DV} {h' : List AObj} (he : evOp op ts h = some (d, h')) (hh : HeapRel X0 base w h E) {ρ : Operand → Value}
    (hρ : ∀ x y, x ∈ c.operands → opd x = some y → Rep E (FX X0 E) w (ρ x) (ev ts y)) : Leaves P X0 base E w (execOp ρ o) d h' := by
  obtain ⟨callee, args, argTypes⟩ := c
  have hargs : ∀ x y, x ∈ args → opd x = some y → Rep E (FX X0 E) w (ρ x) (ev ts y) := fun x y hx => hρ x y (by simp [Call.operands, hx])
  cases callee with
  | value f =>
    simp only [compCall, Option.bind_eq_some_iff, Option.map_eq_some_iff] at hc
    obtain ⟨f', _, a', _, rfl⟩ := hc
    simp [evOp] at he
  | invoke r m => simp [compCall] at hc
  | builtin b =>
    have hres : ∀ (s : Sem Value), (∀ consts, builtin b argTypes o.type consts (args.map ρ) = (do pure (.value (← s)))) → Gives P X0 base E w s d h' → Leaves P X0 base E w (execOp ρ o) d h' := by
      intro s hs hg
      obtain ⟨v, w', E', h1, h2, h3, h4⟩ := hg
      refine ⟨v, w', E', .inl ?_, h2, h3, h4⟩
      simp only [execOp, ho, resolve, Sem.run_bind, Sem.run_pure, Result.andThen_ok, invoke]
      rw [hs]
      simp [h1]
    have two : ∀ {α : Type} {l : Array α} {x y : α}, l.toList = [x, y] → l = #[x, y] := fun e => by apply Array.ext'; simpa using e
    have onel : ∀ {α : Type} {l : Array α} {x : α}, l.toList = [x] → l = #[x] := fun e => by apply Array.ext'; simpa using e
    cases b <;> try (simp [compCall] at hc; done)
    case len =>
      simp only [compCall] at hc
      split at hc <;> try (simp at hc; done)
      rename_i x t hx ht
      have ex := onel hx
      have et := onel ht
      subst ex et
      split at hc <;> try (simp at hc; done)
      · rename_i hu
        obtain ⟨x', hx', rfl⟩ := Option.map_eq_some_iff.1 hc
        have hr := hargs x x' (by simp) hx'
        simp only [evOp] at he
        split at he <;> try (simp at he; done)
        rename_i s hs
        rw [hs] at hr
        simp at he
        obtain ⟨rfl, rfl⟩ := he
        exact hres (Builtin.len_ #[t] o.type #[ρ x]) (fun _ => by simp [builtin]) (lenStr_ok hh hu hr _)
      · rename_i hu
        obtain ⟨x', hx', rfl⟩ := Option.map_eq_some_iff.1 hc
        exact hres (Builtin.len_ #[t] o.type #[ρ x]) (fun _ => by simp [builtin]) (len_ok hh hu (hargs x x' (by simp) hx') he _)
      · rename_i n e hu
        simp at hc
        subst hc
        simp [evOp, ev] at he
        obtain ⟨rfl, rfl⟩ := he
        exact hres (Builtin.len_ #[t] o.type #[ρ x]) (fun _ => by simp [builtin]) (gives_pure hh (v := .int .i64 n) (by simp [Builtin.len_, run_underlying hu, goInt]) (.int _ _))
    case append =>
      simp only [compCall] at hc
      split at hc <;> try (simp at hc; done)
      rename_i x y t u hx ht
      have ex := two hx
      have et := two ht
      subst ex et
      split at hc <;> try (simp at hc; done)
      rename_i e hu
      split at hc <;> try (simp at hc; done)
      rename_i hsrc
      simp only [Option.bind_eq_some_iff] at hc
      obtain ⟨s, hs, b, hb, x', hx', y', hy', z, hz, hc⟩ := hc
      split at hc <;> try (simp at hc; done)
      rename_i hzs
      simp at hc
      subst hc
      have hok : okSrc P u := by
        unfold isSrcT at hsrc
        split at hsrc
        · rename_i e' he'; exact .inl ⟨e', he'⟩
        · rename_i he'; exact .inr he'
        · simp at hsrc
      simp only [evOp] at he
      exact hres (Builtin.append_ #[t, u] o.type #[ρ x, ρ y]) (fun _ => by simp [builtin]) (app_ok hh hu hok hs hb hz hzs (hargs x x' (by simp) hx') (hargs y y' (by simp) hy') he _)
    case copy =>
      simp only [compCall] at hc
      split at hc <;> try (simp at hc; done)
      rename_i x y t u hx ht
      have ex := two hx
      have et := two ht
      subst ex et
      split at hc <;> try (simp at hc; done)
      rename_i e hu
      simp only [Option.bind_eq_some_iff, Option.map_eq_some_iff] at hc
      obtain ⟨s, hs, x', hx', y', hy', rfl⟩ := hc
      have rx := hargs x x' (by simp) hx'
      have ry := hargs y y' (by simp) hy'
      simp only [evOp, Option.bind_eq_some_iff] at he
      obtain ⟨⟨m, cs⟩, hv, he⟩ := he
      have hS : ((ev ts y').isStr = true → s = 1) → (∃ l, ev ts y' = .str l) → s = 1 := by
        rintro h1 ⟨l, hl⟩
        exact h1 (by rw [hl]; rfl)
      simp only at he
      generalize ev ts x' = dx at rx he
      cases dx <;> simp only at he <;> try (simp at he; done)
      case nils =>
        split at he <;> try (simp at he; done)
        rename_i hcond
        simp at he
        obtain ⟨rfl, rfl⟩ := he
        exact hres (Builtin.copy_ #[t, u] o.type #[ρ x, ρ y]) (fun _ => by simp [builtin]) (cpy_nil hh hu hs rx ry hv (hS hcond) _)
      case ms id ver off s' n lim =>
        simp only [Option.bind_eq_some_iff] at he
        obtain ⟨l, hl, he⟩ := he
        split at he <;> try (simp at he; done)
        rename_i hcond
        obtain ⟨c1, c2, c3, c4, c5, c6⟩ := hcond
        subst c2
        simp only [Option.some.injEq, Prod.mk.injEq] at he
        obtain ⟨rfl, rfl⟩ := he
        exact hres (Builtin.copy_ #[t, u] o.type #[ρ x, ρ y]) (fun _ => by simp [builtin]) (cpy_ok hh hu hs rx ry hv hl c1 c3 c4 c5 (hS c6) _)
    case clear =>
      simp only [compCall] at hc
      split at hc <;> try (simp at hc; done)
      rename_i x t hx ht
      have ex := onel hx
      have et := onel ht
      subst ex et
      split at hc <;> try (simp at hc; done)
      rename_i e hu
      simp only [Option.bind_eq_some_iff, Option.map_eq_some_iff] at hc
      obtain ⟨s, hs, z, hz, x', hx', rfl⟩ := hc
      have rx := hargs x x' (by simp) hx'
      simp only [evOp] at he
      generalize ev ts x' = dx at rx he
      cases dx <;> simp only at he <;> try (simp at he; done)
      simp only [Option.bind_eq_some_iff] at he
      obtain ⟨l, hl, he⟩ := he
      split at he <;> try (simp at he; done)
      rename_i hcond
      obtain ⟨c1, c2, c3, c4, c5, c6⟩ := hcond
      subst c2
      simp only [Option.some.injEq, Prod.mk.injEq] at he
      obtain ⟨rfl, rfl⟩ := he
      exact hres (Builtin.clear_ #[t] o.type #[ρ x]) (fun _ => by simp [builtin]) (clr_ok hh hu hs hz rx hl c1 c3 c4 c5 c6 _)
    case max =>
      simp only [compCall, Option.map_eq_some_iff] at hc
      obtain ⟨l, hl, rfl⟩ := hc
      simp only [evOp, Option.bind_eq_some_iff] at he
      obtain ⟨ns, hns, he⟩ := he
      have hvs := ints_rep (opds_repA hl hargs) hns
      cases ns with
      | nil => simp at he
      | cons a r =>
        simp at he
        obtain ⟨rfl, rfl⟩ := he
        refine hres (Builtin.max_ argTypes o.type (args.map ρ)) (fun _ => by simp [builtin]) (gives_pure hh (v := .int .i64 (r.foldl (fun x y => max x y) a)) ?_ (.int _ _))
        simp only [Builtin.max_, hvs, List.map_cons]
        simpa using mm_fold (P := P) true w r a
    case min =>
      simp only [compCall, Option.map_eq_some_iff] at hc
      obtain ⟨l, hl, rfl⟩ := hc
      simp only [evOp, Option.bind_eq_some_iff] at he
      obtain ⟨ns, hns, he⟩ := he
      have hvs := ints_rep (opds_repA hl hargs) hns
      cases ns with
      | nil => simp at he
      | cons a r =>
        simp at he
        obtain ⟨rfl, rfl⟩ := he
        refine hres (Builtin.min_ argTypes o.type (args.map ρ)) (fun _ => by simp [builtin]) (gives_pure hh (v := .int .i64 (r.foldl (fun x y => min x y) a)) ?_ (.int _ _))
        simp only [Builtin.min_, hvs, List.map_cons]
        simpa using mm_fold (P := P) false w r a
end
end Go.Am
