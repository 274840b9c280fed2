/-
  awake; plain laws.
-/
import Derived.Test.YtjjcdmjgbbaliaaDoorPh
set_option linter.unusedSimpArgs false
set_option linter.unusedVariables false
namespace Go.Proofs.YtjjcdmjgbbaliaaDoor
open Go Go.Am

def matchB (p s : List UInt8) : DV := .bool (matchD p s)
noncomputable def T62 : Tbl := addT 14 (.pure (cSS matchB)) (addT 20 (.pure (cS litR)) (addT 18 (.pure (cS validB)) (addT 22 (.pure (cSSS relD)) (addT 97 (.pure (cS1 conD)) T60))))
theorem T62_match : T62 14 = .pure (cSS matchB) := by simp [T62]
theorem T62_lit : T62 20 = .pure (cS litR) := by simp [T62]
theorem T62_valid : T62 18 = .pure (cS validB) := by simp [T62]
theorem T62_rel : T62 22 = .pure (cSSS relD) := by simp [T62]
theorem T62_con : T62 97 = .pure (cS1 conD) := by simp [T62]
theorem T62_path : T62 16 = .pure (cS pathB) := by simp [T62, T60]
theorem T62_sound : T62.Sound P :=
  addT_sound (cSS_sound fun p s => sem_runs mix T59_sound Tryd.func14 a14_ok (runs_match p s))
  (addT_sound (cS_sound fun s => sem_runs mix T60_sound Tryd.func20 a20_ok (runs_literal s))
  (addT_sound (cS_sound fun s => sem_runs mix T58_sound Tryd.func18 a18_ok (runs_valid s))
  (addT_sound (cSSS_sound fun a b s => sem_runs mix T61_sound Tryd.func22 a22_ok (runs_relocate a b s))
  (addT_sound (cS1_sound fun s c => sem_runs mix T53_sound Tryd.func97 a97_ok (runs_contains s c)) T60_sound))))
theorem awake1 : matchD [115, 114, 99, 47, 42, 46, 99] [115, 114, 99, 47, 97, 46, 99] = true := by decide +kernel
theorem awake2 : matchD [115, 114, 99, 47, 42, 46, 99] [115, 114, 99, 47, 120, 47, 97, 46, 99] = false := by decide +kernel
theorem awake3 : pathD [97, 47, 98] = true := by decide +kernel
theorem runs_awake : Runs T62 a13 [] (.bool true) := by
  refine ⟨?_⟩
  simp (disch := first | omega | (simp [-List.map_take, -List.map_drop, -List.map_set, -List.map_append, -List.drop_one] <;> omega) | fail) [-List.map_take, -List.map_drop, -List.map_set, -List.map_append, -List.drop_one, a13, T62_match, T62_path, cSS_eq, cS_eq, matchB, pathB, awake1, awake2, awake3]
def c_true : List DV → Option DV
  | [] => some (.bool true) | _ => none
theorem c_true_eq : c_true [] = some (.bool true) := rfl
theorem c_true_sound {f : Nat} (h : Am.Sem P f [] (.bool true)) : (Con.pure c_true).Sound P f := by
  intro args v e
  unfold c_true at e
  split at e
  · simp at e; subst e; exact h
  · simp at e
noncomputable def T63 : Tbl := addT 13 (.pure c_true) T62
theorem T63_awake : T63 13 = .pure c_true := by simp [T63]
theorem T63_match : T63 14 = .pure (cSS matchB) := by simp [T63, T62]
theorem T63_lit : T63 20 = .pure (cS litR) := by simp [T63, T62]
theorem T63_valid : T63 18 = .pure (cS validB) := by simp [T63, T62]
theorem T63_rel : T63 22 = .pure (cSSS relD) := by simp [T63, T62]
theorem T63_con : T63 97 = .pure (cS1 conD) := by simp [T63, T62]
theorem T63_path : T63 16 = .pure (cS pathB) := by simp [T63, T62, T60]
theorem T63_sound : T63.Sound P := addT_sound (c_true_sound (sem_runs mix T62_sound Tryd.func13 a13_ok runs_awake)) T62_sound
/-! plain laws -/
theorem match_all (s : List UInt8) : matchD [42, 42] s = pathD s := by
  have : parseP [42, 42] = .some [.whole] := by decide +kernel
  rw [matchD, this]
  show (pathD s && M [.whole] s 1 s.length) = _
  rw [M_all]; simp
theorem match_star (s : List UInt8) : matchD [42] s = (pathD s && !(s.contains 47)) := by
  have : parseP [42] = .some [.some] := by decide +kernel
  rw [matchD, this]
  show (pathD s && M [.some] s 1 s.length) = _
  rw [M_star s _ (Nat.le_refl _), List.take_length]
theorem path_join {a b : List UInt8} : pathD (a ++ 47 :: b) = (decide ((a ++ 47 :: b).length ≤ 200) && noZ a && noZ b && (comps a).all okC && (comps b).all okC) := by
  have h1 : (1 : Nat) ≤ (a ++ 47 :: b).length := by simp; omega
  have h2 : noZ (47 :: b) = noZ b := by simp [noZ]
  rw [pathD, decide_eq_true h1, noZ_app, comps_app, List.all_append, h2]
  cases decide ((a ++ 47 :: b).length ≤ 200) <;> cases noZ a <;> cases noZ b <;> cases (comps a).all okC <;> cases (comps b).all okC <;> rfl
theorem parse_noZ {p : List UInt8} {l : List Pt} (h : parseP p = .some l) : 1 ≤ p.length ∧ p.length ≤ 200 ∧ noZ p = true ∧ prs p = .some l := by
  unfold parseP at h
  split at h
  · rename_i hc; exact ⟨hc.1, hc.2.1, hc.2.2, h⟩
  · simp at h
theorem match_join {d p s : List UInt8} {l : List Pt} (hd : pathD d = true) (hp : parseP p = .some l) (hs : pathD s = true) (h1 : d.length ≤ 60) (h2 : p.length ≤ 60) (h3 : s.length ≤ 60) : matchD (litS d ++ 47 :: p) (d ++ 47 :: s) = matchD p s := by
  obtain ⟨d1, d2, d3, d4⟩ := path_len hd
  obtain ⟨s1, s2, s3, s4⟩ := path_len hs
  obtain ⟨p1, p2, p3, p4⟩ := parse_noZ hp
  have hl := len_litS d
  have e1 : parseP (litS d ++ 47 :: p) = .some (ones (d ++ [47]) ++ l) := by
    have hz : noZ (47 :: p) = true := by simp only [noZ, List.all_cons]; simpa [noZ] using p3
    rw [parseP, if_pos ⟨by simp; omega, by simp; omega, by rw [noZ_app, noZ_lit, d3, hz]; rfl⟩, prs_lit, prs_plain (by decide) (by decide) (by decide), p4]
    simp [ones]
  have e2 : pathD (d ++ 47 :: s) = true := by
    have : (d ++ 47 :: s).length ≤ 200 := by simp; omega
    rw [path_join, decide_eq_true this, d3, s3, d4, s4]; rfl
  have e3 : d ++ 47 :: s = (d ++ [47]) ++ s := by simp
  have e4 : (ones (d ++ [47]) ++ l).length = (d ++ [47]).length + l.length := by simp [len_ones]
  have e5 : ((d ++ [47]) ++ s).length = (d ++ [47]).length + s.length := by simp; omega
  rw [matchD, e1, matchD, hp]
  simp only [e2, hs, Bool.true_and]
  rw [e3, e4, e5, M_join (by simp), if_neg (by omega), Nat.add_sub_cancel_left]
theorem rel_some {a b s r : List UInt8} (h : relO a b s = some r) : pathD r = true ∧ relO b a r = some s := by
  unfold relO at h
  split at h
  · rename_i hc
    obtain ⟨ha, hb, hs⟩ := hc
    obtain ⟨q, h1, h2⟩ := Option.bind_eq_some_iff.1 h
    split at h2
    · rename_i hu
      simp only [Option.some.injEq] at h2
      subst h2
      refine ⟨hu, ?_⟩
      have e1 : restO b (under b q) = some q := by
        by_cases hb0 : b = []
        · subst hb0; simp [restO, under]
        · rw [under, if_neg hb0, restO, if_neg hb0]
          have t1 : (b ++ 47 :: q).take (b.length + 1) = b ++ [47] := by
            have : b ++ 47 :: q = (b ++ [47]) ++ q := by simp
            rw [this]; exact List.take_left' (by simp)
          have t2 : (b ++ 47 :: q).drop (b.length + 1) = q := by
            have : b ++ 47 :: q = (b ++ [47]) ++ q := by simp
            rw [this]; exact List.drop_left' (by simp)
          rw [if_pos t1, t2]
      have e2 : under a q = s := by
        by_cases ha0 : a = []
        · rw [restO, if_pos ha0] at h1
          simp only [Option.some.injEq] at h1
          rw [under, if_pos ha0, h1]
        · rw [restO, if_neg ha0] at h1
          split at h1
          · rename_i ht
            simp only [Option.some.injEq] at h1
            rw [under, if_neg ha0, ← h1]
            conv => rhs; rw [← List.take_append_drop (a.length + 1) s, ht]
            simp
          · simp at h1
      rw [relO, if_pos ⟨hb, ha, hu⟩, e1, Option.bind_some, e2, if_pos hs]
    · simp at h2
  · simp at h
theorem ok_str {ds : List DV} (h : Ty.Ok .str ds) : ∃ s : List UInt8, ds = [.str s] := h
theorem shape_s {dvs : List DV} (h : Ty.Args [.str] dvs) : ∃ s : List UInt8, dvs = [.str s] := by
  obtain ⟨ds, l, rfl, h1, rfl⟩ := h
  obtain ⟨s, rfl⟩ := ok_str h1
  exact ⟨s, rfl⟩
theorem shape_ss {dvs : List DV} (h : Ty.Args [.str, .str] dvs) : ∃ s p : List UInt8, dvs = [.str s, .str p] := by
  obtain ⟨ds, l, rfl, h1, d2, l2, rfl, h2, rfl⟩ := h
  obtain ⟨s, rfl⟩ := ok_str h1
  obtain ⟨p, rfl⟩ := ok_str h2
  exact ⟨s, p, rfl⟩
theorem shape_sss {dvs : List DV} (h : Ty.Args [.str, .str, .str] dvs) : ∃ s p q : List UInt8, dvs = [.str s, .str p, .str q] := by
  obtain ⟨ds, l, rfl, h1, d2, l2, rfl, h2, d3, l3, rfl, h3, rfl⟩ := h
  obtain ⟨s, rfl⟩ := ok_str h1
  obtain ⟨p, rfl⟩ := ok_str h2
  obtain ⟨q, rfl⟩ := ok_str h3
  exact ⟨s, p, q, rfl⟩
end Go.Proofs.YtjjcdmjgbbaliaaDoor
