/-
  Contracts of layer 8; the laws OnetimeClimbs and OnetimeSteps.
-/
import Derived.Test.YthkcgeokfcbllaaUi
set_option linter.unusedSimpArgs false
set_option linter.unusedVariables false
namespace Go.Proofs.Ythkcgeokfcbllaa
open Go Go.Am

noncomputable def c_secret : List DV → Option DV := con (fun (a : List B8 × Int × Int) => a.1.length = 16) (fun a => [.agg (a.1.map w8), .int .i64 a.2.1, .int .i64 a.2.2]) (fun a => .agg ((secret a.1 a.2.1 a.2.2).map w8))
theorem c_secret_eq {x : List B8} {n c : Int} (h : x.length = 16) : c_secret [.agg (x.map w8), .int .i64 n, .int .i64 c] = some (.agg ((secret x n c).map w8)) :=
  con_eq' (a := (x, n, c)) (f := fun (a : List B8 × Int × Int) => [.agg (a.1.map w8), .int .i64 a.2.1, .int .i64 a.2.2]) (g := fun a => .agg ((secret a.1 a.2.1 a.2.2).map w8)) (by
    rintro ⟨a1, a2, a3⟩ ⟨b1, b2, b3⟩ _ _ e
    simp only [List.cons.injEq, DV.agg.injEq, map_inj_w8, DV.int.injEq, true_and, and_true] at e
    obtain ⟨rfl, rfl, rfl⟩ := e; rfl) h
abbrev ClimbA := List B8 × Int × Int × Int × Int
noncomputable def c_climb : List DV → Option DV := con (fun (a : ClimbA) => a.1.length = 16) (fun a => [.agg (a.1.map w8), .int .i64 a.2.1, .int .i64 a.2.2.1, .int .i64 a.2.2.2.1, .int .i64 a.2.2.2.2]) (fun a => .agg ((climb a.1 a.2.1 a.2.2.1 a.2.2.2.1 a.2.2.2.2).map w8))
theorem c_climb_eq {x : List B8} {n c i j : Int} (h : x.length = 16) : c_climb [.agg (x.map w8), .int .i64 n, .int .i64 c, .int .i64 i, .int .i64 j] = some (.agg ((climb x n c i j).map w8)) :=
  con_eq' (a := (x, n, c, i, j)) (f := fun (a : ClimbA) => [.agg (a.1.map w8), .int .i64 a.2.1, .int .i64 a.2.2.1, .int .i64 a.2.2.2.1, .int .i64 a.2.2.2.2]) (g := fun a => .agg ((climb a.1 a.2.1 a.2.2.1 a.2.2.2.1 a.2.2.2.2).map w8)) (by
    rintro ⟨a1, a2, a3, a4, a5⟩ ⟨b1, b2, b3, b4, b5⟩ _ _ e
    simp only [List.cons.injEq, DV.agg.injEq, map_inj_w8, DV.int.injEq, true_and, and_true] at e
    obtain ⟨rfl, rfl, rfl, rfl, rfl⟩ := e; rfl) h
abbrev CombA (a : Int × Option Bool × List (List B8)) : Prop := (a.2.1 = none → a.2.2 = []) ∧ FN 16 a.2.2 ∧ a.2.2.length ≤ 1000
noncomputable def c_combine : List DV → Option DV := con CombA (fun a => [.int .i64 a.1, hD a.2.1 a.2.2]) (fun a => .agg ((combine a.1 a.2.2).map w8))
theorem c_combine_eq {n : Int} {k : Option Bool} {l : List (List B8)} (h : CombA (n, k, l)) : c_combine [.int .i64 n, hD k l] = some (.agg ((combine n l).map w8)) :=
  con_eq' (A := CombA) (a := (n, k, l)) (f := fun a => [.int .i64 a.1, hD a.2.1 a.2.2]) (g := fun a => .agg ((combine a.1 a.2.2).map w8)) (by
    rintro ⟨a1, a2, a3⟩ ⟨b1, b2, b3⟩ h1 h2 e
    simp only [List.cons.injEq, DV.int.injEq, true_and, and_true] at e
    obtain ⟨rfl, e⟩ := e
    obtain rfl := hD_inj h1.1 h2.1 h1.2.1 h2.2.1 e
    rfl) h
noncomputable def T23 : Tbl := addT 20 (.pure c_secret) (addT 21 (.pure c_secret) (addT 19 (.pure c_climb) (addT 22 (.pure c_climb) (addT 23 (.pure c_combine) (addT 24 (.pure c_combine) T21)))))
theorem T23_secret : T23 20 = .pure c_secret := by simp [T23]
theorem T23_refsecret : T23 21 = .pure c_secret := by simp [T23]
theorem T23_climb : T23 19 = .pure c_climb := by simp [T23]
theorem T23_refclimb : T23 22 = .pure c_climb := by simp [T23]
theorem T23_combine : T23 23 = .pure c_combine := by simp [T23]
theorem T23_refcombine : T23 24 = .pure c_combine := by simp [T23]
theorem T23_awake : T23 18 = .pure c_true := by simp [T23, T21_awake]
theorem T23_digits : T23 16 = .pure c_digits := by simp [T23, T21_digits]
theorem T23_refdigits : T23 17 = .pure c_digits := by simp [T23, T21_refdigits]
theorem T23_sound : T23.Sound P :=
  addT_sound (con_sound fun a h => sem_runs mix T22_sound Try.func20 a20_ok (runs_secret a.1 a.2.1 a.2.2 h))
  (addT_sound (con_sound fun a h => sem_runs mix T22_sound Try.func21 a21_ok (runs_refsecret a.1 a.2.1 a.2.2 h))
  (addT_sound (con_sound fun a h => sem_runs mix T22_sound Try.func19 a19_ok (runs_climb a.1 a.2.1 a.2.2.1 a.2.2.2.1 a.2.2.2.2 h))
  (addT_sound (con_sound fun a h => sem_runs mix T22_sound Try.func22 a22_ok (runs_refclimb a.1 a.2.1 a.2.2.1 a.2.2.2.1 a.2.2.2.2 h))
  (addT_sound (con_sound fun a h => sem_runs mix T22_sound Try.func23 a23_ok (runs_combine a.1 a.2.1 a.2.2 h.1 h.2.1 h.2.2))
  (addT_sound (con_sound fun a h => sem_runs mix T22_sound Try.func24 a24_ok (runs_refcombine a.1 a.2.1 a.2.2 h.1 h.2.1 h.2.2)) T21_sound)))))

theorem climbN_add (n c : Int) (x : List B8) (i : Int) (m : Nat) : ∀ k : Nat, climbN n c (climbN n c x i m) (i + m) k = climbN n c x i (m + k)
  | 0 => rfl
  | k + 1 => by
    show step n c (climbN n c (climbN n c x i m) (i + m) k) (i + m + k) = step n c (climbN n c x i (m + k)) (i + ((m + k : Nat) : Int))
    rw [climbN_add n c x i m k]
    congr 1
    omega
theorem climb_climb {x : List B8} {n ch a b c : Int} (h0 : 0 ≤ a) (h1 : a ≤ b) (h2 : b ≤ c) (h3 : c ≤ 3) : climb (climb x n ch a b) n ch b c = climb x n ch a c := by
  unfold climb
  rw [if_neg (by omega), if_neg (by omega), if_neg (by omega)]
  have := climbN_add n ch x a (b - a).toNat (c - b).toNat
  rw [show a + ((b - a).toNat : Int) = b by omega, show (b - a).toNat + (c - b).toNat = (c - a).toNat by omega] at this
  exact this
theorem climb_self {x : List B8} {n ch c : Int} : climb x n ch c c = x := by
  unfold climb
  split
  · rfl
  · simp [climbN]
theorem tmod4 (a : Int) : -3 ≤ a.tmod 4 ∧ a.tmod 4 ≤ 3 := by
  have h1 := Int.tmod_lt_of_pos a (show (0 : Int) < 4 by decide)
  have h2 := Int.lt_tmod_of_pos a (show (0 : Int) < 4 by decide)
  omega
theorem tmod4' (a : Int) : 0 ≤ (a.tmod 4 + 4).tmod 4 ∧ (a.tmod 4 + 4).tmod 4 ≤ 3 := by
  have h1 := tmod4 a
  have h2 := tmod4 (a.tmod 4 + 4)
  have h3 := Int.tmod_nonneg (a := a.tmod 4 + 4) 4 (by omega)
  omega
set_option maxRecDepth 20000 in
theorem runs_lawclimbs (x : List B8) (n0 n1 a b c : Int) (hx : x.length = 16) : Runs T23 a5 [.agg (x.map w8), .agg [.int .i64 n0, .int .i64 n1], .agg [.int .i64 a, .int .i64 b, .int .i64 c]] (.bool true) := by
  refine ⟨?_⟩
  have a0 := tmod4 a
  have b0 := tmod4 b
  have c0 := tmod4 c
  have a1 := tmod4' a
  have b1 := tmod4' b
  have c1 := tmod4' c
  simp (disch := first | omega | (simp [-List.map_take, -List.map_drop, -List.map_set, -List.map_append, -List.drop_one] <;> omega) | fail) [-List.map_take, -List.map_drop, -List.map_set, -List.map_append, -List.drop_one, a5, hx]
  have a2 : 0 ≤ a.tmod 4 % 4 ∧ a.tmod 4 % 4 ≤ 3 := by omega
  have b2 : 0 ≤ b.tmod 4 % 4 ∧ b.tmod 4 % 4 ≤ 3 := by omega
  have c2 : 0 ≤ c.tmod 4 % 4 ∧ c.tmod 4 % 4 ≤ 3 := by omega
  generalize a.tmod 4 % 4 = p at *
  generalize b.tmod 4 % 4 = q at *
  generalize c.tmod 4 % 4 = r at *
  by_cases h1 : q < p
  · simp (disch := first | omega | (simp [-List.map_take, -List.map_drop, -List.map_set, -List.map_append, -List.drop_one] <;> omega) | fail) [-List.map_take, -List.map_drop, -List.map_set, -List.map_append, -List.drop_one, h1, T23_awake, c_true_eq]
  by_cases h2 : r < q
  · simp (disch := first | omega | (simp [-List.map_take, -List.map_drop, -List.map_set, -List.map_append, -List.drop_one] <;> omega) | fail) [-List.map_take, -List.map_drop, -List.map_set, -List.map_append, -List.drop_one, h1, h2, T23_awake, c_true_eq]
  have l1 := len_climb (n := n0) (c := n1) (i := p) (j := q) hx
  have l2 := len_climb (n := n0) (c := n1) (i := p) (j := r) hx
  have x16 : x.take 16 = x := List.take_of_length_le (by omega)
  have e1 := climb_climb (x := x) (n := n0) (ch := n1) a2.1 (show p ≤ q by omega) (show q ≤ r by omega) c2.2
  simp (disch := first | omega | (simp [-List.map_take, -List.map_drop, -List.map_set, -List.map_append, -List.drop_one] <;> omega) | fail) [-List.map_take, -List.map_drop, -List.map_set, -List.map_append, -List.drop_one, h1, h2, hx, x16, T23_awake, c_true_eq, T23_climb, c_climb_eq, l1, l2, e1, climb_self]
set_option maxRecDepth 20000 in
theorem runs_lawsteps (x : List B8) (n0 n1 n2 n3 : Int) (k : Option Bool) (l : List (List B8)) (hx : x.length = 16) (hk : k = none → l = []) (hl : FN 16 l) : Runs T23 a6 [.agg (x.map w8), .agg [.int .i64 n0, .int .i64 n1, .int .i64 n2, .int .i64 n3], hD k l] (.bool true) := by
  refine ⟨?_⟩
  have hln : ∀ h, lenD h (hD k l) = some (.int .i64 l.length) := fun h => lenD_slD (fun e => by rw [hk e]; rfl)
  by_cases h1 : 100 < l.length
  · have h2 : (100 : Int) < l.length := by omega
    simp (disch := first | omega | (simp [-List.map_take, -List.map_drop, -List.map_set, -List.map_append, -List.drop_one] <;> omega) | fail) [-List.map_take, -List.map_drop, -List.map_set, -List.map_append, -List.drop_one, a6, hx, hln, h2]
  · have h2 : ¬ (100 : Int) < l.length := by omega
    have hc := c_combine_eq (n := n0) (k := k) (l := l) ⟨hk, hl, (by omega : l.length ≤ 1000)⟩
    have hp : pureD (hD k l) = true := pure_slD (pure_fl l)
    have l1 := len_secret n0 n1 x
    have l2 := len_climb (n := n0) (c := n1) (i := n2) (j := n3) hx
    have l3 : (combine n0 l).length = 16 := len_half _
    simp (disch := first | omega | (simp [-List.map_take, -List.map_drop, -List.map_set, -List.map_append, -List.drop_one] <;> omega) | fail) [-List.map_take, -List.map_drop, -List.map_set, -List.map_append, -List.drop_one, a6, hx, hln, h2, T23_awake, c_true_eq, T23_secret, T23_refsecret, c_secret_eq, T23_climb, T23_refclimb, c_climb_eq, T23_combine, T23_refcombine, hc, hp, l1, l2, l3]
end Go.Proofs.Ythkcgeokfcbllaa
