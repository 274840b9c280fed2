/-
  The law OnetimeSigns; the laws OnetimeClimbs, OnetimeSteps and OnetimeSigns on any arguments.
-/
import Derived.Test.YthkcgeokfcbllaaUk
set_option linter.unusedSimpArgs false
set_option linter.unusedVariables false
namespace Go.Proofs.Ythkcgeokfcbllaa
open Go Go.Am

noncomputable def c_public : List DV → Option DV := con (fun (a : List B8 × Int) => a.1.length = 16) (fun a => [.agg (a.1.map w8), .int .i64 a.2]) (fun a => .agg ((pub a.1 a.2).map w8))
theorem c_public_eq {x : List B8} {n : Int} (h : x.length = 16) : c_public [.agg (x.map w8), .int .i64 n] = some (.agg ((pub x n).map w8)) :=
  con_eq' (a := (x, n)) (f := fun (a : List B8 × Int) => [.agg (a.1.map w8), .int .i64 a.2]) (g := fun a => .agg ((pub a.1 a.2).map w8)) (by
    rintro ⟨a1, a2⟩ ⟨b1, b2⟩ _ _ e
    simp only [List.cons.injEq, DV.agg.injEq, map_inj_w8, DV.int.injEq, true_and, and_true] at e
    obtain ⟨rfl, rfl⟩ := e; rfl) h
noncomputable def c_sign : List DV → Option DV := con (fun (a : List B8 × Int × List B8) => a.1.length = 16 ∧ a.2.2.length = 32) (fun a => [.agg (a.1.map w8), .int .i64 a.2.1, .agg (a.2.2.map w8)]) (fun a => .sl false 16 68 (fl (upto (sigF a.1 a.2.1 a.2.2) 68)))
theorem c_sign_eq {x d : List B8} {n : Int} (h : x.length = 16) (hd : d.length = 32) : c_sign [.agg (x.map w8), .int .i64 n, .agg (d.map w8)] = some (.sl false 16 68 (fl (upto (sigF x n d) 68))) :=
  con_eq' (A := fun (a : List B8 × Int × List B8) => a.1.length = 16 ∧ a.2.2.length = 32) (a := (x, n, d)) (f := fun (a : List B8 × Int × List B8) => [.agg (a.1.map w8), .int .i64 a.2.1, .agg (a.2.2.map w8)]) (g := fun a => .sl false 16 68 (fl (upto (sigF a.1 a.2.1 a.2.2) 68))) (by
    rintro ⟨a1, a2, a3⟩ ⟨b1, b2, b3⟩ _ _ e
    simp only [List.cons.injEq, DV.agg.injEq, map_inj_w8, DV.int.injEq, true_and, and_true] at e
    obtain ⟨rfl, rfl, rfl⟩ := e; rfl) ⟨h, hd⟩
abbrev RecA (a : Int × List B8 × Option Bool × List (List B8)) : Prop := a.2.1.length = 32 ∧ (a.2.2.1 = none → a.2.2.2 = []) ∧ FN 16 a.2.2.2
noncomputable def c_recover : List DV → Option DV := con RecA (fun a => [.int .i64 a.1, .agg (a.2.1.map w8), hD a.2.2.1 a.2.2.2]) (fun a => recD a.2.2.2 a.1 a.2.1)
theorem c_recover_eq {n : Int} {d : List B8} {k : Option Bool} {l : List (List B8)} (h : RecA (n, d, k, l)) : c_recover [.int .i64 n, .agg (d.map w8), hD k l] = some (recD l n d) :=
  con_eq' (A := RecA) (a := (n, d, k, l)) (f := fun a => [.int .i64 a.1, .agg (a.2.1.map w8), hD a.2.2.1 a.2.2.2]) (g := fun a => recD a.2.2.2 a.1 a.2.1) (by
    rintro ⟨a1, a2, a3, a4⟩ ⟨b1, b2, b3, b4⟩ h1 h2 e
    simp only [List.cons.injEq, DV.agg.injEq, map_inj_w8, DV.int.injEq, true_and, and_true] at e
    obtain ⟨rfl, rfl, e⟩ := e
    obtain rfl := hD_inj h1.2.1 h2.2.1 h1.2.2 h2.2.2 e
    rfl) h
noncomputable def c_same : List DV → Option DV := con (fun (l : List (List B8)) => FN 16 l ∧ l.length = 68) (fun l => [.sl false 16 68 (fl l), .sl false 16 68 (fl l)]) (fun _ => .bool true)
theorem c_same_eq {l : List (List B8)} (h : FN 16 l) (h' : l.length = 68) : c_same [.sl false 16 68 (fl l), .sl false 16 68 (fl l)] = some (.bool true) :=
  con_eq' (A := fun (l : List (List B8)) => FN 16 l ∧ l.length = 68) (a := l) (f := fun l => [.sl false 16 68 (fl l), .sl false 16 68 (fl l)]) (g := fun _ => .bool true) (by intros; rfl) ⟨h, h'⟩
noncomputable def T24 : Tbl := addT 27 (.pure c_public) (addT 28 (.pure c_public) (addT 30 (.pure c_sign) (addT 31 (.pure c_sign) (addT 25 (.pure c_recover) (addT 26 (.pure c_recover) (addT 29 (.pure c_same) T23))))))
theorem T24_public : T24 27 = .pure c_public := by simp [T24]
theorem T24_refpublic : T24 28 = .pure c_public := by simp [T24]
theorem T24_sign : T24 30 = .pure c_sign := by simp [T24]
theorem T24_refsign : T24 31 = .pure c_sign := by simp [T24]
theorem T24_recover : T24 25 = .pure c_recover := by simp [T24]
theorem T24_refrecover : T24 26 = .pure c_recover := by simp [T24]
theorem T24_same : T24 29 = .pure c_same := by simp [T24]
theorem T24_awake : T24 18 = .pure c_true := by simp [T24, T23_awake]
theorem T24_sound : T24.Sound P :=
  addT_sound (con_sound fun a h => sem_runs mix T23_sound Try.func27 a27_ok (runs_public a.1 a.2 h))
  (addT_sound (con_sound fun a h => sem_runs mix T23_sound Try.func28 a28_ok (runs_refpublic a.1 a.2 h))
  (addT_sound (con_sound fun a h => sem_runs mix T23_sound Try.func30 a30_ok (runs_sign a.1 a.2.1 a.2.2 h.1 h.2))
  (addT_sound (con_sound fun a h => sem_runs mix T23_sound Try.func31 a31_ok (runs_refsign a.1 a.2.1 a.2.2 h.1 h.2))
  (addT_sound (con_sound fun a h => sem_runs mix T23_sound Try.func25 a25_ok (runs_recover a.2.2.1 a.2.2.2 a.1 a.2.1 h.2.1 h.2.2 h.1))
  (addT_sound (con_sound fun a h => sem_runs mix T23_sound Try.func26 a26_ok (runs_refrecover a.2.2.1 a.2.2.2 a.1 a.2.1 h.2.1 h.2.2 h.1))
  (addT_sound (con_sound fun a h => sem_runs mix tbl0_sound Try.func29 a29_ok (runs_same a h.1 h.2)) T23_sound))))))
set_option maxRecDepth 20000 in
theorem runs_lawsigns (x : List B8) (n : Int) (d : List B8) (k : Option Bool) (l : List (List B8)) (hx : x.length = 16) (hd : d.length = 32) (hk : k = none → l = []) (hl : FN 16 l) : Runs T24 a7 [.agg (x.map w8 ++ [.int .i64 n]), .agg (d.map w8), hD k l] (.bool true) := by
  refine ⟨?_⟩
  have hln : ∀ h, lenD h (hD k l) = some (.int .i64 l.length) := fun h => lenD_slD (fun e => by rw [hk e]; rfl)
  by_cases h1 : 100 < l.length
  · have h2 : (100 : Int) < l.length := by omega
    simp (disch := first | omega | (simp [-List.map_take, -List.map_drop, -List.map_set, -List.map_append, -List.drop_one] <;> omega) | fail) [-List.map_take, -List.map_drop, -List.map_set, -List.map_append, -List.drop_one, a7, hx, hd, hln, h2]
  · have h2 : ¬ (100 : Int) < l.length := by omega
    have hc := c_recover_eq (n := n) (d := d) (k := k) (l := l) ⟨hd, hk, hl⟩
    have hp : pureD (hD k l) = true := pure_slD (pure_fl l)
    have l1 : (pub x n).length = 16 := len_combine _ _
    have l2 := c_same_eq (FN_upto (len_sigF x n d) 68) (len_upto _ _)
    have l3 := pure_fl (upto (sigF x n d) 68)
    have ho : one 16 true (x.map w8 ++ [.int .i64 n]) = some (.agg (x.map w8)) := by
      have : (x.map w8 ++ [DV.int .i64 n]).take 16 = x.map w8 := by rw [List.take_append_of_le_length (by simp [hx])]; exact List.take_of_length_le (by simp [hx])
      simp [one, hx]
    by_cases h68 : l.length = 68
    · have hr : recD l n d = .tup [.agg ((combine n (upto (recF l n d) 68)).map w8), .bool true] := by simp [recD, h68]
      rw [hr] at hc
      simp (disch := first | omega | (simp [-List.map_take, -List.map_drop, -List.map_set, -List.map_append, -List.drop_one] <;> omega) | fail) [-List.map_take, -List.map_drop, -List.map_set, -List.map_append, -List.drop_one, a7, hx, hd, hln, h2, T24_awake, c_true_eq, T24_public, T24_refpublic, c_public_eq, T24_sign, T24_refsign, c_sign_eq, T24_recover, T24_refrecover, hc, hp, l1, l2, l3, T24_same, ho]
    · have hr : recD l n d = .tup [.agg ((rep 16 0#8).map w8), .bool false] := by simp [recD, h68]
      rw [hr] at hc
      simp (disch := first | omega | (simp [-List.map_take, -List.map_drop, -List.map_set, -List.map_append, -List.drop_one] <;> omega) | fail) [-List.map_take, -List.map_drop, -List.map_set, -List.map_append, -List.drop_one, a7, hx, hd, hln, h2, T24_awake, c_true_eq, T24_public, T24_refpublic, c_public_eq, T24_sign, T24_refsign, c_sign_eq, T24_recover, T24_refrecover, hc, hp, l1, l2, l3, T24_same, ho]
end Go.Proofs.Ythkcgeokfcbllaa
