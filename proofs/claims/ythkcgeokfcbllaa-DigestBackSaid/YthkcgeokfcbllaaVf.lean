/-
  Parse and ParseHalf of the reference.
-/
import Derived.Test.YthkcgeokfcbllaaVe
set_option linter.unusedSimpArgs false
set_option linter.unusedVariables false
namespace Go.Proofs.Ythkcgeokfcbllaa
open Go Go.Am

noncomputable def c_un : List DV → Option DV := con (fun (a : List UInt8 × Nat) => 0 < a.2 ∧ a.2 ≤ 1000) (fun a => [.str a.1, .int .i64 (a.2 : Int)]) (fun a => unD a.1 a.2)
theorem c_un_eq {s : List UInt8} {n : Nat} (h0 : 0 < n) (hn : n ≤ 1000) : c_un [.str s, .int .i64 (n : Int)] = some (unD s n) :=
  con_eq' (A := fun (a : List UInt8 × Nat) => 0 < a.2 ∧ a.2 ≤ 1000) (a := (s, n)) (f := fun a => [.str a.1, .int .i64 (a.2 : Int)]) (g := fun a => unD a.1 a.2) (by
    rintro ⟨a1, a2⟩ ⟨b1, b2⟩ _ _ e
    simp only [List.cons.injEq, DV.str.injEq, DV.int.injEq, true_and, and_true, Int.natCast_inj] at e
    obtain ⟨rfl, rfl⟩ := e; rfl) ⟨h0, hn⟩
noncomputable def T37 : Tbl := addT 59 (.pure c_un) tbl0
theorem T37_un : T37 59 = .pure c_un := by simp [T37]
theorem T37_sound : T37.Sound P := addT_sound (con_sound fun a h => sem_runs mix T34_sound Try.func59 a59_ok (runs_refunhex a.1 a.2 h.1 h.2)) tbl0_sound
def upB (b : List B8) (n i : Nat) : List B8 := b.take i ++ rep (n - i) 0#8
theorem upB_set {b : List B8} {n i : Nat} (hb : b.length = n) (h : i < n) : (upB b n i).set i (b[i]'(by omega)) = upB b n (i + 1) := by
  unfold upB
  rw [List.set_append_right _ _ (by simp; omega)]
  obtain ⟨m, hm⟩ : ∃ m, n - i = m + 1 := ⟨n - i - 1, by omega⟩
  have hi0 : i - (b.take i).length = 0 := by simp; omega
  have e : b.take (i + 1) = b.take i ++ [b[i]'(by omega)] := by rw [List.take_add_one, List.getElem?_eq_getElem (by omega)]; rfl
  rw [hm, show n - (i + 1) = m by omega, hi0, e, List.append_assoc]
  rfl
theorem len_upB {b : List B8} {n i : Nat} (hb : b.length = n) (h : i ≤ n) : (upB b n i).length = n := by simp [upB, rep]; omega
def S45 (b : List B8) (n i : Nat) : St := a45S0 (.mp 0 16 0) (.mp 1 16 0) (.sl false 1 n (b.map w8)) (.bool true) (.int .i64 i) [.cells ((rep 16 0#8).map w8), .cells ((upB b 16 i).map w8)]
def S45' (i : Nat) : St := a45S0 (.mp 0 16 0) (.mp 1 16 0) .nils (.bool false) (.int .i64 i) [.cells ((rep 16 0#8).map w8), .cells ((rep 16 0#8).map w8)]
set_option maxRecDepth 20000 in
theorem runs_refparsehalf (s : List UInt8) : Runs T37 a45 [.str s] (txD s 16) := by
  refine ⟨?_⟩
  have hc : c_un [.str s, .int .i64 16] = some (unD s 16) := c_un_eq (by decide) (by decide)
  by_cases h : okN s 16 = true
  · have h' := h
    simp only [okN, decide_eq_true_eq] at h'
    rw [unD, if_pos h'] at hc
    have hb : (bytesN s 16).length = 16 := by simp
    simp (disch := first | omega | (simp [-List.map_take, -List.map_drop, -List.map_set, -List.map_append, -List.drop_one] <;> omega) | fail) [-List.map_take, -List.map_drop, -List.map_set, -List.map_append, -List.drop_one, a45, T37_un, hc]
    generalize hbe : bytesN s 16 = b at *
    refine W_loop (S45 b 16) (fun i => 16 - i) (fun i => i ≤ 16) 0 (weak_same (by simp (disch := first | omega | (simp [-List.map_take, -List.map_drop, -List.map_set, -List.map_append, -List.drop_one] <;> omega) | fail) [-List.map_take, -List.map_drop, -List.map_set, -List.map_append, -List.drop_one]) (by simp (disch := first | omega | (simp [-List.map_take, -List.map_drop, -List.map_set, -List.map_append, -List.drop_one] <;> omega) | fail) [-List.map_take, -List.map_drop, -List.map_set, -List.map_append, -List.drop_one, upB])) (by omega) (fun i hi => ?_)
    have hu := len_upB hb hi
    simp (disch := first | omega | (simp [-List.map_take, -List.map_drop, -List.map_set, -List.map_append, -List.drop_one] <;> omega) | fail) [-List.map_take, -List.map_drop, -List.map_set, -List.map_append, -List.drop_one, a45L0, a45S0, S45]
    by_cases hlt : i < 16
    · have h1 : (i : Int) < 16 := by omega
      have hib : i < b.length := by omega
      simp (disch := first | omega | (simp [-List.map_take, -List.map_drop, -List.map_set, -List.map_append, -List.drop_one] <;> omega) | fail) [-List.map_take, -List.map_drop, -List.map_set, -List.map_append, -List.drop_one, h1, hb, hu]
      refine ⟨i + 1, weak_same (by simp (disch := first | omega | (simp [-List.map_take, -List.map_drop, -List.map_set, -List.map_append, -List.drop_one] <;> omega) | fail) [-List.map_take, -List.map_drop, -List.map_set, -List.map_append, -List.drop_one]) ?_, by omega, by omega⟩
      rw [← upB_set hb hlt]
    · have h1 : ¬ (i : Int) < 16 := by omega
      obtain rfl : i = 16 := by omega
      have hu16 : upB b 16 16 = b := by simp [upB, rep, List.take_of_length_le (show b.length ≤ 16 by omega)]
      have ht : b.take 16 = b := List.take_of_length_le (by omega)
      simp (disch := first | omega | (simp [-List.map_take, -List.map_drop, -List.map_set, -List.map_append, -List.drop_one] <;> omega) | fail) [-List.map_take, -List.map_drop, -List.map_set, -List.map_append, -List.drop_one, h1, hu16, hb, ht, txD, h, hbe]
  · have h' := h
    simp only [okN, decide_eq_true_eq] at h'
    rw [unD, if_neg h'] at hc
    simp (disch := first | omega | (simp [-List.map_take, -List.map_drop, -List.map_set, -List.map_append, -List.drop_one] <;> omega) | fail) [-List.map_take, -List.map_drop, -List.map_set, -List.map_append, -List.drop_one, a45, T37_un, hc, txD, h]
    refine W_loop S45' (fun i => 0 - i) (fun i => i = 0) 0 (weak_same (by simp (disch := first | omega | (simp [-List.map_take, -List.map_drop, -List.map_set, -List.map_append, -List.drop_one] <;> omega) | fail) [-List.map_take, -List.map_drop, -List.map_set, -List.map_append, -List.drop_one]) (by simp (disch := first | omega | (simp [-List.map_take, -List.map_drop, -List.map_set, -List.map_append, -List.drop_one] <;> omega) | fail) [-List.map_take, -List.map_drop, -List.map_set, -List.map_append, -List.drop_one])) rfl (fun i hi => ?_)
    simp (disch := first | omega | (simp [-List.map_take, -List.map_drop, -List.map_set, -List.map_append, -List.drop_one] <;> omega) | fail) [-List.map_take, -List.map_drop, -List.map_set, -List.map_append, -List.drop_one, a45L0, a45S0, S45', hi]
def S43 (b : List B8) (i : Nat) : St := a43S0 (.mp 0 32 0) (.mp 1 32 0) (.sl false 1 32 (b.map w8)) (.bool true) (.int .i64 i) [.cells ((rep 32 0#8).map w8), .cells ((upB b 32 i).map w8)]
def S43' (i : Nat) : St := a43S0 (.mp 0 32 0) (.mp 1 32 0) .nils (.bool false) (.int .i64 i) [.cells ((rep 32 0#8).map w8), .cells ((rep 32 0#8).map w8)]
set_option maxRecDepth 20000 in
theorem runs_refparse (s : List UInt8) : Runs T37 a43 [.str s] (parseD s) := by
  refine ⟨?_⟩
  have hc : c_un [.str (s.drop 7), .int .i64 32] = some (unD (s.drop 7) 32) := c_un_eq (by decide) (by decide)
  by_cases hl : s.length = 71
  case neg =>
    have hl' : ¬ ((s.length : Int) = 71) := by omega
    have hno : ¬ okN (s.drop 7) 32 = true := by simp only [okN, decide_eq_true_eq, List.length_drop]; omega
    have hp : parseD s = .tup [.agg ((rep 32 0#8).map w8), .bool false] := by
      simp [parseD, txD, hno]
    simp (disch := first | omega | (simp [-List.map_take, -List.map_drop, -List.map_set, -List.map_append, -List.drop_one] <;> omega) | fail) [-List.map_take, -List.map_drop, -List.map_set, -List.map_append, -List.drop_one, a43, hl', hp]
  have ht7 : (s.drop 7).take (71 - 7) = s.drop 7 := List.take_of_length_le (by simp; omega)
  by_cases hp : s.take 7 = sha
  case neg =>
    have hp' := hp
    rw [sha] at hp'
    simp (disch := first | omega | (simp [-List.map_take, -List.map_drop, -List.map_set, -List.map_append, -List.drop_one] <;> omega) | fail) [-List.map_take, -List.map_drop, -List.map_set, -List.map_append, -List.drop_one, a43, hl, hp', parseD, hp]
  have hp' := hp
  rw [sha] at hp'
  by_cases h : okN (s.drop 7) 32 = true
  · have h' := h
    simp only [okN, decide_eq_true_eq] at h'
    rw [unD, if_pos h'] at hc
    have hb : (bytesN (s.drop 7) 32).length = 32 := by simp
    simp (disch := first | omega | (simp [-List.map_take, -List.map_drop, -List.map_set, -List.map_append, -List.drop_one] <;> omega) | fail) [-List.map_take, -List.map_drop, -List.map_set, -List.map_append, -List.drop_one, a43, hl, hp', ht7, T37_un, hc]
    generalize hbe : bytesN (s.drop 7) 32 = b at *
    refine W_loop (S43 b) (fun i => 32 - i) (fun i => i ≤ 32) 0 (weak_same (by simp (disch := first | omega | (simp [-List.map_take, -List.map_drop, -List.map_set, -List.map_append, -List.drop_one] <;> omega) | fail) [-List.map_take, -List.map_drop, -List.map_set, -List.map_append, -List.drop_one]) (by simp (disch := first | omega | (simp [-List.map_take, -List.map_drop, -List.map_set, -List.map_append, -List.drop_one] <;> omega) | fail) [-List.map_take, -List.map_drop, -List.map_set, -List.map_append, -List.drop_one, upB])) (by omega) (fun i hi => ?_)
    have hu := len_upB hb hi
    simp (disch := first | omega | (simp [-List.map_take, -List.map_drop, -List.map_set, -List.map_append, -List.drop_one] <;> omega) | fail) [-List.map_take, -List.map_drop, -List.map_set, -List.map_append, -List.drop_one, a43L0, a43S0, S43]
    by_cases hlt : i < 32
    · have h1 : (i : Int) < 32 := by omega
      have hib : i < b.length := by omega
      simp (disch := first | omega | (simp [-List.map_take, -List.map_drop, -List.map_set, -List.map_append, -List.drop_one] <;> omega) | fail) [-List.map_take, -List.map_drop, -List.map_set, -List.map_append, -List.drop_one, h1, hb, hu]
      refine ⟨i + 1, weak_same (by simp (disch := first | omega | (simp [-List.map_take, -List.map_drop, -List.map_set, -List.map_append, -List.drop_one] <;> omega) | fail) [-List.map_take, -List.map_drop, -List.map_set, -List.map_append, -List.drop_one]) ?_, by omega, by omega⟩
      rw [← upB_set hb hlt]
    · have h1 : ¬ (i : Int) < 32 := by omega
      obtain rfl : i = 32 := by omega
      have hu32 : upB b 32 32 = b := by simp [upB, rep, List.take_of_length_le (show b.length ≤ 32 by omega)]
      have ht : b.take 32 = b := List.take_of_length_le (by omega)
      simp (disch := first | omega | (simp [-List.map_take, -List.map_drop, -List.map_set, -List.map_append, -List.drop_one] <;> omega) | fail) [-List.map_take, -List.map_drop, -List.map_set, -List.map_append, -List.drop_one, h1, hu32, hb, ht, parseD, hp, txD, h, hbe]
  · have h' := h
    simp only [okN, decide_eq_true_eq] at h'
    rw [unD, if_neg h'] at hc
    simp (disch := first | omega | (simp [-List.map_take, -List.map_drop, -List.map_set, -List.map_append, -List.drop_one] <;> omega) | fail) [-List.map_take, -List.map_drop, -List.map_set, -List.map_append, -List.drop_one, a43, hl, hp', ht7, T37_un, hc, parseD, hp, txD, h]
    refine W_loop S43' (fun i => 0 - i) (fun i => i = 0) 0 (weak_same (by simp (disch := first | omega | (simp [-List.map_take, -List.map_drop, -List.map_set, -List.map_append, -List.drop_one] <;> omega) | fail) [-List.map_take, -List.map_drop, -List.map_set, -List.map_append, -List.drop_one]) (by simp (disch := first | omega | (simp [-List.map_take, -List.map_drop, -List.map_set, -List.map_append, -List.drop_one] <;> omega) | fail) [-List.map_take, -List.map_drop, -List.map_set, -List.map_append, -List.drop_one])) rfl (fun i hi => ?_)
    simp (disch := first | omega | (simp [-List.map_take, -List.map_drop, -List.map_set, -List.map_append, -List.drop_one] <;> omega) | fail) [-List.map_take, -List.map_drop, -List.map_set, -List.map_append, -List.drop_one, a43L0, a43S0, S43', hi]
end Go.Proofs.Ythkcgeokfcbllaa
