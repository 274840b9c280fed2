/-
  The walk of onetime.Digits.
-/
import Derived.Test.YthkcgeokfcbllaaUa
import Derived.Test.YthkcgeokfcbllaaTc
set_option linter.unusedSimpArgs false
set_option linter.unusedVariables false
namespace Go.Proofs.Ythkcgeokfcbllaa
open Go Go.Am

theorem seq_base4 (n : Int) (h0 : 0 ≤ n) (h1 : n < 256) : SeqSem P 62 .u8 n (fun x : Dig => .int .i64 x.1) (digs n) := by
  refine ⟨ent_of Try.func62 (by kernel_rfl) rfl, fun x => .int .i64 x.1, fun x E X w => .int _ _, fun b w hc => ?_⟩
  intro l J Jx W hW _ _ hY hJ
  exact base4_in l b n h0 h1 J Jx hY W ((hW.cell (p := ⟨b, 0, none⟩) (cell_lt hc)).trans hc) hJ
def digL (n : Int) : List Int := [dig n 0, dig n 1, dig n 2, dig n 3]
def seq4 (k : IntKind) (n : Int) : Option (List Int) := if k = .u8 ∧ 0 ≤ n ∧ n < 256 then some (digL n) else none
theorem seq4_sound : (Con.seq okDig seq4).Sound P 62 := by
  intro k n l h
  unfold seq4 at h
  split at h
  · rename_i hc
    obtain ⟨rfl, h0, h1⟩ := hc
    simp at h; subst h
    exact ⟨digs n, rfl, seq_base4 n h0 h1⟩
  · simp at h
noncomputable def c_base4 : List DV → List AObj → Option (DV × List AObj) := conH (fun (_ : B8 × List AObj) => True) (fun a => ([w8 a.1], a.2)) (fun a => ((.fn (.func 62) [] [.mp a.2.length 1 0] : DV), (a.2 ++ [AObj.cells [w8 a.1]] : List AObj)))
theorem runs_base4 (b : B8) (h : List AObj) : RunsH tbl0 a50 [w8 b] h (.fn (.func 62) [] [.mp h.length 1 0]) (h ++ [.cells [w8 b]]) := by
  refine ⟨?_⟩
  simp (disch := first | omega | (simp [-List.map_take, -List.map_drop, -List.map_set, -List.map_append, -List.drop_one] <;> omega) | fail) [-List.map_take, -List.map_drop, -List.map_set, -List.map_append, -List.drop_one, a50]
theorem c_base4_sound : (Con.heap c_base4).Sound P 50 := conH_sound fun a _ => calls_runs mix tbl0_sound Try.func50 a50_ok (runs_base4 a.1 a.2)
theorem c_base4_eq {b : B8} {h : List AObj} : c_base4 [w8 b] h = some (.fn (.func 62) [] [.mp h.length 1 0], h ++ [.cells [w8 b]]) :=
  conH_eq (A := fun (_ : B8 × List AObj) => True) (f := fun a => ([w8 a.1], a.2)) (g := fun a => ((.fn (.func 62) [] [.mp a.2.length 1 0] : DV), (a.2 ++ [AObj.cells [w8 a.1]] : List AObj))) (by rintro ⟨a, b⟩ ⟨c, d⟩; simp +contextual) (b, h) trivial
noncomputable def TU1 : Tbl := addT 50 (.heap c_base4) (addT 62 (.seq okDig seq4) tbl0)
theorem TU1_base4 : TU1 50 = .heap c_base4 := by simp [TU1]
theorem TU1_seq : TU1 62 = .seq okDig seq4 := by simp [TU1]
theorem TU1_sound : TU1.Sound P := addT_sound c_base4_sound (addT_sound seq4_sound tbl0_sound)

/-- the digits of bytes, and their distances from 3 -/
def digB (b : B8) : List Int := digL b.toNat
def gap (l : List Int) : Int := (l.map fun x => 3 - x).sum
def msg (d : List B8) (i : Nat) : List Int := (d.take i).flatMap digB
def digits (d : List B8) : List Int := msg d 16 ++ digB (BitVec.ofInt 8 (gap (msg d 16)))
theorem gap_append (a b : List Int) : gap (a ++ b) = gap a + gap b := by simp [gap, List.sum_append]
theorem gap_one (x : Int) : gap [x] = 3 - x := by simp [gap]
theorem len_digB (b : B8) : (digB b).length = 4 := rfl
theorem msg_succ {d : List B8} {i : Nat} (h : i < d.length) : msg d (i + 1) = msg d i ++ digB d[i] := by
  unfold msg
  rw [List.take_add_one, List.getElem?_eq_getElem h, List.flatMap_append]
  simp
theorem len_msg {d : List B8} : ∀ {i : Nat}, i ≤ d.length → (msg d i).length = 4 * i
  | 0, _ => by simp [msg]
  | i + 1, h => by rw [msg_succ (by omega), List.length_append, len_msg (by omega), len_digB]; omega
theorem dig_range (n : Int) (i : Nat) : 0 ≤ dig n i ∧ dig n i ≤ 3 := by
  have := dig_ok n i
  simpa [okDig] using this
theorem gap_digB (b : B8) : 0 ≤ gap (digB b) ∧ gap (digB b) ≤ 12 := by
  have h0 := dig_range b.toNat 0
  have h1 := dig_range b.toNat 1
  have h2 := dig_range b.toNat 2
  have h3 := dig_range b.toNat 3
  simp [gap, digB, digL]
  omega
theorem gap_msg {d : List B8} : ∀ {i : Nat}, i ≤ d.length → 0 ≤ gap (msg d i) ∧ gap (msg d i) ≤ 12 * i
  | 0, _ => by simp [msg, gap]
  | i + 1, h => by
    rw [msg_succ (by omega), gap_append]
    have h1 := gap_msg (d := d) (i := i) (by omega)
    have h2 := gap_digB d[i]
    omega
def H16 (d : List B8) (o : List Int) (s : Int) : List AObj := [.cells (d.map w8), .cells (o.map (DV.int .i64)), .cells [.ms 1 o.length 0 1 o.length o.length], .cells [.int .i64 s]]
def S16 (d : List B8) (i : Nat) : St := a16S0 (.mp 2 1 0) (.mp 3 1 0) (.ms 0 32 0 1 16 32) (.int .i64 16) (.int .i64 i) (H16 d (msg d i) (gap (msg d i)))
set_option maxRecDepth 20000 in
theorem runs_digits (d : List B8) (hd : d.length = 32) : Runs TU1 a16 [.agg (d.map w8)] (.sl false 1 68 ((digits d).map (DV.int .i64))) := by
  refine ⟨?_⟩
  simp (disch := first | omega | (simp [-List.map_take, -List.map_drop, -List.map_set, -List.map_append, -List.drop_one] <;> omega) | fail) [-List.map_take, -List.map_drop, -List.map_set, -List.map_append, -List.drop_one, a16, hd, reps]
  refine W_loop (S16 d) (fun i => 16 - i) (fun i => i ≤ 16) 0 (weak_same (by simp (disch := first | omega | (simp [-List.map_take, -List.map_drop, -List.map_set, -List.map_append, -List.drop_one] <;> omega) | fail) [-List.map_take, -List.map_drop, -List.map_set, -List.map_append, -List.drop_one]) (by simp (disch := first | omega | (simp [-List.map_take, -List.map_drop, -List.map_set, -List.map_append, -List.drop_one] <;> omega) | fail) [-List.map_take, -List.map_drop, -List.map_set, -List.map_append, -List.drop_one, H16, msg, gap])) (by omega) (fun i hi => ?_)
  simp (disch := first | omega | (simp [-List.map_take, -List.map_drop, -List.map_set, -List.map_append, -List.drop_one] <;> omega) | fail) [-List.map_take, -List.map_drop, -List.map_set, -List.map_append, -List.drop_one, a16L0, a16S0, S16]
  by_cases h : i < 16
  · have h1 : (i : Int) < 16 := by omega
    have hdl : i < d.length := by omega
    have hm := len_msg (d := d) (i := i) (by omega)
    have hg := gap_msg (d := d) (i := i) (by omega)
    have hb := d[i].isLt
    simp (disch := first | omega | (simp [-List.map_take, -List.map_drop, -List.map_set, -List.map_append, -List.drop_one] <;> omega) | fail) [-List.map_take, -List.map_drop, -List.map_set, -List.map_append, -List.drop_one, h1, H16, hd, TU1_base4, c_base4_eq]
    refine W_rangeF 62 4 .u8 (d[i].toNat : Int) (digB d[i]) (fun pre h => h = H16 d (msg d i ++ pre) (gap (msg d i) + gap pre) ++ [AObj.cells [w8 (d[i]'hdl)]] ∧ 0 ≤ gap pre ∧ gap pre ≤ 3 * pre.length ∧ pre.length ≤ 4) rfl (by simp [js]) (by simp (disch := first | omega | (simp [-List.map_take, -List.map_drop, -List.map_set, -List.map_append, -List.drop_one] <;> omega) | fail) [-List.map_take, -List.map_drop, -List.map_set, -List.map_append, -List.drop_one]) TU1_seq (by simp [seq4, digB]; omega) ?_ (by simp (disch := first | omega | (simp [-List.map_take, -List.map_drop, -List.map_set, -List.map_append, -List.drop_one] <;> omega) | fail) [-List.map_take, -List.map_drop, -List.map_set, -List.map_append, -List.drop_one, H16, gap]) ?_ ?_
    · rintro pre h ⟨rfl, _⟩
      simp (disch := first | omega | (simp [-List.map_take, -List.map_drop, -List.map_set, -List.map_append, -List.drop_one] <;> omega) | fail) [-List.map_take, -List.map_drop, -List.map_set, -List.map_append, -List.drop_one, H16, w8]
    · rintro pre x h hx hl ⟨rfl, g0, g1, g2⟩
      have hx' : 0 ≤ x ∧ x ≤ 3 := by simpa [okDig] using hx
      have hgx : gap (pre ++ [x]) = gap pre + (3 - x) := by rw [gap_append, gap_one]
      rw [len_digB] at hl
      have hg' : gap (msg d i) + gap pre + (3 - x) = gap (msg d i) + (gap pre + (3 - x)) := by omega
      simp (disch := first | omega | (simp [-List.map_take, -List.map_drop, -List.map_set, -List.map_append, -List.drop_one] <;> omega) | fail) [-List.map_take, -List.map_drop, -List.map_set, -List.map_append, -List.drop_one, H16, roundK_normal, hgx, hm]
      refine ⟨?_, by omega, by omega, by omega⟩
      omega
    · rintro h ⟨rfl, _⟩
      simp (disch := first | omega | (simp [-List.map_take, -List.map_drop, -List.map_set, -List.map_append, -List.drop_one] <;> omega) | fail) [-List.map_take, -List.map_drop, -List.map_set, -List.map_append, -List.drop_one, H16]
      refine ⟨i + 1, ?_, by omega, by omega⟩
      refine weak_drop (tail := [AObj.cells [w8 (d[i]'hdl)]]) (by simp (disch := first | omega | (simp [-List.map_take, -List.map_drop, -List.map_set, -List.map_append, -List.drop_one] <;> omega) | fail) [-List.map_take, -List.map_drop, -List.map_set, -List.map_append, -List.drop_one]) ?_ (by simp (disch := first | omega | (simp [-List.map_take, -List.map_drop, -List.map_set, -List.map_append, -List.drop_one] <;> omega) | fail) [-List.map_take, -List.map_drop, -List.map_set, -List.map_append, -List.drop_one, S16, H16]) ?_ ?_
      · simp (disch := first | omega | (simp [-List.map_take, -List.map_drop, -List.map_set, -List.map_append, -List.drop_one] <;> omega) | fail) [-List.map_take, -List.map_drop, -List.map_set, -List.map_append, -List.drop_one, H16, msg_succ hdl, gap_append]
      · simp (disch := first | omega | (simp [-List.map_take, -List.map_drop, -List.map_set, -List.map_append, -List.drop_one] <;> omega) | fail) [-List.map_take, -List.map_drop, -List.map_set, -List.map_append, -List.drop_one, H16, belowL, below]
      · simp (disch := first | omega | (simp [-List.map_take, -List.map_drop, -List.map_set, -List.map_append, -List.drop_one] <;> omega) | fail) [-List.map_take, -List.map_drop, -List.map_set, -List.map_append, -List.drop_one, H16, belowH, belowL, below]
  · have h1 : ¬ (i : Int) < 16 := by omega
    obtain rfl : i = 16 := by omega
    have hm := len_msg (d := d) (i := 16) (by omega)
    have hg := gap_msg (d := d) (i := 16) (by omega)
    generalize hs : BitVec.ofInt 8 (gap (msg d 16)) = c at *
    have hb := c.isLt
    have hdg : digits d = msg d 16 ++ digB c := by rw [← hs]; rfl
    simp (disch := first | omega | (simp [-List.map_take, -List.map_drop, -List.map_set, -List.map_append, -List.drop_one] <;> omega) | fail) [-List.map_take, -List.map_drop, -List.map_set, -List.map_append, -List.drop_one, h1, H16, TU1_base4, c_base4_eq, hs]
    refine W_rangeF 62 4 .u8 (c.toNat : Int) (digB c) (fun pre h => h = H16 d (msg d 16 ++ pre) (gap (msg d 16)) ++ [AObj.cells [w8 c]] ∧ pre.length ≤ 4) rfl (by simp [js]) (by simp (disch := first | omega | (simp [-List.map_take, -List.map_drop, -List.map_set, -List.map_append, -List.drop_one] <;> omega) | fail) [-List.map_take, -List.map_drop, -List.map_set, -List.map_append, -List.drop_one]) TU1_seq (by simp [seq4, digB]; omega) ?_ (by simp (disch := first | omega | (simp [-List.map_take, -List.map_drop, -List.map_set, -List.map_append, -List.drop_one] <;> omega) | fail) [-List.map_take, -List.map_drop, -List.map_set, -List.map_append, -List.drop_one, H16]) ?_ ?_
    · rintro pre h ⟨rfl, _⟩
      simp (disch := first | omega | (simp [-List.map_take, -List.map_drop, -List.map_set, -List.map_append, -List.drop_one] <;> omega) | fail) [-List.map_take, -List.map_drop, -List.map_set, -List.map_append, -List.drop_one, H16, w8]
    · rintro pre x h hx hl ⟨rfl, g2⟩
      rw [len_digB] at hl
      simp (disch := first | omega | (simp [-List.map_take, -List.map_drop, -List.map_set, -List.map_append, -List.drop_one] <;> omega) | fail) [-List.map_take, -List.map_drop, -List.map_set, -List.map_append, -List.drop_one, H16, roundK_normal, hm]
      omega
    · rintro h ⟨rfl, _⟩
      simp (disch := first | omega | (simp [-List.map_take, -List.map_drop, -List.map_set, -List.map_append, -List.drop_one] <;> omega) | fail) [-List.map_take, -List.map_drop, -List.map_set, -List.map_append, -List.drop_one, H16, hdg, hm, len_digB]
      exact List.take_of_length_le (by simp [hm, len_digB])
end Go.Proofs.Ythkcgeokfcbllaa
