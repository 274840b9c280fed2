/-
  The library's WriteByte at this seat.
-/
import Derived.Test.YthkcgeokfcbllaaVi
set_option linter.unusedSimpArgs false
set_option linter.unusedVariables false
namespace Go.Proofs.Ythkcgeokfcbllaa
open Go Go.RowKit Go.Am

theorem infoByte : (P.info? 5).map (fun i => (i.zero, i.size, i.bytes)) = some (some (.int .u8 0), 1, 1) := by kernel_rfl
set_option maxHeartbeats 2000000 in
set_option maxRecDepth 100000 in
theorem wbyte (B b : Nat) (bs : List Value) (c : Int) (w : World) (h : Lib.IsBuilder 97 5 B b bs w) (hlen : bs.length + 1 ≤ 140737488355328) (hBw : B ≤ w.heap.size) :
    Calls Try.prog 72 #[.pointer (some ⟨b, 0, none⟩), .int .u8 c] w fun e w' => e = .returned .nilIface ∧ Lib.BuilderAt 97 5 B b (.pointer (some ⟨b, 0, none⟩)) (bs ++ [.int .u8 c]) w' ∧ Below B w w' := by
  obtain ⟨i0, hi, hz0, hz1, hz2⟩ := info_parts infoByte
  go_enter Try.func72, Try.ntmps72
  go_wp2_with (go_at_call 76; refine (cc B b bs _ h).mono ?_)
  rintro e v1 ⟨rfl, ⟨hB, v, hbk, hown, hne⟩, hb1⟩
  have hsz := hb1.size
  have k0 : v1.cell? ⟨b, 0, none⟩ = some (.pointer (some ⟨b, 0, none⟩)) := by rw [Lib.cell_of_heap hbk]; rfl
  have k1 : v1.cell? ⟨b, 1, none⟩ = some v := by rw [Lib.cell_of_heap hbk]; rfl
  go_wp2_with (at_builtin; refine wpList_append_own _ rfl _ _ 49 rfl B 5 i0 (.int .u8 0) 1 1 Try.underlying49 hi hz0 hz1 hz2 rfl (by decide) _ _ _ rfl (hown.alloc _) ⟨v1.heap.size, 0, none⟩ 1 1 [.int .u8 c] rfl rfl ?q1 ?q2 ?q3 ?q4 ?q5 ?_)
  case q1 =>
    intro j u hj
    cases j with
    | zero => simp at hj; subst hj; simp [Addr.add]
    | succ j => simp at hj
  case q2 => intro u hu; simp at hu; subst hu; rfl
  case q3 => unfold maxLen; omega
  case q4 => omega
  case q5 => simp; omega
  intro v' v2 hown' hgrow _
  have hlt : b < v1.heap.size := (Array.getElem?_eq_some_iff.1 hbk).1
  have hb2 : v2.heap[b]? = some (.cells #[.pointer (some ⟨b, 0, none⟩), v] 97 (0, 0)) := by
    rw [hgrow.block b (by simp; omega) (fun e => hne e.symm), Lib.alloc_old v1 _ b hlt]
    exact hbk
  have m0 : v2.cell? ⟨b, 0, none⟩ = some (.pointer (some ⟨b, 0, none⟩)) := by rw [Lib.cell_of_heap hb2]; rfl
  have m1 : v2.cell? ⟨b, 1, none⟩ = some v := by rw [Lib.cell_of_heap hb2]; rfl
  have f1 : v2.frozen? ⟨b, 1, none⟩ = false := Lib.frozen_of_heap hb2 1
  obtain ⟨g, cap, rfl⟩ : ∃ g cap, v' = .slice (some ⟨g, 0, none⟩) (bs.length + 1) cap := by
    rcases hown'.2 with ⟨_, h0⟩ | ⟨g, cap, cur, hv, _⟩
    · omega
    · exact ⟨g, cap, hv⟩
  go_wp2
  go_ret
  refine ⟨rfl, Lib.BuilderAt.put hB hb2 (by simpa using hown') (by decide), ?_⟩
  exact ((hb1.alloc (by omega) _).grown hgrow (by simp; omega) (fun k hk => (hown.lt k hk).1)).setCell (p := ⟨b, 1, none⟩) hB _
end Go.Proofs.Ythkcgeokfcbllaa
