/-
  hex of the program: a walk at the level of worlds.
-/
import Derived.Test.YthkcgeokfcbllaaVj
import Derived.Test.YthkcgeokfcbllaaVk
set_option linter.unusedSimpArgs false
set_option linter.unusedVariables false
namespace Go.Proofs.Ythkcgeokfcbllaa
open Go Go.RowKit Go.Am

theorem hexS_succ {b : List B8} {i : Nat} (h : i < b.length) : hexS (b.take (i + 1)) = hexS (b.take i) ++ [UInt8.ofBitVec (dg (b[i].toNat >>> 4)), UInt8.ofBitVec (dg (b[i].toNat &&& 15))] := by
  rw [hexS, hexB_succ h, List.map_append]; rfl
theorem dgA (k : Nat) (h : k < 16) : (⟨#[48, 49, 50, 51, 52, 53, 54, 55, 56, 57, 97, 98, 99, 100, 101, 102]⟩ : ByteArray)[k]'h = UInt8.ofBitVec (dg k) := by
  have : ∀ k : Fin 16, (⟨#[48, 49, 50, 51, 52, 53, 54, 55, 56, 57, 97, 98, 99, 100, 101, 102]⟩ : ByteArray)[k.1]'k.2 = UInt8.ofBitVec (dg k.1) := by decide +kernel
  exact this ⟨k, h⟩
set_option maxHeartbeats 4000000 in
set_option maxRecDepth 100000 in
theorem hex_walk (b : List B8) (a : Addr) (cap : Nat) (w : World) (hb : b.length ≤ 1000) (hc : ∀ i (h : i < b.length), w.cell? (a.add i) = some (.int .u8 (b[i]'h).toNat)) :
    Calls Try.prog 60 #[.slice (some a) b.length cap] w fun e w' => e = .returned (.string ⟨(hexS b).toArray⟩) ∧ Below w.heap.size w w' := by
  go_enter Try.func60, Try.ntmps60
  go_wp2
  go_loopw [8] (fun p wr => ∃ i : Nat, p = .int .i64 i ∧ i ≤ b.length ∧ Lib.IsBuilder 97 5 w.heap.size w.heap.size (Lib.byteCells (hexS (b.take i))) wr ∧ Below w.heap.size w wr) (fun p _ => match p with | .int _ z => b.length - z.toNat | _ => 0)
  case atStart => exact ⟨0, rfl, by omega, Lib.fresh_isBuilder 97 5 w, (Below.refl _ w).alloc (Nat.le_refl _) _⟩
  case round =>
    obtain ⟨i, rfl, hi, hI, hbw⟩ := hrel
    by_cases h : i < b.length
    · have hci := hc i h
      have hcw : wr.cell? (a.add i) = some (.int .u8 (b[i]'h).toNat) := by rw [hbw.cell (cell_lt hci)]; exact hci
      have hlen : (Lib.byteCells (hexS (b.take i))).length ≤ 2000 := by rw [Lib.byteCells_length, len_hexS, List.length_take]; omega
      go_wp2_with (go_at_call 72; refine (wbyte w.heap.size w.heap.size _ _ _ hI (by omega) hbw.size).mono ?_)
      · rintro e W1 ⟨rfl, h1, b1⟩
        have hs1 := b1.size
        have hs0 := hbw.size
        go_wp2_with (go_at_call 72; refine (wbyte w.heap.size w.heap.size _ _ _ (Or.inr h1) (by simp; omega) (by omega)).mono ?_)
        · rintro e W2 ⟨rfl, h2, b2⟩
          go_wp2
          go_roundw
          case rel =>
            refine ⟨i + 1, by go_num, by omega, Or.inr ?_, hbw.trans (b1.trans b2)⟩
            refine Eq.mp (congrArg (fun z => Lib.BuilderAt 97 5 w.heap.size w.heap.size (Value.pointer (some ⟨w.heap.size, 0, none⟩)) z W2) ?_) h2
            rw [hexS_succ h, Lib.byteCells_append, List.append_assoc]
            congr 1
            have q1 : b[i].toNat >>> 4 = b[i].toNat / 16 := by rw [Nat.shiftRight_eq_div_pow]
            have q2 : b[i].toNat &&& 15 = b[i].toNat % 16 := Nat.and_two_pow_sub_one_eq_mod _ 4
            rw [q1, q2, ← dgA _ (by have := b[i].isLt; omega), ← dgA _ (by omega)]
            rfl
          case measure =>
            show b.length - ((i : Int) + 1).toNat < b.length - (i : Int).toNat
            omega
    · go_wp2_with (go_at_call 73; refine (Try.Builder_String_any w.heap.size w.heap.size (hexS (b.take i)) _ hI hbw.size).mono ?_)
      rintro e W1 ⟨rfl, b1⟩
      go_wp2
      go_ret
      obtain rfl : i = b.length := by omega
      rw [List.take_length]
      exact ⟨rfl, hbw.trans b1⟩
end Go.Proofs.Ythkcgeokfcbllaa
