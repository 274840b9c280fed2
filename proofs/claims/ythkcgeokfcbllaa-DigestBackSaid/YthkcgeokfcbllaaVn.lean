/-
  Reading back what hex has written, and writing what was read: plain laws.
-/
import Derived.Test.YthkcgeokfcbllaaVh
set_option linter.unusedSimpArgs false
set_option linter.unusedVariables false
namespace Go.Proofs.Ythkcgeokfcbllaa
open Go Go.Am

theorem vl_dg {k : Nat} (h : k < 16) : vl (dg k) = k := by
  have : ∀ n : Fin 16, vl (dg n.1) = n.1 := by decide +kernel
  exact this ⟨k, h⟩
theorem dg_vl {c : B8} (h : vl c ≠ 16) : dg (vl c).toNat = c := by
  have : ∀ n : Fin 256, vl (BitVec.ofNat 8 n.1) ≠ 16 → dg (vl (BitVec.ofNat 8 n.1)).toNat = BitVec.ofNat 8 n.1 := by decide +kernel
  have := this ⟨c.toNat, c.isLt⟩
  simp only [BitVec.ofNat_toNat, BitVec.setWidth_eq] at this
  exact this h
theorem nib (x : B8) : BitVec.ofInt 8 (16 * ((x.toNat >>> 4 : Nat) : Int) + ((x.toNat &&& 15 : Nat) : Int)) = x := by
  have : ∀ n : Fin 256, BitVec.ofInt 8 (16 * ((n.1 >>> 4 : Nat) : Int) + ((n.1 &&& 15 : Nat) : Int)) = BitVec.ofNat 8 n.1 := by decide +kernel
  have := this ⟨x.toNat, x.isLt⟩
  simp only [BitVec.ofNat_toNat, BitVec.setWidth_eq] at this
  exact this
theorem nib4 (a b : Fin 16) : (BitVec.ofInt 8 (16 * (a.1 : Int) + (b.1 : Int))).toNat >>> 4 = a.1 ∧ (BitVec.ofInt 8 (16 * (a.1 : Int) + (b.1 : Int))).toNat &&& 15 = b.1 := by
  have : ∀ a b : Fin 16, (BitVec.ofInt 8 (16 * (a.1 : Int) + (b.1 : Int))).toNat >>> 4 = a.1 ∧ (BitVec.ofInt 8 (16 * (a.1 : Int) + (b.1 : Int))).toNat &&& 15 = b.1 := by decide +kernel
  exact this a b
theorem hexB_at : ∀ (b : List B8) (i : Nat) (h : i < b.length), (hexB b)[2 * i]? = some (dg (b[i].toNat >>> 4)) ∧ (hexB b)[2 * i + 1]? = some (dg (b[i].toNat &&& 15))
  | x :: b, 0, _ => by simp [hexB]
  | x :: b, i + 1, h => by
    have := hexB_at b i (by simpa using h)
    have e : hexB (x :: b) = dg (x.toNat >>> 4) :: dg (x.toNat &&& 15) :: hexB b := by simp [hexB]
    rw [e, show 2 * (i + 1) = 2 * i + 1 + 1 by omega]
    simpa using this
theorem hexS_get (b : List B8) (j : Nat) : (hexS b)[j]? = ((hexB b)[j]?).map UInt8.ofBitVec := by simp [hexS]
theorem ch_hex {b : List B8} {i : Nat} (h : i < b.length) : ch (hexS b) (2 * i) = dg (b[i].toNat >>> 4) ∧ ch (hexS b) (2 * i + 1) = dg (b[i].toNat &&& 15) := by
  obtain ⟨h1, h2⟩ := hexB_at b i h
  constructor
  · rw [ch, List.getD_eq_getElem?_getD, hexS_get, h1]; rfl
  · rw [ch, List.getD_eq_getElem?_getD, hexS_get, h2]; rfl
theorem byteAt_hex {b : List B8} {i : Nat} (h : i < b.length) : byteAt (hexS b) i = b[i] := by
  obtain ⟨h1, h2⟩ := ch_hex h
  rw [byteAt, h1, h2, vl_dg (dg_lt _), vl_dg (dg_lt' _)]
  exact nib _
theorem good_hex {b : List B8} {i : Nat} (h : i < b.length) : good (hexS b) i = true := by
  obtain ⟨h1, h2⟩ := ch_hex h
  have d1 := dg_lt b[i]
  have d2 := dg_lt' b[i]
  rw [good, h1, h2, vl_dg d1, vl_dg d2]
  simp only [Bool.and_eq_true, decide_eq_true_eq]
  omega
theorem kN_hex (b : List B8) : ∀ n, n ≤ b.length → kN (hexS b) n = n
  | 0, _ => rfl
  | n + 1, h => kN_go (kN_hex b n (by omega)) (good_hex (by omega))
theorem ok_hex {b : List B8} {n : Nat} (h : b.length = n) : okN (hexS b) n = true := by
  simp only [okN, decide_eq_true_eq]
  exact ⟨by rw [len_hexS, h], kN_hex b n (by omega)⟩
theorem bytes_hex {b : List B8} {n : Nat} (h : b.length = n) : bytesN (hexS b) n = b := by
  subst h
  apply List.ext_getElem (by simp)
  intro i h1 h2
  simp [bytesN, byteAt_hex h2]
theorem tx_hex {b : List B8} {n : Nat} (h : b.length = n) : txD (hexS b) n = .tup [.agg (b.map w8), .bool true] := by
  rw [txD, if_pos (ok_hex h), bytes_hex h]
theorem parse_hex {b : List B8} (h : b.length = 32) : parseD (sha ++ hexS b) = .tup [.agg (b.map w8), .bool true] := by
  have e1 : (sha ++ hexS b).take 7 = sha := List.take_left' rfl
  have e2 : (sha ++ hexS b).drop 7 = hexS b := List.drop_left' rfl
  rw [parseD, if_pos e1, e2, tx_hex h]
theorem kN_good {s : List UInt8} : ∀ {n : Nat}, kN s n = n → ∀ i, i < n → good s i = true
  | 0, _, i, h => by omega
  | n + 1, hk, i, h => by
    rw [kN] at hk
    split at hk
    · rename_i hg
      by_cases e : i = n
      · subst e; exact hg.2
      · exact kN_good hg.1 i (by omega)
    · have := kN_le s n; omega
theorem hex_back {s : List UInt8} {n : Nat} (h : okN s n = true) : hexS (bytesN s n) = s := by
  simp only [okN, decide_eq_true_eq] at h
  obtain ⟨hs, hk⟩ := h
  apply List.ext_getElem? 
  intro j
  by_cases hj : j < 2 * n
  case neg =>
    rw [List.getElem?_eq_none (by rw [len_hexS]; simp; omega), List.getElem?_eq_none (by omega)]
  obtain ⟨i, hi, hij⟩ : ∃ i, i < n ∧ (j = 2 * i ∨ j = 2 * i + 1) := ⟨j / 2, by omega, by omega⟩
  have hg := kN_good hk i hi
  simp only [good, Bool.and_eq_true, decide_eq_true_eq] at hg
  have r1 := vl_range (ch s (2 * i))
  have r2 := vl_range (ch s (2 * i + 1))
  obtain ⟨h1, h2⟩ := hexB_at (bytesN s n) i (by simpa using hi)
  have e : (bytesN s n)[i]'(by simpa using hi) = byteAt s i := by simp [bytesN]
  rw [e] at h1 h2
  obtain ⟨n1, n2⟩ := nib4 ⟨(vl (ch s (2 * i))).toNat, by omega⟩ ⟨(vl (ch s (2 * i + 1))).toNat, by omega⟩
  simp only [show ((vl (ch s (2 * i))).toNat : Int) = vl (ch s (2 * i)) by omega, show ((vl (ch s (2 * i + 1))).toNat : Int) = vl (ch s (2 * i + 1)) by omega] at n1 n2
  rw [byteAt, n1, dg_vl hg.1] at h1
  rw [byteAt, n2, dg_vl hg.2] at h2
  rcases hij with rfl | rfl
  · rw [hexS_get, h1, ch, getD_at (by omega), List.getElem?_eq_getElem (by omega)]; rfl
  · rw [hexS_get, h2, ch, getD_at (by omega), List.getElem?_eq_getElem (by omega)]; rfl
theorem tx_back {s : List UInt8} {n : Nat} {b : List B8} (h : txD s n = .tup [.agg (b.map w8), .bool true]) : hexS b = s := by
  rw [txD] at h
  split at h
  · rename_i h2
    simp only [DV.tup.injEq, List.cons.injEq, DV.agg.injEq, map_inj_w8, and_true] at h
    rw [← h, hex_back h2]
  · simp at h
theorem tx_shape (s : List UInt8) (n : Nat) : ∃ (b : List B8) (o : Bool), b.length = n ∧ txD s n = .tup [.agg (b.map w8), .bool o] := by
  unfold txD
  split
  · exact ⟨_, true, by simp, rfl⟩
  · exact ⟨_, false, by simp [rep], rfl⟩
theorem parse_shape (s : List UInt8) : ∃ (b : List B8) (o : Bool), b.length = 32 ∧ parseD s = .tup [.agg (b.map w8), .bool o] := by
  unfold parseD
  split
  · exact tx_shape _ _
  · exact ⟨_, false, by simp [rep], rfl⟩
theorem parse_back {s : List UInt8} {b : List B8} (h : parseD s = .tup [.agg (b.map w8), .bool true]) : sha ++ hexS b = s := by
  unfold parseD at h
  split at h
  · rename_i h1
    rw [txD] at h
    split at h
    · rename_i h2
      simp only [DV.tup.injEq, List.cons.injEq, DV.agg.injEq, map_inj_w8, and_true] at h
      rw [← h, hex_back h2]
      conv => rhs; rw [← List.take_append_drop 7 s, h1]
    · simp at h
  · simp at h
end Go.Proofs.Ythkcgeokfcbllaa
