/-
  Strings of the library at a byte, and Path.
-/
import Derived.Test.YtjhakjeioppijaaDoorPa
import Derived.Test.YtjhakjeioppijaaDoorWf
set_option linter.unusedSimpArgs false
set_option linter.unusedVariables false
namespace Go.Proofs.YtjhakjeioppijaaDoor
open Go Go.Am

theorem take_snoc {α : Type} {d : List α} {i : Nat} (h : i < d.length) : d.take (i + 1) = d.take i ++ [d[i]] := by rw [List.take_add_one, List.getElem?_eq_getElem h]; rfl
theorem tb_eq {c : UInt8} {n : UInt8} : c.toBitVec = n.toBitVec ↔ c = n := UInt8.toBitVec_inj
theorem noZ_app (a b : List UInt8) : noZ (a ++ b) = (noZ a && noZ b) := by simp [noZ]

theorem outD_three {a b c : ARes} {t : List DV} {h : List AObj} : outD [a, b, c] t h = (resD t h a).bind fun x => (resD t h b).bind fun y => (resD t h c).bind fun z => snap h 3 (.tup [x, y, z]) := by
  simp only [outD, resAll, mapAll, resOf_eq]
  cases resD t h a <;> cases resD t h b <;> cases resD t h c <;> rfl
attribute [simp] outD_three
/-! contracts by their arguments' shapes -/
def cS (g : List UInt8 → DV) : List DV → Option DV
  | [.str s] => some (g s) | _ => none
def cSS (g : List UInt8 → List UInt8 → DV) : List DV → Option DV
  | [.str s, .str p] => some (g s p) | _ => none
def cSSS (g : List UInt8 → List UInt8 → List UInt8 → DV) : List DV → Option DV
  | [.str s, .str p, .str q] => some (g s p q) | _ => none
/-- a string and a string of one byte -/
def cS1 (g : List UInt8 → UInt8 → DV) : List DV → Option DV
  | [.str s, .str [c]] => some (g s c) | _ => none
/-- a string, not too long, and a string of one byte -/
def cS1b (g : List UInt8 → UInt8 → DV) : List DV → Option DV
  | [.str s, .str [c]] => if s.length ≤ 100000 then some (g s c) else none | _ => none
/-- a string and a byte -/
def cSB (g : List UInt8 → B8 → DV) : List DV → Option DV
  | [.str s, .int .u8 n] => if 0 ≤ n ∧ n < 256 then some (g s (BitVec.ofInt 8 n)) else none | _ => none
theorem cS_eq {g s} : cS g [.str s] = some (g s) := rfl
theorem cSS_eq {g s p} : cSS g [.str s, .str p] = some (g s p) := rfl
theorem cSSS_eq {g s p q} : cSSS g [.str s, .str p, .str q] = some (g s p q) := rfl
theorem cS1_eq {g s c} : cS1 g [.str s, .str [c]] = some (g s c) := rfl
theorem cS1b_eq {g s c} (h : s.length ≤ 100000) : cS1b g [.str s, .str [c]] = some (g s c) := if_pos h
theorem ofInt_nat (c : B8) : BitVec.ofInt 8 (c.toNat : Int) = c := by simp
theorem cSB_eq {g s c} : cSB g [.str s, w8 c] = some (g s c) := by
  have := c.isLt
  show (if 0 ≤ (c.toNat : Int) ∧ (c.toNat : Int) < 256 then some (g s (BitVec.ofInt 8 (c.toNat : Int))) else none) = _
  rw [if_pos (by omega), ofInt_nat]
theorem cS_sound {f : Nat} {g : List UInt8 → DV} (h : ∀ s, Am.Sem P f [.str s] (g s)) : (Con.pure (cS g)).Sound P f := by
  intro args v e
  unfold cS at e
  split at e
  · simp at e; subst e; exact h _
  · simp at e
theorem cSS_sound {f : Nat} {g : List UInt8 → List UInt8 → DV} (h : ∀ s p, Am.Sem P f [.str s, .str p] (g s p)) : (Con.pure (cSS g)).Sound P f := by
  intro args v e
  unfold cSS at e
  split at e
  · simp at e; subst e; exact h _ _
  · simp at e
theorem cSSS_sound {f : Nat} {g : List UInt8 → List UInt8 → List UInt8 → DV} (h : ∀ s p q, Am.Sem P f [.str s, .str p, .str q] (g s p q)) : (Con.pure (cSSS g)).Sound P f := by
  intro args v e
  unfold cSSS at e
  split at e
  · simp at e; subst e; exact h _ _ _
  · simp at e
theorem cS1_sound {f : Nat} {g : List UInt8 → UInt8 → DV} (h : ∀ s c, Am.Sem P f [.str s, .str [c]] (g s c)) : (Con.pure (cS1 g)).Sound P f := by
  intro args v e
  unfold cS1 at e
  split at e
  · simp at e; subst e; exact h _ _
  · simp at e
theorem cS1b_sound {f : Nat} {g : List UInt8 → UInt8 → DV} (h : ∀ s c, s.length ≤ 100000 → Am.Sem P f [.str s, .str [c]] (g s c)) : (Con.pure (cS1b g)).Sound P f := by
  intro args v e
  unfold cS1b at e
  split at e
  · split at e
    · rename_i hl; simp at e; subst e; exact h _ _ hl
    · simp at e
  · simp at e
theorem cSB_sound {f : Nat} {g : List UInt8 → B8 → DV} (h : ∀ s c, Am.Sem P f [.str s, w8 c] (g s c)) : (Con.pure (cSB g)).Sound P f := by
  intro args v e
  unfold cSB at e
  split at e
  · rename_i s n
    split at e
    · rename_i hn
      simp at e; subst e
      have := h s (BitVec.ofInt 8 n)
      have e2 : w8 (BitVec.ofInt 8 n) = .int .u8 n := by
        unfold w8
        have : ((BitVec.ofInt 8 n).toNat : Int) = n := by rw [BitVec.toNat_ofInt]; simp; omega
        rw [this]
      rwa [e2] at this
    · simp at e
  · simp at e

def ixD (s : List UInt8) (c : B8) : DV := .int .i64 (Lib.indexByte s c.toNat.toUInt8)
def ix1 (s : List UInt8) (c : UInt8) : DV := .int .i64 (Lib.indexByte s c)
def T50 : Tbl := addT 118 (.pure (cSB ixD)) tbl0
theorem T50_ixb : T50 118 = .pure (cSB ixD) := by simp [T50]
theorem T50_sound : T50.Sound P := addT_sound (cSB_sound fun s c => sem_ixb Tryd.func118 (by kernel_rfl) (by kernel_rfl) (by kernel_rfl) (by kernel_rfl) s c) tbl0_sound
theorem runs_slixb (s : List UInt8) (c : B8) : Runs T50 a113 [.str s, w8 c] (ixD s c) := by
  refine ⟨?_⟩
  simp (disch := first | omega | (simp [-List.map_take, -List.map_drop, -List.map_set, -List.map_append, -List.drop_one] <;> omega) | fail) [-List.map_take, -List.map_drop, -List.map_set, -List.map_append, -List.drop_one, a113, T50_ixb, cSB_eq, ixD]
def T51 : Tbl := addT 113 (.pure (cSB ixD)) T50
theorem T51_ixb : T51 113 = .pure (cSB ixD) := by simp [T51]
theorem T51_sound : T51.Sound P := addT_sound (cSB_sound fun s c => sem_runs mix T50_sound Tryd.func113 a113_ok (runs_slixb s c)) T50_sound
theorem runs_ixb (s : List UInt8) (c : B8) : Runs T51 a101 [.str s, w8 c] (ixD s c) := by
  refine ⟨?_⟩
  simp (disch := first | omega | (simp [-List.map_take, -List.map_drop, -List.map_set, -List.map_append, -List.drop_one] <;> omega) | fail) [-List.map_take, -List.map_drop, -List.map_set, -List.map_append, -List.drop_one, a101, T51_ixb, cSB_eq, ixD]
theorem runs_slindex (s : List UInt8) (c : UInt8) : Runs T51 a119 [.str s, .str [c]] (ix1 s c) := by
  refine ⟨?_⟩
  by_cases h : [c] = s
  · subst h
    simp (disch := first | omega | (simp [-List.map_take, -List.map_drop, -List.map_set, -List.map_append, -List.drop_one] <;> omega) | fail) [-List.map_take, -List.map_drop, -List.map_set, -List.map_append, -List.drop_one, a119, ix1, Lib.indexByte]
  · simp (disch := first | omega | (simp [-List.map_take, -List.map_drop, -List.map_set, -List.map_append, -List.drop_one] <;> omega) | fail) [-List.map_take, -List.map_drop, -List.map_set, -List.map_append, -List.drop_one, a119, h, T51_ixb, cSB_eq, ixD, ix1, u8_nat]
def T52 : Tbl := addT 119 (.pure (cS1 ix1)) T51
theorem T52_ix : T52 119 = .pure (cS1 ix1) := by simp [T52]
theorem T52_sound : T52.Sound P := addT_sound (cS1_sound fun s c => sem_runs mix T51_sound Tryd.func119 a119_ok (runs_slindex s c)) T51_sound
/-- Cut at a byte -/
def cutR (s : List UInt8) (c : UInt8) : DV :=
  if Lib.indexByte s c = -1 then .tup [.str s, .str [], .bool false] else .tup [.str (s.take (Lib.indexByte s c).toNat), .str (s.drop ((Lib.indexByte s c).toNat + 1)), .bool true]
theorem ixb_lt' {s : List UInt8} {c : UInt8} : Lib.indexByte s c < s.length := by
  have hg := Lib.indexByte_ge s c
  by_cases h : Lib.indexByte s c = -1
  · omega
  · have := ixb_lt (s := s) (c := c) (o := (Lib.indexByte s c).toNat) (by omega)
    omega
theorem runs_slcutb (s : List UInt8) (c : UInt8) (hs : s.length ≤ 100000) : Runs T52 a114 [.str s, .str [c]] (cutR s c) := by
  refine ⟨?_⟩
  have hg := Lib.indexByte_ge s c
  have hlt := ixb_lt' (s := s) (c := c)
  by_cases h : Lib.indexByte s c = -1
  · simp (disch := first | omega | (simp [-List.map_take, -List.map_drop, -List.map_set, -List.map_append, -List.drop_one] <;> omega) | fail) [-List.map_take, -List.map_drop, -List.map_set, -List.map_append, -List.drop_one, a114, T52_ix, cS1_eq, ix1, h, cutR]
  · obtain ⟨o, ho⟩ : ∃ o : Nat, Lib.indexByte s c = o := ⟨(Lib.indexByte s c).toNat, by omega⟩
    rw [ho] at hlt
    have h0 : (0 : Int) ≤ o := by omega
    have hn : ¬ (o : Int) = -1 := by omega
    have ho1 : o ≤ s.length := by omega
    have ho2 : o + 1 ≤ s.length := by omega
    have ho3 : (o : Int) + 1 ≤ s.length := by omega
    have e1 : ((o : Int) + 1).toNat = o + 1 := by omega
    have ht : (s.drop (o + 1)).take (s.length - (o + 1)) = s.drop (o + 1) := List.take_of_length_le (by simp)
    simp (disch := first | omega | (simp [-List.map_take, -List.map_drop, -List.map_set, -List.map_append, -List.drop_one] <;> omega) | fail) [-List.map_take, -List.map_drop, -List.map_set, -List.map_append, -List.drop_one, a114, T52_ix, cS1_eq, ix1, ho, h0, hn, ho1, ho2, ho3, e1, ht, cutR]
def T54 : Tbl := addT 114 (.pure (cS1b cutR)) tbl0
theorem T54_cut : T54 114 = .pure (cS1b cutR) := by simp [T54]
theorem T54_sound : T54.Sound P := addT_sound (cS1b_sound fun s c h => sem_runs mix T52_sound Tryd.func114 a114_ok (runs_slcutb s c h)) tbl0_sound
theorem runs_cutb (s : List UInt8) (c : UInt8) (hs : s.length ≤ 100000) : Runs T54 a102 [.str s, .str [c]] (cutR s c) := by
  refine ⟨?_⟩
  by_cases h : Lib.indexByte s c = -1
  · simp (disch := first | omega | (simp [-List.map_take, -List.map_drop, -List.map_set, -List.map_append, -List.drop_one] <;> omega) | fail) [-List.map_take, -List.map_drop, -List.map_set, -List.map_append, -List.drop_one, a102, T54_cut, cS1b_eq hs, cutR, h]
  · simp (disch := first | omega | (simp [-List.map_take, -List.map_drop, -List.map_set, -List.map_append, -List.drop_one] <;> omega) | fail) [-List.map_take, -List.map_drop, -List.map_set, -List.map_append, -List.drop_one, a102, T54_cut, cS1b_eq hs, cutR, h]
end Go.Proofs.YtjhakjeioppijaaDoor
