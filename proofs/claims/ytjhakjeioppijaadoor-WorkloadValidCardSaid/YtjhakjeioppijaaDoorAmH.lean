/-
  The abstract machine, part 8: literals, make, append, copy, conversions.
-/
import Derived.Test.YtjhakjeioppijaaDoorAmG
set_option linter.unusedSimpArgs false
set_option linter.unusedVariables false
namespace Go.Am
open Go.RowKit
section
variable {P : Program} {X0 : Forb} {base : Nat} {w : World} {h : List AObj} {E : Env}

theorem reps_get {zs : List DV} {s : Nat} (hs : zs.length = s) (h0 : 0 < s) : ∀ (n i : Nat), i < n * s → (reps n zs)[i]? = zs[i % s]?
  | 0, i, hi => by simp at hi
  | n + 1, i, hi => by
    have e : reps (n + 1) zs = zs ++ reps n zs := by simp [reps, List.replicate_succ]
    rw [e]
    by_cases h1 : i < s
    · rw [List.getElem?_append_left (by omega), Nat.mod_eq_of_lt h1]
    · rw [List.getElem?_append_right (by omega), hs, reps_get hs h0 n (i - s) (by rw [Nat.add_mul] at hi; omega)]
      congr 1
      rw [← Nat.mod_eq_sub_mod (by omega)]
theorem reps_length {zs : List DV} {s : Nat} (hs : zs.length = s) (n : Nat) : (reps n zs).length = n * s := by
  simp [reps, hs]

theorem repA_reps {X : Forb} {w : World} {z : Array Value} {zs : List DV} (hz : RepA E X w z.toList zs) {s : Nat} (hs : zs.length = s) (h0 : 0 < s) (n : Nat) :
    RepA E X w (((Array.range (n * s)).map (z[· % z.size]!)).toList) (reps n zs) := by
  have hsz : z.size = s := by have := hz.1; simp at this; omega
  refine ⟨by simp [reps_length hs], fun i h1 h2 => ?_⟩
  have hi : i < n * s := by simpa using h1
  have hm : i % s < s := Nat.mod_lt _ h0
  have e := reps_get hs h0 n i hi
  rw [List.getElem?_eq_getElem h2, List.getElem?_eq_getElem (by omega)] at e
  simp at e
  rw [e]
  have hq := hz.2 (i % s) (by simp; omega) (by omega)
  simp [hsz, Array.getElem!_eq_getD, hm]
  simpa using hq

theorem map_range0 {f : Nat → Value} : Array.map f (Array.range 0) = #[] := by
  apply Array.eq_empty_of_size_eq_zero; simp

theorem build_struct (hh : HeapRel X0 base w h E) {t : TypeId} {fs : Array Field} (ht : P.underlying t = some (.struct fs)) {zs : List DV} (hz : zerosT P t = some zs) {pl : List (Nat × Nat)} (hp : (fs.toList.mapM fun f => (P.info? f.type).map fun i => (f.offset, i.size)) = some pl)
    {parts : Array (Nat × Value)} {dp : List (Nat × Nat × DV)} (hl : parts.size = dp.length)
    (hpt : ∀ i (h1 : i < parts.size) (h2 : i < dp.length), pl[parts[i].1]? = some (dp[i].1, dp[i].2.1) ∧ Rep E (FX X0 E) w parts[i].2 dp[i].2.2 ∧ dp[i].2.2.known = true) {r : List DV} (hf : fillD zs dp = some r) :
    Gives P X0 base E w (Instr.build t parts) (.agg r) h := by
  obtain ⟨z, h1, h2⟩ := run_zero1 hz w
  obtain ⟨cells', g1, g2⟩ := fill_ok (place := (pl[·]?)) parts.toList dp z.cells zs (h2 E (FX X0 E) w) (by simpa using hl) (fun i a b => by simpa using hpt i (by simpa using a) b) r hf
  refine gives_pure hh (v := .agg cells') ?_ (by simpa using g2.agg)
  simp [Instr.build, run_underlying ht, h1, Array.mapM_eq_mapM_toList, run_places w _ _ hp, g1]

theorem build_array (hh : HeapRel X0 base w h E) {t e : TypeId} {n : Nat} (ht : P.underlying t = some (.array n e)) {s : Nat} (hs : szT P e = some s) {zs : List DV} (hz : zerosT P t = some zs)
    {parts : Array (Nat × Value)} {dp : List (Nat × Nat × DV)} (hl : parts.size = dp.length)
    (hpt : ∀ i (h1 : i < parts.size) (h2 : i < dp.length), (parts[i].1 * s, s) = (dp[i].1, dp[i].2.1) ∧ Rep E (FX X0 E) w parts[i].2 dp[i].2.2 ∧ dp[i].2.2.known = true) {r : List DV} (hf : fillD zs dp = some r) :
    Gives P X0 base E w (Instr.build t parts) (.agg r) h := by
  obtain ⟨z, h1, h2⟩ := run_zero1 hz w
  obtain ⟨cells', g1, g2⟩ := fill_ok (place := fun i => some (i * s, s)) parts.toList dp z.cells zs (h2 E (FX X0 E) w) (by simpa using hl) (fun i a b => by
    have := hpt i (by simpa using a) b
    refine ⟨?_, by simpa using this.2.1, this.2.2⟩
    simpa using this.1) r hf
  refine gives_pure hh (v := .agg cells') ?_ (by simpa using g2.agg)
  simp [Instr.build, run_underlying ht, h1, run_sizeOf1 hs, g1]

/-- a slice over a new block that is no object -/
theorem fresh_sl (hh : HeapRel X0 base w h E) {vs : List Value} {cs : List DV} (hr : RepA E (FX X0 E) w vs cs) (more : List Value) (t : TypeId) {full : Bool} {s n cap : Nat} (hn : n ≤ cap) (hf : full = true → cap = n) (hl : cs.length = n * s) (fr : Nat × Nat) :
    HeapRel X0 base (w.alloc (.cells (vs ++ more).toArray t fr)) h E ∧ Rep E (FX X0 E) (w.alloc (.cells (vs ++ more).toArray t fr)) (.slice (some ⟨w.heap.size, 0, none⟩) n cap) (.sl full s n cs) ∧
    Trans X0 base E w E (w.alloc (.cells (vs ++ more).toArray t fr)) := by
  have ht := trans_alloc hh (.cells (vs ++ more).toArray t fr)
  refine ⟨hh.alloc _, sl_mk (hr.mono ht.env ht.keep) hn hf hl (fun j u hj => ?_) (fun i hi hX => ?_), ht⟩
  · have hlt : j < vs.length := (List.getElem?_eq_some_iff.1 hj).1
    rw [add_mk, cell_of_block (heap_alloc_new w _)]
    simp [List.getElem?_append_left hlt, hj]
  · rcases hX with g | ⟨id, L, g⟩
    · have := hh.x0 _ _ g; have := hh.size; simp at *; omega
    · obtain ⟨_, _, _, _, _, _, g3, _⟩ := hh.live g
      have := (Array.getElem?_eq_some_iff.1 g3).1
      simp at this

theorem bsl_ok (hh : HeapRel X0 base w h E) {t e : TypeId} (ht : P.underlying t = some (.slice e)) {s len : Nat} (hs : szT P e = some s) {zs : List DV} (hz : zerosT P e = some zs) (h16 : len * s ≤ 16777216) (hzs : zs.length = s) (h0 : 0 < s)
    {parts : Array (Nat × Value)} {dp : List (Nat × Nat × DV)} (hl : parts.size = dp.length)
    (hpt : ∀ i (h1 : i < parts.size) (h2 : i < dp.length), (parts[i].1 * s, s) = (dp[i].1, dp[i].2.1) ∧ Rep E (FX X0 E) w parts[i].2 dp[i].2.2 ∧ dp[i].2.2.known = true) {r : List DV} (hf : fillD (reps len zs) dp = some r) (hrl : r.length = len * s) :
    Gives P X0 base E w (Instr.buildSlice t len parts) (.sl true s len r) h := by
  obtain ⟨z, h1, h2⟩ := run_zero1 hz w
  have hzz := h2 E (FX X0 E) w
  have hpt' : ∀ i (a : i < parts.toList.length) (b : i < dp.length), (fun i => some (i * s, s)) parts.toList[i].1 = some (dp[i].1, dp[i].2.1) ∧ Rep E (FX X0 E) w parts.toList[i].2 dp[i].2.2 ∧ dp[i].2.2.known = true := fun i a b => by
    have := hpt i (by simpa using a) b
    refine ⟨?_, by simpa using this.2.1, this.2.2⟩
    simpa using this.1
  by_cases hlen : len * s = 0
  · have hl0 : len = 0 := by rcases Nat.mul_eq_zero.1 hlen with g | g <;> omega
    subst hl0
    obtain ⟨cells', g1, g2⟩ := fill_ok (place := fun i => some (i * s, s)) parts.toList dp #[] (reps 0 zs) (by simpa [reps] using RepA.nil) (by simpa using hl) hpt' r hf
    have hfr := fresh_sl hh g2 [] e (full := true) (s := s) (n := 0) (cap := 0) (Nat.le_refl _) (fun _ => rfl) (by simpa using hrl) (0, 0)
    rw [List.append_nil, Array.toArray_toList] at hfr
    refine ⟨_, _, E, ?_, hfr⟩
    simp [Instr.buildSlice, run_underlying ht, run_sizeOf1 hs, map_range0, g1, newRow]
  · obtain ⟨cells', g1, g2⟩ := fill_ok (place := fun i => some (i * s, s)) parts.toList dp _ (reps len zs) (repA_reps hzz hzs h0 len) (by simpa using hl) hpt' r hf
    have hfr := fresh_sl hh g2 [] e (full := true) (s := s) (n := len) (cap := len) (Nat.le_refl _) (fun _ => rfl) hrl (0, 0)
    rw [List.append_nil, Array.toArray_toList] at hfr
    refine ⟨_, _, E, ?_, hfr⟩
    have hng : ¬ (2 ^ 24 < len * s) := by omega
    simp [Instr.buildSlice, run_underlying ht, run_sizeOf1 hs, h1, hlen, g1, newRow, hng]

theorem mks_ok (hh : HeapRel X0 base w h E) {t e : TypeId} (ht : P.underlying t = some (.slice e)) {s bytes : Nat} (hs : szT P e = some s) (hb : bytesT P e = some bytes) {zs : List DV} (hz : zerosT P e = some zs) (hzs : zs.length = s) (h0 : 0 < s)
    {k k' : IntKind} {l c : Int} (h1 : 0 ≤ l) (h2 : l ≤ c) (h3 : c ≤ big) (h4 : bytes ≤ 16384) :
    Gives P X0 base E w (Instr.makeSlice t (.int k l) (.int k' c)) (.ms h.length (l.toNat * s) 0 s l.toNat (l.toNat * s)) (h ++ [.cells (reps l.toNat zs)]) := by
  obtain ⟨L, rfl⟩ := Int.eq_ofNat_of_zero_le h1
  obtain ⟨C, rfl⟩ := Int.eq_ofNat_of_zero_le (show 0 ≤ c by omega)
  obtain ⟨z, z1, z2⟩ := run_zero1 hz w
  obtain ⟨i, i1, i2⟩ := run_bytes1 hb w
  have hzz := z2 E (FX X0 E) w
  simp only [big] at h3
  have wl : IntKind.i64.wrap (L : Int) = L := IntWalk.i64_in _ (by omega)
  have wc : IntKind.i64.wrap (C : Int) = C := IntWalk.i64_in _ (by omega)
  have hbig : (bytes : Int) * C ≤ 281474976710656 := by
    have h5 : bytes * C ≤ 16384 * 4294967296 := Nat.mul_le_mul h4 (by omega)
    have h6 : bytes * C ≤ 281474976710656 := Nat.le_trans h5 (by omega)
    have h7 : ((bytes * C : Nat) : Int) ≤ 281474976710656 := by omega
    rwa [Int.natCast_mul] at h7
  have hCL : C * s = L * s + (C - L) * s := by rw [← Nat.add_mul]; congr 1; omega
  obtain ⟨cells, hce, hcr⟩ : ∃ cells : Array Value, cells = (if C * s = 0 then #[] else (Array.range (C * s)).map (z.cells[· % z.cells.size]!)) ∧ RepA E (FX X0 E) w cells.toList (reps C zs) := by
    refine ⟨_, rfl, ?_⟩
    split
    · rename_i e0
      have : C = 0 := by rcases Nat.mul_eq_zero.1 e0 with g | g <;> omega
      subst this; simpa [reps] using RepA.nil
    · exact repA_reps hzz hzs h0 C
  have hcsz : cells.size = C * s := by have := hcr.1; simp [reps_length hzs] at this; exact this
  have hsplit : reps L zs = (reps C zs).take (L * s) := by
    apply List.ext_getElem?
    intro j
    rw [List.getElem?_take]
    split
    · rename_i hj; rw [reps_get hzs h0 L j hj, reps_get hzs h0 C j (by omega)]
    · rename_i hj; rw [List.getElem?_eq_none (by rw [reps_length hzs]; omega)]
  have hn := obj_new hh (vs := cells.toList.take (L * s)) (cs := reps L zs) (by rw [hsplit]; exact hcr.take _) (cells.toList.drop (L * s)) e
  rw [List.take_append_drop, Array.toArray_toList] at hn
  refine ⟨.slice (some ⟨w.heap.size, 0, none⟩) L C, w.alloc (.cells cells e), _, ?_, by simpa using hn.1, ?_, hn.2⟩
  · have key : (Instr.makeSlice t (.int k L) (.int k' C)).run P w = .ok (.slice (some ⟨w.heap.size, 0, none⟩) L C) (w.alloc (.cells (if C * s = 0 then #[] else (Array.range (C * s)).map (z.cells[· % z.cells.size]!)) e)) := by
      have c1 : ¬ ((C : Int) < 0) := by omega
      have c2 : ¬ ((L : Int) < 0) := by omega
      have c3 : ¬ ((C : Int) < L) := by omega
      have c4 : ¬ ((281474976710656 : Int) < bytes * C) := by omega
      simp only [Instr.makeSlice, Sem.run_bind, run_underlying ht, Result.andThen_ok, asInt, asIntOf, Sem.run_pure, i1, i2, wl, wc]
      by_cases e0 : C * s = 0
      · simp [c1, c2, c3, c4, run_sizeOf1 hs, e0, newRow, map_range0]
      · simp [c1, c2, c3, c4, run_sizeOf1 hs, e0, newRow, z1]
    rw [key, hce]
  · rw [← hh.len]
    have e1 : (reps L zs).length = L * s := reps_length hzs L
    simp only [Int.toNat_natCast]
    exact ms_mk (b := w.heap.size) (L := L * s) (arr := cells) (t := e) (by simp [e1]) rfl (heap_alloc_new w _) (by omega) (by omega) (fun _ => rfl) (by omega) (by omega)
end
end Go.Am
