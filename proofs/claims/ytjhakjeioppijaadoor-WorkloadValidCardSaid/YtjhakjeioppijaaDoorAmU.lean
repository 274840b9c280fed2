/-
  The abstract machine, part 21: results, lists of words, loops' data.
-/
import Derived.Test.YtjhakjeioppijaaDoorAmT
set_option linter.unusedSimpArgs false
set_option linter.unusedVariables false
namespace Go.Am
open Go.RowKit

theorem snapWL_eq (f : DV → Option DV) : ∀ (l : List DV), snapWL f l = mapAll (snapW f) l
  | [] => rfl
  | d :: r => by simp only [snapWL, mapAll, snapWL_eq f r]
theorem snap_clean {h : List AObj} {k : Nat} {d : DV} (hp : pureD d = true) : snap h k d = some d := by
  cases k <;> exact snapW_pure _ d hp
theorem snapL_clean {h : List AObj} {k : Nat} : ∀ {l : List DV}, pureL l = true → snapL h k l = some l
  | [], _ => rfl
  | d :: r, hp => by
    simp only [pureL, Bool.and_eq_true] at hp
    have := snapL_clean (h := h) (k := k) hp.2
    simp only [snapL] at this
    simp only [snapL, mapAll, snap_clean hp.1, this, Option.bind_some, Option.map_some]
section
variable {h : List AObj} {k : Nat}
theorem snap_int {a : IntKind} {n : Int} : snap h k (.int a n) = some (.int a n) := snap_clean rfl
theorem snap_bool {b : Bool} : snap h k (.bool b) = some (.bool b) := snap_clean rfl
theorem snap_str {s : List UInt8} : snap h k (.str s) = some (.str s) := snap_clean rfl
theorem snap_nils : snap h k .nils = some .nils := snap_clean rfl
theorem snap_nilp : snap h k .nilp = some .nilp := snap_clean rfl
theorem snap_nilm : snap h k .nilm = some .nilm := snap_clean rfl
theorem snap_nilf : snap h k .nilf = some .nilf := snap_clean rfl
theorem snap_nili : snap h k .nili = some .nili := snap_clean rfl
theorem snap_agg {cs : List DV} : snap h k (.agg cs) = (snapL h k cs).map .agg := by cases k <;> simp only [snap, snapW, snapWL_eq, snapL] <;> rfl
theorem snap_tup {cs : List DV} : snap h k (.tup cs) = (snapL h k cs).map .tup := by cases k <;> simp only [snap, snapW, snapWL_eq, snapL] <;> rfl
theorem snap_sl {b : Bool} {s n : Nat} {cs : List DV} : snap h k (.sl b s n cs) = (snapL h k cs).map (.sl b s n) := by cases k <;> simp only [snap, snapW, snapWL_eq, snapL] <;> rfl
theorem snap_ref {cs : List DV} : snap h k (.ref cs) = (snapL h k cs).map .ref := by cases k <;> simp only [snap, snapW, snapWL_eq, snapL] <;> rfl
theorem snap_ms {id ver off s n lim : Nat} : snap h (k + 1) (.ms id ver off s n lim) = (objV h id ver).bind fun l => (snapL h k ((l.drop off).take (n * s))).map (.sl false s n) := by
  simp only [snap, snapW, objV, snapL]
  cases objAt h id with
  | none => rfl
  | some l =>
    simp only [Option.bind_some]
    split <;> rfl
theorem snap_mp {id ver off : Nat} : snap h (k + 1) (.mp id ver off) = (objV h id ver).bind fun l => (snapL h k (l.drop off)).map .ref := by
  simp only [snap, snapW, objV, snapL]
  cases objAt h id with
  | none => rfl
  | some l =>
    simp only [Option.bind_some]
    split <;> rfl
theorem snapL_nil : snapL h k [] = some [] := rfl
theorem snapL_cons {d : DV} {r : List DV} : snapL h k (d :: r) = (snap h k d).bind fun d => (snapL h k r).map fun r => d :: r := rfl

theorem outD_nil {t : List DV} : outD [] t h = some (.tup []) := rfl
theorem outD_tmp {i : Nat} {t : List DV} : outD [.tmp i] t h = snap h 3 (getT t i) := rfl
theorem outD_cell {i n : Nat} {agg : Bool} {t : List DV} : outD [.cell i n agg] t h = (loadD n agg (vis h (getT t i))).bind (snap h 3) := by
  unfold getT
  simp only [outD, resAll, mapAll, resOf]
  cases vis h (t.getD i .junk) with
  | none => rfl
  | some cs =>
    simp only [Option.bind_some, loadD]
    cases one n agg cs <;> rfl
def resD (t : List DV) (h : List AObj) : ARes → Option DV
  | .tmp i => some (t.getD i .junk)
  | .cell i n agg => loadD n agg (vis h (t.getD i .junk))
theorem resOf_eq {t : List DV} (r : ARes) : resOf ⟨t, h⟩ r = resD t h r := by
  cases r with
  | tmp i => rfl
  | cell i n agg =>
    simp only [resOf, resD]
    cases vis h (t.getD i .junk) <;> rfl
theorem resD_tmp {t : List DV} {i : Nat} : resD t h (.tmp i) = some (getT t i) := rfl
theorem resD_cell {t : List DV} {i n : Nat} {agg : Bool} : resD t h (.cell i n agg) = loadD n agg (vis h (getT t i)) := rfl
theorem outD_two {a b : ARes} {t : List DV} : outD [a, b] t h = (resD t h a).bind fun x => (resD t h b).bind fun y => snap h 3 (.tup [x, y]) := by
  simp only [outD, resAll, mapAll, resOf_eq]
  cases resD t h a <;> try rfl
  cases resD t h b <;> rfl
theorem resAll_nil {t : List DV} : resAll [] ⟨t, h⟩ = some (.tup []) := rfl
theorem resAll_one {a : ARes} {t : List DV} : resAll [a] ⟨t, h⟩ = resD t h a := by
  simp only [resAll, mapAll, resOf_eq]
  cases resD t h a <;> rfl
end

/-- many of one thing (simp writes List.replicate out) -/
def rep {α : Type} (n : Nat) (a : α) : List α := List.replicate n a
theorem length_rep {α : Type} {n : Nat} {a : α} : (rep n a).length = n := List.length_replicate
theorem map_rep {α β : Type} {n : Nat} {a : α} {f : α → β} : (rep n a).map f = rep n (f a) := List.map_replicate
theorem rep_w8 {n : Nat} {a : BitVec 8} : rep n (w8 a) = (rep n a).map w8 := map_rep.symm
theorem rep_w32 {n : Nat} {a : BitVec 32} : rep n (w32 a) = (rep n a).map w32 := map_rep.symm
theorem rep_w64 {n : Nat} {a : BitVec 64} : rep n (w64 a) = (rep n a).map w64 := map_rep.symm
theorem pureC_eq {c : List DV → Option DV} {args : List DV} {h : List AObj} : pureC c args h = if pureL args = true then c args else (snapL h 3 args).bind fun a => (c a).bind fun v => if scal v = true then some v else none := rfl

/-! lists of words -/
section
variable {α : Type} {f : α → DV}
theorem one_map {l : List α} {i : Nat} (hi : i < l.length) : one 1 false ((l.map f).drop i) = some (f l[i]) := by
  rw [List.drop_eq_getElem_cons (by simpa using hi)]
  simp [one]
theorem one_map0 {l : List α} (hi : 0 < l.length) : one 1 false (l.map f) = some (f l[0]) := by
  cases l with
  | nil => simp at hi
  | cons a r => simp [one]
theorem one_take {l : List α} {i n : Nat} (hi : i < l.length) (hn : 0 < n) : one 1 false (((l.map f).drop i).take n) = some (f l[i]) := by
  rw [List.drop_eq_getElem_cons (by simpa using hi)]
  cases n with
  | zero => omega
  | succ n => simp [one]
theorem one_agg {cs : List DV} {n : Nat} (hn : n ≤ cs.length) : one n true cs = some (.agg (cs.take n)) := by simp [one, hn]
theorem one_cons {c : DV} {r : List DV} : one 1 false (c :: r) = some c := by simp [one]
theorem splice_map {l : List α} {i : Nat} {x : α} (hi : i < l.length) : splice (l.map f) i [f x] = (l.set i x).map f := by
  unfold splice
  rw [← List.map_take, ← List.map_drop, List.set_eq_take_append_cons_drop, if_pos hi]
  simp
theorem splice_all {l l' : List DV} (hi : l.length = l'.length) : splice l 0 l' = l' := by
  unfold splice
  simp [← hi]
theorem pureL_map {l : List α} (hf : ∀ a, pureD (f a) = true) : pureL (l.map f) = true := by
  induction l with
  | nil => rfl
  | cons a r ih => simp [pureL, hf, ih]
theorem pureL_w8 {l : List (BitVec 8)} : pureL (l.map w8) = true := pureL_map pure_w8
theorem pureL_w32 {l : List (BitVec 32)} : pureL (l.map w32) = true := pureL_map pure_w32
theorem pureL_w64 {l : List (BitVec 64)} : pureL (l.map w64) = true := pureL_map pure_w64
theorem snapL_w8 {h : List AObj} {k : Nat} {l : List (BitVec 8)} : snapL h k (l.map w8) = some (l.map w8) := snapL_clean pureL_w8
theorem snapL_w32 {h : List AObj} {k : Nat} {l : List (BitVec 32)} : snapL h k (l.map w32) = some (l.map w32) := snapL_clean pureL_w32
theorem snapL_w64 {h : List AObj} {k : Nat} {l : List (BitVec 64)} : snapL h k (l.map w64) = some (l.map w64) := snapL_clean pureL_w64
theorem pureL_cons {d : DV} {r : List DV} : pureL (d :: r) = (pureD d && pureL r) := rfl
theorem pureL_nil : pureL [] = true := rfl
theorem map_inj_w8 {l l' : List (BitVec 8)} : (l.map w8 = l'.map w8) = (l = l') := propext ⟨fun e => (List.map_inj_right (fun a b h => by simpa using h)).1 e, fun e => by rw [e]⟩
theorem map_inj_w32 {l l' : List (BitVec 32)} : (l.map w32 = l'.map w32) = (l = l') := propext ⟨fun e => (List.map_inj_right (fun a b h => by simpa using h)).1 e, fun e => by rw [e]⟩
theorem map_inj_w64 {l l' : List (BitVec 64)} : (l.map w64 = l'.map w64) = (l = l') := propext ⟨fun e => (List.map_inj_right (fun a b h => by simpa using h)).1 e, fun e => by rw [e]⟩
end
theorem conv_i64_w8 (z : Int) : convD .u8 (.int .i64 z) = some (w8 (BitVec.ofInt 8 z)) := by simp only [convD, w8, wrap_w8]
theorem conv_i64_w32 (z : Int) : convD .u32 (.int .i64 z) = some (w32 (BitVec.ofInt 32 z)) := by simp only [convD, w32, wrap_w32]
theorem conv_i64_w64 (z : Int) : convD .u64 (.int .i64 z) = some (w64 (BitVec.ofInt 64 z)) := by simp only [convD, w64, wrap_w64]
theorem wrap_i64 {z : Int} (h1 : -9223372036854775808 ≤ z) (h2 : z < 9223372036854775808) : IntKind.i64.wrap z = z := by
  simp only [IntKind.wrap, IntKind.signed, IntKind.bits, Bool.true_and, decide_eq_true_eq, ge_iff_le]
  split <;> omega

/-! i64 -/
section
variable {a b : Int}
theorem badd_i : binOpD .add (.int .i64 a) (.int .i64 b) = some (.int .i64 (IntKind.i64.wrap (a + b))) := rfl
theorem bsub_i : binOpD .sub (.int .i64 a) (.int .i64 b) = some (.int .i64 (IntKind.i64.wrap (a - b))) := rfl
theorem bmul_i : binOpD .mul (.int .i64 a) (.int .i64 b) = some (.int .i64 (IntKind.i64.wrap (a * b))) := rfl
theorem bquo_i (h : b ≠ 0) : binOpD .quo (.int .i64 a) (.int .i64 b) = some (.int .i64 (IntKind.i64.wrap (a.tdiv b))) := by simp [binOpD, intOp, h]
theorem brem_i (h : b ≠ 0) : binOpD .rem (.int .i64 a) (.int .i64 b) = some (.int .i64 (a.tmod b)) := by simp [binOpD, intOp, h]
theorem beql_i : binOpD .eql (.int .i64 a) (.int .i64 b) = some (.bool (decide (a = b))) := by
  simp only [binOpD, intOp, if_true]
  congr 2
  first | done | (rw [Bool.eq_iff_iff]; simp)
theorem bneq_i : binOpD .neq (.int .i64 a) (.int .i64 b) = some (.bool (decide (a ≠ b))) := by
  simp only [binOpD, intOp, if_true]
  congr 2
  first | done | (rw [Bool.eq_iff_iff]; simp)
theorem blss_i : binOpD .lss (.int .i64 a) (.int .i64 b) = some (.bool (decide (a < b))) := rfl
theorem bleq_i : binOpD .leq (.int .i64 a) (.int .i64 b) = some (.bool (decide (a ≤ b))) := rfl
theorem bgtr_i : binOpD .gtr (.int .i64 a) (.int .i64 b) = some (.bool (decide (b < a))) := rfl
theorem bgeq_i : binOpD .geq (.int .i64 a) (.int .i64 b) = some (.bool (decide (b ≤ a))) := rfl
end

/-! places: with conditions for omega -/
section
variable {h : List AObj} {s n len id ver off lim : Nat} {cs : List DV} {f : Bool} {i a b : Int}
theorem idxSD_sl (h0 : 0 ≤ i) (h1 : i < n) : idxSD h s (.sl f s n cs) i = some (.ref ((cs.drop (i.toNat * s)).take s)) := by simp [idxSD, h0, h1]
theorem idxSD_ms (h0 : 0 ≤ i) (h1 : i < n) : idxSD h s (.ms id ver off s n lim) i = (objV h id ver).map fun _ => .mp id ver (off + i.toNat * s) := by simp [idxSD, h0, h1]
theorem idxAD_ref (h0 : 0 ≤ i) (h1 : i < len) : idxAD h len s (.ref cs) i = some (.ref ((cs.drop (i.toNat * s)).take s)) := by simp [idxAD, h0, h1]
theorem idxAD_mp (h0 : 0 ≤ i) (h1 : i < len) : idxAD h len s (.mp id ver off) i = (objV h id ver).map fun _ => .mp id ver (off + i.toNat * s) := by simp [idxAD, h0, h1]
theorem idxVD_agg {agg : Bool} (h0 : 0 ≤ i) (h1 : i < len) (h2 : i.toNat * n + n ≤ cs.length) : idxVD len n agg (.agg cs) i = one n agg (cs.drop (i.toNat * n)) := by simp [idxVD, h0, h1, h2]
theorem idxStrD_str {l : List UInt8} (h0 : 0 ≤ i) (h1 : i.toNat < l.length) : idxStrD (.str l) i = some (w8 (l.getD i.toNat 0).toBitVec) := by
  simp only [idxStrD, h0, if_true, List.getElem?_eq_getElem h1, Option.map_some, w8, List.getD_eq_getElem?_getD, Option.getD_some]
  rfl
theorem boundsD_nn : boundsD n none none = some (0, n) := by simp [boundsD]
theorem boundsD_l {k : IntKind} (h0 : 0 ≤ a) (h1 : a ≤ n) : boundsD n (some (.int k a)) none = some (a.toNat, n) := by simp [boundsD, iD, h0, h1]
theorem boundsD_h {k : IntKind} (h0 : 0 ≤ a) (h1 : a ≤ n) : boundsD n none (some (.int k a)) = some (0, a.toNat) := by simp [boundsD, iD, h0, h1]
theorem boundsD_lh {k k' : IntKind} (h0 : 0 ≤ a) (h1 : a ≤ b) (h2 : b ≤ n) : boundsD n (some (.int k a)) (some (.int k' b)) = some (a.toNat, b.toNat) := by simp [boundsD, iD, h0, h1, h2]
theorem slcSD_sl {lo hi : Option DV} {l m : Nat} (hb : boundsD n lo hi = some (l, m)) : slcSD h s (.sl f s n cs) lo hi none = some (.sl (f && m == n) s (m - l) ((cs.drop (l * s)).take ((m - l) * s))) := by simp [slcSD, hb]
theorem slcSD_nils {lo hi : Option DV} {p : Nat × Nat} (hb : boundsD 0 lo hi = some p) : slcSD h s .nils lo hi none = some .nils := by simp [slcSD, hb]
theorem slcSD_ms {lo hi : Option DV} {l m : Nat} (hb : boundsD n lo hi = some (l, m)) : slcSD h s (.ms id ver off s n lim) lo hi none = (objV h id ver).map fun _ => .ms id ver (off + l * s) s (m - l) lim := by simp [slcSD, hb]
theorem slcAD_ref {lo hi : Option DV} {l m : Nat} (hb : boundsD len lo hi = some (l, m)) (hl : len * s ≤ cs.length) : slcAD h len s (.ref cs) lo hi = some (.sl (m == len) s (m - l) ((cs.drop (l * s)).take ((m - l) * s))) := by simp [slcAD, hb, hl]
theorem slcAD_mp {lo hi : Option DV} {l m : Nat} (hb : boundsD len lo hi = some (l, m)) (hl : off + len * s ≤ ver) : slcAD h len s (.mp id ver off) lo hi = (objV h id ver).map fun _ => .ms id ver (off + l * s) s (m - l) (off + len * s) := by
  simp [slcAD, hb, hl]
  cases objV h id ver <;> rfl
theorem slcStrD_str {l : List UInt8} {lo hi : Option DV} {u m : Nat} (hb : boundsD l.length lo hi = some (u, m)) : slcStrD (.str l) lo hi = some (.str ((l.drop u).take (m - u))) := by simp [slcStrD, hb]
end
theorem storeO_w8 {h : List AObj} {id off : Nat} {L : List (BitVec 8)} {x : BitVec 8} (hi : off < L.length) : storeO h id 1 off (w8 x) (some (L.map w8)) = some (.junk, h.set id (.cells ((L.set off x).map w8))) := by
  simp only [storeO, cells_w8, List.length_cons, List.length_nil, List.length_map, List.all_cons, List.all_nil, one_w8, Bool.and_self, splice_map hi]
  rw [if_pos ⟨trivial, by omega, trivial⟩]
theorem storeO_w32 {h : List AObj} {id off : Nat} {L : List (BitVec 32)} {x : BitVec 32} (hi : off < L.length) : storeO h id 1 off (w32 x) (some (L.map w32)) = some (.junk, h.set id (.cells ((L.set off x).map w32))) := by
  simp only [storeO, cells_w32, List.length_cons, List.length_nil, List.length_map, List.all_cons, List.all_nil, one_w32, Bool.and_self, splice_map hi]
  rw [if_pos ⟨trivial, by omega, trivial⟩]
theorem storeO_agg {h : List AObj} {id n : Nat} {l cs : List DV} (hn : cs.length = n) (hl : l.length = n) (ho : cs.all DV.one = true) : storeO h id n 0 (.agg cs) (some l) = some (.junk, h.set id (.cells cs)) := by
  subst hn
  have e : (DV.agg cs).cells = cs := rfl
  simp only [storeO, e, ho, hl, splice_all hl]
  simp
theorem all_one_w8 {l : List (BitVec 8)} : (l.map w8).all DV.one = true := by simp
theorem all_one_w32 {l : List (BitVec 32)} : (l.map w32).all DV.one = true := by simp
theorem storeO_agg8 {h : List AObj} {id n : Nat} {l : List DV} {L : List (BitVec 8)} (hn : L.length = n) (hl : l.length = n) : storeO h id n 0 (.agg (L.map w8)) (some l) = some (.junk, h.set id (.cells (L.map w8))) := storeO_agg (by simpa using hn) hl all_one_w8
theorem storeO_agg32 {h : List AObj} {id n : Nat} {l L : List (BitVec 32)} (hn : L.length = n) (hl : l.length = n) : storeO h id n 0 (.agg (L.map w32)) (some (l.map w32)) = some (.junk, h.set id (.cells (L.map w32))) := storeO_agg (by simpa using hn) (by simpa using hl) all_one_w32
theorem storeO_agg8' {h : List AObj} {id n : Nat} {l L : List (BitVec 8)} (hn : L.length = n) (hl : l.length = n) : storeO h id n 0 (.agg (L.map w8)) (some (l.map w8)) = some (.junk, h.set id (.cells (L.map w8))) := storeO_agg (by simpa using hn) (by simpa using hl) all_one_w8
theorem load_agg8 {L : List (BitVec 8)} {n : Nat} (hn : L.length = n) : one n true (L.map w8) = some (.agg (L.map w8)) := by subst hn; simp [one, List.take_of_length_le]
theorem load_agg32 {L : List (BitVec 32)} {n : Nat} (hn : L.length = n) : one n true (L.map w32) = some (.agg (L.map w32)) := by subst hn; simp [one, List.take_of_length_le]
theorem getD_w8 {l : List (BitVec 8)} {i n : Nat} (hi : i < l.length) (hn : 0 < n) : one 1 false (((l.map w8).drop i).take n) = some (w8 (l.getD i 0#8)) := by rw [one_take hi hn]; simp [List.getElem?_eq_getElem hi]
theorem getD_w32 {l : List (BitVec 32)} {i n : Nat} (hi : i < l.length) (hn : 0 < n) : one 1 false (((l.map w32).drop i).take n) = some (w32 (l.getD i 0#32)) := by rw [one_take hi hn]; simp [List.getElem?_eq_getElem hi]
theorem getD_w8' {l : List (BitVec 8)} {i : Nat} (hi : i < l.length) : one 1 false ((l.map w8).drop i) = some (w8 (l.getD i 0#8)) := by rw [one_map hi]; simp [List.getElem?_eq_getElem hi]
theorem getD_w32' {l : List (BitVec 32)} {i : Nat} (hi : i < l.length) : one 1 false ((l.map w32).drop i) = some (w32 (l.getD i 0#32)) := by rw [one_map hi]; simp [List.getElem?_eq_getElem hi]

theorem getD_w80 {l : List (BitVec 8)} (hi : 0 < l.length) : one 1 false (l.map w8) = some (w8 (l.getD 0 0#8)) := by rw [one_map0 hi]; simp [List.getElem?_eq_getElem hi]
theorem getD_w320 {l : List (BitVec 32)} (hi : 0 < l.length) : one 1 false (l.map w32) = some (w32 (l.getD 0 0#32)) := by rw [one_map0 hi]; simp [List.getElem?_eq_getElem hi]
theorem getD_w80t {l : List (BitVec 8)} {n : Nat} (hi : 0 < l.length) (hn : 0 < n) : one 1 false ((l.map w8).take n) = some (w8 (l.getD 0 0#8)) := by
  have := one_take (f := w8) hi hn
  rw [List.drop_zero] at this
  rw [this]; simp [List.getElem?_eq_getElem hi]
theorem getD_w320t {l : List (BitVec 32)} {n : Nat} (hi : 0 < l.length) (hn : 0 < n) : one 1 false ((l.map w32).take n) = some (w32 (l.getD 0 0#32)) := by
  have := one_take (f := w32) hi hn
  rw [List.drop_zero] at this
  rw [this]; simp [List.getElem?_eq_getElem hi]
theorem objV_last {r : List AObj} {l : List DV} {ver : Nat} : objV (r ++ [.cells l]) r.length ver = if l.length = ver then some l else none := by simp [objV, objAt]

/-- parts that lie one behind the other -/
def seqD : Nat → List (Nat × Nat × DV) → Option (List DV)
  | _, [] => some []
  | k, (off, n, v) :: r => if off = k ∧ v.cells.length = n then (seqD (k + n) r).map fun l => v.cells ++ l else none
theorem fillD_seq : ∀ (ps : List (Nat × Nat × DV)) (pre zs vs : List DV), seqD pre.length ps = some vs → vs.length = zs.length → fillD (pre ++ zs) ps = some (pre ++ vs)
  | [], pre, zs, vs, h, hl => by
    simp [seqD] at h; subst h
    have : zs = [] := List.eq_nil_of_length_eq_zero (by simpa using hl.symm)
    simp [fillD, this]
  | (off, n, v) :: r, pre, zs, vs, h, hl => by
    simp only [seqD] at h
    split at h
    · rename_i hc
      obtain ⟨rfl, rfl⟩ := hc
      obtain ⟨l, hl', rfl⟩ := Option.map_eq_some_iff.1 h
      have hz : v.cells.length ≤ zs.length := by simp at hl; omega
      simp only [fillD]
      rw [if_pos ⟨trivial, by simp; omega⟩]
      have e : splice (pre ++ zs) pre.length v.cells = (pre ++ v.cells) ++ zs.drop v.cells.length := by simp [splice, List.drop_append]
      rw [e, fillD_seq r (pre ++ v.cells) (zs.drop v.cells.length) l (by simpa using hl') (by simp at hl ⊢; omega)]
      simp
    · simp at h
theorem buildD_seq {zs vs : List DV} {ps : List (Nat × Nat × DV)} (hs : seqD 0 ps = some vs) (hl : vs.length = zs.length) (hk : ps.all (fun p => p.2.2.known) = true) : buildD zs ps = some (.agg vs) := by
  unfold buildD
  rw [if_pos hk]
  have := fillD_seq ps [] zs vs hs hl
  simp at this
  rw [this]; rfl

/-- a loop's data: n rounds, each with its number -/
def iter {α : Type} (f : Nat → α → α) : Nat → α → α
  | 0, a => a
  | n + 1, a => f n (iter f n a)
theorem iter_zero {α : Type} {f : Nat → α → α} {a : α} : iter f 0 a = a := rfl
theorem iter_succ {α : Type} {f : Nat → α → α} {n : Nat} {a : α} : iter f (n + 1) a = f n (iter f n a) := rfl

/-- forgotten temporaries; temporaries that are not set yet -/
def js : Nat → List DV
  | 0 => []
  | n + 1 => .junk :: js n
def us : Nat → List DV
  | 0 => []
  | n + 1 => .tup [] :: us n
theorem us_eq (n : Nat) : List.replicate n (DV.tup []) = us n := by
  induction n with
  | zero => rfl
  | succ n ih => rw [List.replicate_succ, ih]; rfl
theorem startT_eq {n : Nat} {args : List DV} : startT n args = args ++ us (n - args.length) := by unfold startT; rw [us_eq]
theorem js_succ {n : Nat} : js (n + 1) = .junk :: js n := rfl
theorem us_succ {n : Nat} : us (n + 1) = .tup [] :: us n := rfl
theorem js_zero : js 0 = [] := rfl
theorem us_zero : us 0 = [] := rfl

/-- the part of 'Weak' that is looked at cell by cell -/
theorem weak_same {n0 : Nat} {t t' : List DV} {h h' : List AObj} (h1 : weakL t t') (h2 : h' = h) : Weak n0 ⟨t, h⟩ ⟨t', h'⟩ := .inl ⟨h1, .inl h2⟩
theorem weak_drop {n0 : Nat} {t t' : List DV} {h h' tail : List AObj} (h1 : weakL t t') (h2 : h = h' ++ tail) (h3 : n0 ≤ h'.length) (h4 : belowL h'.length t' = true) (h5 : belowH h'.length h' = true) : Weak n0 ⟨t, h⟩ ⟨t', h'⟩ :=
  .inl ⟨h1, .inr ⟨tail, h2, h3, h4, h5⟩⟩
theorem weakL_nil : weakL [] [] = True := rfl
theorem weakL_junk {a : DV} {r s : List DV} : weakL (a :: r) (.junk :: s) = weakL r s := by simp [weakL]
theorem weakL_same {a : DV} {r s : List DV} : weakL (a :: r) (a :: s) = weakL r s := by simp [weakL]
theorem weakL_cons {a b : DV} {r s : List DV} (h : b = a) : weakL (a :: r) (b :: s) = weakL r s := by simp [weakL, h]
attribute [simp] snapL_w8 snapL_w32 snapL_w64 length_rep rep_w8 rep_w32 rep_w64 pureC_eq snap_int snap_bool snap_str snap_nils snap_nilp snap_nilm snap_nilf snap_nili snap_agg snap_tup snap_sl snap_ref snap_ms snap_mp snapL_nil snapL_cons outD_nil outD_tmp outD_cell resD_tmp resD_cell outD_two resAll_nil resAll_one
  storeO_w8 storeO_w32 storeO_agg32 storeO_agg8' load_agg8 load_agg32 getD_w80 getD_w320 getD_w80t getD_w320t objV_last getD_w8 getD_w32 getD_w8' getD_w32' idxSD_sl idxSD_ms idxAD_ref idxAD_mp idxVD_agg idxStrD_str boundsD_nn boundsD_l boundsD_h boundsD_lh wrap_i64 one_cons splice_map pureL_w8 pureL_w32 pureL_w64 pureL_cons pureL_nil pureD map_inj_w8 map_inj_w32 map_inj_w64 conv_i64_w8 conv_i64_w32 conv_i64_w64
  badd_i bsub_i bmul_i bquo_i brem_i beql_i bneq_i blss_i bleq_i bgtr_i bgeq_i iter_zero weakL_nil weakL_junk weakL_same startT_eq js_succ us_succ js_zero us_zero
end Go.Am
