/-
  The abstract machine, part 11: the other operations.
-/
import Derived.Test.YtjhakjeioppijaaDoorAmJ
set_option linter.unusedSimpArgs false
set_option linter.unusedVariables false
namespace Go.Am
open Go.RowKit
section
variable {P : Program} {X0 : Forb} {base : Nat} {w : World} {h : List AObj} {E : Env}

theorem visY_take (hh : HeapRel X0 base w h E) {v : Value} {d : DV} (hr : Rep E (FX X0 E) w v d) {m s : Nat} {cs : List DV} (hv : visY h d = some (m, cs)) {n : Nat} (hn : n ≤ m) (hfit : n * s ≤ cs.length) (hs : d.one = true → (∃ l, d = .str l) → s = 1) :
    ∃ vs, RepA E (FX X0 E) w vs (cs.take (n * s)) ∧ (Builtin.lenOf v).run P w = .ok m w ∧ (Builtin.firstCells s n v).run P w = .ok vs.toArray w := by
  cases d
  case str l =>
    have h1 := hs rfl ⟨l, rfl⟩
    subst h1
    simp [visY] at hv
    obtain ⟨rfl, rfl⟩ := hv
    cases hr with
    | str b _ hb =>
      subst hb
      have hsz : b.size = b.data.toList.length := by rw [Array.length_toList]; rfl
      refine ⟨_, (u8s_rep b.data.toList).take (n * 1), by simp only [Builtin.lenOf, Sem.run_pure, hsz], ?_⟩
      simp only [Builtin.firstCells, Sem.run_pure]
      congr 1
      apply Array.ext'
      rw [Array.toList_map, extract_data, Nat.sub_zero, List.drop_zero, Nat.mul_one, List.map_take]
  all_goals
    simp only [visY] at hv
    obtain ⟨a, cap, vs, rfl, hn', hR, h0, hc⟩ := visS_sound hh hr hv
    refine ⟨vs.take (n * s), hR.take _, by simp [Builtin.lenOf], ?_⟩
    cases a with
    | none => obtain ⟨rfl, rfl⟩ := h0 rfl; simp [Builtin.firstCells]
    | some ad =>
      have hl : (vs.take (n * s)).length = n * s := by simp [hR.1]; omega
      exact run_firstCells_some _ s n ad _ cap _ hl (cells_take _ (hc ad rfl))

theorem cpy_ok (hh : HeapRel X0 base w h E) {t u e : TypeId} (ht : P.underlying t = some (.slice e)) {s : Nat} (hs : szT P e = some s) {vx vy : Value} {y : DV} {id ver off n lim : Nat} (hx : Rep E (FX X0 E) w vx (.ms id ver off s n lim)) (hy : Rep E (FX X0 E) w vy y)
    {m : Nat} {cs l : List DV} (hv : visY h y = some (m, cs)) (ho : objAt h id = some l) (hver : l.length = ver) (hone : (cs.take (min m n * s)).all DV.one = true) (hfit : min m n * s ≤ cs.length) (hoff : off + n * s ≤ ver) (hstr : (∃ l, y = .str l) → s = 1) (ty : TypeId) :
    Gives P X0 base E w (Builtin.copy_ #[t, u] ty #[vx, vy]) (.int .i64 (min m n : Nat)) (h.set id (.cells (splice l off (cs.take (min m n * s))))) := by
  obtain ⟨b, arr, ty', cap, a, e1, e2, e3, e4, rfl, k1, k2, k3, k4, k5⟩ := ms_inv hh hx ho hver
  obtain ⟨vs, hR, l1, c1⟩ := visY_take (P := P) hh hy hv (n := min m n) (Nat.min_le_left _ _) hfit (fun _ => hstr)
  have hmul := mul_add_le (s := s) (Nat.min_le_right m n)
  have hlen : (cs.take (min m n * s)).length = min m n * s := by simp; omega
  by_cases hcap : 0 < cap
  · have ha := k3 hcap
    subst ha
    obtain ⟨w', E', g1, g2, g3, g4, _⟩ := store_run (P := P) hh ho e1 e2 e3 e4 hR hone (off := off) (by omega)
    refine ⟨.int .i64 (min m n : Nat), w', E', ?_, g2, .int _ _, g3⟩
    simp [Builtin.copy_, run_underlying ht, l1, run_sizeOf1 hs, show Nat.min m n = min m n from rfl, c1, g1, goInt]
  · have hn0 : n = 0 := by omega
    subst hn0
    have e0 : min m 0 = 0 := by omega
    rw [e0] at hR c1 hlen ⊢
    have hvs : vs = [] := by have := hR.1; simp at this; exact this
    subst hvs
    have hsp : splice l off (cs.take (0 * s)) = l := by simp [splice]
    rw [hsp]
    have hset : h.set id (.cells l) = h := by
      have := objAt_some ho
      obtain ⟨hlt, he⟩ := List.getElem?_eq_some_iff.1 this
      rw [← he]; exact List.set_getElem_self hlt
    rw [hset]
    exact gives_pure hh (v := .int .i64 0) (by simp [Builtin.copy_, run_underlying ht, l1, run_sizeOf1 hs, show Nat.min m 0 = 0 from by simp [Nat.min_def], c1, storeCells, goInt]) (by simpa using .int .i64 0)

theorem cpy_nil (hh : HeapRel X0 base w h E) {t u e : TypeId} (ht : P.underlying t = some (.slice e)) {s : Nat} (hs : szT P e = some s) {vx vy : Value} {y : DV} (hx : Rep E (FX X0 E) w vx .nils) (hy : Rep E (FX X0 E) w vy y)
    {m : Nat} {cs : List DV} (hv : visY h y = some (m, cs)) (hstr : (∃ l, y = .str l) → s = 1) (ty : TypeId) : Gives P X0 base E w (Builtin.copy_ #[t, u] ty #[vx, vy]) (.int .i64 0) h := by
  cases hx
  obtain ⟨vs, hR, l1, c1⟩ := visY_take (P := P) hh hy hv (n := 0) (s := s) (Nat.zero_le _) (by simp) (fun _ => hstr)
  exact gives_pure hh (v := .int .i64 0) (by simp [Builtin.copy_, run_underlying ht, l1, run_sizeOf1 hs, show Nat.min m 0 = 0 from by simp [Nat.min_def], c1, goInt]) (by simpa using .int .i64 0)

theorem zeroCells_rep {z : Value} {zs : List DV} {X : Forb} (hz : RepA E X w z.cells.toList zs) {s : Nat} (hs : zs.length = s) (h0 : 0 < s) (n : Nat) : RepA E X w (Builtin.zeroCells z.cells n).toList (reps n zs) := by
  have h1 : z.cells.size = s := by have := hz.1; rw [Array.length_toList] at this; omega
  have := repA_reps hz hs h0 n
  unfold Builtin.zeroCells
  rw [h1] at this ⊢
  exact this
theorem reps_all {zs : List DV} (h : zs.all DV.one = true) : ∀ n, (reps n zs).all DV.one = true
  | 0 => rfl
  | n + 1 => by rw [show reps (n + 1) zs = zs ++ reps n zs by simp [reps, List.replicate_succ], List.all_append, h, reps_all h n]; rfl
theorem clr_ok (hh : HeapRel X0 base w h E) {t e : TypeId} (ht : P.underlying t = some (.slice e)) {s : Nat} (hs : szT P e = some s) {zs : List DV} (hz : zerosT P e = some zs) {vx : Value} {id ver off n lim : Nat} (hx : Rep E (FX X0 E) w vx (.ms id ver off s n lim))
    {l : List DV} (ho : objAt h id = some l) (hver : l.length = ver) (hzs : zs.length = s) (h0 : 0 < s) (hone : zs.all DV.one = true) (hoff : off + n * s ≤ ver) (ty : TypeId) :
    Gives P X0 base E w (Builtin.clear_ #[t] ty #[vx]) (.tup []) (h.set id (.cells (splice l off (reps n zs)))) := by
  obtain ⟨b, arr, ty', cap, a, e1, e2, e3, e4, rfl, k1, k2, k3, k4, k5⟩ := ms_inv hh hx ho hver
  obtain ⟨z, z1, z2⟩ := run_zero1 hz w
  have hlen : (reps n zs).length = n * s := by simp [reps, hzs]
  cases n with
  | zero =>
    have hsp : splice l off (reps 0 zs) = l := by simp [splice, reps]
    rw [hsp]
    have hset : h.set id (.cells l) = h := by
      have := objAt_some ho
      obtain ⟨hlt, he⟩ := List.getElem?_eq_some_iff.1 this
      rw [← he]; exact List.set_getElem_self hlt
    rw [hset]
    exact gives_pure hh (v := .tuple #[]) (by simp [Builtin.clear_, run_underlying ht]) (RepA.nil.tup)
  | succ n =>
    have hcap : 0 < cap := by omega
    have ha := k3 hcap
    subst ha
    have hR := zeroCells_rep (z2 E (FX X0 E) w) hzs h0 (n + 1)
    obtain ⟨w', E', g1, g2, g3, g4, _⟩ := store_run (P := P) hh ho e1 e2 e3 e4 hR (reps_all hone _) (off := off) (by omega)
    refine ⟨.tuple #[], w', E', ?_, g2, RepA.nil.tup, g3⟩
    simp [Builtin.clear_, run_underlying ht, z1, g1]

theorem csb_ok (hh : HeapRel X0 base w h E) {src dst e : TypeId} (hs : P.underlying src = some .string) (hd : P.underlying dst = some (.slice e)) (he : P.underlying e = some (.int .u8)) {v : Value} {l : List UInt8} (hx : Rep E (FX X0 E) w v (.str l)) :
    Gives P X0 base E w (convert src dst v) (.sl false 1 l.length (u8s l)) h := by
  cases hx with
  | str s _ hs' =>
    subst hs'
    have hsz : s.size = s.data.toList.length := by rw [Array.length_toList]; rfl
    have hrun := run_bytes_of_string (P := P) w src dst e s hs hd he
    have ht := trans_drew X0 base E w
    have hfr := fresh_sl hh.drew ((u8s_rep s.data.toList).mono ht.env ht.keep) (List.replicate (grownCap w s.size 0 e - s.size) (Value.int .u8 0)) e (full := false) (s := 1) (n := s.data.toList.length) (cap := grownCap w s.size 0 e)
      (by rw [← hsz]; exact grownCap_ge w s.size 0 e) (fun hf => by simp at hf) (by simp [u8s]) ((bytesRow s (grownCap w s.size 0 e)).size, (bytesRow s (grownCap w s.size 0 e)).size + 1)
    have heq : ((s.data.toList.map fun b => Value.int .u8 b.toNat) ++ List.replicate (grownCap w s.size 0 e - s.size) (Value.int .u8 0)).toArray = bytesRow s (grownCap w s.size 0 e) := by
      apply Array.ext'; simp [bytesRow]
    rw [heq] at hfr
    rw [← hsz] at hfr ⊢
    exact ⟨_, _, E, hrun, hfr.1, hfr.2.1, ht.trans hfr.2.2⟩

theorem bytesOf_rep {X : Forb} {w : World} : ∀ {vs : List Value} {ds : List DV} {l : List UInt8}, RepA E X w vs ds → bytesOf ds = some l → ∃ ns : List Int, vs = ns.map (Value.int .u8) ∧ l = ns.map fun n => UInt8.ofNat n.toNat
  | [], [], l, _, h => by simp [bytesOf] at h; subst h; exact ⟨[], rfl, rfl⟩
  | [], _ :: _, _, h, _ => by simp [RepA] at h
  | _ :: _, [], _, h, _ => by simp [RepA] at h
  | v :: vs, d :: ds, l, hr, h => by
    have key : ∃ n, d = .int .u8 n ∧ ∃ l', bytesOf ds = some l' ∧ l = UInt8.ofNat n.toNat :: l' := by
      unfold bytesOf at h
      split at h
      · simp at *
      · rename_i n r he
        simp at he
        obtain ⟨rfl, rfl⟩ := he
        obtain ⟨l', h1, rfl⟩ := Option.map_eq_some_iff.1 h
        exact ⟨n, rfl, l', h1, rfl⟩
      · simp at h
    obtain ⟨n, rfl, l', h1, rfl⟩ := key
    obtain ⟨ns, rfl, rfl⟩ := bytesOf_rep hr.tail h1
    have := hr.head
    cases this
    exact ⟨n :: ns, rfl, rfl⟩

theorem cbs_ok (hh : HeapRel X0 base w h E) {src dst e : TypeId} (hs : P.underlying src = some (.slice e)) (hd : P.underlying dst = some .string) (he : P.underlying e = some (.int .u8)) {v : Value} {d : DV} (hx : Rep E (FX X0 E) w v d) {n : Nat} {cs : List DV} (hv : visS h d = some (n, cs)) (hn : n = cs.length)
    {l : List UInt8} (hb : bytesOf cs = some l) : Gives P X0 base E w (convert src dst v) (.str l) h := by
  obtain ⟨a, cap, vs, rfl, hn', hR, h0, hc⟩ := visS_sound hh hx hv
  obtain ⟨ns, rfl, rfl⟩ := bytesOf_rep hR hb
  have hl : ns.length = n := by have := hR.1; simp at this; omega
  cases a with
  | none =>
    obtain ⟨rfl, hz⟩ := h0 rfl
    simp at hz; subst hz
    exact gives_pure hh (run_convert_bytes_nil w src e hs he 0 cap dst hd) (.str _ _ (by simp))
  | some ad =>
    have hld : (loadCells ad n).run P w = .ok (ns.map (Value.int .u8)).toArray w := by
      have := run_loadCells_list (P := P) w ad (ns.map (Value.int .u8)) (hc ad rfl)
      simpa [hl] using this
    refine gives_pure hh (v := .string (strOfNums ns)) ?_ (.str _ _ (strOfNums_data ns))
    rw [run_convert_bytes_string w src dst e _ n cap hs he hd, run_bytesToString w _ n cap ns hld, foldl_push_bytes]
    simp [strOfNums, ByteArray.empty, ByteArray.emptyWithCapacity]
    rfl

theorem lenStr_ok (hh : HeapRel X0 base w h E) {t : TypeId} (ht : P.underlying t = some .string) {v : Value} {s : List UInt8} (hx : Rep E (FX X0 E) w v (.str s)) (ty : TypeId) : Gives P X0 base E w (Builtin.len_ #[t] ty #[v]) (.int .i64 s.length) h := by
  cases hx with
  | str b _ hb =>
    have hsz : b.size = b.data.toList.length := by rw [Array.length_toList]; rfl
    refine gives_pure hh (v := .int .i64 s.length) ?_ (.int _ _)
    simp only [Builtin.len_, List.getElem?_toArray, List.getElem?_cons_zero, Sem.run_bind, run_underlying ht, Result.andThen_ok, goInt, Sem.run_pure, hsz, hb]

theorem len_ok (hh : HeapRel X0 base w h E) {t e : TypeId} (ht : P.underlying t = some (.slice e)) {v : Value} {d : DV} {ts : List DV} {o : Opd} (hx : Rep E (FX X0 E) w v (ev ts o)) {h' : List AObj} (he : evOp (.len o) ts h = some (d, h')) (ty : TypeId) :
    Gives P X0 base E w (Builtin.len_ #[t] ty #[v]) d h' := by
  have fin : ∀ (a : Option Addr) (n c : Nat), v = .slice a n c → d = .int .i64 n → h' = h → Gives P X0 base E w (Builtin.len_ #[t] ty #[v]) d h' := by
    intro a n c ev ed eh
    subst ev ed eh
    refine gives_pure hh (v := .int .i64 n) ?_ (.int _ _)
    simp only [Builtin.len_, List.getElem?_toArray, List.getElem?_cons_zero, Sem.run_bind, run_underlying ht, Result.andThen_ok, goInt, Sem.run_pure]
  simp only [evOp] at he
  generalize ev ts o = x at hx he
  cases x <;> simp only at he <;> try (simp at he; done)
  case nils => simp at he; cases hx; exact fin none 0 0 rfl he.1.symm he.2.symm
  case sl full s n cs => simp at he; cases hx; exact fin _ n _ rfl he.1.symm he.2.symm
  case ms id ver off s n lim =>
    simp only [Option.bind_eq_some_iff] at he
    obtain ⟨l, hl, he⟩ := he
    split at he
    · rename_i hver
      simp at he
      obtain ⟨b, arr, ty', cap, a, e1, e2, e3, e4, rfl, _⟩ := ms_inv hh hx hl hver
      exact fin _ n _ rfl he.1.symm he.2.symm
    · simp at he

/-- what a value is, of which it is known whether it is nil -/
theorem nilKind_inv (hh : HeapRel X0 base w h E) {v : Value} {d : DV} (hr : Rep E (FX X0 E) w v d) {k : Nat} {a : Bool} (hk : nilKind h d = some (k, a)) :
    (k = 0 ∧ ((a = true ∧ v = .slice none 0 0) ∨ (a = false ∧ ∃ ad n c, v = .slice (some ad) n c))) ∨ (k = 1 ∧ ((a = true ∧ v = .pointer none) ∨ (a = false ∧ ∃ ad, v = .pointer (some ad)))) ∨
    (k = 2 ∧ a = true ∧ v = .map none) ∨ (k = 3 ∧ ((a = true ∧ v = .nilFunc) ∨ (a = false ∧ ∃ f x y, v = .func f x y))) ∨ (k = 4 ∧ ((a = true ∧ v = .nilIface) ∨ (a = false ∧ ∃ t x, v = .iface t x))) := by
  cases d <;> simp only [nilKind] at hk <;> try (simp at hk; done)
  case nilp => simp at hk; cases hr; simp [← hk.1, ← hk.2]
  case nilm => simp at hk; cases hr; simp [← hk.1, ← hk.2]
  case nilf => simp at hk; cases hr; simp [← hk.1, ← hk.2]
  case nili => simp at hk; cases hr; simp [← hk.1, ← hk.2]
  case nils => simp at hk; cases hr; simp [← hk.1, ← hk.2]
  case sl => simp at hk; cases hr; simp [← hk.1, ← hk.2]
  case ref => simp at hk; cases hr; simp [← hk.1, ← hk.2]
  case fn => simp at hk; cases hr; simp [← hk.1, ← hk.2]
  case iface => simp at hk; cases hr; simp [← hk.1, ← hk.2]
  case ms id ver off s n lim =>
    simp only [Option.bind_eq_some_iff] at hk
    obtain ⟨l, hl, hk⟩ := hk
    split at hk
    · rename_i hver
      simp at hk
      obtain ⟨b, arr, ty', cap, a, e1, e2, e3, e4, rfl, _⟩ := ms_inv hh hr hl hver
      simp [← hk.1, ← hk.2]
    · simp at hk
  case mp id ver off =>
    simp only [Option.bind_eq_some_iff] at hk
    obtain ⟨l, hl, hk⟩ := hk
    split at hk
    · rename_i hver
      simp at hk
      obtain ⟨b, arr, ty', e1, e2, e3, e4, rfl⟩ := mp_inv hh hr hl hver
      simp [← hk.1, ← hk.2]
    · simp at hk

theorem equal_nil {t : TypeId} {k : Nat} (hk : eqKind P t = some (k + 3)) {x y : Value} {a b : Bool} (hab : (a || b) = true)
    (hx : (k = 0 ∧ ((a = true ∧ x = .slice none 0 0) ∨ (a = false ∧ ∃ ad n c, x = .slice (some ad) n c))) ∨ (k = 1 ∧ ((a = true ∧ x = .pointer none) ∨ (a = false ∧ ∃ ad, x = .pointer (some ad)))) ∨
      (k = 2 ∧ a = true ∧ x = .map none) ∨ (k = 3 ∧ ((a = true ∧ x = .nilFunc) ∨ (a = false ∧ ∃ f u v, x = .func f u v))) ∨ (k = 4 ∧ ((a = true ∧ x = .nilIface) ∨ (a = false ∧ ∃ t u, x = .iface t u))))
    (hy : (k = 0 ∧ ((b = true ∧ y = .slice none 0 0) ∨ (b = false ∧ ∃ ad n c, y = .slice (some ad) n c))) ∨ (k = 1 ∧ ((b = true ∧ y = .pointer none) ∨ (b = false ∧ ∃ ad, y = .pointer (some ad)))) ∨
      (k = 2 ∧ b = true ∧ y = .map none) ∨ (k = 3 ∧ ((b = true ∧ y = .nilFunc) ∨ (b = false ∧ ∃ f u v, y = .func f u v))) ∨ (k = 4 ∧ ((b = true ∧ y = .nilIface) ∨ (b = false ∧ ∃ t u, y = .iface t u)))) :
    (Op.equalIn 10000 t x y).run P w = .ok (a && b) w := by
  show (Op.equalIn (9999 + 1) t x y).run P w = _
  generalize 9999 = d
  unfold eqKind at hk
  split at hk <;> simp at hk
  all_goals
    subst hk
    simp at hx hy
  case h_8 =>
    obtain ⟨rfl, rfl⟩ := hx
    obtain ⟨rfl, rfl⟩ := hy
    rename_i hu
    simp [Op.equalIn, run_underlying hu]
  all_goals
    rename_i hu
    rcases hx with ⟨rfl, hx⟩ | ⟨rfl, hx⟩ <;> rcases hy with ⟨rfl, hy⟩ | ⟨rfl, hy⟩ <;> first
      | (simp at hab; done)
      | (first
          | (obtain ⟨_, _, _, rfl⟩ := hx)
          | (obtain ⟨_, _, rfl⟩ := hx)
          | (obtain ⟨_, rfl⟩ := hx)
          | (obtain rfl := hx)) <;>
        (first
          | (obtain ⟨_, _, _, rfl⟩ := hy)
          | (obtain ⟨_, _, rfl⟩ := hy)
          | (obtain ⟨_, rfl⟩ := hy)
          | (obtain rfl := hy)) <;> simp [Op.equalIn, run_underlying hu]

theorem eqn_ok (hh : HeapRel X0 base w h E) {o1 o2 : Operand} {t : TypeId} {k : Nat} (hk : eqKind P t = some (k + 3)) (h4 : k = 4 → (isNilConst o1 || isNilConst o2) = true) {op : BinOp} (hop : op = .eql ∨ op = .neq) {x y : Value} {dx dy : DV} (hx : Rep E (FX X0 E) w x dx) (hy : Rep E (FX X0 E) w y dy)
    {a b : Bool} (ha : nilKind h dx = some (k, a)) (hb : nilKind h dy = some (k, b)) (hab : (a || b) = true) :
    Gives P X0 base E w (do eqGuard op t o1 o2 x y; binOp op t x y) (.bool (if decide (op = .neq) then !(a && b) else (a && b))) h := by
  have ix := nilKind_inv hh hx ha
  have iy := nilKind_inv hh hy hb
  have heq := equal_nil (w := w) hk hab ix iy
  have hg : (eqGuard op t o1 o2 x y).run P w = .ok () w := by
    by_cases e4 : k = 4
    · have hc := h4 e4
      have hcc : (match o1 with | .const _ => true | _ => false) = true ∨ (match o2 with | .const _ => true | _ => false) = true := by
        simp only [Bool.or_eq_true] at hc
        rcases hc with hc | hc
        · left; unfold isNilConst at hc; split at hc <;> simp_all
        · right; unfold isNilConst at hc; split at hc <;> simp_all
      unfold eqGuard
      rcases hop with rfl | rfl
      all_goals
        simp only [Bool.not_true, Bool.false_eq_true, if_false]
        subst e4
        simp at ix iy
        rcases ix with ⟨_, rfl⟩ | ⟨_, _, _, rfl⟩ <;> rcases iy with ⟨_, rfl⟩ | ⟨_, _, _, rfl⟩ <;> simp
        intro q1 q2
        rcases hcc with q | q
        · cases o1 <;> simp_all
        · cases o2 <;> simp_all
    · have h1 : (∀ c, x ≠ .agg c) := by rcases ix with ⟨_, ⟨_, rfl⟩ | ⟨_, _, _, _, rfl⟩⟩ | ⟨_, ⟨_, rfl⟩ | ⟨_, _, rfl⟩⟩ | ⟨_, _, rfl⟩ | ⟨_, ⟨_, rfl⟩ | ⟨_, _, _, _, rfl⟩⟩ | ⟨_, ⟨_, rfl⟩ | ⟨_, _, _, rfl⟩⟩ <;> simp
      have h2 : x ≠ .nilIface := by rcases ix with ⟨_, ⟨_, rfl⟩ | ⟨_, _, _, _, rfl⟩⟩ | ⟨_, ⟨_, rfl⟩ | ⟨_, _, rfl⟩⟩ | ⟨_, _, rfl⟩ | ⟨_, ⟨_, rfl⟩ | ⟨_, _, _, _, rfl⟩⟩ | ⟨q, ⟨_, rfl⟩ | ⟨_, _, _, rfl⟩⟩ <;> first | exact absurd q e4 | simp
      exact eqGuard_plain op t o1 o2 h1 h2 w
  have hbin : ∀ (r : Nat), (binOp .eql t x y).run P w = .ok (.bool (a && b)) w ∧ (binOp .neq t x y).run P w = .ok (.bool (!(a && b))) w := by
    intro r
    rcases ix with ⟨_, ⟨_, rfl⟩ | ⟨_, _, _, _, rfl⟩⟩ | ⟨_, ⟨_, rfl⟩ | ⟨_, _, rfl⟩⟩ | ⟨_, _, rfl⟩ | ⟨_, ⟨_, rfl⟩ | ⟨_, _, _, _, rfl⟩⟩ | ⟨_, ⟨_, rfl⟩ | ⟨_, _, _, rfl⟩⟩
    all_goals
      rcases iy with ⟨_, ⟨_, rfl⟩ | ⟨_, _, _, _, rfl⟩⟩ | ⟨_, ⟨_, rfl⟩ | ⟨_, _, rfl⟩⟩ | ⟨_, _, rfl⟩ | ⟨_, ⟨_, rfl⟩ | ⟨_, _, _, _, rfl⟩⟩ | ⟨_, ⟨_, rfl⟩ | ⟨_, _, _, rfl⟩⟩ <;> first
        | omega
        | exact ⟨by simp only [binOp, Op.equal, Op.maxDepth, Sem.run_bind, heq, Result.andThen_ok, Sem.run_pure], by simp only [binOp, Op.equal, Op.maxDepth, Sem.run_bind, heq, Result.andThen_ok, Sem.run_pure]⟩
  rcases hop with rfl | rfl
  · exact gives_pure (v := .bool (a && b)) hh (by simp only [Sem.run_bind, hg, Result.andThen_ok, (hbin 0).1]) (by simpa using .bool _)
  · exact gives_pure (v := .bool (!(a && b))) hh (by simp only [Sem.run_bind, hg, Result.andThen_ok, (hbin 0).2]) (by simpa using .bool _)
end
end Go.Am
