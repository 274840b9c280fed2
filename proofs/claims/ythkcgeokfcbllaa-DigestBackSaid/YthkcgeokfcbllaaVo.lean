/-
  The laws DigestTexts and DigestBack.
-/
import Derived.Test.YthkcgeokfcbllaaVm
import Derived.Test.YthkcgeokfcbllaaVn
set_option linter.unusedSimpArgs false
set_option linter.unusedVariables false
namespace Go.Proofs.Ythkcgeokfcbllaa
open Go Go.Am

noncomputable def c_parse : List DV → Option DV := con (fun (_ : List UInt8) => True) (fun s => [.str s]) parseD
theorem c_parse_eq {s : List UInt8} : c_parse [.str s] = some (parseD s) :=
  con_eq' (A := fun (_ : List UInt8) => True) (a := s) (f := fun s => [.str s]) (g := parseD) (by intro a b _ _ e; simp only [List.cons.injEq, DV.str.injEq, and_true] at e; rw [e]) trivial
noncomputable def c_parseh : List DV → Option DV := con (fun (_ : List UInt8) => True) (fun s => [.str s]) (fun s => txD s 16)
theorem c_parseh_eq {s : List UInt8} : c_parseh [.str s] = some (txD s 16) :=
  con_eq' (A := fun (_ : List UInt8) => True) (a := s) (f := fun s => [.str s]) (g := fun s => txD s 16) (by intro a b _ _ e; simp only [List.cons.injEq, DV.str.injEq, and_true] at e; rw [e]) trivial
noncomputable def c_format : List DV → Option DV := con (fun (d : List B8) => d.length = 32) (fun d => [.agg (d.map w8)]) (fun d => .str (sha ++ hexS d))
theorem c_format_eq {d : List B8} (h : d.length = 32) : c_format [.agg (d.map w8)] = some (.str (sha ++ hexS d)) :=
  con_eq' (A := fun (d : List B8) => d.length = 32) (a := d) (f := fun d => [.agg (d.map w8)]) (g := fun d => .str (sha ++ hexS d)) (by intro a b _ _ e; simp only [List.cons.injEq, DV.agg.injEq, map_inj_w8, and_true] at e; rw [e]) h
noncomputable def c_formath : List DV → Option DV := con (fun (d : List B8) => d.length = 16) (fun d => [.agg (d.map w8)]) (fun d => .str (hexS d))
theorem c_formath_eq {d : List B8} (h : d.length = 16) : c_formath [.agg (d.map w8)] = some (.str (hexS d)) :=
  con_eq' (A := fun (d : List B8) => d.length = 16) (a := d) (f := fun d => [.agg (d.map w8)]) (g := fun d => .str (hexS d)) (by intro a b _ _ e; simp only [List.cons.injEq, DV.agg.injEq, map_inj_w8, and_true] at e; rw [e]) h
noncomputable def T40 : Tbl := addT 42 (.pure c_parse) (addT 43 (.pure c_parse) (addT 44 (.pure c_parseh) (addT 45 (.pure c_parseh)
  (addT 46 (.pure c_format) (addT 47 (.pure c_format) (addT 48 (.pure c_formath) (addT 49 (.pure c_formath) T10)))))))
theorem T40_parse : T40 42 = .pure c_parse := by simp [T40]
theorem T40_rparse : T40 43 = .pure c_parse := by simp [T40]
theorem T40_parseh : T40 44 = .pure c_parseh := by simp [T40]
theorem T40_rparseh : T40 45 = .pure c_parseh := by simp [T40]
theorem T40_format : T40 46 = .pure c_format := by simp [T40]
theorem T40_rformat : T40 47 = .pure c_format := by simp [T40]
theorem T40_formath : T40 48 = .pure c_formath := by simp [T40]
theorem T40_rformath : T40 49 = .pure c_formath := by simp [T40]
theorem T40_awake : T40 32 = .pure c_true := by simp [T40, T10, T7]
theorem T40_sound : T40.Sound P :=
  addT_sound (con_sound fun s _ => sem_runs mix T36_sound Try.func42 a42_ok (runs_parse s))
  (addT_sound (con_sound fun s _ => sem_runs mix T37_sound Try.func43 a43_ok (runs_refparse s))
  (addT_sound (con_sound fun s _ => sem_runs mix T36_sound Try.func44 a44_ok (runs_parsehalf s))
  (addT_sound (con_sound fun s _ => sem_runs mix T37_sound Try.func45 a45_ok (runs_refparsehalf s))
  (addT_sound (con_sound fun d h => sem_runs mix T39_sound Try.func46 a46_ok (runs_format d h))
  (addT_sound (con_sound fun d h => sem_runs mix T38_sound Try.func47 a47_ok (runs_refformat d h))
  (addT_sound (con_sound fun d h => sem_runs mix T39_sound Try.func48 a48_ok (runs_formathalf d h))
  (addT_sound (con_sound fun d h => sem_runs mix T38_sound Try.func49 a49_ok (runs_refformathalf d h)) T10_sound)))))))
set_option maxRecDepth 20000 in
theorem runs_texts (d h : List B8) (s : List UInt8) (hd : d.length = 32) (hh : h.length = 16) : Runs T40 a14 [.agg (d.map w8), .agg (h.map w8), .str s] (.bool true) := by
  refine ⟨?_⟩
  by_cases h1 : (300 : Int) < s.length
  · simp (disch := first | omega | (simp [-List.map_take, -List.map_drop, -List.map_set, -List.map_append, -List.drop_one] <;> omega) | fail) [-List.map_take, -List.map_drop, -List.map_set, -List.map_append, -List.drop_one, a14, h1]
  · obtain ⟨b1, o1, l1, e1⟩ := parse_shape s
    obtain ⟨b2, o2, l2, e2⟩ := tx_shape s 16
    have p1 := c_parse_eq (s := s)
    have p2 := c_parseh_eq (s := s)
    rw [e1] at p1
    rw [e2] at p2
    have p3 := c_format_eq hd
    have p4 := c_formath_eq hh
    simp (disch := first | omega | (simp [-List.map_take, -List.map_drop, -List.map_set, -List.map_append, -List.drop_one] <;> omega) | fail) [-List.map_take, -List.map_drop, -List.map_set, -List.map_append, -List.drop_one, a14, h1, T40_parse, T40_rparse, T40_parseh, T40_rparseh, T40_format, T40_rformat, T40_formath, T40_rformath, T40_awake, c_true_eq, p1, p2, p3, p4, l1, l2]
set_option maxRecDepth 20000 in
theorem runs_back (d h : List B8) (s : List UInt8) (hd : d.length = 32) (hh : h.length = 16) : Runs T40 a15 [.agg (d.map w8), .agg (h.map w8), .str s] (.bool true) := by
  refine ⟨?_⟩
  by_cases h1 : (300 : Int) < s.length
  · simp (disch := first | omega | (simp [-List.map_take, -List.map_drop, -List.map_set, -List.map_append, -List.drop_one] <;> omega) | fail) [-List.map_take, -List.map_drop, -List.map_set, -List.map_append, -List.drop_one, a15, h1]
  · obtain ⟨b1, o1, l1, e1⟩ := parse_shape s
    obtain ⟨b2, o2, l2, e2⟩ := tx_shape s 16
    have p1 := c_parse_eq (s := s)
    have p2 := c_parseh_eq (s := s)
    rw [e1] at p1
    rw [e2] at p2
    have p3 := c_format_eq hd
    have p4 := c_formath_eq hh
    have p5 := c_parse_eq (s := sha ++ hexS d)
    rw [parse_hex hd] at p5
    have p6 := c_parseh_eq (s := hexS h)
    rw [tx_hex hh] at p6
    have p7 := c_format_eq l1
    have p8 := c_formath_eq l2
    cases o1 with
    | true =>
      rw [parse_back e1] at p7
      cases o2 with
      | true =>
        rw [tx_back e2] at p8
        simp (disch := first | omega | (simp [-List.map_take, -List.map_drop, -List.map_set, -List.map_append, -List.drop_one] <;> omega) | fail) [-List.map_take, -List.map_drop, -List.map_set, -List.map_append, -List.drop_one, a15, h1, T40_parse, T40_parseh, T40_format, T40_formath, T40_awake, c_true_eq, p1, p2, p3, p4, p5, p6, p7, p8, l1, l2, hd, hh]
      | false =>
        simp (disch := first | omega | (simp [-List.map_take, -List.map_drop, -List.map_set, -List.map_append, -List.drop_one] <;> omega) | fail) [-List.map_take, -List.map_drop, -List.map_set, -List.map_append, -List.drop_one, a15, h1, T40_parse, T40_parseh, T40_format, T40_formath, T40_awake, c_true_eq, p1, p2, p3, p4, p5, p6, p7, p8, l1, l2, hd, hh]
    | false =>
      cases o2 with
      | true =>
        rw [tx_back e2] at p8
        simp (disch := first | omega | (simp [-List.map_take, -List.map_drop, -List.map_set, -List.map_append, -List.drop_one] <;> omega) | fail) [-List.map_take, -List.map_drop, -List.map_set, -List.map_append, -List.drop_one, a15, h1, T40_parse, T40_parseh, T40_format, T40_formath, T40_awake, c_true_eq, p1, p2, p3, p4, p5, p6, p7, p8, l1, l2, hd, hh]
      | false =>
        simp (disch := first | omega | (simp [-List.map_take, -List.map_drop, -List.map_set, -List.map_append, -List.drop_one] <;> omega) | fail) [-List.map_take, -List.map_drop, -List.map_set, -List.map_append, -List.drop_one, a15, h1, T40_parse, T40_parseh, T40_format, T40_formath, T40_awake, c_true_eq, p1, p2, p3, p4, p5, p6, p7, p8, l1, l2, hd, hh]
theorem ok_str {ds : List DV} (h : Ty.Ok .str ds) : ∃ s : List UInt8, ds = [.str s] := h
theorem shape_dhs {dvs : List DV} (h : Ty.Args [.arr 32 (.int .u8), .arr 16 (.int .u8), .str] dvs) : ∃ (d h : List B8) (s : List UInt8), d.length = 32 ∧ h.length = 16 ∧ dvs = [.agg (d.map w8), .agg (h.map w8), .str s] := by
  obtain ⟨ds, l, rfl, h1, d2, l2, rfl, h2, d3, l3, rfl, h3, rfl⟩ := h
  obtain ⟨x, hx, rfl⟩ := ok_words h1
  obtain ⟨y, hy, rfl⟩ := ok_words h2
  obtain ⟨s, rfl⟩ := ok_str h3
  exact ⟨x, y, s, hx, hy, rfl⟩
namespace digestTexts
theorem law_holds (dvs : List DV) (h : Ty.Args [.arr 32 (.int .u8), .arr 16 (.int .u8), .str] dvs) : Am.Sem P 14 dvs (.bool true) := by
  obtain ⟨d, k, s, hd, hh, rfl⟩ := shape_dhs h
  exact sem_runs mix T40_sound Try.func14 a14_ok (runs_texts d k s hd hh)
end digestTexts
namespace digestBack
theorem law_holds (dvs : List DV) (h : Ty.Args [.arr 32 (.int .u8), .arr 16 (.int .u8), .str] dvs) : Am.Sem P 15 dvs (.bool true) := by
  obtain ⟨d, k, s, hd, hh, rfl⟩ := shape_dhs h
  exact sem_runs mix T40_sound Try.func15 a15_ok (runs_back d k s hd hh)
end digestBack
end Go.Proofs.Ythkcgeokfcbllaa
