/-
  hex of the program as a contract; Format and FormatHalf.
-/
import Derived.Test.YthkcgeokfcbllaaVl
set_option linter.unusedSimpArgs false
set_option linter.unusedVariables false
namespace Go.Proofs.Ythkcgeokfcbllaa
open Go Go.RowKit Go.Am

theorem repA_one {E : Env} {X : Forb} {w : World} {vs : Array Value} {a : DV} (h : RepA E X w vs.toList [a]) : ∃ x, vs = #[x] ∧ Rep E X w x a := by
  obtain ⟨hl, hr⟩ := h
  obtain ⟨l⟩ := vs
  match l, hl, hr with
  | [x], _, hr => exact ⟨x, rfl, by simpa using hr 0 (by simp) (by simp)⟩
theorem rep_w8 {E : Env} {X : Forb} {w : World} {v : Value} {x : B8} (h : Rep E X w v (w8 x)) : v = .int .u8 x.toNat := by
  unfold w8 at h
  cases h; rfl
theorem sem_hex (b : List B8) (h0 : 0 < b.length) (h1 : b.length ≤ 1000) : Am.Sem P 60 [.sl false 1 b.length (b.map w8)] (.str (hexS b)) := by
  intro X w vs hX hr
  obtain ⟨x, rfl, hx⟩ := repA_one hr
  cases hx with
  | sl full s n cap a ds cv hn hf hl hc hx hr =>
    refine .of_ent (ent_of Try.func60 (by kernel_rfl) rfl) ((hex_walk b a cap w h1 (fun i h => ?_)).mono ?_)
    · have hi : i < (b.map w8).length := by simpa using h
      have hr' := hr i hi
      rw [List.getElem_map] at hr'
      rw [hc i hi, rep_w8 hr']
    · rintro e w' ⟨rfl, hb⟩
      exact ⟨_, rfl, .str _ _ rfl, hb⟩
noncomputable def T39 : Tbl := addT 60 (.pure c_hex) tbl0
theorem T39_hex : T39 60 = .pure c_hex := by simp [T39]
theorem T39_sound : T39.Sound P := addT_sound (con_sound fun b h => sem_hex b h.1 h.2) tbl0_sound
set_option maxRecDepth 20000 in
theorem runs_formathalf (d : List B8) (hd : d.length = 16) : Runs T39 a48 [.agg (d.map w8)] (.str (hexS d)) := by
  refine ⟨?_⟩
  have hc := c_hex_eq hd (by decide) (by decide)
  have ht : d.take 16 = d := List.take_of_length_le (by omega)
  simp (disch := first | omega | (simp [-List.map_take, -List.map_drop, -List.map_set, -List.map_append, -List.drop_one] <;> omega) | fail) [-List.map_take, -List.map_drop, -List.map_set, -List.map_append, -List.drop_one, a48, hd, T39_hex, hc, ht]
set_option maxRecDepth 20000 in
theorem runs_format (d : List B8) (hd : d.length = 32) : Runs T39 a46 [.agg (d.map w8)] (.str (sha ++ hexS d)) := by
  refine ⟨?_⟩
  have hc := c_hex_eq hd (by decide) (by decide)
  have ht : d.take 32 = d := List.take_of_length_le (by omega)
  have hlh := len_hexS d
  simp (disch := first | omega | (simp [-List.map_take, -List.map_drop, -List.map_set, -List.map_append, -List.drop_one] <;> omega) | fail) [-List.map_take, -List.map_drop, -List.map_set, -List.map_append, -List.drop_one, a46, hd, T39_hex, hc, ht, sha, hlh]
end Go.Proofs.Ythkcgeokfcbllaa
