/- Package tableau's New. -/
import Derived.Test.YtamjmcdlddocgaaTbO
namespace Go.Proofs.Ytamjmcdlddocgaa
open Go.ChangeShapes Go.WideShapes Go.RowKit Go.Maps
set_option linter.unusedVariables false
set_option linter.unusedSimpArgs false

abbrev TVal : TypeId := 119
theorem infoVal : (Try.prog.info? TVal).map (fun i => (i.zero, i.size, i.bytes)) = some (some (.agg #[.bool false, .string ⟨#[]⟩, .bool false, .string ⟨#[]⟩, .bool false, .string ⟨#[]⟩, .bool false, .string ⟨#[]⟩]), 8, 96) := by kernel_rfl
theorem made_vals (n : Nat) : (madeCells (Value.agg #[.bool false, .string ⟨#[]⟩, .bool false, .string ⟨#[]⟩, .bool false, .string ⟨#[]⟩, .bool false, .string ⟨#[]⟩]).cells (n * 8)).toList = nvs (List.replicate (2 * n) nv0) := by
  apply List.ext_getElem?
  intro i
  by_cases hi : i < n * 8
  · obtain ⟨k, j, hj, rfl⟩ : ∃ k j, j < 8 ∧ i = k * 8 + j := ⟨i / 8, i % 8, by omega, by omega⟩
    have hk : k < n := by omega
    obtain ⟨c0, c1, c2, c3⟩ := nvs_get (List.replicate (2 * n) nv0) (2 * k) nv0 (by rw [List.getElem?_replicate, if_pos (by omega)])
    obtain ⟨d0, d1, d2, d3⟩ := nvs_get (List.replicate (2 * n) nv0) (2 * k + 1) nv0 (by rw [List.getElem?_replicate, if_pos (by omega)])
    rw [show 2 * k * 4 = k * 8 by omega] at c0 c1 c2 c3
    rw [show (2 * k + 1) * 4 = k * 8 + 4 by omega] at d0 d1 d2 d3
    have hm : (k * 8 + j) % 8 = j := by omega
    rcases (by omega : j = 0 ∨ j = 1 ∨ j = 2 ∨ j = 3 ∨ j = 4 ∨ j = 5 ∨ j = 6 ∨ j = 7) with rfl | rfl | rfl | rfl | rfl | rfl | rfl | rfl
    · rw [Nat.add_zero] at *; rw [c0]; simp [madeCells, Value.cells, hi, hm, nv0]
    · rw [c1]; simp [madeCells, Value.cells, hi, hm, nv0]
    · rw [c2]; simp [madeCells, Value.cells, hi, hm, nv0]
    · rw [c3]; simp [madeCells, Value.cells, hi, hm, nv0]
    · rw [d0]; simp [madeCells, Value.cells, hi, hm, nv0]
    · rw [show k * 8 + 5 = k * 8 + 4 + 1 by omega, d1, show k * 8 + 4 + 1 = k * 8 + 5 by omega]; simp [madeCells, Value.cells, hi, hm, nv0]
    · rw [show k * 8 + 6 = k * 8 + 4 + 2 by omega, d2, show k * 8 + 4 + 2 = k * 8 + 6 by omega]; simp [madeCells, Value.cells, hi, hm, nv0]
    · rw [show k * 8 + 7 = k * 8 + 4 + 3 by omega, d3, show k * 8 + 4 + 3 = k * 8 + 7 by omega]; simp [madeCells, Value.cells, hi, hm, nv0]
  · rw [List.getElem?_eq_none (by simp [madeCells]; omega), List.getElem?_eq_none (by rw [nvs_len]; simp; omega)]
theorem flat_zero (n : Nat) : flatP (List.replicate n pr0) = List.replicate (2 * n) 0 := by
  induction n with
  | zero => rfl
  | succ n ih =>
    rw [List.replicate_succ, show flatP (pr0 :: List.replicate n pr0) = 0 :: 0 :: flatP (List.replicate n pr0) from rfl, ih, show 2 * (n + 1) = 2 * n + 1 + 1 by omega, List.replicate_succ, List.replicate_succ]
theorem make_vals (w : World) (n : Nat) (hn : n ≤ 100000) : ∃ w', (Instr.makeSlice 110 (.int .i64 (n : Int)) (.int .i64 (n : Int))).run Try.prog w = .ok (.slice (some ⟨w.heap.size, 0, none⟩) n n) w' ∧ NumBlk w' w.heap.size (flatP (List.replicate n pr0)) ∧ Keep NoS w w' := by
  obtain ⟨i0, hi0, hz0, hz1, hz2⟩ := info_parts infoVal
  obtain ⟨w', hr, ho, hg⟩ := run_make_full (P := Try.prog) w w.heap.size 110 TVal i0 (.agg #[.bool false, .string ⟨#[]⟩, .bool false, .string ⟨#[]⟩, .bool false, .string ⟨#[]⟩, .bool false, .string ⟨#[]⟩]) 8 Try.underlying110 hi0 hz0 hz1 .i64 .i64 n (by rw [hz2]; omega) (by unfold maxLen; omega) (Nat.le_refl _)
  rw [made_vals] at ho
  refine ⟨w', hr, ?_, Keep.of_below (grown_keep hg w.heap.size (Nat.le_refl _) (by simp)) (Nat.le_refl _)⟩
  rw [flat_zero]
  obtain ⟨hl, h | ⟨g, cap, cur, hv, hb, hg', hl', hm, hs, ht⟩⟩ := ho
  · exact absurd h.1 (by simp)
  · cases hv
    refine ⟨cur, List.replicate (2 * n) nv0, ⟨_, hg'⟩, AreN.zeros (2 * n), fun i x hx => ?_⟩
    have hi : i < 2 * n := by have := (List.getElem?_eq_some_iff.1 hx).1; simpa using this
    obtain ⟨c0, c1, c2, c3⟩ := nvs_get (List.replicate (2 * n) nv0) i x hx
    rw [← ht, List.getElem?_take, if_pos (by omega), Array.getElem?_toList] at c0 c1 c2 c3
    exact ⟨c0, c1, c2, c3⟩
/-- A line's first j numbers. -/
def lineK (of : List Int) (K j : Nat) : List Rat := (List.range K).map fun k => if k < j then ((of.getD k 0 : Int) : Rat) else 0
theorem lineK_len {of : List Int} {K j : Nat} : (lineK of K j).length = K := by simp [lineK]
theorem lineK_zero {of : List Int} {K : Nat} : lineK of K 0 = List.replicate K 0 := by
  apply List.ext_getElem
  · simp [lineK]
  · intro i h1 h2; simp [lineK]
theorem lineK_step {of : List Int} {K j : Nat} (hj : j < of.length) (hK : j < K) : (lineK of K j).set j ((of[j] : Int) : Rat) = lineK of K (j + 1) := by
  apply List.ext_getElem
  · simp [lineK]
  · intro i h1 h2
    rw [List.getElem_set]
    simp only [lineK, List.getElem_map, List.getElem_range]
    by_cases e : j = i
    · subst e
      rw [if_pos rfl, if_pos (Nat.lt_succ_self j), List.getD_eq_getElem?_getD, List.getElem?_eq_getElem hj]; rfl
    · rw [if_neg e]
      by_cases h1 : i < j
      · rw [if_pos h1, if_pos (by omega)]
      · rw [if_neg h1, if_neg (by omega)]
theorem lineK_all {of : List Int} {K : Nat} : lineK of K of.length = (List.range K).map fun k => ((of.getD k 0 : Int) : Rat) := by
  unfold lineK
  apply List.map_congr_left
  intro k _
  split
  · rfl
  · rename_i h
    rw [List.getD_eq_getElem?_getD, List.getElem?_eq_none (by omega)]; rfl
theorem start_take {n : Nat} {rows : List Rw} {k : Nat} (hk : k < rows.length) : (TS.start n rows).cells.take (k + 1) = (TS.start n rows).cells.take k ++ [lineK rows[k].of (n + rows.length) rows[k].of.length] := by
  have hl : (TS.start n rows).cells.length = rows.length := by simp [TS.start]
  rw [List.take_succ_eq_append_getElem (by omega), lineK_all]
  simp [TS.start]
end Go.Proofs.Ytamjmcdlddocgaa
