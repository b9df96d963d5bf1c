/- What the walks are told of arguments that are slices of integers. -/
import Derived.Test.YtihcbmkjfacooaaOpen
import Derived.Test.YtihcbmkjfacooaaFracV
namespace Go.Proofs.Ytihcbmkjfacooaa
open Go.ChangeShapes Go.WideShapes Go.ChangeAt Go.RowKit Go.Joins Go.Deep
set_option linter.unusedVariables false
set_option linter.unusedSimpArgs false

/-- A slice of integers, as it lies. -/
def IsInts (w : World) (v : Value) (l : List Int) : Prop :=
  ∃ oa cap, v = .slice oa l.length cap ∧ l.length ≤ maxLen ∧ (∀ x ∈ l, I64 x) ∧ (l ≠ [] → ∃ b o, oa = some ⟨b, o, none⟩ ∧ b < w.heap.size ∧ ∀ i x, l[i]? = some x → w.cell? ⟨b, o + i, none⟩ = some (.int .i64 x))

theorem cell_lt {w : World} {b o : Nat} {s : Option Nat} {v : Value} (h : w.cell? ⟨b, o, s⟩ = some v) : b < w.heap.size := by
  apply Classical.byContradiction
  intro h'
  rw [World.cell?, Array.getElem?_eq_none (Nat.le_of_not_lt h')] at h
  cases h

theorem IsInts.keep {w w' : World} {v : Value} {l : List Int} (h : IsInts w v l) (k : Keep NoS w w') : IsInts w' v l := by
  obtain ⟨oa, cap, h1, h2, h3, h4⟩ := h
  refine ⟨oa, cap, h1, h2, h3, fun hne => ?_⟩
  obtain ⟨b, o, e, hb, hc⟩ := h4 hne
  exact ⟨b, o, e, Nat.lt_of_lt_of_le hb k.size, fun i x hx => by rw [k.cell hb]; exact hc i x hx⟩

section
variable {H : Type} {enc : TypeId × Value → H} {W : World} {base : Nat} {d : DataW H} {p : List MemPlace} {v : Value}

set_option maxRecDepth 100000 in
theorem in_ints (hv : Value.okWide Try.prog W .any base 22 v) (h : DataW.Trod enc Try.prog W 0 (fun _ => true) true 22 v d p) : ∃ l, IsInts W v l := by
  obtain ⟨a0, len, cap, rfl⟩ := okWide_slice Try.underlying22 hv
  obtain ⟨fuel, hf⟩ := h
  rcases open_ints Try.underlying22 Try.underlying3 (by kernel_rfl) hf with ⟨hcs, _⟩ | ⟨a, len', cap', zs, hcs, _, hl, hm, hz, _, hc, hwf⟩
  · simp [Value.cells] at hcs
    obtain ⟨rfl, rfl, rfl⟩ := hcs
    exact ⟨[], none, 0, rfl, by simp, by simp, fun h => absurd rfl h⟩
  · simp [Value.cells] at hcs
    obtain ⟨rfl, rfl, rfl⟩ := hcs
    simp at hz
    refine ⟨zs.take len, some a, cap, by rw [List.length_take]; congr 1; omega, by rw [List.length_take]; omega, fun x hx => i64_of_wf (hwf x (List.mem_of_mem_take hx)), fun hne => ?_⟩
    have hp : 0 < zs.length := by
      rcases zs with _ | ⟨z, zs⟩
      · simp at hne
      · simp
    obtain ⟨b, off, rfl, hq⟩ := ints_at hc hp
    have hx : ∀ i x, (zs.take len)[i]? = some x → W.cell? ⟨b, off + i, none⟩ = some (.int .i64 x) := by
      intro i x hx
      obtain ⟨hi, hx⟩ := List.getElem?_eq_some_iff.1 hx
      rw [List.length_take] at hi
      rw [hq i (by omega), List.getD_eq_getElem?_getD, List.getElem?_eq_getElem (by omega)]
      rw [List.getElem_take] at hx
      simp [hx]
    exact ⟨b, off, rfl, cell_lt (hq 0 hp), hx⟩

end

theorem IsInts.at {w : World} {v : Value} {l : List Int} (h : IsInts w v l) {k : Nat} (hk : k < l.length) : ∃ b o cap, v = .slice (some ⟨b, o, none⟩) l.length cap ∧ b < w.heap.size ∧ w.cell? ⟨b, o + k, none⟩ = some (.int .i64 l[k]) := by
  obtain ⟨oa, cap, h1, h2, h3, h4⟩ := h
  obtain ⟨b, o, rfl, hb, hc⟩ := h4 (by rintro rfl; simp at hk)
  exact ⟨b, o, cap, h1, hb, hc k _ (List.getElem?_eq_getElem hk)⟩

theorem IsInts.form {w : World} {v : Value} {l : List Int} (h : IsInts w v l) {n : Nat} (hn : n = l.length) : ∃ oa cap, v = .slice oa n cap := by
  obtain ⟨oa, cap, rfl, _⟩ := h
  exact ⟨oa, cap, by rw [hn]⟩

theorem IsInts.same {w w' : World} {v : Value} {l : List Int} (h : IsInts w v l) (hc : ∀ a, w'.cell? a = w.cell? a) (hs : w.heap.size ≤ w'.heap.size) : IsInts w' v l := by
  obtain ⟨oa, cap, h1, h2, h3, h4⟩ := h
  refine ⟨oa, cap, h1, h2, h3, fun hne => ?_⟩
  obtain ⟨b, o, e, hb, hq⟩ := h4 hne
  exact ⟨b, o, e, by omega, fun i x hx => by rw [hc]; exact hq i x hx⟩

end Go.Proofs.Ytihcbmkjfacooaa
