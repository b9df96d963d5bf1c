/- What the walks are told of arguments that are rows. -/
import Derived.Test.YtihcbmkjfacooaaApp
import Derived.Lib.SmallJoins
namespace Go.Proofs.Ytihcbmkjfacooaa
open Go.ChangeShapes Go.WideShapes Go.ChangeAt Go.RowKit Go.Joins Go.Deep
set_option linter.unusedVariables false
set_option linter.unusedSimpArgs false

/-- A row, plainly. -/
structure Rw where
  of : List Int
  kind : Int
  to : Int

/-- A slice whose length is within its capacity. -/
def CapOK (v : Value) : Prop := ∃ oa n cap, v = .slice oa n cap ∧ n ≤ cap
theorem OwnI.cap {w : World} {base : Nat} {v : Value} {xs : List Int} (h : OwnI w base v xs) : CapOK v := by
  obtain ⟨_, h | ⟨g, cap, cur, hv, hb, hg, hl, _⟩⟩ := h
  · exact ⟨none, 0, 0, h.1, Nat.le_refl _⟩
  · exact ⟨_, _, cap, hv, hl⟩

/-- A row, as it lies. -/
def IsRow (w : World) (v : Value) (r : Rw) : Prop := ∃ sv, v = .agg #[sv, .int .i64 r.kind, .int .i64 r.to] ∧ IsInts w sv r.of ∧ I64 r.kind ∧ I64 r.to ∧ CapOK sv

theorem IsRow.keep {w w' : World} {v : Value} {r : Rw} (h : IsRow w v r) (k : Keep NoS w w') : IsRow w' v r := by
  obtain ⟨sv, hv, hi, h1, h2⟩ := h
  exact ⟨sv, hv, hi.keep k, h1, h2⟩

section
variable {H : Type} {enc : TypeId × Value → H} {W : World} {base : Nat} {d : DataW H} {p : List MemPlace} {v : Value}

set_option maxRecDepth 100000 in
theorem ints_trod {n : Nat} {c : Value} {y : DataW H × List MemPlace} (hf : DataW.trod enc Try.prog W 0 (fun _ => true) true n 22 [c] = some y) : ∃ l, IsInts W c l ∧ CapOK c := by
  rcases open_ints Try.underlying22 Try.underlying3 (by kernel_rfl) hf with ⟨hcs, _⟩ | ⟨a, len, cap, zs, hcs, _, hl, hm, hz, _, hc, hwf⟩
  · simp at hcs
    subst hcs
    exact ⟨[], ⟨none, 0, rfl, by simp, by simp, fun h => absurd rfl h⟩, none, 0, 0, rfl, Nat.le_refl _⟩
  · simp at hcs
    subst hcs
    simp at hz
    refine ⟨zs.take len, ⟨some a, cap, by rw [List.length_take]; congr 1; omega, by rw [List.length_take]; omega, fun x hx => i64_of_wf (hwf x (List.mem_of_mem_take hx)), fun hne => ?_⟩, _, _, _, rfl, hl⟩
    have hp : 0 < zs.length := by
      rcases zs with _ | ⟨z, zs⟩
      · simp at hne
      · simp
    obtain ⟨b, off, rfl, hq⟩ := ints_at hc hp
    have hx : ∀ i x, (zs.take len)[i]? = some x → W.cell? ⟨b, off + i, none⟩ = some (.int .i64 x) := by
      intro i x hx
      obtain ⟨hi, hx⟩ := List.getElem?_eq_some_iff.1 hx
      rw [List.length_take] at hi
      rw [hq i (by omega), List.getD_eq_getElem?_getD, List.getElem?_eq_getElem (by omega)]
      rw [List.getElem_take] at hx
      simp [hx]
    exact ⟨b, off, rfl, cell_lt (hq 0 hp), hx⟩

set_option maxRecDepth 100000 in
theorem in_row (hv : Value.okWide Try.prog W .any base 24 v) (h : DataW.Trod enc Try.prog W 0 (fun _ => true) true 24 v d p) : ∃ r, IsRow W v r := by
  obtain ⟨c0, c1, c2, y0, y1, y2, m, rfl, _, _, hy0, hy1, hy2⟩ := open_agg3 Try.underlying24 (by kernel_rfl) (by kernel_rfl) hv h
  obtain ⟨a, e1, _, wa⟩ := DataW.trod_int Try.underlying3 hy1
  obtain ⟨b, e2, _, wb⟩ := DataW.trod_int Try.underlying3 hy2
  simp at e1 e2
  subst e1 e2
  obtain ⟨l, hl, hc⟩ := ints_trod hy0
  exact ⟨⟨l, a, b⟩, c0, rfl, hl, i64_of_wf wa, i64_of_wf wb, hc⟩
end
end Go.Proofs.Ytihcbmkjfacooaa
