/- A block that holds integers: a []int of the program's own. slices.Reverse over it. -/
import Derived.Test.YtihcbmkjfacooaaOpenI
import Derived.Test.YtihcbmkjfacooaaRegionD
namespace Go.Proofs.Ytihcbmkjfacooaa
open Go.ChangeShapes Go.WideShapes Go.RowKit
set_option linter.unusedVariables false
set_option linter.unusedSimpArgs false

/-- Block g holds xs and, behind them, what else there is. -/
def IntBlk (w : World) (g : Nat) (xs : List Int) : Prop := ∃ A : Array Value, Blk w g A ∧ ∀ i, i < xs.length → A[i]? = some (.int .i64 (xs.getD i 0))

theorem IntBlk.lt {w : World} {g : Nat} {xs : List Int} (h : IntBlk w g xs) : g < w.heap.size := by obtain ⟨A, h, _⟩ := h; exact h.lt
theorem IntBlk.cell {w : World} {g : Nat} {xs : List Int} (h : IntBlk w g xs) {i : Nat} (hi : i < xs.length) : w.cell? ⟨g, i, none⟩ = some (.int .i64 (xs.getD i 0)) := by
  obtain ⟨A, h, hA⟩ := h
  rw [h.cell i]; exact hA i hi
theorem IntBlk.free {w : World} {g : Nat} {xs : List Int} (h : IntBlk w g xs) (i : Nat) : w.frozen? ⟨g, i, none⟩ = false := by
  obtain ⟨A, h, hA⟩ := h
  exact h.free i
theorem IntBlk.keep {w w' : World} {g : Nat} {xs : List Int} (h : IntBlk w g xs) (k : Keep NoS w w') : IntBlk w' g xs := by
  obtain ⟨A, h, hA⟩ := h
  exact ⟨A, h.keep k, hA⟩
theorem IntBlk.old {w : World} {g : Nat} {xs : List Int} (h : IntBlk w g xs) (o : Obj) : IntBlk (w.alloc o) g xs := by
  obtain ⟨A, h, hA⟩ := h
  exact ⟨A, h.old o, hA⟩
theorem Blk.set {w : World} {g : Nat} {A : Array Value} (h : Blk w g A) (i : Nat) (v : Value) : Blk (w.setCell ⟨g, i, none⟩ v) g (A.setIfInBounds i v) := by
  obtain ⟨t, h⟩ := h
  exact ⟨t, Go.Joins.block_setCell h v⟩
theorem Blk.setOther {w : World} {g g' : Nat} {A : Array Value} (h : Blk w g A) (i : Nat) (v : Value) (hne : g ≠ g') : Blk (w.setCell ⟨g', i, none⟩ v) g A := by
  obtain ⟨t, h⟩ := h
  exact ⟨t, by rw [heap_setCell_other _ _ _ _ hne]; exact h⟩
theorem IntBlk.set {w : World} {g : Nat} {xs : List Int} (h : IntBlk w g xs) {i : Nat} (v : Int) : IntBlk (w.setCell ⟨g, i, none⟩ (.int .i64 v)) g (xs.set i v) := by
  obtain ⟨A, h, hA⟩ := h
  refine ⟨_, h.set i _, fun j hj => ?_⟩
  rw [List.length_set] at hj
  have hjA : j < A.size := by
    have := hA j hj
    exact (Array.getElem?_eq_some_iff.1 this).1
  rw [Array.getElem?_setIfInBounds, List.getD_eq_getElem?_getD, List.getElem?_set]
  by_cases hij : i = j
  · subst hij
    simp [hjA, hj]
  · simp only [hij, if_false]
    rw [hA j hj, List.getD_eq_getElem?_getD]
theorem IntBlk.setOther {w : World} {g g' : Nat} {xs : List Int} (h : IntBlk w g xs) (i : Nat) (v : Value) (hne : g ≠ g') : IntBlk (w.setCell ⟨g', i, none⟩ v) g xs := by
  obtain ⟨A, h, hA⟩ := h
  exact ⟨A, h.setOther i v hne, hA⟩
theorem IntBlk.ints {w : World} {g : Nat} {xs : List Int} (h : IntBlk w g xs) (cap : Nat) (hl : xs.length ≤ maxLen) (hx : ∀ x ∈ xs, I64 x) : IsInts w (.slice (some ⟨g, 0, none⟩) xs.length cap) xs := by
  refine ⟨_, cap, rfl, hl, hx, fun _ => ⟨g, 0, rfl, h.lt, fun i x hi => ?_⟩⟩
  obtain ⟨hq, rfl⟩ := List.getElem?_eq_some_iff.1 hi
  have := h.cell hq
  rw [List.getD_eq_getElem?_getD, List.getElem?_eq_getElem hq] at this
  simpa using this

end Go.Proofs.Ytihcbmkjfacooaa
