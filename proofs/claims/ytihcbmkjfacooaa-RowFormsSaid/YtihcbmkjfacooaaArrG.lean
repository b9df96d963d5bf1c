/- A block that holds a row of n cells of one element type, told as a function of the place. -/
import Derived.Test.YtihcbmkjfacooaaRatB
import Derived.Lib.OwnKind
namespace Go.Proofs.Ytihcbmkjfacooaa
open Go.ChangeShapes Go.WideShapes Go.RowKit
set_option linter.unusedVariables false
set_option linter.unusedSimpArgs false

/-- Block g is a row of elements of type T whose first n cells are vs. -/
def Arr (w : World) (g : Nat) (T : TypeId) (n : Nat) (vs : Nat → Value) : Prop := ∃ A : Array Value, w.heap[g]? = some (.cells A T (0, 0)) ∧ ∀ i, i < n → A[i]? = some (vs i)

section
variable {w w' : World} {g g' n : Nat} {T T' : TypeId} {vs vs' : Nat → Value}

theorem Arr.lt (h : Arr w g T n vs) : g < w.heap.size := by obtain ⟨A, h, _⟩ := h; exact lt_of_heap h
theorem Arr.cell (h : Arr w g T n vs) {i : Nat} (hi : i < n) : w.cell? ⟨g, i, none⟩ = some (vs i) := by
  obtain ⟨A, h, hA⟩ := h
  exact cell_of_heap h (hA i hi)
theorem Arr.free (h : Arr w g T n vs) (i : Nat) : w.frozen? ⟨g, i, none⟩ = false := by obtain ⟨A, h, _⟩ := h; exact free_of_heap h
theorem Arr.keepS {S : Nat → Nat → Prop} (h : Arr w g T n vs) (k : Keep S w w') (hS : ∀ i, ¬ S g i) : Arr w' g T n vs := by
  obtain ⟨A, h, hA⟩ := h
  exact ⟨A, by rw [k.block g (lt_of_heap h) hS]; exact h, hA⟩
theorem Arr.keep (h : Arr w g T n vs) (k : Keep NoS w w') : Arr w' g T n vs := h.keepS k fun _ h => h
theorem Arr.old (h : Arr w g T n vs) (o : Obj) : Arr (w.alloc o) g T n vs := h.keep ((Keep.refl _ _).alloc o)
theorem Arr.set (h : Arr w g T n vs) (i : Nat) (v : Value) : Arr (w.setCell ⟨g, i, none⟩ v) g T n fun j => if j = i then v else vs j := by
  obtain ⟨A, h, hA⟩ := h
  refine ⟨_, heap_setCell_same i v h, fun j hj => ?_⟩
  have hjA : j < A.size := (Array.getElem?_eq_some_iff.1 (hA j hj)).1
  rw [Array.getElem?_setIfInBounds]
  by_cases hij : i = j
  · subst hij; simp [hjA]
  · show _ = some (if j = i then v else vs j)
    rw [if_neg hij, if_neg (fun h => hij h.symm)]; exact hA j hj
theorem Arr.other (h : Arr w g T n vs) (i : Nat) (v : Value) (hne : ¬ g = g') : Arr (w.setCell ⟨g', i, none⟩ v) g T n vs := by
  obtain ⟨A, h, hA⟩ := h
  exact ⟨A, by rw [heap_setCell_other _ _ _ _ hne]; exact h, hA⟩
theorem Arr.congr (h : Arr w g T n vs) (he : ∀ i, i < n → vs i = vs' i) : Arr w g T n vs' := by
  obtain ⟨A, h, hA⟩ := h
  exact ⟨A, h, fun i hi => by rw [← he i hi]; exact hA i hi⟩
theorem Arr.mono {m : Nat} (h : Arr w g T n vs) (hm : m ≤ n) : Arr w g T m vs := by
  obtain ⟨A, h, hA⟩ := h
  exact ⟨A, h, fun i hi => hA i (by omega)⟩
theorem Arr.ne {m : Nat} (h : Arr w g T n vs) (h' : Arr w g' T' m vs') (hT : T ≠ T') : ¬ g = g' := by
  rintro rfl
  obtain ⟨A, h, _⟩ := h
  obtain ⟨A', h', _⟩ := h'
  rw [h] at h'
  simp at h'
  exact hT h'.2
theorem Arr.grown {row : Option Nat} (h : Arr w g T n vs) (hg : w.grownBy w' row) (hr : some g ≠ row) : Arr w' g T n vs := by
  obtain ⟨A, h, hA⟩ := h
  exact ⟨A, by rw [hg.block g (lt_of_heap h) hr]; exact h, hA⟩
/-- A row that the call owns, told as a block. -/
theorem arr_of_own {base cap m : Nat} {xs : List Value} (h : w.ownsRow base T 1 (.slice (some ⟨g, 0, none⟩) m cap) m xs) (hx : ∀ i, i < n → xs[i]? = some (vs i)) : Arr w g T n vs := by
  obtain ⟨hl, h | ⟨g', cap', cur, hv, hb, hg, hl', hm, hs, ht⟩⟩ := h
  · obtain ⟨h, _⟩ := h; cases h
  · cases hv
    refine ⟨cur, hg, fun i hi => ?_⟩
    have h1 := hx i hi
    have hil : i < xs.length := (List.getElem?_eq_some_iff.1 h1).1
    rw [← ht, List.getElem?_take, if_pos (by omega)] at h1
    simpa using h1
end

end Go.Proofs.Ytihcbmkjfacooaa
