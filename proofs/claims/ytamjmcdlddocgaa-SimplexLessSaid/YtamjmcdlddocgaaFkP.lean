/- Combinations of rows: plain. -/
import Derived.Test.YtamjmcdlddocgaaNumA
namespace Go.Proofs.Ytamjmcdlddocgaa
open Go.ChangeShapes Go.WideShapes Go.RowKit
set_option linter.unusedVariables false
set_option linter.unusedSimpArgs false

/-- A column's sum over the first rows. -/
def colK (rows : List Rw) (ts : List Rat) (k : Nat) : Nat → Rat
  | 0 => 0
  | i + 1 => colK rows ts k i + ((rows.getD i nilRw).of.getD k 0 : Rat) * ts.getD i 0
def toK (rows : List Rw) (ts : List Rat) : Nat → Rat
  | 0 => 0
  | i + 1 => toK rows ts i + ((rows.getD i nilRw).to : Rat) * ts.getD i 0
def strK (rows : List Rw) (ts : List Rat) : Nat → Bool
  | 0 => false
  | i + 1 => strK rows ts i || (decide ((rows.getD i nilRw).kind = 2) && decide (ts.getD i 0 ≠ 0))
def colL (rows : List Rw) (ts : List Rat) (N i : Nat) : List Rat := (List.range N).map fun m => colK rows ts m i
def mixL (rows : List Rw) (ts : List Rat) (N i k : Nat) : List Rat := (List.range N).map fun m => if m < k then colK rows ts m (i + 1) else colK rows ts m i
section
variable {rows : List Rw} {ts : List Rat} {N i k : Nat}
theorem colL_len : (colL rows ts N i).length = N := by simp [colL]
theorem mixL_len : (mixL rows ts N i k).length = N := by simp [mixL]
theorem colL_zero : colL rows ts N 0 = List.replicate N 0 := by
  apply List.ext_getElem
  · simp [colL]
  · intro j h1 h2
    simp [colL, colK]
theorem mixL_zero : mixL rows ts N i 0 = colL rows ts N i := by simp [mixL, colL]
theorem mixL_all (h : ∀ m, k ≤ m → (rows.getD i nilRw).of.getD m 0 = 0) : mixL rows ts N i k = colL rows ts N (i + 1) := by
  unfold mixL colL
  apply List.map_congr_left
  intro m hm
  split
  · rfl
  · rename_i hk
    have h0 := h m (by omega)
    show colK rows ts m i = colK rows ts m i + ((rows.getD i nilRw).of.getD m 0 : Rat) * ts.getD i 0
    rw [h0]
    simp [Rat.zero_mul, Rat.add_zero]
theorem mixL_get (hk : k < N) : (mixL rows ts N i k)[k]'(by rw [mixL_len]; exact hk) = colK rows ts k i := by
  simp [mixL]
theorem mixL_set (hk : k < N) : (mixL rows ts N i k).set k (colK rows ts k (i + 1)) = mixL rows ts N i (k + 1) := by
  apply List.ext_getElem
  · simp [mixL]
  · intro j h1 h2
    rw [List.getElem_set]
    by_cases hj : k = j
    · subst hj
      simp [mixL]
    · rw [if_neg hj]
      simp only [mixL, List.getElem_map, List.getElem_range]
      by_cases h3 : j < k
      · rw [if_pos h3, if_pos (by omega)]
      · rw [if_neg h3, if_neg (by omega)]
theorem row_getD {i : Nat} (hi : i < rows.length) : rows.getD i nilRw = rows[i] := by
  rw [List.getD_eq_getElem?_getD, List.getElem?_eq_getElem hi]; rfl
theorem row_over {i : Nat} (hi : rows.length ≤ i) : rows.getD i nilRw = nilRw := by
  rw [List.getD_eq_getElem?_getD, List.getElem?_eq_none hi]; rfl
theorem getD_out {l : List Int} {i : Nat} (h : l.length ≤ i) : l.getD i 0 = 0 := by rw [List.getD_eq_getElem?_getD, List.getElem?_eq_none h]; rfl
theorem fit_zero : fitI 0 := by unfold fitI; omega
theorem row_fit {n : Int} (hr : ∀ r ∈ rows, RowOK r n) (i k : Nat) : fitI ((rows.getD i nilRw).of.getD k 0) ∧ fitI (rows.getD i nilRw).to := by
  by_cases hi : i < rows.length
  · rw [row_getD hi]
    have h := hr _ (List.getElem_mem hi)
    refine ⟨?_, h.fto⟩
    by_cases hk : k < rows[i].of.length
    · rw [List.getD_eq_getElem?_getD, List.getElem?_eq_getElem hk]
      exact h.fit _ (List.getElem_mem hk)
    · rw [getD_out (by omega)]; exact fit_zero
  · rw [row_over (by omega)]
    refine ⟨?_, fit_zero⟩
    show fitI (([] : List Int).getD k 0)
    rw [getD_out (by simp)]; exact fit_zero
theorem nb_fitI {x : Int} (h : fitI x) : NB 1 (x : Rat) := nb_int (by unfold fitI at h; omega)
theorem nb_ts (ht : ∀ q ∈ ts, NB 1 q) (i : Nat) : NB 1 (ts.getD i 0) := by
  by_cases hi : i < ts.length
  · rw [List.getD_eq_getElem?_getD, List.getElem?_eq_getElem hi]; exact ht _ (List.getElem_mem hi)
  · rw [List.getD_eq_getElem?_getD, List.getElem?_eq_none (by omega)]; exact nb_zero
theorem nb_col {n : Int} (hr : ∀ r ∈ rows, RowOK r n) (ht : ∀ q ∈ ts, NB 1 q) (k : Nat) : ∀ i, NB (3 * i + 1) (colK rows ts k i)
  | 0 => nb_zero
  | i + 1 => ((nb_col hr ht k i).add ((nb_fitI (row_fit hr i k).1).mul (nb_ts ht i))).mono (by omega)
theorem nb_to {n : Int} (hr : ∀ r ∈ rows, RowOK r n) (ht : ∀ q ∈ ts, NB 1 q) : ∀ i, NB (3 * i + 1) (toK rows ts i)
  | 0 => nb_zero
  | i + 1 => ((nb_to hr ht i).add ((nb_fitI (row_fit hr i 0).2).mul (nb_ts ht i))).mono (by omega)
end
end Go.Proofs.Ytamjmcdlddocgaa
