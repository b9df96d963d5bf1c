/- What lattice.Take takes has no whole point: plain. -/
import Derived.Test.YtamjmcdlddocgaaGreatLtB
import Derived.Test.YtamjmcdlddocgaaGreatFkL
namespace Go.Proofs.YtamjmcdlddocgaaGreat
open Go.ChangeShapes Go.WideShapes Go.RowKit
set_option linter.unusedVariables false
set_option linter.unusedSimpArgs false
theorem divInt1 (z : Int) : Rat.divInt z 1 = (z : Rat) := by
 have h := Rat.num_divInt_den (z : Rat)
 rw [Rat.num_intCast, Rat.den_intCast] at h
 exact h
def WholeQ (q : Rat) : Prop := ∃ z : Int, q = (z : Rat)
theorem wholeQ_den {q : Rat} (h : q.den = 1) : WholeQ q := ⟨q.num, by
 have e := Rat.num_divInt_den q
 rw [h] at e
 rw [← divInt1]
 exact e.symm⟩
theorem den_wholeQ {q : Rat} (h : WholeQ q) : q.den = 1 := by
 obtain ⟨z, rfl⟩ := h
 exact Rat.den_intCast z
theorem WholeQ.add {a b : Rat} (ha : WholeQ a) (hb : WholeQ b) : WholeQ (a + b) := by
 obtain ⟨x, rfl⟩ := ha
 obtain ⟨y, rfl⟩ := hb
 exact ⟨x + y, by rw [Rat.intCast_add]⟩
theorem WholeQ.mul {a b : Rat} (ha : WholeQ a) (hb : WholeQ b) : WholeQ (a * b) := by
 obtain ⟨x, rfl⟩ := ha
 obtain ⟨y, rfl⟩ := hb
 exact ⟨x * y, by rw [Rat.intCast_mul]⟩
theorem dotC_whole {rows : List Rw} {ts : List Rat} {nums : List Fq} {i : Nat} (hn : ∀ k, WholeQ (nums.getD k ⟨0, 0⟩).q) : ∀ k, (∀ j, j < k → WholeQ (colK rows ts j i)) → WholeQ (dotC rows ts nums i k)
 | 0, _ => ⟨0, rfl⟩
 | k + 1, h => by
  simp only [dotC]
  exact (dotC_whole hn k fun j hj => h j (by omega)).add ((h k (by omega)).mul (hn k))
theorem sumT_zero {rows : List Rw} {ts : List Rat} {nums : List Fq} (hr : ∀ r ∈ rows, RowOK r nums.length) (h3 : ∀ r ∈ rows, r.kind = 3) (hh : ∀ r ∈ rows, holdsB r nums = true) : ∀ i, i ≤ rows.length → sumT rows ts nums i = 0
 | 0, _ => rfl
 | i + 1, hi => by
  have hm := List.getElem_mem (l := rows) (n := i) (by omega)
  have hok := hr _ hm
  have hl := hok.len
  obtain ⟨_, _, l3⟩ := holds_le hok.kind (by omega) (hh _ hm)
  simp only [sumT]
  rw [sumT_zero hr h3 hh i (by omega), row_getD (by omega), l3 (h3 _ hm), Rat.zero_mul, Rat.add_zero]
theorem latt_sound {rows : List Rw} {ts : List Rat} {nums : List Fq} (hr : ∀ r ∈ rows, RowOK r nums.length) (h3 : ∀ r ∈ rows, r.kind = 3) (hh : ∀ r ∈ rows, holdsB r nums = true) (hw : ∀ g ∈ nums, g.D = 1) (ht : lt1 rows ts nums.length = true) : False := by
 unfold lt1 at ht
 rw [Bool.and_eq_true, Bool.not_eq_true'] at ht
 obtain ⟨h1, h2⟩ := ht
 have hn : ∀ k, WholeQ (nums.getD k ⟨0, 0⟩).q := by
  intro k
  by_cases hk : k < nums.length
  ·have e : nums.getD k ⟨0, 0⟩ = nums[k] := by rw [List.getD_eq_getElem?_getD, List.getElem?_eq_getElem hk]; rfl
   rw [e]
   refine ⟨(nums[k]).N, ?_⟩
   show Rat.divInt (nums[k]).N (nums[k]).D = _
   rw [hw _ (List.getElem_mem hk), divInt1]
  ·have e : nums.getD k ⟨0, 0⟩ = ⟨0, 0⟩ := by rw [List.getD_eq_getElem?_getD, List.getElem?_eq_none (by omega)]; rfl
   rw [e]
   exact ⟨0, by show Rat.divInt 0 0 = _; rfl⟩
 have hc : ∀ j, j < nums.length → WholeQ (colK rows ts j rows.length) := by
  intro j hj
  have h := List.any_eq_false.1 h1 (colK rows ts j rows.length) (List.mem_map.2 ⟨j, List.mem_range.2 hj, rfl⟩)
  unfold frP at h
  simp at h
  exact wholeQ_den h
 have h0 := sumT_zero (ts := ts) hr h3 hh rows.length (Nat.le_refl _)
 rw [sumT_eq] at h0
 have he : toK rows ts rows.length = dotC rows ts nums rows.length nums.length := by grind
 have hd := den_wholeQ (dotC_whole hn nums.length hc)
 rw [← he] at hd
 unfold frP at h2
 simp [hd] at h2
end Go.Proofs.YtamjmcdlddocgaaGreat
