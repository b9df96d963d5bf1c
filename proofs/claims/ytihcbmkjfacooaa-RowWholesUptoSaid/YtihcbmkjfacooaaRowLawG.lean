/- Plain laws of rows: normalized for whole numbers a row holds at the whole points where it held. -/
import Derived.Test.YtihcbmkjfacooaaRowLawC
import Derived.Test.YtihcbmkjfacooaaRowFormsU
namespace Go.Proofs.Ytihcbmkjfacooaa
open Go.ChangeShapes Go.WideShapes Go.RowKit
set_option linter.unusedVariables false
set_option linter.unusedSimpArgs false

def wholePt (xs : List Int) : List Fq := xs.map fun x => ⟨x, 1⟩
def sumZ (of xs : List Int) : Nat → Int
  | 0 => 0
  | k + 1 => sumZ of xs k + of.getD k 0 * xs.getD k 0
theorem wholePt_q (xs : List Int) (k : Nat) : ((wholePt xs).getD k ⟨0, 0⟩).q = ((xs.getD k 0 : Int) : Rat) := by
  unfold wholePt
  rw [List.getD_eq_getElem?_getD, List.getElem?_map, List.getD_eq_getElem?_getD]
  rcases xs[k]? with _ | x
  · show Rat.divInt 0 0 = ((0 : Int) : Rat)
    rw [Rat.zero_divInt]; rfl
  · show Rat.divInt x 1 = (x : Rat)
    exact divInt_one x
theorem sumK_whole (of xs : List Int) : ∀ k, sumK of (wholePt xs) k = ((sumZ of xs k : Int) : Rat)
  | 0 => rfl
  | k + 1 => by simp only [sumK, sumZ]; rw [sumK_whole of xs k, wholePt_q, Rat.intCast_add, Rat.intCast_mul]
theorem holds_whole (r : Rw) (xs : List Int) : holdsB r (wholePt xs) = holdsP r.kind (sumZ r.of xs r.of.length - r.to).sign := by
  unfold holdsB
  rw [sumK_whole, ← Rat.intCast_sub, Rat.num_intCast]
theorem sumZ_dvd {of xs : List Int} {g : Int} (h : ∀ x ∈ of, g ∣ x) : ∀ k, g ∣ sumZ of xs k
  | 0 => Int.dvd_zero _
  | k + 1 => by
    simp only [sumZ]
    refine Int.dvd_add (sumZ_dvd h k) ?_
    by_cases hk : k < of.length
    · refine Int.dvd_trans (h (of.getD k 0) ?_) (Int.dvd_mul_right _ _)
      rw [List.getD_eq_getElem?_getD, List.getElem?_eq_getElem hk]; exact List.getElem_mem _
    · rw [getD_over (by omega), Int.zero_mul]; exact Int.dvd_zero _
theorem sumZ_mul {a b xs : List Int} {g : Int} (h : ∀ i, a.getD i 0 = g * b.getD i 0) : ∀ k, sumZ a xs k = g * sumZ b xs k
  | 0 => by simp [sumZ]
  | k + 1 => by simp only [sumZ]; rw [sumZ_mul h k, h k, Int.mul_add, Int.mul_assoc]
theorem holdsP_one {x : Int} : holdsP 1 x.sign = decide (x ≤ 0) := by
  rw [holds1]
  have := Int.sign_nonpos_iff (x := x)
  by_cases h : x ≤ 0
  · rw [decide_eq_true h, decide_eq_true (this.2 h)]
  · rw [decide_eq_false h, decide_eq_false fun h' => h (this.1 h')]
theorem holdsP_two {x : Int} : holdsP 2 x.sign = decide (x < 0) := by
  rw [holds2]
  have := Int.sign_neg_iff (x := x)
  by_cases h : x < 0
  · rw [decide_eq_true h, decide_eq_true (this.2 h)]
  · rw [decide_eq_false h, decide_eq_false fun h' => h (this.1 h')]
theorem holdsP_three {x : Int} : holdsP 3 x.sign = decide (x = 0) := by
  rw [holds3]
  by_cases h : x = 0
  · subst h; rfl
  · rw [decide_eq_false h, decide_eq_false fun h' => h (Int.sign_eq_zero_iff_zero.1 h')]
/-- Of whole sums a row says the same as its form without less. -/
theorem kind_whole {r : Rw} (hk : r.kind = 1 ∨ r.kind = 2 ∨ r.kind = 3) (s : Int) : holdsP (wholeK r) (s - wholeT r).sign = holdsP r.kind (s - r.to).sign := by
  unfold wholeK wholeT
  by_cases h2 : r.kind = 2
  · rw [if_pos h2, if_pos h2, h2, holdsP_one, holdsP_two]
    by_cases h : s < r.to
    · rw [decide_eq_true (by omega), decide_eq_true (by omega)]
    · rw [decide_eq_false (by omega), decide_eq_false (by omega)]
  · rw [if_neg h2, if_neg h2]
theorem wholeK_kind {r : Rw} (hk : r.kind = 1 ∨ r.kind = 2 ∨ r.kind = 3) : wholeK r = 1 ∨ wholeK r = 3 := by
  unfold wholeK
  by_cases h2 : r.kind = 2
  · rw [if_pos h2]; exact .inl rfl
  · rw [if_neg h2]; omega
theorem wholeG_dvd (r : Rw) : ∀ x ∈ bareL r.of, ((wholeG r : Nat) : Int) ∣ x := fun x hx => Int.ofNat_dvd_left.2 (gcdL_dvd _ x hx)
theorem wholeG_pos {r : Rw} (h : bareL r.of ≠ []) : 0 < wholeG r := gcdL_pos_of (bareL_end _ h)
theorem sumZ_bare (r : Rw) (xs : List Int) : sumZ (bareL r.of) xs (bareL r.of).length = sumZ r.of xs r.of.length := by
  have := sum_bare r.of (wholePt xs)
  rw [sumK_whole, sumK_whole] at this
  exact Rat.intCast_inj.1 this
/-- Of whole points none comes, and none goes. -/
theorem whole_holds {r : Rw} (hc : (wholeS r).2.1 = 0) (hk : (chkRow r 12).1 = 0 → r.kind = 1 ∨ r.kind = 2 ∨ r.kind = 3) (xs : List Int) : (chkRow r 12).1 = 0 ∧ (wholeS r).1.kind ≠ 2 ∧ holdsB (wholeS r).1 (wholePt xs) = holdsB r (wholePt xs) := by
  unfold wholeS at hc ⊢
  by_cases h0 : (chkRow r 12).1 = 0
  · have hk := hk h0
    have hkk := wholeK_kind hk
    rw [if_pos h0] at hc ⊢
    rw [holds_whole r, ← kind_whole hk, ← sumZ_bare]
    by_cases hb : bareL r.of = []
    · rw [if_pos hb]
      refine ⟨h0, by show wholeK r ≠ 2; omega, ?_⟩
      rw [holds_whole, hb]
      show holdsP (wholeK r) (0 - emptyTo (wholeK r) (wholeT r)).sign = holdsP (wholeK r) (0 - wholeT r).sign
      rw [Int.zero_sub, Int.zero_sub, Int.sign_neg, Int.sign_neg, empty_holds (by omega)]
    · rw [if_neg hb] at hc ⊢
      have hg := wholeG_pos hb
      have hd := wholeG_dvd r
      have hds := sumZ_dvd (xs := xs) hd (bareL r.of).length
      unfold wholeP at hc ⊢
      by_cases h3 : wholeK r = 3 ∧ (wholeT r).tmod (wholeG r) ≠ 0
      · rw [if_pos h3]
        refine ⟨h0, by show (3 : Int) ≠ 2; omega, ?_⟩
        rw [holds_whole, h3.1, holdsP_three, holdsP_three]
        show decide ((0 : Int) - 1 = 0) = _
        rw [decide_eq_false (by omega), decide_eq_false]
        intro h
        apply h3.2
        rw [show wholeT r = sumZ (bareL r.of) xs (bareL r.of).length by omega]
        exact Int.tmod_eq_zero_of_dvd hds
      · rw [if_neg h3] at hc ⊢
        by_cases hm : wholeT r / (wholeG r : Int) < -1000000
        · rw [if_pos hm] at hc; simp at hc
        · rw [if_neg hm]
          refine ⟨h0, by show wholeK r ≠ 2; omega, ?_⟩
          rcases hkk with h1 | h1
          · show holdsB (byG (bareL r.of) (wholeK r) (wholeT r / (wholeG r : Int)) (wholeG r)) (wholePt xs) = _
            rw [h1]
            have e : byG (bareL r.of) 1 (wholeT r / (wholeG r : Int)) (wholeG r) = ⟨(bareL r.of).map fun x => x.tdiv (wholeG r), 1, wholeT r / (wholeG r : Int)⟩ := by
              have hnq : ¬ turnQ 1 ((bareL r.of).map fun x => x.tdiv (wholeG r)) := fun h => by have := h.1; omega
              unfold byG turnOf turnTo
              rw [if_neg hnq, if_neg hnq]
            rw [e, holds_whole, holdsP_one, holdsP_one]
            simp only [List.length_map]
            rw [sumZ_mul (b := (bareL r.of).map fun x => x.tdiv (wholeG r)) (g := (wholeG r : Int)) (fun i => div_get hg hd i)]
            generalize sumZ ((bareL r.of).map fun x => x.tdiv (wholeG r)) xs (bareL r.of).length = s
            have hle := Int.le_ediv_iff_mul_le (a := s) (b := wholeT r) (c := (wholeG r : Int)) (by omega)
            have hc := Int.mul_comm s (wholeG r : Int)
            by_cases h : s ≤ wholeT r / (wholeG r : Int)
            · have := hle.1 h
              rw [decide_eq_true (by omega), decide_eq_true (by omega)]
            · have : ¬ s * (wholeG r : Int) ≤ wholeT r := fun h' => h (hle.2 h')
              rw [decide_eq_false (by omega), decide_eq_false (by omega)]
          · have ht : (wholeT r).tmod (wholeG r) = 0 := Decidable.byContradiction fun h => h3 ⟨h1, h⟩
            have hdt : (wholeG r : Int) ∣ wholeT r := Int.dvd_of_tmod_eq_zero ht
            show holdsB (byG (bareL r.of) (wholeK r) (wholeT r / (wholeG r : Int)) (wholeG r)) (wholePt xs) = _
            rw [show wholeT r / (wholeG r : Int) = (wholeT r).tdiv (wholeG r) from (Int.tdiv_eq_ediv_of_dvd hdt).symm, holdsB_byG hg hd hdt, sumK_whole, ← Rat.intCast_sub, Rat.num_intCast]
  · rw [if_neg h0] at hc
    exact absurd hc h0
end Go.Proofs.Ytihcbmkjfacooaa
