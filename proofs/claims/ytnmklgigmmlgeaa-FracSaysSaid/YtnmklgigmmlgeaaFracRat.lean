/- Fractions of the program as Lean's own: what the operations mean. -/
import Derived.Test.YtnmklgigmmlgeaaFracFact
namespace Go.Proofs.Ytnmklgigmmlgeaa
open Go.ChangeShapes Go.WideShapes Go.RowKit
set_option linter.unusedVariables false
set_option linter.unusedSimpArgs false

theorem rlt_trans {a b c : Rat} (h : a < b) (h' : b < c) : a < c := Rat.not_le.1 fun h'' => Rat.not_le.2 h (Rat.le_trans (Rat.le_of_lt h') h'')
theorem rlt_asymm {a b : Rat} (h : a < b) : ¬ b < a := fun h' => Rat.not_le.2 h (Rat.le_of_lt h')
theorem req_of {a b : Rat} (h : ¬ a < b) (h' : ¬ b < a) : a = b := Rat.le_antisymm (Rat.not_lt.1 h') (Rat.not_lt.1 h)

/-- The fraction n/d. -/
def fr (n d : Int) : Rat := Rat.divInt n d

theorem fr_parts {n d : Int} (h : FracOK n d) : (fr n d).num = n ∧ ((fr n d).den : Int) = d := by
  obtain ⟨h1, h2, h3, h4, h5⟩ := h
  have := rat_pos n d (by omega)
  unfold fr
  rw [h5] at this
  simpa using this

theorem fr_inj {n d n' d' : Int} (h : FracOK n d) (h' : FracOK n' d') (e : fr n d = fr n' d') : n = n' ∧ d = d' := by
  obtain ⟨a, b⟩ := fr_parts h
  obtain ⟨a', b'⟩ := fr_parts h'
  rw [e] at a b
  exact ⟨a.symm.trans a', b.symm.trans b'⟩

theorem fr_lt {n d n' d' : Int} (h : FracOK n d) (h' : FracOK n' d') : fr n d < fr n' d' ↔ n * d' < n' * d := by
  obtain ⟨a, b⟩ := fr_parts h
  obtain ⟨a', b'⟩ := fr_parts h'
  rw [Rat.lt_iff, a, b, a', b']

theorem fr_zero {n d : Int} (h : FracOK n d) : fr n d = 0 ↔ n = 0 := by
  obtain ⟨a, b⟩ := fr_parts h
  constructor
  · intro e; rw [e] at a; exact a.symm
  · rintro rfl; exact Rat.zero_divInt d

theorem fr_pos {n d : Int} (h : FracOK n d) : 0 < fr n d ↔ 0 < n := by
  obtain ⟨a, b⟩ := fr_parts h
  rw [Rat.lt_iff, a]; simp

/-- A fraction that fits is valid. -/
theorem ok_of_fits {q : Rat} (h : Fits q) : FracOK q.num q.den := by
  obtain ⟨h1, h2⟩ := h
  have := q.den_pos
  refine ⟨by omega, by omega, by omega, by omega, ?_⟩
  have := q.reduced
  simpa [Nat.Coprime] using this

theorem fr_self (q : Rat) : fr q.num q.den = q := Rat.num_divInt_den q

/-- What a made fraction looks like. -/
theorem made_form (q : Rat) : ∃ N D C, fracMadeV q = .tuple #[.agg #[.int .i64 N, .int .i64 D], .agg #[.int .i64 C, .int .i64 0]] ∧ ((C = 0 ∧ FracOK N D ∧ fr N D = q) ∨ (C = 10 ∧ N = 0 ∧ D = 0)) := by
  by_cases h : Fits q
  · exact ⟨q.num, q.den, 0, by unfold fracMadeV; rw [if_pos h]; rfl, .inl ⟨rfl, ok_of_fits h, fr_self q⟩⟩
  · exact ⟨0, 0, 10, by unfold fracMadeV; rw [if_neg h]; rfl, .inr ⟨rfl, rfl, rfl⟩⟩

theorem made_of_ok {n d : Int} (h : FracOK n d) : fracMadeV (fr n d) = .tuple #[.agg #[.int .i64 n, .int .i64 d], .agg #[.int .i64 0, .int .i64 0]] := by
  obtain ⟨a, b⟩ := fr_parts h
  have hf : Fits (fr n d) := by
    obtain ⟨h1, h2, h3, h4, _⟩ := h
    unfold Fits; rw [a]; omega
  unfold fracMadeV
  rw [if_pos hf, a, b]; rfl

section
variable {n1 d1 n2 d2 : Int} (h1 : FracOK n1 d1) (h2 : FracOK n2 d2)

theorem op_made {x y : Int} (hy : y ≠ 0) (h1 : FracOK n1 d1) (h2 : FracOK n2 d2) : opV n1 d1 n2 d2 x y = fracMadeV (Rat.divInt x y) := by
  unfold opV
  rw [if_pos (ck_ok h1 h2).1, make_eq x y hy]

include h1 h2 in
theorem add_made : opV n1 d1 n2 d2 (n1 * d2 + n2 * d1) (d1 * d2) = fracMadeV (fr n1 d1 + fr n2 d2) := by
  have e1 : d1 ≠ 0 := by have := h1.1; omega
  have e2 : d2 ≠ 0 := by have := h2.1; omega
  rw [op_made (Int.mul_ne_zero e1 e2) h1 h2, fr, fr, Rat.divInt_add_divInt _ _ e1 e2]

include h1 h2 in
theorem sub_made : opV n1 d1 n2 d2 (n1 * d2 - n2 * d1) (d1 * d2) = fracMadeV (fr n1 d1 - fr n2 d2) := by
  have e1 : d1 ≠ 0 := by have := h1.1; omega
  have e2 : d2 ≠ 0 := by have := h2.1; omega
  rw [op_made (Int.mul_ne_zero e1 e2) h1 h2, fr, fr, Rat.divInt_sub_divInt _ _ e1 e2]

include h1 h2 in
theorem mul_made : opV n1 d1 n2 d2 (n1 * n2) (d1 * d2) = fracMadeV (fr n1 d1 * fr n2 d2) := by
  have e1 : d1 ≠ 0 := by have := h1.1; omega
  have e2 : d2 ≠ 0 := by have := h2.1; omega
  rw [op_made (Int.mul_ne_zero e1 e2) h1 h2, fr, fr, Rat.divInt_mul_divInt]

include h1 h2 in
theorem over_made (hn : n2 ≠ 0) : opV n1 d1 n2 d2 (n1 * d2) (d1 * n2) = fracMadeV (fr n1 d1 / fr n2 d2) := by
  have e1 : d1 ≠ 0 := by have := h1.1; omega
  have e2 : d2 ≠ 0 := by have := h2.1; omega
  rw [op_made (Int.mul_ne_zero e1 hn) h1 h2, fr, fr, Rat.div_def, Rat.inv_divInt, Rat.divInt_mul_divInt]

include h1 h2 in
theorem over_zero (hn : n2 = 0) : opV n1 d1 n2 d2 (n1 * d2) (d1 * n2) = .tuple #[.agg #[.int .i64 0, .int .i64 0], .agg #[.int .i64 6, .int .i64 0]] := by
  subst hn
  unfold opV
  rw [if_pos (ck_ok h1 h2).1]
  simp [makeV, mN, mD, mC, fracV, faultV]

include h1 h2 in
theorem less_made : lessV n1 d1 n2 d2 = .tuple #[.bool (decide (fr n1 d1 < fr n2 d2)), .agg #[.int .i64 0, .int .i64 0]] := by
  obtain ⟨hc, ha⟩ := ck_ok h1 h2
  unfold lessV lessB
  rw [if_pos hc, hc, ha]
  simp only [fr_lt h1 h2]; rfl
end

theorem op_bad {n1 d1 n2 d2 : Int} (h : ¬ (FracOK n1 d1 ∧ FracOK n2 d2)) (x y : Int) : opV n1 d1 n2 d2 x y = .tuple #[.agg #[.int .i64 0, .int .i64 0], .agg #[.int .i64 3, .int .i64 (ckA n1 d1 n2 d2)]] := by
  have hc := ck_no h
  unfold opV; rw [if_neg (by rw [hc]; omega), hc]; rfl
theorem less_bad {n1 d1 n2 d2 : Int} (h : ¬ (FracOK n1 d1 ∧ FracOK n2 d2)) : lessV n1 d1 n2 d2 = .tuple #[.bool false, .agg #[.int .i64 3, .int .i64 (ckA n1 d1 n2 d2)]] := by
  have hc := ck_no h
  unfold lessV lessB; rw [if_neg (by rw [hc]; omega), hc]; rfl

end Go.Proofs.Ytnmklgigmmlgeaa
