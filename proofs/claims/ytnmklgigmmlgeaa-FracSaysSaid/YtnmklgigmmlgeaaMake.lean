/- The contract of frac.Make: it returns the fraction in lowest terms, or its fault. -/
import Derived.Test.YtnmklgigmmlgeaaFrac
namespace Go.Proofs.Ytnmklgigmmlgeaa
open Go.ChangeShapes Go.WideShapes Go.RowKit
set_option linter.unusedVariables false
set_option linter.unusedSimpArgs false

/-- The parts of num/den in lowest terms, without signs. -/
def mA (num den : Int) : Nat := num.natAbs / Nat.gcd num.natAbs den.natAbs
def mB (num den : Int) : Nat := den.natAbs / Nat.gcd num.natAbs den.natAbs
def mFits (num den : Int) : Prop := mA num den ≤ 1073741824 ∧ mB num den ≤ 1073741824
instance (num den : Int) : Decidable (mFits num den) := by unfold mFits; infer_instance
/-- What frac.Make returns: the code of the fault, the numerator, the denominator. -/
def mC (num den : Int) : Int := if den = 0 then 6 else if mFits num den then 0 else 10
def mN (num den : Int) : Int := if mC num den = 0 then (if (num < 0) ≠ (den < 0) then -(mA num den : Int) else mA num den) else 0
def mD (num den : Int) : Int := if mC num den = 0 then mB num den else 0
def fracV (n d : Int) : Value := .agg #[.int .i64 n, .int .i64 d]
def faultV (c a : Int) : Value := .agg #[.int .i64 c, .int .i64 a]
def makeV (num den : Int) : Value := .tuple #[fracV (mN num den) (mD num den), faultV (mC num den) 0]

theorem div_gcd_lt (a b : Nat) (ha : a < 18446744073709551616) : a / Nat.gcd a b < 18446744073709551616 := Nat.lt_of_le_of_lt (Nat.div_le_self _ _) ha

theorem wrap_u64 (n : Nat) (h : n < 18446744073709551616) : IntKind.u64.wrap (n : Int) = n := by
  simp only [IntKind.wrap, IntKind.bits, IntKind.signed]
  simp
  omega

theorem wrap_div (a g : Nat) (ha : a < 18446744073709551616) : IntKind.u64.wrap ((a : Int) / (g : Int)) = ((a / g : Nat) : Int) := by
  have h := wrap_u64 (a / g) (Nat.lt_of_le_of_lt (Nat.div_le_self _ _) ha)
  rw [← h]; congr 1

set_option maxHeartbeats 2000000 in
theorem make_any (num den : Int) (w : World) (h1 : -9223372036854775808 ≤ num) (h2 : num ≤ 9223372036854775807) (h3 : -9223372036854775808 ≤ den) (h4 : den ≤ 9223372036854775807) :
    Calls Try.prog 14 #[.int .i64 num, .int .i64 den] w fun e w' => e = .returned (makeV num den) ∧ Below w.heap.size w w' := by
  by_cases h0 : den = 0
  · subst h0
    have hv : makeV num 0 = .tuple #[.agg #[.int .i64 0, .int .i64 0], .agg #[.int .i64 6, .int .i64 0]] := by simp [makeV, mN, mD, mC, fracV, faultV]
    rw [hv]; clear hv
    go_enter Try.func14, Try.ntmps14
    go_wp2
    go_returns
    exact ⟨rfl, by (repeat' (first | (with_reducible exact Below.refl _ _) | (with_reducible assumption) | (with_reducible refine Below.alloc ?_ ?_ _) | (with_reducible refine Below.setCell ?_ ?_ _) | (with_reducible refine below_drewN ?_ _) | (with_reducible refine Below.drew ?_) | go_size))⟩
  have e0 : (den == 0) = false := by simpa using h0
  have hgp : 0 < Nat.gcd num.natAbs den.natAbs := Nat.gcd_pos_of_pos_right _ (by omega)
  have HA : Hid (IntKind.u64.wrap ((num.natAbs : Int) / ((Nat.gcd num.natAbs den.natAbs : Nat) : Int)) = (mA num den : Nat)) := Lib.hid (wrap_div _ _ (by omega))
  have HB : Hid (IntKind.u64.wrap ((den.natAbs : Int) / ((Nat.gcd num.natAbs den.natAbs : Nat) : Int)) = (mB num den : Nat)) := Lib.hid (wrap_div _ _ (by omega))
  have hg0 : ((Nat.gcd num.natAbs den.natAbs : Nat) : Int) ≠ 0 := by omega
  by_cases hf : mFits num den
  · have hf' := hf
    obtain ⟨f1, f2⟩ := hf'
    have c1 : decide (1073741824 < (mA num den : Int)) = false := dec_f (by omega)
    have c2 : decide (1073741824 < (mB num den : Int)) = false := dec_f (by omega)
    have hC : mC num den = 0 := by unfold mC; rw [if_neg h0, if_pos hf]
    by_cases sn : num < 0 <;> by_cases sd : den < 0
    · have b1 := dec_t sn
      have b2 := dec_t sd
      have HV : Hid (makeV num den = .tuple #[.agg #[.int .i64 (mA num den), .int .i64 (mB num den)], .agg #[.int .i64 0, .int .i64 0]]) := Lib.hid (by simp [makeV, mN, mD, hC, fracV, faultV, sn, sd])
      clear hf hC sn sd
      go_enter Try.func14, Try.ntmps14
      go_wp2_with (first | (go_at_call 42; refine (size_any _ _ (by omega) (by omega)).mono ?_; rintro e w' ⟨rfl, rfl⟩) | (go_at_call 43; refine (gcd_any _ _ _ (by omega) (by omega)).mono ?_; rintro e w' ⟨rfl, nq, rfl⟩))
      go_quiet (fail)
      rw [HA.out, HB.out]
      go_wp2
      go_returns
      exact ⟨by rw [HV.out], by (repeat' (first | (with_reducible exact Below.refl _ _) | (with_reducible assumption) | (with_reducible refine Below.alloc ?_ ?_ _) | (with_reducible refine Below.setCell ?_ ?_ _) | (with_reducible refine below_drewN ?_ _) | (with_reducible refine Below.drew ?_) | go_size))⟩
    · have b1 := dec_t sn
      have b2 := dec_f sd
      have HV : Hid (makeV num den = .tuple #[.agg #[.int .i64 (-(mA num den : Int)), .int .i64 (mB num den)], .agg #[.int .i64 0, .int .i64 0]]) := Lib.hid (by simp [makeV, mN, mD, hC, fracV, faultV, sn]; omega)
      clear hf hC sn sd
      go_enter Try.func14, Try.ntmps14
      go_wp2_with (first | (go_at_call 42; refine (size_any _ _ (by omega) (by omega)).mono ?_; rintro e w' ⟨rfl, rfl⟩) | (go_at_call 43; refine (gcd_any _ _ _ (by omega) (by omega)).mono ?_; rintro e w' ⟨rfl, nq, rfl⟩))
      go_quiet (fail)
      rw [HA.out, HB.out]
      go_wp2
      go_returns
      exact ⟨by rw [HV.out], by (repeat' (first | (with_reducible exact Below.refl _ _) | (with_reducible assumption) | (with_reducible refine Below.alloc ?_ ?_ _) | (with_reducible refine Below.setCell ?_ ?_ _) | (with_reducible refine below_drewN ?_ _) | (with_reducible refine Below.drew ?_) | go_size))⟩
    · have b1 := dec_f sn
      have b2 := dec_t sd
      have HV : Hid (makeV num den = .tuple #[.agg #[.int .i64 (-(mA num den : Int)), .int .i64 (mB num den)], .agg #[.int .i64 0, .int .i64 0]]) := Lib.hid (by simp [makeV, mN, mD, hC, fracV, faultV, sd]; omega)
      clear hf hC sn sd
      go_enter Try.func14, Try.ntmps14
      go_wp2_with (first | (go_at_call 42; refine (size_any _ _ (by omega) (by omega)).mono ?_; rintro e w' ⟨rfl, rfl⟩) | (go_at_call 43; refine (gcd_any _ _ _ (by omega) (by omega)).mono ?_; rintro e w' ⟨rfl, nq, rfl⟩))
      go_quiet (fail)
      rw [HA.out, HB.out]
      go_wp2
      go_returns
      exact ⟨by rw [HV.out], by (repeat' (first | (with_reducible exact Below.refl _ _) | (with_reducible assumption) | (with_reducible refine Below.alloc ?_ ?_ _) | (with_reducible refine Below.setCell ?_ ?_ _) | (with_reducible refine below_drewN ?_ _) | (with_reducible refine Below.drew ?_) | go_size))⟩
    · have b1 := dec_f sn
      have b2 := dec_f sd
      have HV : Hid (makeV num den = .tuple #[.agg #[.int .i64 (mA num den), .int .i64 (mB num den)], .agg #[.int .i64 0, .int .i64 0]]) := Lib.hid (by simp [makeV, mN, mD, hC, fracV, faultV, sn, sd])
      clear hf hC sn sd
      go_enter Try.func14, Try.ntmps14
      go_wp2_with (first | (go_at_call 42; refine (size_any _ _ (by omega) (by omega)).mono ?_; rintro e w' ⟨rfl, rfl⟩) | (go_at_call 43; refine (gcd_any _ _ _ (by omega) (by omega)).mono ?_; rintro e w' ⟨rfl, nq, rfl⟩))
      go_quiet (fail)
      rw [HA.out, HB.out]
      go_wp2
      go_returns
      exact ⟨by rw [HV.out], by (repeat' (first | (with_reducible exact Below.refl _ _) | (with_reducible assumption) | (with_reducible refine Below.alloc ?_ ?_ _) | (with_reducible refine Below.setCell ?_ ?_ _) | (with_reducible refine below_drewN ?_ _) | (with_reducible refine Below.drew ?_) | go_size))⟩
  · have hC : mC num den = 10 := by unfold mC; rw [if_neg h0, if_neg hf]
    have HV : Hid (makeV num den = .tuple #[.agg #[.int .i64 0, .int .i64 0], .agg #[.int .i64 10, .int .i64 0]]) := Lib.hid (by simp [makeV, mN, mD, hC, fracV, faultV])
    clear hC
    by_cases f1 : mA num den ≤ 1073741824
    · have c1 : decide (1073741824 < (mA num den : Int)) = false := dec_f (by omega)
      have c2 : decide (1073741824 < (mB num den : Int)) = true := dec_t (by have : ¬ mB num den ≤ 1073741824 := fun h => hf ⟨f1, h⟩; omega)
      clear hf
      go_enter Try.func14, Try.ntmps14
      go_wp2_with (first | (go_at_call 42; refine (size_any _ _ (by omega) (by omega)).mono ?_; rintro e w' ⟨rfl, rfl⟩) | (go_at_call 43; refine (gcd_any _ _ _ (by omega) (by omega)).mono ?_; rintro e w' ⟨rfl, nq, rfl⟩))
      go_quiet (fail)
      rw [HA.out, HB.out]
      go_wp2
      go_returns
      exact ⟨by rw [HV.out], by (repeat' (first | (with_reducible exact Below.refl _ _) | (with_reducible assumption) | (with_reducible refine Below.alloc ?_ ?_ _) | (with_reducible refine Below.setCell ?_ ?_ _) | (with_reducible refine below_drewN ?_ _) | (with_reducible refine Below.drew ?_) | go_size))⟩
    · have c1 : decide (1073741824 < (mA num den : Int)) = true := dec_t (by omega)
      clear hf
      go_enter Try.func14, Try.ntmps14
      go_wp2_with (first | (go_at_call 42; refine (size_any _ _ (by omega) (by omega)).mono ?_; rintro e w' ⟨rfl, rfl⟩) | (go_at_call 43; refine (gcd_any _ _ _ (by omega) (by omega)).mono ?_; rintro e w' ⟨rfl, nq, rfl⟩))
      go_quiet (fail)
      rw [HA.out, HB.out]
      go_wp2
      go_returns
      exact ⟨by rw [HV.out], by (repeat' (first | (with_reducible exact Below.refl _ _) | (with_reducible assumption) | (with_reducible refine Below.alloc ?_ ?_ _) | (with_reducible refine Below.setCell ?_ ?_ _) | (with_reducible refine below_drewN ?_ _) | (with_reducible refine Below.drew ?_) | go_size))⟩

end Go.Proofs.Ytnmklgigmmlgeaa
