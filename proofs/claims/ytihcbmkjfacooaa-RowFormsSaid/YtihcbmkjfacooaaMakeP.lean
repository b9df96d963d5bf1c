/- What frac.Make answers: plain definitions and lemmas. -/
import Derived.Test.YtihcbmkjfacooaaFrac
namespace Go.Proofs.Ytihcbmkjfacooaa
open Go.ChangeShapes Go.WideShapes Go.RowKit
set_option linter.unusedVariables false
set_option linter.unusedSimpArgs false

/-- The parts of num/den in lowest terms, without signs. -/
def mA (num den : Int) : Nat := num.natAbs / Nat.gcd num.natAbs den.natAbs
def mB (num den : Int) : Nat := den.natAbs / Nat.gcd num.natAbs den.natAbs
def mFits (num den : Int) : Prop := mA num den ≤ 1073741824 ∧ mB num den ≤ 1073741824
instance (num den : Int) : Decidable (mFits num den) := by unfold mFits; infer_instance
/-- What frac.Make returns: the code of the fault, the numerator, the denominator. -/
def mC (num den : Int) : Int := if den = 0 then 6 else if mFits num den then 0 else 10
def mN (num den : Int) : Int := if mC num den = 0 then (if (num < 0) ≠ (den < 0) then -(mA num den : Int) else mA num den) else 0
def mD (num den : Int) : Int := if mC num den = 0 then mB num den else 0
def fracV (n d : Int) : Value := .agg #[.int .i64 n, .int .i64 d]
def faultV (c a : Int) : Value := .agg #[.int .i64 c, .int .i64 a]
def makeV (num den : Int) : Value := .tuple #[fracV (mN num den) (mD num den), faultV (mC num den) 0]

theorem div_gcd_lt (a b : Nat) (ha : a < 18446744073709551616) : a / Nat.gcd a b < 18446744073709551616 := Nat.lt_of_le_of_lt (Nat.div_le_self _ _) ha

theorem wrap_u64 (n : Nat) (h : n < 18446744073709551616) : IntKind.u64.wrap (n : Int) = n := by
  simp only [IntKind.wrap, IntKind.bits, IntKind.signed]
  simp
  omega

theorem wrap_div (a g : Nat) (ha : a < 18446744073709551616) : IntKind.u64.wrap ((a : Int) / (g : Int)) = ((a / g : Nat) : Int) := by
  have h := wrap_u64 (a / g) (Nat.lt_of_le_of_lt (Nat.div_le_self _ _) ha)
  rw [← h]; congr 1

end Go.Proofs.Ytihcbmkjfacooaa
