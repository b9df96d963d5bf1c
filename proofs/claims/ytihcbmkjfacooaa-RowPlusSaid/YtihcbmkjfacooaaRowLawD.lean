/- Plain laws of rows: times a number above 0 a row is tidied to the same. -/
import Derived.Test.YtihcbmkjfacooaaRowLawC
namespace Go.Proofs.Ytihcbmkjfacooaa
open Go.ChangeShapes Go.WideShapes Go.RowKit
set_option linter.unusedVariables false
set_option linter.unusedSimpArgs false

def timesR (c : Int) (r : Rw) : Rw := ⟨r.of.map fun x => c * x, r.kind, c * r.to⟩
theorem bareN_mul {c : Int} (hc : c ≠ 0) (l : List Int) : ∀ n, bareN (l.map fun x => c * x) n = bareN l n
  | 0 => rfl
  | n + 1 => by
    unfold bareN
    rw [map_getD0 l (fun x => c * x) (by simp), bareN_mul hc l n]
    by_cases h : l.getD n 0 = 0
    · rw [if_pos h, if_pos (by rw [h]; simp)]
    · rw [if_neg h, if_neg (Int.mul_ne_zero hc h)]
theorem bareL_mul {c : Int} (hc : c ≠ 0) (l : List Int) : bareL (l.map fun x => c * x) = (bareL l).map fun x => c * x := by
  unfold bareL
  rw [List.length_map, bareN_mul hc, List.map_take]
theorem emptyTo_mul {c : Int} (hc : 0 < c) (k t : Int) : emptyTo k (c * t) = emptyTo k t := by
  have h1 : c * t < 0 ↔ t < 0 := ⟨fun h => Int.not_le.1 fun h' => by have := Int.mul_nonneg (Int.le_of_lt hc) h'; omega, fun h => Int.mul_neg_of_pos_of_neg hc h⟩
  have h2 : 0 < c * t ↔ 0 < t := ⟨fun h => Int.not_le.1 fun h' => by have := Int.mul_nonpos_of_nonneg_of_nonpos (Int.le_of_lt hc) h'; omega, fun h => Int.mul_pos hc h⟩
  have h3 : c * t = 0 ↔ t = 0 := by omega
  unfold emptyTo
  simp only [h1, h2, h3]
theorem tidy_times {c : Int} (hc : 0 < c) (r : Rw) : tidyR (timesR c r) = tidyR r := by
  have hb : bareL (timesR c r).of = (bareL r.of).map fun x => c * x := bareL_mul (by omega) _
  unfold tidyR
  by_cases h : bareL r.of = []
  · rw [if_pos h, if_pos (by rw [hb, h]; rfl)]
    show (⟨[], r.kind, emptyTo r.kind (c * r.to)⟩ : Rw) = _
    rw [emptyTo_mul hc]
  · rw [if_neg h, if_neg (by rw [hb]; simpa using h)]
    have hG : tidyG (timesR c r) = c.natAbs * tidyG r := by
      unfold tidyG
      rw [hb]
      show Nat.gcd _ (c * r.to).natAbs = _
      rw [gcdL_scale (a := (bareL r.of).map fun x => c * x) (b := bareL r.of) (g := c.natAbs) (by simp) fun i => by rw [map_getD0 _ (fun x => c * x) (by simp), Int.natAbs_mul], Int.natAbs_mul, Nat.gcd_mul_left]
    have hdiv : ∀ x : Int, (c * x).tdiv ((c.natAbs * tidyG r : Nat) : Int) = x.tdiv (tidyG r) := fun x => by
      rw [Int.natCast_mul, show (c.natAbs : Int) = c by omega, Int.mul_tdiv_mul_of_pos _ _ hc]
    rw [hG, hb]
    unfold byG
    rw [List.map_map]
    have e : ((fun x => x.tdiv ((c.natAbs * tidyG r : Nat) : Int)) ∘ fun x => c * x) = fun x : Int => x.tdiv (tidyG r) := by funext x; exact hdiv x
    rw [e]
    show (⟨turnOf r.kind _, r.kind, turnTo r.kind _ ((c * r.to).tdiv _)⟩ : Rw) = _
    rw [hdiv]
end Go.Proofs.Ytihcbmkjfacooaa
