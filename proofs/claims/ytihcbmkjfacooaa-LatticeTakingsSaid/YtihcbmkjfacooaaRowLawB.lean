/- Plain laws of rows: tidied rows. -/
import Derived.Test.YtihcbmkjfacooaaRowLawA
namespace Go.Proofs.Ytihcbmkjfacooaa
open Go.ChangeShapes Go.WideShapes Go.RowKit
set_option linter.unusedVariables false
set_option linter.unusedSimpArgs false

theorem sumK_congr {a b : List Int} {nums : List Fq} (h : ∀ i, a.getD i 0 = b.getD i 0) : ∀ k, sumK a nums k = sumK b nums k
  | 0 => rfl
  | k + 1 => by simp only [sumK]; rw [sumK_congr h k, h k]
theorem sumK_tail {a : List Int} {nums : List Fq} {m : Nat} (h : ∀ i, m ≤ i → a.getD i 0 = 0) : ∀ j, sumK a nums (m + j) = sumK a nums m
  | 0 => rfl
  | j + 1 => by
    rw [← Nat.add_assoc]
    simp only [sumK]
    rw [sumK_tail h j, h (m + j) (by omega)]
    rw [Rat.intCast_zero, Rat.zero_mul, Rat.add_zero]
theorem sumK_mul {a b : List Int} {nums : List Fq} {c : Int} (h : ∀ i, a.getD i 0 = c * b.getD i 0) : ∀ k, sumK a nums k = (c : Rat) * sumK b nums k
  | 0 => by simp [sumK]
  | k + 1 => by simp only [sumK]; rw [sumK_mul h k, h k, Rat.intCast_mul, Rat.mul_add, Rat.mul_assoc]

theorem bareN_zero (l : List Int) : ∀ n i, bareN l n ≤ i → i < n → l.getD i 0 = 0
  | 0, i, _, h => by omega
  | n + 1, i, h1, h2 => by
    unfold bareN at h1
    by_cases h0 : l.getD n 0 = 0
    · rw [if_pos h0] at h1
      by_cases he : i = n
      · rw [he]; exact h0
      · exact bareN_zero l n i h1 (by omega)
    · rw [if_neg h0] at h1; omega
theorem getD_over {l : List Int} {i : Nat} (h : l.length ≤ i) : l.getD i 0 = 0 := by rw [List.getD_eq_getElem?_getD, List.getElem?_eq_none h]; rfl
theorem bareL_get (l : List Int) (i : Nat) : (bareL l).getD i 0 = l.getD i 0 := by
  by_cases h : i < bareN l l.length
  · unfold bareL
    rw [List.getD_eq_getElem?_getD, List.getElem?_take, if_pos h, ← List.getD_eq_getElem?_getD]
  · rw [getD_over (by rw [bareL_len]; omega)]
    by_cases h2 : i < l.length
    · exact (bareN_zero l l.length i (by omega) h2).symm
    · exact (getD_over (by omega)).symm
theorem sum_bare (l : List Int) (nums : List Fq) : sumK (bareL l) nums (bareL l).length = sumK l nums l.length := by
  have hle : (bareL l).length ≤ l.length := by rw [bareL_len]; exact bareN_le _ _
  rw [sumK_congr (bareL_get l)]
  have := sumK_tail (a := l) (nums := nums) (m := (bareL l).length) (fun i hi => by rw [← bareL_get]; exact getD_over hi) (l.length - (bareL l).length)
  rw [← this]
  congr 1
  omega

/-- The sign of a product with what is above 0. -/
theorem sign_scale {x : Rat} {c : Int} (hc : 0 < c) : ((c : Rat) * x).num.sign = x.num.sign := by
  have h1 := cmp_sign ((c : Rat) * x) 0
  have e : (c : Rat) * x = Rat.divInt (c * x.num) x.den := by
    rw [← divInt_one]
    conv => lhs; rw [← Rat.num_divInt_den x]
    rw [Rat.divInt_mul_divInt, Int.one_mul]
  have hp : (0 : Int) < x.den := by have := x.den_pos; omega
  have hn : (Rat.divInt (c * x.num) x.den).num = (c * x.num).tdiv (Nat.gcd (c * x.num).natAbs (x.den : Int).natAbs : Nat) := (rat_pos _ _ hp).1
  have hg : 0 < Nat.gcd (c * x.num).natAbs (x.den : Int).natAbs := Nat.gcd_pos_of_pos_right _ (by omega)
  have hd : ((Nat.gcd (c * x.num).natAbs (x.den : Int).natAbs : Nat) : Int) ∣ c * x.num := Int.ofNat_dvd_left.2 (Nat.gcd_dvd_left _ _)
  rw [e, hn]
  have hs : (c * x.num).sign = x.num.sign := by rw [Int.sign_mul, Int.sign_eq_one_of_pos hc, Int.one_mul]
  rw [← hs]
  generalize Nat.gcd (c * x.num).natAbs (x.den : Int).natAbs = g at *
  generalize c * x.num = n at *
  obtain ⟨d, rfl⟩ := hd
  rw [Int.mul_tdiv_cancel_left _ (by omega), Int.sign_mul, Int.sign_eq_one_of_pos (show (0 : Int) < (g : Int) by omega), Int.one_mul]

theorem holdsP_neg {c : Int} : holdsP 3 (-c) = holdsP 3 c := by
  rw [holds3, holds3]
  by_cases h : c = 0
  · subst h; rfl
  · rw [decide_eq_false h, decide_eq_false (by omega)]

/-- Divided by what divides all, and turned, a row holds where it held. -/
theorem holdsB_byG {l : List Int} {k t : Int} {g : Nat} {nums : List Fq} (hg : 0 < g) (hd : ∀ x ∈ l, (g : Int) ∣ x) (ht : (g : Int) ∣ t) :
    holdsB (byG l k (t.tdiv g) g) nums = holdsP k (sumK l nums l.length - (t : Rat)).num.sign := by
  have hget : ∀ i, l.getD i 0 = (g : Int) * (l.map fun x => x.tdiv g).getD i 0 := fun i => by
    rw [map_getD0 l (fun x => x.tdiv (g : Int)) (by simp)]
    by_cases hi : i < l.length
    · have hx := hd (l.getD i 0) (by rw [List.getD_eq_getElem?_getD, List.getElem?_eq_getElem hi]; exact List.getElem_mem _)
      obtain ⟨c, hc⟩ := hx
      rw [hc, Int.mul_tdiv_cancel_left _ (by omega)]
    · rw [getD_over (by omega)]; simp
  have htt : t = (g : Int) * t.tdiv g := by
    obtain ⟨c, rfl⟩ := ht
    rw [Int.mul_tdiv_cancel_left _ (by omega)]
  have key : sumK l nums l.length - (t : Rat) = ((g : Int) : Rat) * (sumK (l.map fun x => x.tdiv g) nums l.length - ((t.tdiv g : Int) : Rat)) := by
    rw [sumK_mul hget, Rat.sub_eq_add_neg, Rat.sub_eq_add_neg, Rat.mul_add, Rat.mul_neg]
    conv => lhs; rw [htt]
    rw [Rat.intCast_mul]
  rw [key, sign_scale (by omega)]
  unfold holdsB byG turnOf turnTo
  by_cases hq : turnQ k (l.map fun x => x.tdiv g)
  · obtain ⟨rfl, hs⟩ := hq
    rw [if_pos ⟨rfl, hs⟩, if_pos ⟨rfl, hs⟩]
    simp only [List.length_map]
    rw [sumK_neg, ← holdsP_neg, Rat.intCast_neg, ← Int.sign_neg, ← Rat.neg_num]
    congr 2
    rw [Rat.sub_eq_add_neg, Rat.sub_eq_add_neg, Rat.neg_add, Rat.neg_neg, Rat.neg_neg]
  · rw [if_neg hq, if_neg hq]
    simp only [List.length_map]
end Go.Proofs.Ytihcbmkjfacooaa
