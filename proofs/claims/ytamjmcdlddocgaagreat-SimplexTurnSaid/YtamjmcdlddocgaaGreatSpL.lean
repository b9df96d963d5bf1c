/- A turned table says the same: plain. -/
import Derived.Test.YtamjmcdlddocgaaGreatSpB
namespace Go.Proofs.YtamjmcdlddocgaaGreat
open Go.ChangeShapes Go.WideShapes Go.RowKit
set_option linter.unusedVariables false
set_option linter.unusedSimpArgs false
def dotN (f p : Nat → Rat) : Nat → Rat
 | 0 => 0
 | k + 1 => dotN f p k + f k * p k
theorem dotN_div {f p : Nat → Rat} {a : Rat} : ∀ n, dotN (fun k => f k / a) p n = dotN f p n / a
 | 0 => by simp only [dotN]; rw [Rat.div_def, Rat.zero_mul]
 | n + 1 => by
  simp only [dotN]
  rw [dotN_div n]
  simp only [Rat.div_def]
  grind
theorem dotN_sub {f g p : Nat → Rat} {b : Rat} : ∀ n, dotN (fun k => f k - g k * b) p n = dotN f p n - dotN g p n * b
 | 0 => by simp only [dotN]; grind
 | n + 1 => by
  simp only [dotN]
  rw [dotN_sub n]
  grind
theorem dotN_congr {f g p : Nat → Rat} : ∀ {n : Nat}, (∀ k, k < n → f k = g k) → dotN f p n = dotN g p n
 | 0, _ => rfl
 | n + 1, h => by
  simp only [dotN]
  rw [dotN_congr (n := n) (fun k hk => h k (by omega)), h n (by omega)]
theorem div_zero_iff {x a : Rat} (ha : a ≠ 0) : x / a = 0 ↔ x = 0 := by
 constructor
 ·intro h
  have : x / a * a = x := Rat.div_mul_cancel ha
  rw [h, Rat.zero_mul] at this
  exact this.symm
 ·intro h; rw [h, Rat.div_def, Rat.zero_mul]
theorem turn_same {t : List (List Fq)} {r c m : Nat} {p : Nat → Rat} (hr : r < t.length) (h0 : tq t r c ≠ 0) :
  (∀ i, i < t.length → dotN (fun k => tq t i k) p m = 0) ↔ (∀ i, i < t.length → dotN (fun k => pivQ t r c i k) p m = 0) := by
 have er : dotN (fun k => pivQ t r c r k) p m = dotN (fun k => tq t r k) p m / tq t r c := by
  rw [← dotN_div]
  exact dotN_congr fun k _ => by unfold pivQ; rw [if_pos rfl]
 have ei : ∀ i, i ≠ r → dotN (fun k => pivQ t r c i k) p m = dotN (fun k => tq t i k) p m - dotN (fun k => tq t r k) p m / tq t r c * tq t i c := by
  intro i hi
  rw [← dotN_div, ← dotN_sub]
  exact dotN_congr fun k _ => by unfold pivQ; rw [if_neg hi]
 constructor
 ·intro h i hi
  by_cases e : i = r
  ·subst e; rw [er, h i hi]; exact (div_zero_iff h0).2 rfl
  ·rw [ei i e, h i hi, h r hr, (div_zero_iff h0).2 rfl, Rat.zero_mul]; grind
 ·intro h i hi
  have hR : dotN (fun k => tq t r k) p m = 0 := (div_zero_iff h0).1 (by rw [← er]; exact h r hr)
  by_cases e : i = r
  ·subst e; exact hR
  ·have := h i hi
   rw [ei i e, hR, (div_zero_iff h0).2 rfl, Rat.zero_mul] at this
   grind
theorem fqOf_q {q : Rat} (h : Fits q) : (fqOf q).q = q := by
 unfold fqOf
 rw [if_pos h]
 exact Rat.num_divInt_den q
theorem pvT_tq {t : List (List Fq)} {r c m i k : Nat} (h : pvOK t r c m = true) (hi : i < t.length) (hk : k < m) : tq (pvT t r c m) i k = pivQ t r c i k := by
 have hf : Fits (pivQ t r c i k) := of_decide_eq_true (List.all_eq_true.1 (List.all_eq_true.1 h i (List.mem_range.2 hi)) k (List.mem_range.2 hk))
 unfold pvT
 rw [if_pos h]
 have h1 : i < (pvLs t r c m t.length).length := by rw [pvLs_len]; exact hi
 have e : (pvLs t r c m t.length)[i] = pvL t r c i m := by simp [pvLs]
 have h2 : k < (pvLs t r c m t.length)[i].length := by rw [e, pvL_len]; exact hk
 rw [tq_at h1 h2]
 have e2 : (pvLs t r c m t.length)[i][k] = fqOf (pivQ t r c i k) := by simp [pvLs, pvL]
 rw [e2]
 exact fqOf_q hf
end Go.Proofs.YtamjmcdlddocgaaGreat
