/- Plain laws of rows: the sum of two rows. -/
import Derived.Test.YtihcbmkjfacooaaRowLawC
namespace Go.Proofs.Ytihcbmkjfacooaa
open Go.ChangeShapes Go.WideShapes Go.RowKit
set_option linter.unusedVariables false
set_option linter.unusedSimpArgs false

def plusC (a b : Rw) (k : Nat) : Int := a.of.getD k 0 + b.of.getD k 0
def plusL (a b : Rw) (n : Nat) : List Int := (List.range n).map (plusC a b)
def plusR (a b : Rw) (n : Nat) : Rw := ⟨plusL a b n, max a.kind b.kind, a.to + b.to⟩
theorem plusL_succ (a b : Rw) (n : Nat) : plusL a b (n + 1) = plusL a b n ++ [plusC a b n] := by
  unfold plusL
  rw [List.range_succ, List.map_append]; rfl
theorem plusL_length (a b : Rw) (n : Nat) : (plusL a b n).length = n := by simp [plusL]
theorem plusL_get {a b : Rw} {n i : Nat} (h : i < n) : (plusL a b n).getD i 0 = plusC a b i := by
  unfold plusL
  rw [List.getD_eq_getElem?_getD, List.getElem?_map, List.getElem?_range h]; rfl
theorem fit_getD {l : List Int} (h : ∀ x ∈ l, fitI x) (k : Nat) : fitI (l.getD k 0) := by
  by_cases hk : k < l.length
  · rw [List.getD_eq_getElem?_getD, List.getElem?_eq_getElem hk]; exact h _ (List.getElem_mem hk)
  · rw [getD_over (by omega)]; unfold fitI; omega
theorem plusC_bd {a b : Rw} (ha : ∀ x ∈ a.of, fitI x) (hb : ∀ x ∈ b.of, fitI x) (k : Nat) : -10000000 ≤ plusC a b k ∧ plusC a b k ≤ 10000000 := by
  have h1 := fit_getD ha k
  have h2 := fit_getD hb k
  unfold fitI at h1 h2
  unfold plusC
  omega
theorem sumK_plus (a b : Rw) (nums : List Fq) {n : Nat} : ∀ k, k ≤ n → sumK (plusL a b n) nums k = sumK a.of nums k + sumK b.of nums k
  | 0, _ => by simp [sumK, Rat.add_zero]
  | k + 1, h => by
    simp only [sumK]
    rw [sumK_plus a b nums k (by omega), plusL_get (by omega)]
    unfold plusC
    rw [Rat.intCast_add, Rat.add_mul]
    generalize sumK a.of nums k = x
    generalize sumK b.of nums k = y
    generalize (a.of.getD k 0 : Rat) * (nums.getD k ⟨0, 0⟩).q = u
    generalize (b.of.getD k 0 : Rat) * (nums.getD k ⟨0, 0⟩).q = v
    rw [Rat.add_assoc, Rat.add_assoc, ← Rat.add_assoc y u v, ← Rat.add_assoc u y v, Rat.add_comm y u]
theorem sumK_all {l : List Int} {nums : List Fq} {n : Nat} (h : l.length ≤ n) : sumK l nums n = sumK l nums l.length := by
  have := sumK_tail (a := l) (nums := nums) (m := l.length) (fun i hi => getD_over hi) (n - l.length)
  rwa [show l.length + (n - l.length) = n by omega] at this
theorem ratS_le {q : Rat} : q.num.sign ≤ 0 ↔ q ≤ 0 := by
  rw [Int.sign_nonpos_iff, show q.num ≤ 0 ↔ 0 ≤ (-q).num from by rw [Rat.neg_num]; omega, Rat.num_nonneg]
  grind
theorem ratS_lt {q : Rat} : q.num.sign < 0 ↔ q < 0 := by
  rw [show q.num.sign < 0 ↔ ¬ 0 ≤ q.num.sign from by omega, Int.sign_nonneg_iff, Rat.num_nonneg, Rat.not_le]
theorem plus_holds {a b : Rw} {nums : List Fq} {n : Int} (ha : RowOK a n) (hb : RowOK b n) (hn : n = nums.length) (h3 : a.kind ≠ 3) (g3 : b.kind ≠ 3) (x : holdsB a nums = true) (y : holdsB b nums = true) : holdsB (plusR a b nums.length) nums = true := by
  have e : sumK (plusR a b nums.length).of nums (plusR a b nums.length).of.length - ((plusR a b nums.length).to : Rat) = (sumK a.of nums a.of.length - (a.to : Rat)) + (sumK b.of nums b.of.length - (b.to : Rat)) := by
    show sumK (plusL a b nums.length) nums (plusL a b nums.length).length - ((a.to + b.to : Int) : Rat) = _
    have h1 := ha.len
    have h2 := hb.len
    rw [plusL_length, sumK_plus a b nums _ (Nat.le_refl _), sumK_all (l := a.of) (by omega), sumK_all (l := b.of) (by omega), Rat.intCast_add]
    generalize sumK a.of nums a.of.length = p
    generalize sumK b.of nums b.of.length = q
    generalize (a.to : Rat) = u
    generalize (b.to : Rat) = v
    grind
  unfold holdsB at x y ⊢
  rw [e]
  generalize sumK a.of nums a.of.length - (a.to : Rat) = p at *
  generalize sumK b.of nums b.of.length - (b.to : Rat) = q at *
  have hk := ha.kind
  have hl := hb.kind
  show holdsP (max a.kind b.kind) _ = true
  obtain ⟨of, kind, tt⟩ := a
  obtain ⟨of', kind', tt'⟩ := b
  simp only at hk hl h3 g3 x y ⊢
  rcases hk with rfl | rfl | rfl
  · rcases hl with rfl | rfl | rfl
    · rw [holds1, decide_eq_true_iff, ratS_le] at x y
      rw [show max (1 : Int) 1 = 1 from rfl, holds1, decide_eq_true_iff, ratS_le]
      grind
    · rw [holds1, decide_eq_true_iff, ratS_le] at x
      rw [holds2, decide_eq_true_iff, ratS_lt] at y
      rw [show max (1 : Int) 2 = 2 from rfl, holds2, decide_eq_true_iff, ratS_lt]
      grind
    · exact absurd rfl g3
  · rcases hl with rfl | rfl | rfl
    · rw [holds2, decide_eq_true_iff, ratS_lt] at x
      rw [holds1, decide_eq_true_iff, ratS_le] at y
      rw [show max (2 : Int) 1 = 2 from rfl, holds2, decide_eq_true_iff, ratS_lt]
      grind
    · rw [holds2, decide_eq_true_iff, ratS_lt] at x y
      rw [show max (2 : Int) 2 = 2 from rfl, holds2, decide_eq_true_iff, ratS_lt]
      grind
    · exact absurd rfl g3
  · exact absurd rfl h3
end Go.Proofs.Ytihcbmkjfacooaa
