/- Package farkas's Take: what it answers, plain. -/
import Derived.Test.YtamjmcdlddocgaaFkD
import Derived.Test.YtamjmcdlddocgaaFkA
import Derived.Test.YtamjmcdlddocgaaFkLd
namespace Go.Proofs.Ytamjmcdlddocgaa
open Go.ChangeShapes Go.WideShapes Go.RowKit
set_option linter.unusedVariables false
set_option linter.unusedSimpArgs false

theorem listF_ok {l : List Rw} {n : Int} (h : (listF l n).1 = 0) : 0 ≤ n ∧ n ≤ 12 ∧ l.length ≤ 40 ∧ ∀ r ∈ l, RowOK r n := by
  unfold listF at h
  by_cases h1 : n < 0 ∨ 12 < n
  · rw [if_pos h1] at h; simp at h
  · rw [if_neg h1] at h
    by_cases h2 : 40 < l.length
    · rw [if_pos h2] at h; simp at h
    · rw [if_neg h2] at h
      exact ⟨by omega, by omega, by omega, (firstRow_all h).2⟩
theorem frac_nonneg {g : Fq} (h : FracOK g.N g.D) : 0 ≤ g.q ↔ 0 ≤ g.N := Rat.divInt_nonneg_iff_of_pos_right (by have := h.1; omega)
theorem posK_mono {rows : List Rw} {ts : List Rat} {k : Nat} (h : posK rows ts k = false) : ∀ j, posK rows ts (k + j) = false
  | 0 => h
  | j + 1 => by show posK rows ts (k + j + 1) = false; simp only [posK]; rw [posK_mono h j]; rfl
theorem zeroK_any {rows : List Rw} {ts : List Rat} : ∀ N, zeroK rows ts N = !((colL rows ts N rows.length).any nzP)
  | 0 => rfl
  | N + 1 => by
    simp only [zeroK]
    rw [zeroK_any N]
    unfold colL
    rw [List.range_succ, List.map_append, List.any_append]
    simp [nzP]
theorem sign_neg {q : Rat} (h : q < 0) : q.num.sign = -1 := by rw [Int.sign_eq_neg_one_iff_neg]; have := (ratSgn_lt (q := q)).2 h; rcases Int.lt_trichotomy q.num 0 with h | h | h <;> simp_all [Int.sign_eq_one_of_pos]
theorem sign_pos' {q : Rat} (h : 0 < q) : q.num.sign = 1 := by
  have h1 : ¬ q.num.sign < 0 := fun h0 => by have := ratSgn_lt.1 h0; grind
  have h2 : q.num.sign ≠ 0 := num_sign_ne (by grind)
  rcases Int.lt_trichotomy q.num 0 with h | h | h
  · rw [Int.sign_eq_neg_one_of_neg h] at h1; omega
  · rw [h] at h2; simp at h2
  · exact Int.sign_eq_one_of_pos h
theorem map_getD {l : List Fq} {i : Nat} (h : i < l.length) : (l.map Fq.q).getD i 0 = (l[i]).q := by
  rw [List.getD_eq_getElem?_getD, List.getElem?_map, List.getElem?_eq_getElem h]; rfl

def fkB (rows : List Rw) (times : List Fq) (n : Int) : Bool := if (farkF rows n times).1 = 0 then refB rows (times.map Fq.q) n.toNat else false

end Go.Proofs.Ytamjmcdlddocgaa
