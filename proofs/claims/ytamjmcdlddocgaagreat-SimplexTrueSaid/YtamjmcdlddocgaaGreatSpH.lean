/- A point and multipliers, as the laws ask for them: plain. -/
import Derived.Test.YtamjmcdlddocgaaGreatSpG
import Derived.Test.YtamjmcdlddocgaaGreatFkAA
namespace Go.Proofs.YtamjmcdlddocgaaGreat
open Go.ChangeShapes Go.WideShapes Go.RowKit
set_option linter.unusedVariables false
set_option linter.unusedSimpArgs false
theorem sumK_sQ {of : List Int} {nums : List Fq} : ∀ k, sumK of nums k = sQ k fun j => (of.getD j 0 : Rat) * fqAt nums j
 | 0 => rfl
 | k + 1 => by simp only [sumK, sQ]; rw [sumK_sQ k]; rfl
theorem row_at {rows : List Rw} {i : Nat} (hi : i < rows.length) : rows.getD i nilRw = rows[i] := by rw [List.getD_eq_getElem?_getD, List.getElem?_eq_getElem hi]; rfl
theorem yes_holdsB {rows : List Rw} {N : Nat} {pt : List Fq} (hok : ∀ r ∈ rows, RowOK r N) (h : YesOf rows N pt) : ∀ r ∈ rows, holdsB r pt = true := by
 intro r hr
 obtain ⟨i, hi, rfl⟩ := List.getElem_of_mem hr
 have hk := hok _ hr
 obtain ⟨h1, h2, h3⟩ := h.holds i hi
 have e : sumK rows[i].of pt rows[i].of.length = sQ N fun j => (rowA rows i j : Rat) * fqAt pt j := by
  rw [sumK_sQ]
  have hl := hk.len
  obtain ⟨d, hd⟩ : ∃ d, N = rows[i].of.length + d := ⟨N - rows[i].of.length, by omega⟩
  subst hd
  have e1 : ∀ j, (rowA rows i j : Rat) * fqAt pt j = (rows[i].of.getD j 0 : Rat) * fqAt pt j := fun j => by unfold rowA; rw [row_at hi]
  rw [sQ_congr _ fun j _ => e1 j, sQ_more d fun j hj _ => ?_]
  rw [List.getD_eq_getElem?_getD, List.getElem?_eq_none (by omega)]
  show ((0 : Int) : Rat) * _ = 0
  rw [show ((0 : Int) : Rat) = 0 from rfl, Rat.zero_mul]
 unfold holdsB holdsP
 rw [row_at hi] at h1 h2 h3
 rw [e]
 generalize (sQ N fun j => (rowA rows i j : Rat) * fqAt pt j) = s at *
 generalize ((rows[i].to : Int) : Rat) = t at *
 have s1 := sgn_neg (q := s - t)
 have s2 := sgn_pos (q := s - t)
 rcases hk.kind with hc | hc | hc
 ·have := h1 hc
  rw [if_pos hc]
  refine decide_eq_true ?_
  have : ¬ 0 < (s - t).num.sign := fun hx => by have := s2.1 hx; grind
  omega
 ·have := h2 hc
  rw [if_neg (by omega), if_pos hc]
  exact decide_eq_true (s1.2 (by grind))
 ·have := h3 hc
  rw [if_neg (by omega), if_neg (by omega)]
  refine decide_eq_true ?_
  have a1 : ¬ 0 < (s - t).num.sign := fun hx => by have := s2.1 hx; grind
  have a2 : ¬ (s - t).num.sign < 0 := fun hx => by have := s1.1 hx; grind
  omega
theorem tsAt {tm : List Fq} (i : Nat) : (tm.map Fq.q).getD i 0 = fqAt tm i := by
 unfold fqAt
 by_cases hi : i < tm.length
 ·rw [List.getD_eq_getElem?_getD, List.getElem?_map, List.getElem?_eq_getElem hi, List.getD_eq_getElem?_getD, List.getElem?_eq_getElem hi]; rfl
 ·rw [List.getD_eq_getElem?_getD, List.getElem?_map, List.getElem?_eq_none (by omega), List.getD_eq_getElem?_getD, List.getElem?_eq_none (by omega)]
  show (0 : Rat) = Rat.divInt 0 0
  rfl
theorem colK_sQ {rows : List Rw} {tm : List Fq} {k : Nat} : ∀ m, colK rows (tm.map Fq.q) k m = sQ m fun p => fqAt tm p * (rowA rows p k : Rat)
 | 0 => rfl
 | m + 1 => by
  simp only [colK, sQ]
  rw [colK_sQ m, tsAt, Rat.mul_comm]
  rfl
theorem toK_sQ {rows : List Rw} {tm : List Fq} : ∀ m, toK rows (tm.map Fq.q) m = sQ m fun p => fqAt tm p * ((rows.getD p nilRw).to : Rat)
 | 0 => rfl
 | m + 1 => by
  simp only [toK, sQ]
  rw [toK_sQ m, tsAt, Rat.mul_comm]
theorem strK_of {rows : List Rw} {tm : List Fq} {p : Nat} (hk : (rows.getD p nilRw).kind = 2) (h0 : fqAt tm p ≠ 0) : ∀ m, p < m → strK rows (tm.map Fq.q) m = true
 | 0, h => absurd h (by omega)
 | m + 1, h => by
  unfold strK
  by_cases e : p = m
  ·subst e
   rw [tsAt, hk]
   simp [h0]
  ·rw [strK_of hk h0 m (by omega)]; rfl
theorem posK_of {rows : List Rw} {tm : List Fq} : ∀ m, (∀ p, p < m → (rows.getD p nilRw).kind ≠ 3 → 0 ≤ fqAt tm p) → posK rows (tm.map Fq.q) m = true
 | 0, _ => rfl
 | m + 1, h => by
  unfold posK
  rw [posK_of m fun p hp => h p (by omega), tsAt]
  rw [Bool.true_and, Bool.or_eq_true, decide_eq_true_eq, decide_eq_true_eq]
  by_cases hk : (rows.getD m nilRw).kind = 3
  ·exact .inl hk
  ·exact .inr (h m (by omega) hk)
theorem zeroK_of {rows : List Rw} {tm : List Fq} : ∀ N, (∀ k, k < N → (sQ rows.length fun p => fqAt tm p * (rowA rows p k : Rat)) = 0) → zeroK rows (tm.map Fq.q) N = true
 | 0, _ => rfl
 | N + 1, h => by
  unfold zeroK
  rw [zeroK_of N fun k hk => h k (by omega), colK_sQ, h N (by omega)]
  rfl
theorem no_refB {rows : List Rw} {N : Nat} {tm : List Fq} (h : NoOf rows N tm) : refB rows (tm.map Fq.q) N = true := by
 unfold refB endB
 rw [posK_of _ h.sign, zeroK_of _ h.col, toK_sQ, Bool.true_and, Bool.true_and, Bool.or_eq_true, Bool.and_eq_true, decide_eq_true_eq, decide_eq_true_eq]
 rcases h.neg with hn | ⟨hn, p, hp, hk, h0⟩
 ·exact .inl hn
 ·exact .inr ⟨hn, strK_of hk h0 _ hp⟩
theorem first_of : ∀ {l : List Int} {i : Nat}, (∀ x ∈ l, fitI x) → firstOut l i = (0, 0)
 | [], _, _ => rfl
 | x :: l, i, h => by unfold firstOut; rw [if_pos (h x (by simp))]; exact first_of fun y hy => h y (by simp [hy])
theorem chk_of {r : Rw} {n : Int} (h : RowOK r n) : chkRow r n = (0, 0) := by
 have h0 := h.n0
 have h1 := h.n12
 have h2 := h.len
 unfold chkRow
 rw [if_neg (by omega), if_neg (not_not_intro h.kind), if_neg (by omega)]
 apply first_of
 intro x hx
 rcases List.mem_append.1 hx with hx | hx
 ·exact h.fit x hx
 ·rw [List.mem_singleton] at hx; subst hx; exact h.fto
theorem bad_of : ∀ {l : List Fq} {i : Nat}, (∀ g ∈ l, FracOK g.N g.D) → firstBad l i = (0, 0)
 | [], _, _ => rfl
 | g :: l, i, h => by unfold firstBad; rw [if_pos (h g (by simp))]; exact bad_of fun y hy => h y (by simp [hy])
end Go.Proofs.YtamjmcdlddocgaaGreat
