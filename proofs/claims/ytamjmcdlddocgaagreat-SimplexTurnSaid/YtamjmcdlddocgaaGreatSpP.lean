/- A pivot step, plain. -/
import Derived.Test.YtamjmcdlddocgaaGreatSpA
import Derived.Test.YtamjmcdlddocgaaGreatFkAA
import Derived.Test.YtamjmcdlddocgaaGreatPtAA
namespace Go.Proofs.YtamjmcdlddocgaaGreat
open Go.ChangeShapes Go.WideShapes Go.RowKit
set_option linter.unusedVariables false
set_option linter.unusedSimpArgs false
def tq (t : List (List Fq)) (i k : Nat) : Rat := ((t.getD i []).getD k ⟨0, 0⟩).q
def pivQ (t : List (List Fq)) (r c i k : Nat) : Rat := if i = r then tq t r k / tq t r c else tq t i k - tq t r k / tq t r c * tq t i c
structure TabOK (t : List (List Fq)) (m : Nat) : Prop where
 h40 : t.length ≤ 40
 h12 : m ≤ 12
 len : ∀ l ∈ t, l.length = m
 ok : ∀ l ∈ t, ∀ g ∈ l, FracOK g.N g.D
theorem firstLine_all {m : Nat} : ∀ {t : List (List Fq)} {i : Nat}, (firstLine m t i).1 = 0 → firstLine m t i = (0, 0) ∧ (∀ l ∈ t, l.length = m) ∧ ∀ l ∈ t, ∀ g ∈ l, FracOK g.N g.D
 | [], _, _ => ⟨rfl, (fun _ h => by cases h), (fun _ h => by cases h)⟩
 | l :: t, i, h => by
  unfold firstLine at h ⊢
  by_cases h1 : l.length = m
  ·rw [if_neg (by simp [h1])] at h ⊢
   by_cases h2 : okLine l = true
   ·rw [if_pos h2] at h ⊢
    obtain ⟨h3, h4, h5⟩ := firstLine_all h
    refine ⟨h3, fun x hx => ?_, fun x hx => ?_⟩
    ·rcases List.mem_cons.1 hx with rfl | hx
     ·exact h1
     ·exact h4 x hx
    ·rcases List.mem_cons.1 hx with rfl | hx
     ·intro g hg
      exact of_decide_eq_true (List.all_eq_true.1 h2 g hg)
     ·exact h5 x hx
   ·rw [if_neg h2] at h; simp at h
  ·rw [if_pos h1] at h; simp at h
theorem tabF_ok {t : List (List Fq)} (h : (tabF t).1 = 0) : tabF t = (0, 0) ∧ (0 < t.length → TabOK t (headLen t)) := by
 unfold tabF at h ⊢
 by_cases h1 : 40 < t.length ∨ 0 < t.length ∧ 12 < headLen t
 ·rw [if_pos h1] at h; simp at h
 ·rw [if_neg h1] at h ⊢
  obtain ⟨h2, h3, h4⟩ := firstLine_all h
  exact ⟨h2, fun h0 => ⟨by omega, by omega, h3, h4⟩⟩
theorem tq_at {t : List (List Fq)} {i k : Nat} (hi : i < t.length) (hk : k < t[i].length) : tq t i k = (t[i][k]).q := by
 unfold tq
 have e : t.getD i [] = t[i] := by rw [List.getD_eq_getElem?_getD, List.getElem?_eq_getElem hi]; rfl
 rw [e, List.getD_eq_getElem?_getD, List.getElem?_eq_getElem hk]; rfl
theorem nb_tq {t : List (List Fq)} {m : Nat} (h : TabOK t m) {i k : Nat} (hi : i < t.length) (hk : k < m) : NB 1 (tq t i k) := by
 have hm := List.getElem_mem (l := t) (n := i) hi
 rw [tq_at hi (by rw [h.len _ hm]; exact hk)]
 exact nb_frac (h.ok _ hm _ (List.getElem_mem _))
theorem nb_piv {t : List (List Fq)} {m : Nat} (h : TabOK t m) {r c i k : Nat} (hr : r < t.length) (hc : c < m) (hi : i < t.length) (hk : k < m) (h0 : tq t r c ≠ 0) : NB 10 (pivQ t r c i k) := by
 have hy := (nb_tq h hr hk).div (nb_tq h hr hc) h0
 unfold pivQ
 split
 ·exact hy.mono (by omega)
 ·exact ((nb_tq h hi hk).sub (hy.mul (nb_tq h hi hc))).mono (by omega)
end Go.Proofs.YtamjmcdlddocgaaGreat
