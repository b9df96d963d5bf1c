/- The plain law of tidied rows. -/
import Derived.Test.YtihcbmkjfacooaaRowG
namespace Go.Proofs.Ytihcbmkjfacooaa
set_option linter.unusedVariables false
set_option linter.unusedSimpArgs false

theorem foldl_gcd (l : List Int) : ∀ a : Nat, l.foldl (fun g x => Nat.gcd g x.natAbs) a = Nat.gcd a (gcdL l) := by
  unfold gcdL
  induction l with
  | nil => intro a; simp
  | cons x l ih =>
    intro a
    rw [List.foldl_cons, ih, List.foldl_cons, ih (Nat.gcd 0 x.natAbs), Nat.gcd_zero_left, Nat.gcd_assoc]

theorem gcdL_app (l : List Int) (t : Int) : gcdL (l ++ [t]) = Nat.gcd (gcdL l) t.natAbs := by
  unfold gcdL
  rw [List.foldl_append]
  rfl

theorem gcdL_dvd (l : List Int) : ∀ x ∈ l, gcdL l ∣ x.natAbs := by
  induction l with
  | nil => intro x hx; cases hx
  | cons y l ih =>
    intro x hx
    have e : gcdL (y :: l) = Nat.gcd y.natAbs (gcdL l) := by
      unfold gcdL
      rw [List.foldl_cons, Nat.gcd_zero_left]
      exact foldl_gcd l _
    rw [e]
    rcases List.mem_cons.1 hx with rfl | hx
    · exact Nat.gcd_dvd_left _ _
    · exact Nat.dvd_trans (Nat.gcd_dvd_right _ _) (ih x hx)

theorem gcdL_pos {l : List Int} {x : Int} (hx : x ∈ l) (h0 : x ≠ 0) : 0 < gcdL l := by
  rcases Nat.eq_zero_or_pos (gcdL l) with h | h
  · have := gcdL_dvd l x hx
    rw [h] at this
    have := Nat.eq_zero_of_zero_dvd this
    omega
  · exact h

/-- What is left without the noughts at the end is nothing, or ends in what is not 0. -/
theorem bareN_end (l : List Int) : ∀ n, bareN l n = 0 ∨ l.getD (bareN l n - 1) 0 ≠ 0
  | 0 => .inl rfl
  | n + 1 => by
    unfold bareN
    by_cases h : l.getD n 0 = 0
    · rw [if_pos h]; exact bareN_end l n
    · rw [if_neg h]; exact .inr h

theorem bareL_len (l : List Int) : (bareL l).length = bareN l l.length := by
  unfold bareL
  rw [List.length_take, Nat.min_eq_left (bareN_le _ _)]

theorem bareL_end (l : List Int) (h : bareL l ≠ []) : ∃ i, i < (bareL l).length ∧ (bareL l).getD i 0 ≠ 0 := by
  have hl := bareL_len l
  have h0 : bareN l l.length ≠ 0 := by
    intro h0
    rw [h0] at hl
    exact h (List.eq_nil_of_length_eq_zero hl)
  refine ⟨bareN l l.length - 1, by omega, ?_⟩
  rcases bareN_end l l.length with h1 | h1
  · exact absurd h1 h0
  · unfold bareL
    rw [List.getD_eq_getElem?_getD, List.getElem?_take, if_pos (by omega), ← List.getD_eq_getElem?_getD]
    exact h1

theorem bareL_mem {l : List Int} {x : Int} (h : x ∈ bareL l) : x ∈ l := List.mem_of_mem_take h

theorem mem_of_getD {l : List Int} {i : Nat} (hi : i < l.length) : l.getD i 0 ∈ l := by
  rw [List.getD_eq_getElem?_getD, List.getElem?_eq_getElem hi]
  exact List.getElem_mem hi

/-- What divides it exactly. -/
theorem tdiv_eq {x : Int} {g : Nat} (h : g ∣ x.natAbs) : x.tdiv g = x / g := Int.tdiv_eq_ediv_of_dvd (Int.ofNat_dvd_left.2 h)

theorem sgnL_tdiv {g : Nat} (hg : 0 < g) : ∀ (l : List Int), (∀ x ∈ l, g ∣ x.natAbs) → sgnL (l.map fun x => x.tdiv g) = sgnL l
  | [], _ => rfl
  | x :: l, h => by
    have hx := h x (by simp)
    have ih := sgnL_tdiv hg l fun y hy => h y (by simp [hy])
    obtain ⟨c, hc⟩ := Int.ofNat_dvd_left.2 hx
    have hq : x.tdiv g = c := by rw [tdiv_eq hx, hc, Int.mul_ediv_cancel_left _ (by omega)]
    rw [List.map_cons, sgnL, sgnL, hq, ih, hc]
    have hgz : (g : Int) ≠ 0 := by omega
    have hs : (g : Int).sign = 1 := Int.sign_eq_one_of_pos (by omega)
    by_cases h0 : c = 0
    · subst h0; simp
    · rw [if_neg h0, if_neg (Int.mul_ne_zero hgz h0), Int.sign_mul, hs, Int.one_mul]

end Go.Proofs.Ytihcbmkjfacooaa
