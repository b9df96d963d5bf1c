/- Plain laws of rows: tidied rows stay as they are, and hold where they held. -/
import Derived.Test.YtihcbmkjfacooaaRowLawB
namespace Go.Proofs.Ytihcbmkjfacooaa
open Go.ChangeShapes Go.WideShapes Go.RowKit
set_option linter.unusedVariables false
set_option linter.unusedSimpArgs false

theorem tidyG_dvd (r : Rw) : (∀ x ∈ bareL r.of, ((tidyG r : Nat) : Int) ∣ x) ∧ ((tidyG r : Nat) : Int) ∣ r.to := by
  unfold tidyG
  refine ⟨fun x hx => ?_, ?_⟩
  · exact Int.ofNat_dvd_left.2 (Nat.dvd_trans (Nat.gcd_dvd_left _ _) (gcdL_dvd _ x hx))
  · exact Int.ofNat_dvd_left.2 (Nat.gcd_dvd_right _ _)
theorem tidyG_pos {r : Rw} (h : bareL r.of ≠ []) : 0 < tidyG r := Nat.gcd_pos_of_pos_left _ (gcdL_pos_of (bareL_end _ h))

theorem sign_neg_int (t : Int) : ((0 : Rat) - (t : Rat)).num.sign = -t.sign := by
  rw [Rat.sub_eq_add_neg, Rat.zero_add, Rat.neg_num, Rat.num_intCast, Int.sign_neg]
theorem empty_holds {k t : Int} (hk : k = 1 ∨ k = 2 ∨ k = 3) : holdsP k (-(emptyTo k t).sign) = holdsP k (-t.sign) := by
  rcases Int.lt_trichotomy t 0 with h | h | h
  · rw [Int.sign_eq_neg_one_of_neg h]
    rcases hk with rfl | rfl | rfl
    · rw [show emptyTo 1 t = -1 from by unfold emptyTo; rw [if_pos rfl, if_pos h]]; rfl
    · rw [show emptyTo 2 t = 0 from by unfold emptyTo; rw [if_neg (by omega), if_pos rfl, if_neg (by omega)]]; rfl
    · rw [show emptyTo 3 t = 1 from by unfold emptyTo; rw [if_neg (by omega), if_neg (by omega), if_neg (by omega)]]; rfl
  · subst h
    rcases hk with rfl | rfl | rfl <;> rfl
  · rw [Int.sign_eq_one_of_pos h]
    rcases hk with rfl | rfl | rfl
    · rw [show emptyTo 1 t = 0 from by unfold emptyTo; rw [if_pos rfl, if_neg (by omega)]]; rfl
    · rw [show emptyTo 2 t = 1 from by unfold emptyTo; rw [if_neg (by omega), if_pos rfl, if_pos h]]; rfl
    · rw [show emptyTo 3 t = 1 from by unfold emptyTo; rw [if_neg (by omega), if_neg (by omega), if_neg (by omega)]]; rfl

theorem tidy_holds {r : Rw} (hk : r.kind = 1 ∨ r.kind = 2 ∨ r.kind = 3) (nums : List Fq) : holdsB (tidyR r) nums = holdsB r nums := by
  unfold tidyR
  by_cases h : bareL r.of = []
  · rw [if_pos h]
    unfold holdsB
    have e := sum_bare r.of nums
    rw [h] at e
    rw [← e]
    show holdsP r.kind ((0 : Rat) - ((emptyTo r.kind r.to : Int) : Rat)).num.sign = holdsP r.kind ((0 : Rat) - (r.to : Rat)).num.sign
    rw [sign_neg_int, sign_neg_int, empty_holds hk]
  · rw [if_neg h]
    obtain ⟨h1, h2⟩ := tidyG_dvd r
    rw [holdsB_byG (tidyG_pos h) h1 h2, sum_bare]
    rfl

theorem abs_tdiv_le (x : Int) (g : Nat) : (x.tdiv g).natAbs ≤ x.natAbs := natAbs_tdiv_le x g
theorem turnOf_mem {k : Int} {l : List Int} {y : Int} (h : y ∈ turnOf k l) : ∃ x ∈ l, y.natAbs = x.natAbs := by
  unfold turnOf at h
  split at h
  · obtain ⟨x, hx, rfl⟩ := List.mem_map.1 h
    exact ⟨x, hx, by simp⟩
  · exact ⟨y, h, rfl⟩
theorem turnOf_len (k : Int) (l : List Int) : (turnOf k l).length = l.length := by unfold turnOf; split <;> simp
theorem turnTo_abs (k : Int) (l : List Int) (t : Int) : (turnTo k l t).natAbs = t.natAbs := by unfold turnTo; split <;> simp

theorem tidy_ok {r : Rw} {n : Int} (h : RowOK r n) : RowOK (tidyR r) n := by
  unfold tidyR
  have hle : (bareL r.of).length ≤ r.of.length := by rw [bareL_len]; exact bareN_le _ _
  by_cases h0 : bareL r.of = []
  · rw [if_pos h0]
    refine ⟨h.n0, h.n12, h.kind, by simpa using h.n0, by simp, ?_⟩
    show fitI (emptyTo r.kind r.to)
    unfold emptyTo fitI
    (repeat' split) <;> omega
  · rw [if_neg h0]
    refine ⟨h.n0, h.n12, h.kind, ?_, fun y hy => ?_, ?_⟩
    · show ((turnOf r.kind _).length : Int) ≤ n
      rw [turnOf_len, List.length_map]
      have := h.len
      omega
    · obtain ⟨x, hx, e⟩ := turnOf_mem hy
      obtain ⟨z, hz, rfl⟩ := List.mem_map.1 hx
      have h1 := abs_tdiv_le z (tidyG r)
      have h2 := h.fit z (bareL_mem hz)
      unfold fitI at *
      omega
    · have h1 : (turnTo r.kind ((bareL r.of).map fun x => x.tdiv (tidyG r)) (r.to.tdiv (tidyG r))).natAbs ≤ r.to.natAbs := by rw [turnTo_abs]; exact abs_tdiv_le _ _
      have h2 := h.fto
      show fitI (turnTo _ _ _)
      unfold fitI at *
      omega

/-! ### what is tidied stays -/
theorem bareN_full {l : List Int} (h : l.getD (l.length - 1) 0 ≠ 0) : bareL l = l := by
  unfold bareL
  rcases hl : l.length with _ | n
  · rw [List.length_eq_zero_iff.1 hl]; rfl
  · rw [hl] at h
    unfold bareN
    rw [if_neg (by simpa using h), ← hl, List.take_length]
theorem bareL_last {l : List Int} (h : bareL l ≠ []) : (bareL l).getD ((bareL l).length - 1) 0 ≠ 0 := by
  rw [bareL_get, bareL_len]
  rcases bareN_end l l.length with h1 | h1
  · exfalso; apply h; unfold bareL; rw [h1]; rfl
  · exact h1
theorem gcdL_abs : ∀ {a b : List Int}, a.length = b.length → (∀ i, (a.getD i 0).natAbs = (b.getD i 0).natAbs) → gcdL a = gcdL b := by
  intro a b hl h
  have key : ∀ k, k ≤ a.length → gcdL (a.take k) = gcdL (b.take k) := by
    intro k
    induction k with
    | zero => intro _; simp
    | succ k ih => intro hk; rw [gcdL_take (by omega), gcdL_take (by omega), ih (by omega), h k]
  have := key a.length (Nat.le_refl _)
  rw [List.take_length] at this
  rw [this, hl, List.take_length]
theorem gcdL_scale {a b : List Int} {g : Nat} (hl : a.length = b.length) (h : ∀ i, (a.getD i 0).natAbs = g * (b.getD i 0).natAbs) : gcdL a = g * gcdL b := by
  have key : ∀ k, k ≤ a.length → gcdL (a.take k) = g * gcdL (b.take k) := by
    intro k
    induction k with
    | zero => intro _; simp [gcdL]
    | succ k ih => intro hk; rw [gcdL_take (by omega), gcdL_take (by omega), ih (by omega), h k, Nat.gcd_mul_left]
  have := key a.length (Nat.le_refl _)
  rw [List.take_length] at this
  rw [this, hl, List.take_length]
theorem div_get {l : List Int} {g : Nat} (hg : 0 < g) (hd : ∀ x ∈ l, (g : Int) ∣ x) (i : Nat) : l.getD i 0 = (g : Int) * (l.map fun x => x.tdiv g).getD i 0 := by
  rw [map_getD0 l (fun x => x.tdiv (g : Int)) (by simp)]
  by_cases hi : i < l.length
  · have hx := hd (l.getD i 0) (by rw [List.getD_eq_getElem?_getD, List.getElem?_eq_getElem hi]; exact List.getElem_mem _)
    obtain ⟨c, hc⟩ := hx
    rw [hc, Int.mul_tdiv_cancel_left _ (by omega)]
  · rw [getD_over (by omega)]; simp
theorem turnOf_get (k : Int) (l : List Int) (i : Nat) : (turnOf k l).getD i 0 = if turnQ k l then -(l.getD i 0) else l.getD i 0 := by
  unfold turnOf
  split
  · exact map_getD0 l (fun x => -x) rfl i
  · rfl
theorem sgnL_neg : ∀ l : List Int, sgnL (l.map fun x => -x) = -(sgnL l)
  | [] => rfl
  | x :: l => by
    simp only [List.map_cons, sgnL]
    by_cases h : x = 0
    · rw [if_pos (by omega), if_pos h, sgnL_neg l]
    · rw [if_neg (by omega), if_neg h, Int.sign_neg]
theorem turn_not (k : Int) (l : List Int) : ¬ turnQ k (turnOf k l) := by
  unfold turnOf
  by_cases h : turnQ k l
  · rw [if_pos h]
    rintro ⟨_, h2⟩
    rw [sgnL_neg] at h2
    have := h.2
    omega
  · rw [if_neg h]; exact h
theorem map_tdiv_one (l : List Int) : (l.map fun x => x.tdiv ((1 : Nat) : Int)) = l := by
  have : (fun x : Int => x.tdiv ((1 : Nat) : Int)) = id := by funext x; exact Int.tdiv_one x
  rw [this, List.map_id]

theorem tidy_idem {r : Rw} (hk : r.kind = 1 ∨ r.kind = 2 ∨ r.kind = 3) : tidyR (tidyR r) = tidyR r := by
  by_cases h0 : bareL r.of = []
  · have e : tidyR r = ⟨[], r.kind, emptyTo r.kind r.to⟩ := by unfold tidyR; rw [if_pos h0]
    rw [e]
    unfold tidyR
    rw [if_pos (by rfl)]
    have : emptyTo r.kind (emptyTo r.kind r.to) = emptyTo r.kind r.to := by
      unfold emptyTo
      rcases hk with hk | hk | hk <;> rw [hk] <;> simp <;> split <;> simp
    show (⟨[], r.kind, emptyTo r.kind (emptyTo r.kind r.to)⟩ : Rw) = _
    rw [this]
  · obtain ⟨h1, h2⟩ := tidyG_dvd r
    have hg := tidyG_pos h0
    have e : tidyR r = byG (bareL r.of) r.kind (r.to.tdiv (tidyG r)) (tidyG r) := by unfold tidyR; rw [if_neg h0]
    have hgG : Nat.gcd (gcdL (bareL r.of)) r.to.natAbs = tidyG r := rfl
    generalize tidyG r = G at *
    have hl := bareL_last h0
    generalize bareL r.of = L at *
    rw [e]
    have hget := div_get hg h1
    obtain ⟨M, hM⟩ : ∃ M, (L.map fun x => x.tdiv (G : Int)) = M := ⟨_, rfl⟩
    have hML : M.length = L.length := by rw [← hM]; simp
    rw [hM] at hget
    obtain ⟨c, hc⟩ := h2
    have hct : r.to.tdiv (G : Int) = c := by rw [hc, Int.mul_tdiv_cancel_left _ (by omega)]
    unfold byG
    rw [hM, hct]
    obtain ⟨T, hT⟩ : ∃ T, turnOf r.kind M = T := ⟨_, rfl⟩
    have hTl : T.length = L.length := by rw [← hT, turnOf_len, hML]
    have hTabs : ∀ i, (T.getD i 0).natAbs = (M.getD i 0).natAbs := fun i => by rw [← hT, turnOf_get]; split <;> simp
    have hTlast : T.getD (T.length - 1) 0 ≠ 0 := by
      rw [hTl]
      intro h
      have h3 := hTabs (L.length - 1)
      rw [h] at h3
      apply hl
      rw [hget, show M.getD (L.length - 1) 0 = 0 by simpa using h3.symm]
      simp
    have hTb := bareN_full hTlast
    have hTne : T ≠ [] := by
      rintro rfl
      exact hTlast rfl
    have hto : (turnTo r.kind M c).natAbs = c.natAbs := turnTo_abs _ _ _
    have hG1 : Nat.gcd (gcdL T) (turnTo r.kind M c).natAbs = 1 := by
      rw [hto, gcdL_abs (a := T) (b := M) (by omega) hTabs]
      have hs : gcdL L = G * gcdL M := gcdL_scale hML.symm fun i => by rw [hget i, Int.natAbs_mul, Int.natAbs_natCast]
      rw [hs, hc, Int.natAbs_mul, Int.natAbs_natCast, Nat.gcd_mul_left] at hgG
      have : G * Nat.gcd (gcdL M) c.natAbs = G * 1 := by omega
      exact Nat.eq_of_mul_eq_mul_left hg this
    rw [hT]
    unfold tidyR
    simp only
    rw [hTb, if_neg hTne]
    have hG : tidyG ⟨T, r.kind, turnTo r.kind M c⟩ = 1 := by unfold tidyG; simp only; rw [hTb]; exact hG1
    rw [hG]
    unfold byG
    rw [map_tdiv_one]
    have hn : ¬ turnQ r.kind T := by rw [← hT]; exact turn_not _ _
    unfold turnOf turnTo
    rw [if_neg hn, if_neg hn]
    have : ∀ z : Int, z.tdiv ((1 : Nat) : Int) = z := fun z => Int.tdiv_one z
    rw [this]
end Go.Proofs.Ytihcbmkjfacooaa
