/- The plain law of gap.Do: what is told keeps the gaps and is the greatest; the round that is told is one below 0. -/
import Derived.Test.YtnmklgigmmlgeaaGapDoP
import Derived.IntWalk
namespace Go.Proofs.Ytnmklgigmmlgeaa
set_option linter.unusedVariables false
set_option linter.unusedSimpArgs false

def gA (l : List Gp) (e : Nat) : Nat := (l.getD e ⟨0, 0, 0⟩).A.toNat
def gB (l : List Gp) (e : Nat) : Nat := (l.getD e ⟨0, 0, 0⟩).B.toNat
def gY (l : List Gp) (e : Nat) : Int := (l.getD e ⟨0, 0, 0⟩).By

theorem GpsOK.at {n : Nat} {l : List Gp} (hg : GpsOK n l) {e : Nat} (he : e < l.length) : gA l e < n ∧ gB l e < n ∧ -1000000 ≤ gY l e ∧ gY l e ≤ 1000000 ∧ (l.getD e ⟨0, 0, 0⟩).A = (gA l e : Int) ∧ (l.getD e ⟨0, 0, 0⟩).B = (gB l e : Int) := by
  have := hg.2.2 _ (getD_mem (d := ⟨0, 0, 0⟩) he)
  unfold gA gB gY
  omega

/-- A step that changes something. -/
def Trig (l : List Gp) (e : Nat) (s : St) : Prop := s.vals.getD (gB l e) 0 + gY l e < s.vals.getD (gA l e) 0

theorem getS (l : List Int) (i p : Nat) (v : Int) (hp : p < l.length) : (l.set i v).getD p 0 = if p = i then v else l.getD p 0 := by
  rw [getD_set l i p v hp]
  by_cases h : i = p
  · rw [if_pos h, if_pos h.symm]
  · rw [if_neg h, if_neg fun h' => h h'.symm]

theorem relax_yes {l : List Gp} {e : Nat} {s : St} (h : Trig l e s) : relax (l.getD e ⟨0, 0, 0⟩) e s = ⟨s.vals.set (gA l e) (s.vals.getD (gB l e) 0 + gY l e), s.bys.set (gA l e) e, (l.getD e ⟨0, 0, 0⟩).A⟩ := by
  unfold Trig gA gB gY at h; unfold relax; rw [if_pos h]; rfl
theorem relax_no {l : List Gp} {e : Nat} {s : St} (h : ¬ Trig l e s) : relax (l.getD e ⟨0, 0, 0⟩) e s = s := by
  unfold Trig gA gB gY at h; unfold relax; rw [if_neg h]

theorem pass_idle {n : Nat} {l : List Gp} (hg : GpsOK n l) {s : St} : ∀ k, k ≤ l.length → (pass l s k).last < 0 → pass l s k = s ∧ ∀ j, j < k → ¬ Trig l j s
  | 0, _, _ => ⟨rfl, fun j hj => absurd hj (by omega)⟩
  | k + 1, hk, h => by
    rw [pass] at h ⊢
    by_cases ht : Trig l k (pass l s k)
    · rw [relax_yes ht] at h
      have := hg.at (show k < l.length by omega)
      simp only at h
      omega
    · rw [relax_no ht] at h ⊢
      obtain ⟨h1, h2⟩ := pass_idle hg k (by omega) h
      refine ⟨h1, fun j hj => ?_⟩
      by_cases hjk : j = k
      · subst hjk; rw [h1] at ht; exact ht
      · exact h2 j (by omega)

/-- Numbers that keep the gaps. -/
def Keeps (l : List Gp) (f : Nat → Int) : Prop := ∀ e, e < l.length → f (gA l e) - f (gB l e) ≤ gY l e

theorem turn_keeps {n : Nat} {l : List Gp} (hg : GpsOK n l) {s : St} (h : (turn l s).last < 0) : Keeps l fun x => (turn l s).vals.getD x 0 := by
  obtain ⟨h1, h2⟩ := pass_idle hg (s := ⟨s.vals, s.bys, -1⟩) l.length (Nat.le_refl _) h
  intro e he
  have := h2 e he
  unfold Trig at this
  rw [show turn l s = ⟨s.vals, s.bys, -1⟩ from h1]
  simp only at this ⊢
  omega

theorem pass_ge {n : Nat} {l : List Gp} (hg : GpsOK n l) {f : Nat → Int} (hf : Keeps l f) {s : St} (hl : s.vals.length = n) (h : ∀ x, x < n → f x ≤ s.vals.getD x 0) :
    ∀ k, k ≤ l.length → (pass l s k).vals.length = n ∧ ∀ x, x < n → f x ≤ (pass l s k).vals.getD x 0
  | 0, _ => ⟨hl, h⟩
  | k + 1, hk => by
    obtain ⟨h1, h2⟩ := pass_ge hg hf hl h k (by omega)
    rw [pass]
    by_cases ht : Trig l k (pass l s k)
    · rw [relax_yes ht]
      refine ⟨by simp [h1], fun x hx => ?_⟩
      simp only
      rw [getS _ _ _ _ (by rw [h1]; exact hx)]
      split
      · rename_i hax
        have h3 := hf k (by omega)
        have h4 := h2 _ (hg.at (show k < l.length by omega)).2.1
        rw [← hax] at h3
        omega
      · exact h2 x hx
    · rw [relax_no ht]
      exact ⟨h1, h2⟩

theorem rnds_ge {n : Nat} {l : List Gp} (hg : GpsOK n l) {f : Nat → Int} (hf : Keeps l f) (h0 : ∀ x, x < n → f x ≤ 0) : ∀ t, (rnds n l t).vals.length = n ∧ ∀ x, x < n → f x ≤ (rnds n l t).vals.getD x 0
  | 0 => ⟨by simp [rnds], fun x hx => by have := h0 x hx; simpa [rnds, hx] using this⟩
  | t + 1 => by
    obtain ⟨h1, h2⟩ := rnds_ge hg hf h0 t
    exact pass_ge hg hf (s := ⟨(rnds n l t).vals, (rnds n l t).bys, -1⟩) h1 h2 l.length (Nat.le_refl _)

/-! ### the times of the last changes -/
structure Gh (n : Nat) (l : List Gp) (c : Nat) (s : St) (T : Nat → Nat) : Prop where
  vl : s.vals.length = n
  bl : s.bys.length = n
  le : ∀ x, T x ≤ c
  by' : ∀ x, x < n → 0 < T x → ∃ e : Nat, e < l.length ∧ s.bys.getD x 0 = (e : Int) ∧ gA l e = x ∧ s.vals.getD (gB l e) 0 + gY l e ≤ s.vals.getD x 0 ∧ (T x ≤ T (gB l e) → s.vals.getD (gB l e) 0 + gY l e < s.vals.getD x 0) ∧ T x ≤ T (gB l e) + l.length
  zero : ∀ x, x < n → T x = 0 → s.bys.getD x 0 < 0
  done : ∀ i, i < c → T (gB l (i % l.length)) ≤ i → s.vals.getD (gA l (i % l.length)) 0 ≤ s.vals.getD (gB l (i % l.length)) 0 + gY l (i % l.length)

theorem Gh.step {n : Nat} {l : List Gp} (hg : GpsOK n l) {c : Nat} {s : St} {T : Nat → Nat} (h : Gh n l c s T) {k : Nat} (hk : k < l.length) (hc : c % l.length = k) :
    ∃ T', Gh n l (c + 1) (relax (l.getD k ⟨0, 0, 0⟩) k s) T' ∧ (¬ Trig l k s → T' = T) ∧ (Trig l k s → T' (gA l k) = c + 1) := by
  obtain ⟨hA, hB, y0, y1, eA, eB⟩ := hg.at hk
  by_cases ht : Trig l k s
  · rw [relax_yes ht]
    unfold Trig at ht
    have hv : ∀ x, x < n → (s.vals.set (gA l k) (s.vals.getD (gB l k) 0 + gY l k)).getD x 0 = if x = gA l k then s.vals.getD (gB l k) 0 + gY l k else s.vals.getD x 0 := fun x hx => getS _ _ _ _ (by rw [h.vl]; exact hx)
    have hb : ∀ x, x < n → (s.bys.set (gA l k) (k : Int)).getD x 0 = if x = gA l k then (k : Int) else s.bys.getD x 0 := fun x hx => getS _ _ _ _ (by rw [h.bl]; exact hx)
    refine ⟨fun x => if x = gA l k then c + 1 else T x, ⟨by simp [h.vl], by simp [h.bl], fun x => ?_, fun x hx hT => ?_, fun x hx hT => ?_, fun i hi hT => ?_⟩, fun h' => absurd ht h', fun _ => if_pos rfl⟩
    · have := h.le x
      split <;> omega
    · simp only at hT ⊢
      by_cases hxA : x = gA l k
      · rw [hxA] at hx hT ⊢
        have hlB := h.le (gB l k)
        refine ⟨k, hk, ?_, rfl, ?_, fun hh => ?_, ?_⟩
        · rw [hb _ hA, if_pos rfl]
        · rw [hv _ hB, hv _ hA, if_pos rfl]
          by_cases hBA : gB l k = gA l k
          · rw [if_pos hBA]; rw [hBA] at ht ⊢; omega
          · rw [if_neg hBA]; omega
        · rw [if_pos rfl] at hh
          by_cases hBA : gB l k = gA l k
          · rw [hv _ hB, hv _ hA, if_pos rfl, if_pos hBA]
            rw [hBA] at ht ⊢
            omega
          · rw [if_neg hBA] at hh
            omega
        · rw [if_pos rfl]
          by_cases hBA : gB l k = gA l k
          · rw [if_pos hBA]; omega
          · rw [if_neg hBA]
            apply Classical.byContradiction
            intro hn
            have hcl : l.length ≤ c := by omega
            have e1 : (c - l.length) % l.length = k := by rw [← hc]; exact (Nat.mod_eq_sub_mod hcl).symm
            have := h.done (c - l.length) (by omega) (by rw [e1]; omega)
            rw [e1] at this
            omega
      · rw [if_neg hxA] at hT
        obtain ⟨e, he, b1, b2, b3, b4, b5⟩ := h.by' x hx hT
        have heB := (hg.at he).2.1
        have hlx := h.le x
        refine ⟨e, he, ?_, b2, ?_, ?_, ?_⟩ <;> (try rw [hv _ heB, hv _ hx, if_neg hxA]) <;> (try rw [if_neg hxA])
        · rw [hb _ hx, if_neg hxA]; exact b1
        · split
          · rename_i hh; rw [hh] at b3; omega
          · exact b3
        · intro hh
          by_cases h2 : gB l e = gA l k
          · rw [if_pos h2]; rw [h2] at b3; omega
          · rw [if_neg h2] at hh ⊢
            exact b4 hh
        · split
          · omega
          · exact b5
    · simp only at hT ⊢
      by_cases hxA : x = gA l k
      · rw [if_pos hxA] at hT; omega
      · rw [if_neg hxA] at hT
        rw [hb _ hx, if_neg hxA]
        exact h.zero x hx hT
    · simp only at hT ⊢
      have hil : i % l.length < l.length := Nat.mod_lt _ (by omega)
      obtain ⟨hA', hB', _⟩ := hg.at hil
      by_cases hBA : gB l (i % l.length) = gA l k
      · rw [if_pos hBA] at hT; omega
      · rw [if_neg hBA] at hT
        rw [hv _ hA', hv _ hB', if_neg hBA]
        by_cases hic : i = c
        · rw [hic, hc, if_pos rfl]
          omega
        · have := h.done i (by omega) hT
          split
          · rename_i hh; rw [hh] at this; omega
          · exact this
  · rw [relax_no ht]
    unfold Trig at ht
    refine ⟨T, ⟨h.vl, h.bl, fun x => by have := h.le x; omega, h.by', h.zero, fun i hi hT => ?_⟩, fun _ => rfl, fun h' => absurd h' ht⟩
    by_cases hic : i = c
    · subst hic
      rw [hc]
      omega
    · exact h.done i (by omega) hT

theorem Gh.pass {n : Nat} {l : List Gp} (hg : GpsOK n l) {t : Nat} {s : St} {T : Nat → Nat} (h : Gh n l (t * l.length) s T) (hs : s.last < 0) :
    ∀ k, k ≤ l.length → ∃ T', Gh n l (t * l.length + k) (pass l s k) T' ∧ (¬ (pass l s k).last < 0 → (pass l s k).last.toNat < n ∧ t * l.length < T' (pass l s k).last.toNat)
  | 0, _ => ⟨T, h, fun h' => absurd hs h'⟩
  | k + 1, hk => by
    obtain ⟨T1, h1, h2⟩ := Gh.pass hg h hs k (by omega)
    have hm : (t * l.length + k) % l.length = k := by rw [Nat.mul_add_mod_self_right, Nat.mod_eq_of_lt (by omega)]
    obtain ⟨T2, h3, h4, h5⟩ := h1.step hg (show k < l.length by omega) hm
    refine ⟨T2, h3, ?_⟩
    rw [Go.Proofs.Ytnmklgigmmlgeaa.pass]
    by_cases ht : Trig l k (Go.Proofs.Ytnmklgigmmlgeaa.pass l s k)
    · rw [relax_yes ht]
      intro _
      have := hg.at (show k < l.length by omega)
      have e := h5 ht
      simp only
      rw [this.2.2.2.2.1, Int.toNat_natCast]
      omega
    · rw [relax_no ht, h4 ht]
      exact h2

theorem Gh.rnds {n : Nat} {l : List Gp} (hg : GpsOK n l) : ∀ t, ∃ T, Gh n l (t * l.length) (rnds n l t) T ∧ (0 < t → ¬ (rnds n l t).last < 0 → (rnds n l t).last.toNat < n ∧ (t - 1) * l.length < T (rnds n l t).last.toNat)
  | 0 => ⟨fun _ => 0, ⟨by simp [Go.Proofs.Ytnmklgigmmlgeaa.rnds], by simp [Go.Proofs.Ytnmklgigmmlgeaa.rnds], fun x => Nat.zero_le _, fun x _ h => absurd h (by omega), fun x hx _ => by simp [Go.Proofs.Ytnmklgigmmlgeaa.rnds, hx], fun i hi => absurd hi (by omega)⟩, fun h => absurd h (by omega)⟩
  | t + 1 => by
    obtain ⟨T, h, _⟩ := Gh.rnds hg t
    obtain ⟨T', h1, h2⟩ := Gh.pass hg (s := ⟨(Go.Proofs.Ytnmklgigmmlgeaa.rnds n l t).vals, (Go.Proofs.Ytnmklgigmmlgeaa.rnds n l t).bys, -1⟩) (T := T) ⟨h.vl, h.bl, h.le, h.by', h.zero, h.done⟩ (by simp) l.length (Nat.le_refl _)
    exact ⟨T', by rw [Nat.succ_mul]; exact h1, fun _ hn => h2 hn⟩

/-- The round, once more, in terms of numbers. -/
theorem chain_ind {l : List Gp} {bs : List Int} {y : Nat} {p : Nat} (hp : chain l bs y p = y) (hmin : ∀ q, 0 < q → q < p → chain l bs y q ≠ y) : ∀ i j, i < j → j < p → chain l bs y i ≠ chain l bs y j := by
  intro i j hij hjp he
  have h1 : chain l bs y (j + (p - j)) = y := by rw [show j + (p - j) = p by omega]; exact hp
  rw [chain_add, ← he, ← chain_add] at h1
  exact hmin (i + (p - j)) (by omega) (by omega) h1

theorem sumTo_le {n : Nat} {l : List Gp} {r : List Int} (hr : r.length ≤ 12) (hy : ∀ i, i < r.length → -1000000 ≤ (gapAt l r i).By ∧ (gapAt l r i).By ≤ 1000000) : ∀ k, k ≤ r.length → -(1000000 * (k : Int)) ≤ sumTo l r k ∧ sumTo l r k ≤ 1000000 * (k : Int)
  | 0, _ => by simp [sumTo]
  | k + 1, hk => by
    have h1 := sumTo_le (n := n) hr hy k (by omega)
    have h2 := hy k (by omega)
    rw [sumTo, Go.IntWalk.wrap64_in _ (by omega)]
    omega

theorem sumTo_succ {n : Nat} {l : List Gp} {r : List Int} (hr : r.length ≤ 12) (hy : ∀ i, i < r.length → -1000000 ≤ (gapAt l r i).By ∧ (gapAt l r i).By ≤ 1000000) (k : Nat) (hk : k < r.length) : sumTo l r (k + 1) = sumTo l r k + (gapAt l r k).By := by
  have h1 := sumTo_le (n := n) hr hy k (by omega)
  have h2 := hy k (by omega)
  rw [sumTo, Go.IntWalk.wrap64_in _ (by omega)]

/-- What is told of a round. -/
structure RoundOK (n : Nat) (l : List Gp) (r : List Int) : Prop where
  pos : 0 < r.length
  le : r.length ≤ n
  chk : rndChk l.length r 0 = (0, 0)
  bad : gbad l r
  apart : ∀ i j, i < j → j < r.length → (gapAt l r i).A ≠ (gapAt l r j).A

theorem cyc_bad {N : Nat} {l : List Gp} (hg : GpsOK N l) (h : ¬ (rnds N l (N + 1)).last < 0) {w' : World} {v : Value} (hc : CycRes N l (rnds N l (N + 1)).bys (rnds N l (N + 1)).last.toNat w' v) :
    ∃ r, IsInts w' v r ∧ RoundOK N l r := by
  obtain ⟨T, hT, hx⟩ := Gh.rnds hg (N + 1)
  obtain ⟨hxn, hxT⟩ := hx (by omega) h
  generalize rnds N l (N + 1) = s at *
  generalize hX : s.last.toNat = x at *
  simp only [Nat.add_sub_cancel] at hxT
  have hnx : ∀ z, z < N → 0 < T z → ∃ e : Nat, e < l.length ∧ s.bys.getD z 0 = (e : Int) ∧ gA l e = z ∧ nxt l s.bys z = gB l e ∧ s.vals.getD (nxt l s.bys z) 0 + gY l e ≤ s.vals.getD z 0 ∧ (T z ≤ T (nxt l s.bys z) → s.vals.getD (nxt l s.bys z) 0 + gY l e < s.vals.getD z 0) ∧ T z ≤ T (nxt l s.bys z) + l.length ∧ nxt l s.bys z < N := by
    intro z hz hz0
    obtain ⟨e, he, b1, b2, b3, b4, b5⟩ := hT.by' z hz hz0
    have hn : nxt l s.bys z = gB l e := by unfold nxt gB; rw [b1]; rfl
    rw [hn]
    exact ⟨e, he, b1, b2, rfl, b3, b4, b5, (hg.at he).2.1⟩
  have hch : ∀ j, j ≤ N → chain l s.bys x j < N ∧ (N - j) * l.length < T (chain l s.bys x j) := by
    intro j
    induction j with
    | zero => intro _; exact ⟨hxn, hxT⟩
    | succ j ih =>
      intro hj
      obtain ⟨h1, h2⟩ := ih (by omega)
      obtain ⟨e, he, b1, b2, b3, b4, b5, b6, b7⟩ := hnx _ h1 (by omega)
      refine ⟨b7, ?_⟩
      rw [chain]
      have : (N - j) * l.length = (N - (j + 1)) * l.length + l.length := by
        rw [show N - j = N - (j + 1) + 1 by omega, Nat.succ_mul]
      omega
  have hnn : ∀ j, j < N → ¬ s.bys.getD (chain l s.bys x j) 0 < 0 := by
    intro j hj
    obtain ⟨h1, h2⟩ := hch j (by omega)
    obtain ⟨e, he, b1, _⟩ := hnx _ h1 (by omega)
    omega
  rcases hc with ⟨⟨j, hj, hneg⟩, _⟩ | ⟨_, p, p0, pn, pc, pr, pm, hv⟩
  · exact absurd hneg (hnn j hj)
  refine ⟨_, hv, ?_⟩
  obtain ⟨hyN, _⟩ := hch N (Nat.le_refl _)
  generalize chain l s.bys x N = y at *
  have hb1 : ∀ q, chain l s.bys y q < N := by
    intro q
    induction q with
    | zero => exact hyN
    | succ q ih =>
      have h0 : 0 < T (chain l s.bys y q) := by
        apply Classical.byContradiction
        intro hh
        exact pr q (hT.zero _ ih (by omega))
      obtain ⟨e, he, b1, b2, b3, b4, b5, b6, b7⟩ := hnx _ ih h0
      exact b7
  have hb : ∀ q, ∃ e : Nat, e < l.length ∧ s.bys.getD (chain l s.bys y q) 0 = (e : Int) ∧ gA l e = chain l s.bys y q ∧ gB l e = chain l s.bys y (q + 1) ∧ s.vals.getD (chain l s.bys y (q + 1)) 0 + gY l e ≤ s.vals.getD (chain l s.bys y q) 0 ∧
      (T (chain l s.bys y q) ≤ T (chain l s.bys y (q + 1)) → s.vals.getD (chain l s.bys y (q + 1)) 0 + gY l e < s.vals.getD (chain l s.bys y q) 0) := by
    intro q
    have h0 : 0 < T (chain l s.bys y q) := by
      apply Classical.byContradiction
      intro hh
      exact pr q (hT.zero _ (hb1 q) (by omega))
    obtain ⟨e, he, b1, b2, b3, b4, b5, b6, b7⟩ := hnx _ (hb1 q) h0
    exact ⟨e, he, b1, b2, b3.symm, b4, b5⟩
  have hind := chain_ind pc pm
  have hlen : (backs l s.bys y p).reverse.length = p := by rw [List.length_reverse, backs_len]
  have hget : ∀ i, i < p → (backs l s.bys y p).reverse.getD i 0 = s.bys.getD (chain l s.bys y (p - 1 - i)) 0 := by
    intro i hi
    rw [List.getD_eq_getElem?_getD, List.getElem?_reverse (by rw [backs_len]; exact hi), backs_len]
    simp [backs, show p - 1 - i < p by omega]
  clear hnx hch hnn
  generalize (backs l s.bys y p).reverse = r at *
  have hgap : ∀ i, i < p → ∃ e : Nat, e < l.length ∧ r.getD i 0 = (e : Int) ∧ gapAt l r i = l.getD e ⟨0, 0, 0⟩ ∧ gA l e = chain l s.bys y (p - 1 - i) ∧ gB l e = chain l s.bys y (p - i) ∧
      s.vals.getD (chain l s.bys y (p - i)) 0 + gY l e ≤ s.vals.getD (chain l s.bys y (p - 1 - i)) 0 ∧ (T (chain l s.bys y (p - 1 - i)) ≤ T (chain l s.bys y (p - i)) → s.vals.getD (chain l s.bys y (p - i)) 0 + gY l e < s.vals.getD (chain l s.bys y (p - 1 - i)) 0) := by
    intro i hi
    obtain ⟨e, he, b1, b2, b3, b4, b5⟩ := hb (p - 1 - i)
    rw [show p - 1 - i + 1 = p - i by omega] at b3 b4 b5
    refine ⟨e, he, (hget i hi).trans b1, ?_, b2, b3, b4, b5⟩
    unfold gapAt posAt
    rw [hget i hi, b1]
    rfl
  have hN : N ≤ 12 := hg.1
  have hys : ∀ i, i < r.length → -1000000 ≤ (gapAt l r i).By ∧ (gapAt l r i).By ≤ 1000000 := by
    intro i hi
    obtain ⟨e, he, _, b2, _⟩ := hgap i (by omega)
    rw [b2]
    have := hg.at he
    unfold gY at this
    omega
  have hsum : ∀ k, k ≤ p → sumTo l r k < s.vals.getD (chain l s.bys y (p - k)) 0 - s.vals.getD y 0 ∨ (sumTo l r k ≤ s.vals.getD (chain l s.bys y (p - k)) 0 - s.vals.getD y 0 ∧ T y + k ≤ T (chain l s.bys y (p - k))) := by
    intro k
    induction k with
    | zero => intro _; right; rw [Nat.sub_zero, pc]; simp [sumTo]
    | succ k ih =>
      intro hk
      obtain ⟨e, he, _, b2, b3, b4, b5, b6⟩ := hgap k (by omega)
      rw [sumTo_succ (n := N) (by omega) hys k (by omega), b2, show p - (k + 1) = p - 1 - k by omega, show (l.getD e ⟨0, 0, 0⟩).By = gY l e from rfl]
      rcases ih (by omega) with h1 | ⟨h1, h2⟩
      · left; omega
      · by_cases hTT : T (chain l s.bys y (p - 1 - k)) ≤ T (chain l s.bys y (p - k))
        · left; have := b6 hTT; omega
        · right; exact ⟨by omega, by omega⟩
  have hfin := hsum p (Nat.le_refl _)
  rw [Nat.sub_self, show chain l s.bys y 0 = y from rfl] at hfin
  refine ⟨by omega, by omega, ?_, ⟨fun i hi => ?_, by rw [hlen]; omega⟩, fun i j hij hj => ?_⟩
  · have h1 : (rndChk l.length r 0).1 = 0 := rnd_ok.2 fun z hz => by
      obtain ⟨i, hi, rfl⟩ := List.mem_iff_getElem.1 hz
      obtain ⟨e, he, b1, _⟩ := hgap i (by omega)
      rw [List.getD_eq_getElem?_getD, List.getElem?_eq_getElem hi] at b1
      simp at b1
      omega
    exact rnd_zero h1
  · unfold linkAt
    obtain ⟨e, he, b1, b2, b3, b4, _⟩ := hgap i (by omega)
    have hni : nextAt r i < r.length := Nat.mod_lt _ (by omega)
    obtain ⟨e', he', c1, c2, c3, c4, _⟩ := hgap (nextAt r i) (by omega)
    rw [b2, c2, (hg.at he).2.2.2.2.1, (hg.at he').2.2.2.2.2, b3, c4]
    refine congrArg (fun z : Nat => (z : Int)) ?_
    by_cases hl : i + 1 = r.length
    · rw [nextAt_last hi hl, Nat.sub_zero, pc, show p - 1 - i = 0 by omega]
      rfl
    · rw [nextAt_more hi hl, show p - (i + 1) = p - 1 - i by omega]
  · obtain ⟨e, he, b1, b2, b3, _⟩ := hgap i (by omega)
    obtain ⟨e', he', c1, c2, c3, _⟩ := hgap j (by omega)
    rw [b2, c2, (hg.at he).2.2.2.2.1, (hg.at he').2.2.2.2.1, b3, c3]
    have := hind (p - 1 - j) (p - 1 - i) (by omega) (by omega)
    omega
end Go.Proofs.Ytnmklgigmmlgeaa
