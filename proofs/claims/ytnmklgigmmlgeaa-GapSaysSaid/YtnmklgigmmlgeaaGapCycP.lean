/- Going back from number to number: the plain law of gap.cycle. -/
import Derived.Test.YtnmklgigmmlgeaaGapBad
namespace Go.Proofs.Ytnmklgigmmlgeaa
set_option linter.unusedVariables false
set_option linter.unusedSimpArgs false

theorem pigeon : ∀ (n : Nat) (f : Nat → Nat), (∀ i, i ≤ n → f i < n) → ∃ i j, i < j ∧ j ≤ n ∧ f i = f j
  | 0, f, h => absurd (h 0 (Nat.le_refl _)) (by omega)
  | n + 1, f, h => by
    by_cases hc : ∃ i, i ≤ n ∧ f i = f (n + 1)
    · obtain ⟨i, hi, he⟩ := hc
      exact ⟨i, n + 1, by omega, Nat.le_refl _, he⟩
    · have hne : ∀ i, i ≤ n → f i ≠ f (n + 1) := fun i hi he => hc ⟨i, hi, he⟩
      obtain ⟨i, j, hij, hj, he⟩ := pigeon n (fun i => if f (n + 1) < f i then f i - 1 else f i) (fun i hi => by
        have h1 := h i (by omega)
        have h2 := h (n + 1) (Nat.le_refl _)
        have h3 := hne i hi
        split <;> omega)
      refine ⟨i, j, hij, by omega, ?_⟩
      have h1 := hne i (by omega)
      have h2 := hne j hj
      split at he <;> split at he <;> omega

def nxt (l : List Gp) (bs : List Int) (x : Nat) : Nat := (l.getD (bs.getD x 0).toNat ⟨0, 0, 0⟩).B.toNat
def chain (l : List Gp) (bs : List Int) (x : Nat) : Nat → Nat
  | 0 => x
  | j + 1 => nxt l bs (chain l bs x j)

theorem chain_add (l : List Gp) (bs : List Int) (x i : Nat) : ∀ j, chain l bs x (i + j) = chain l bs (chain l bs x i) j
  | 0 => rfl
  | j + 1 => by rw [← Nat.add_assoc, chain, chain, chain_add l bs x i j]

/-- What cycle is handed: each number has no place, or one of those of the gaps. -/
def ByOK (n : Nat) (l : List Gp) (bs : List Int) : Prop := bs.length = n ∧ (∀ x, x < n → bs.getD x 0 < 0 ∨ (bs.getD x 0).toNat < l.length) ∧ ∀ g ∈ l, 0 ≤ g.B ∧ g.B < (n : Int)

theorem getD_mem {α : Type} {l : List α} {i : Nat} {d : α} (h : i < l.length) : l.getD i d ∈ l := by
  rw [List.getD_eq_getElem?_getD, List.getElem?_eq_getElem h]; exact List.getElem_mem h

theorem ByOK.next {n : Nat} {l : List Gp} {bs : List Int} (h : ByOK n l bs) {x : Nat} (hx : x < n) (h0 : ¬ bs.getD x 0 < 0) : nxt l bs x < n := by
  have h1 := (h.2.1 x hx).resolve_left h0
  have := h.2.2 _ (getD_mem (d := ⟨0, 0, 0⟩) h1)
  unfold nxt
  omega

theorem ByOK.chain {n : Nat} {l : List Gp} {bs : List Int} (h : ByOK n l bs) {x : Nat} (hx : x < n) : ∀ {m : Nat}, (∀ j, j < m → ¬ bs.getD (chain l bs x j) 0 < 0) → Go.Proofs.Ytnmklgigmmlgeaa.chain l bs x m < n
  | 0, _ => hx
  | m + 1, h0 => h.next (h.chain hx fun j hj => h0 j (by omega)) (h0 m (by omega))

/-- Behind n steps there is a round. -/
theorem chain_round {n : Nat} {l : List Gp} {bs : List Int} (h : ByOK n l bs) {x : Nat} (hx : x < n) (h0 : ∀ j, j < n → ¬ bs.getD (chain l bs x j) 0 < 0) :
    ∃ p, 0 < p ∧ p ≤ n ∧ chain l bs (chain l bs x n) p = chain l bs x n ∧ (∀ j, ¬ bs.getD (chain l bs (chain l bs x n) j) 0 < 0) ∧ ∀ q, 0 < q → q < p → chain l bs (chain l bs x n) q ≠ chain l bs x n := by
  obtain ⟨i, j, hij, hj, he⟩ := pigeon n (chain l bs x) fun i hi => h.chain hx fun j hj => h0 j (by omega)
  have hper : ∀ m, chain l bs x (i + (j - i) + m) = chain l bs x (i + m) := fun m => by
    rw [chain_add, chain_add l bs x i m, show i + (j - i) = j by omega, he]
  have hall : ∀ m, ¬ bs.getD (chain l bs x m) 0 < 0 := by
    intro m
    induction m using Nat.strongRecOn with
    | _ m ih =>
      by_cases hm : m < n
      · exact h0 m hm
      · have h1 := hper (m - j)
        rw [show i + (j - i) + (m - j) = m by omega] at h1
        rw [h1]
        exact ih _ (by omega)
  have hy : chain l bs (chain l bs x n) (j - i) = chain l bs x n := by
    rw [← chain_add]
    have h1 := hper (n - i)
    rw [show i + (j - i) + (n - i) = n + (j - i) by omega, show i + (n - i) = n by omega] at h1
    exact h1
  have hroot : ∀ m, ¬ bs.getD (chain l bs (chain l bs x n) m) 0 < 0 := fun m => by rw [← chain_add]; exact hall _
  clear hper hall he
  generalize chain l bs x n = y at *
  have key : ∀ k, 0 < k → k ≤ n → chain l bs y k = y → ∃ p, 0 < p ∧ p ≤ n ∧ chain l bs y p = y ∧ ∀ q, 0 < q → q < p → chain l bs y q ≠ y := by
    intro k
    induction k using Nat.strongRecOn with
    | _ k ih =>
      intro hk hkn hc
      by_cases hex : ∃ q, 0 < q ∧ q < k ∧ chain l bs y q = y
      · obtain ⟨q, hq0, hqk, hqc⟩ := hex
        exact ih q hqk hq0 (by omega) hqc
      · exact ⟨k, hk, hkn, hc, fun q hq0 hqk hqc => hex ⟨q, hq0, hqk, hqc⟩⟩
  obtain ⟨p, p1, p2, p3, p4⟩ := key (j - i) (by omega) (by omega) hy
  exact ⟨p, p1, p2, p3, hroot, p4⟩
end Go.Proofs.Ytnmklgigmmlgeaa
