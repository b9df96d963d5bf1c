/- What gap.Do computes, as plain lists. -/
import Derived.Test.YtnmklgigmmlgeaaGapCyc
namespace Go.Proofs.Ytnmklgigmmlgeaa
open Go.ChangeShapes Go.WideShapes Go.RowKit
set_option linter.unusedVariables false
set_option linter.unusedSimpArgs false

structure St where
  vals : List Int
  bys : List Int
  last : Int

def relax (g : Gp) (i : Nat) (s : St) : St :=
  if s.vals.getD g.B.toNat 0 + g.By < s.vals.getD g.A.toNat 0 then ⟨s.vals.set g.A.toNat (s.vals.getD g.B.toNat 0 + g.By), s.bys.set g.A.toNat i, g.A⟩ else s
def pass (l : List Gp) (s : St) : Nat → St
  | 0 => s
  | k + 1 => relax (l.getD k ⟨0, 0, 0⟩) k (pass l s k)
def turn (l : List Gp) (s : St) : St := pass l ⟨s.vals, s.bys, -1⟩ l.length
def rnds (n : Nat) (l : List Gp) : Nat → St
  | 0 => ⟨List.replicate n 0, List.replicate n (-1), -1⟩
  | t + 1 => turn l (rnds n l t)

/-- Gaps as they pass the check. -/
def GpsOK (n : Nat) (l : List Gp) : Prop := n ≤ 12 ∧ l.length ≤ 60 ∧ ∀ g ∈ l, (0 ≤ g.A ∧ g.A < (n : Int)) ∧ (0 ≤ g.B ∧ g.B < (n : Int)) ∧ -1000000 ≤ g.By ∧ g.By ≤ 1000000

/-- The state behind c steps. -/
structure StOK (n : Nat) (l : List Gp) (c : Nat) (s : St) : Prop where
  vl : s.vals.length = n
  bl : s.bys.length = n
  vb : ∀ x, x < n → -(1000000 * (c : Int)) ≤ s.vals.getD x 0 ∧ s.vals.getD x 0 ≤ 0
  bb : ∀ x, x < n → s.bys.getD x 0 = -1 ∨ ∃ e : Nat, e < l.length ∧ s.bys.getD x 0 = (e : Int) ∧ (l.getD e ⟨0, 0, 0⟩).A = (x : Int)
  lb : s.last = -1 ∨ 0 ≤ s.last ∧ s.last < (n : Int)

theorem relax_ok {n : Nat} {l : List Gp} (hg : GpsOK n l) {c : Nat} {s : St} (h : StOK n l c s) {k : Nat} (hk : k < l.length) : StOK n l (c + 1) (relax (l.getD k ⟨0, 0, 0⟩) k s) := by
  have hm := hg.2.2 _ (getD_mem (d := ⟨0, 0, 0⟩) hk)
  generalize hgg : l.getD k ⟨0, 0, 0⟩ = g at *
  obtain ⟨⟨a0, a1⟩, ⟨b0, b1⟩, y0, y1⟩ := hm
  have hB := h.vb g.B.toNat (by omega)
  have hA := h.vb g.A.toNat (by omega)
  unfold relax
  split
  · rename_i hlt
    refine ⟨by simp [h.vl], by simp [h.bl], fun x hx => ?_, fun x hx => ?_, .inr ⟨a0, a1⟩⟩
    · rw [getD_set _ _ _ _ (by rw [h.vl]; exact hx)]
      split
      · omega
      · have := h.vb x hx; omega
    · rw [getD_set _ _ _ _ (by rw [h.bl]; exact hx)]
      split
      · rename_i hax
        exact .inr ⟨k, hk, rfl, by rw [hgg]; omega⟩
      · exact h.bb x hx
  · exact ⟨h.vl, h.bl, fun x hx => by have := h.vb x hx; omega, h.bb, h.lb⟩

theorem pass_ok {n : Nat} {l : List Gp} (hg : GpsOK n l) {c : Nat} {s : St} (h : StOK n l c s) : ∀ k, k ≤ l.length → StOK n l (c + k) (pass l s k)
  | 0, _ => h
  | k + 1, hk => by rw [← Nat.add_assoc]; exact relax_ok hg (pass_ok hg h k (by omega)) (by omega)

theorem StOK.clear {n : Nat} {l : List Gp} {c : Nat} {s : St} (h : StOK n l c s) : StOK n l c ⟨s.vals, s.bys, -1⟩ := ⟨h.vl, h.bl, h.vb, h.bb, .inl rfl⟩

theorem StOK.mono {n : Nat} {l : List Gp} {c c' : Nat} {s : St} (h : StOK n l c s) (hc : c ≤ c') : StOK n l c' s :=
  ⟨h.vl, h.bl, fun x hx => by have := h.vb x hx; omega, h.bb, h.lb⟩

theorem rnds_ok {n : Nat} {l : List Gp} (hg : GpsOK n l) : ∀ t, StOK n l (60 * t) (rnds n l t)
  | 0 => ⟨by simp [rnds], by simp [rnds], fun x hx => by simp [rnds, hx], fun x hx => by simp [rnds, hx], .inl rfl⟩
  | t + 1 => by
    have h := pass_ok hg (rnds_ok hg t).clear l.length (Nat.le_refl _)
    have hl := hg.2.1
    exact h.mono (by omega)

theorem StOK.byok {n : Nat} {l : List Gp} (hg : GpsOK n l) {c : Nat} {s : St} (h : StOK n l c s) : ByOK n l s.bys := by
  refine ⟨h.bl, fun x hx => ?_, fun g hgm => (hg.2.2 g hgm).2.1⟩
  rcases h.bb x hx with h1 | ⟨e, he, h1, _⟩
  · left; omega
  · right; omega

end Go.Proofs.Ytnmklgigmmlgeaa
