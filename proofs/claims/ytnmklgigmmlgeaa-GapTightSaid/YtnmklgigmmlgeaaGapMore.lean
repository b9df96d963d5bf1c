/- Gaps with one more: the plain law behind GapTight. -/
import Derived.Test.YtnmklgigmmlgeaaGapAlongW
namespace Go.Proofs.Ytnmklgigmmlgeaa
open Go.ChangeShapes Go.WideShapes Go.RowKit
set_option linter.unusedVariables false
set_option linter.unusedSimpArgs false

theorem gapChk_zero {n : Int} {l : List Gp} (h : ∀ g ∈ l, gc n g = 0) : ∀ i, gapChk n l i = (0, 0) := by
  induction l with
  | nil => intro i; rfl
  | cons g t ih =>
    intro i
    rw [gapChk, if_pos (h g (by simp))]
    exact ih (fun g hg => h g (by simp [hg])) _

theorem gapsW_zero {N : Nat} {l : List Gp} (hg : GpsOK N l) : gapsW N l = (0, 0) := by
  obtain ⟨h1, h2, h3⟩ := hg
  unfold gapsW
  rw [if_neg (by omega), if_neg (by omega)]
  refine gapChk_zero (fun g hg => ?_) 0
  have := h3 g hg
  unfold gc
  rw [if_neg (by omega), if_neg (by omega)]

theorem GpsOK.more {N : Nat} {l : List Gp} (hg : GpsOK N l) {g : Gp} (hl : l.length < 60) (ha : 0 ≤ g.A ∧ g.A < (N : Int)) (hb : 0 ≤ g.B ∧ g.B < (N : Int)) (hy : -1000000 ≤ g.By ∧ g.By ≤ 1000000) : GpsOK N (l ++ [g]) := by
  refine ⟨hg.1, by simp; omega, fun x hx => ?_⟩
  rcases List.mem_append.1 hx with h | h
  · exact hg.2.2 x h
  · rw [List.mem_singleton.1 h]; exact ⟨ha, hb, hy.1, hy.2⟩

theorem getD_app {l : List Gp} {g : Gp} {e : Nat} (he : e < l.length) : (l ++ [g]).getD e ⟨0, 0, 0⟩ = l.getD e ⟨0, 0, 0⟩ := by
  simp [List.getD_eq_getElem?_getD, List.getElem?_append_left he]
theorem getD_end {l : List Gp} {g : Gp} : (l ++ [g]).getD l.length ⟨0, 0, 0⟩ = g := by
  simp [List.getD_eq_getElem?_getD]

theorem keeps_more {l : List Gp} {g : Gp} {f : Nat → Int} : Keeps (l ++ [g]) f ↔ Keeps l f ∧ f g.A.toNat - f g.B.toNat ≤ g.By := by
  constructor
  · intro h
    refine ⟨fun e he => ?_, ?_⟩
    · have := h e (by simp; omega)
      unfold gA gB gY at this ⊢
      rwa [getD_app he] at this
    · have := h l.length (by simp)
      unfold gA gB gY at this
      rwa [getD_end] at this
  · rintro ⟨h1, h2⟩ e he
    by_cases hel : e < l.length
    · have := h1 e hel
      unfold gA gB gY at this ⊢
      rwa [getD_app hel]
    · have : e = l.length := by simp at he; omega
      subst this
      unfold gA gB gY
      rwa [getD_end]

/-- One gap more that the table contradicts. -/
theorem tight_no {N : Nat} {l : List Gp} {P : Int} {T : Nat → Nat → Int} {a b : Nat} (h : FWI N l N P T) (ha : a < N) (hb : b < N) (hx : T a b < 1099511627776) (f : Nat → Int) : ¬ Keeps (l ++ [⟨b, a, -T a b - 1⟩]) f := by
  intro hf
  obtain ⟨h1, h2⟩ := keeps_more.1 hf
  have h3 := h.snd f h1 a b ha hb hx
  simp only [Int.toNat_natCast] at h2
  omega

/-- One gap more that the table says already. -/
theorem tight_same {N : Nat} {l : List Gp} (hg : GpsOK N l) (ht : ∃ t, (rnds N l (t + 1)).last < 0) {a b : Nat} (ha : a < N) (hb : b < N) (hl : l.length < 60) (hx0 : -1000000 ≤ tab N l N a b) (hx1 : tab N l N a b < 1000000) :
    ∃ f, Keeps (l ++ [⟨a, b, tab N l N a b⟩]) f ∧ ∀ x y, x < N → y < N → tab N (l ++ [⟨a, b, tab N l N a b⟩]) N x y = tab N l N x y := by
  obtain ⟨hg, h1, hP, hd⟩ := tab_facts (gapsW_zero hg) ht
  obtain ⟨t, ht⟩ := ht
  have hv := rnds_keeps hg ht
  have hok := rnds_ok hg (t + 1)
  have hN := hg.1
  have hg' : GpsOK N (l ++ [⟨a, b, tab N l N a b⟩]) := hg.more hl (by simp; omega) (by simp; omega) (by simp; omega)
  -- the least ones of the table keep all gaps
  have hf : Keeps l fun x => lst (tab N l N) x N := h1.keeps hg hP
  have hf' : Keeps (l ++ [⟨a, b, tab N l N a b⟩]) fun x => lst (tab N l N) x N := by
    refine keeps_more.2 ⟨hf, ?_⟩
    simp only [Int.toNat_natCast]
    exact h1.snd _ hf a b ha hb (by omega)
  refine ⟨_, hf', fun x y hx hy => ?_⟩
  obtain ⟨h2, hd'⟩ := fwi_keeps hg' hf' N (Nat.le_refl _)
  have hb0 : ∀ x, x < N → -10000000000 ≤ lst (tab N l N) x N ∧ lst (tab N l N) x N ≤ 0 := by
    intro x hx
    have := lst_le (tab N l N) x N
    refine ⟨?_, this.1⟩
    rcases lst_at (tab N l N) x N with e | ⟨c, hc, e⟩
    · omega
    · have := h1.bd x c hx hc
      omega
  have e1 := table_le hg hg' h1 hP h2 hP hd hf hb0 (fun e he => by
    by_cases hel : e < l.length
    · have h3 := h1.gap e hel
      unfold gA gB gY at h3 ⊢
      rwa [getD_app hel]
    · have : e = l.length := by simp at he; omega
      subst this
      unfold gA gB gY
      rw [getD_end]
      simp) x y hx hy
  have e2 := table_le hg' hg h2 hP h1 hP hd' hf' hb0 (fun e he => by
    have h3 := h2.gap e (by simp; omega)
    unfold gA gB gY at h3 ⊢
    rwa [getD_app he] at h3) x y hx hy
  omega
end Go.Proofs.Ytnmklgigmmlgeaa
