/- slices.Reverse of a []int. -/
import Derived.Test.YtnmklgigmmlgeaaIntBlk
namespace Go.Proofs.Ytnmklgigmmlgeaa
open Go.ChangeShapes Go.WideShapes Go.RowKit
set_option linter.unusedVariables false
set_option linter.unusedSimpArgs false

def InB (g : Nat) : Nat → Nat → Prop := fun b _ => b = g

theorem swap_reverse {xs ys : List Int} {k m : Nat} (h : k + m + 1 = xs.length) (hk : m ≤ k) (hl : ys.length = xs.length) (hy : ∀ p, p < xs.length → ys.getD p 0 = if p < k ∨ m < p then xs.getD (xs.length - 1 - p) 0 else xs.getD p 0) : ys = xs.reverse := by
  apply List.ext_getElem
  · simp [hl]
  · intro p h1 h2
    have := hy p (by omega)
    rw [List.getD_eq_getElem?_getD, List.getElem?_eq_getElem h1] at this
    rw [List.getElem_reverse]
    simp only [Option.getD_some] at this
    rw [this]
    split
    · rw [List.getD_eq_getElem?_getD, List.getElem?_eq_getElem (by omega)]; simp
    · have hp : p = k ∧ p = m := by omega
      rw [List.getD_eq_getElem?_getD, List.getElem?_eq_getElem (by omega)]
      simp only [Option.getD_some]
      congr 1
      omega

theorem getD_set (l : List Int) (i p : Nat) (v : Int) (hp : p < l.length) : (l.set i v).getD p 0 = if i = p then v else l.getD p 0 := by
  rw [List.getD_eq_getElem?_getD, List.getElem?_set, List.getD_eq_getElem?_getD]
  by_cases h : i = p
  · subst h; simp [hp]
  · simp [h]

theorem swap_step {xs ys : List Int} {k m : Nat} (h : k + m + 1 = xs.length) (hk : k < m) (hl : ys.length = xs.length) (hy : ∀ p, p < xs.length → ys.getD p 0 = if p < k ∨ m < p then xs.getD (xs.length - 1 - p) 0 else xs.getD p 0) :
    ∀ p, p < xs.length → ((ys.set k (ys.getD m 0)).set m (ys.getD k 0)).getD p 0 = if p < k + 1 ∨ m - 1 < p then xs.getD (xs.length - 1 - p) 0 else xs.getD p 0 := by
  intro p hp
  rw [getD_set _ _ _ _ (by simpa [hl] using hp), getD_set _ _ _ _ (by omega)]
  by_cases h1 : m = p
  · subst h1
    rw [if_pos rfl, if_pos (by omega), hy k (by omega), if_neg (by omega)]
    congr 1; omega
  · rw [if_neg h1]
    by_cases h2 : k = p
    · subst h2
      rw [if_pos rfl, if_pos (by omega), hy m (by omega), if_neg (by omega)]
      congr 1; omega
    · rw [if_neg h2, hy p hp]
      by_cases h3 : p < k ∨ m < p
      · rw [if_pos h3, if_pos (by omega)]
      · rw [if_neg h3, if_neg (by omega)]

set_option maxRecDepth 100000 in
set_option maxHeartbeats 16000000 in
theorem reverse_any (w : World) (g cap : Nat) (xs : List Int) (h : IntBlk w g xs) (h0 : 0 < xs.length) (hm : xs.length ≤ 9223372036854775807) :
    Calls Try.prog 75 #[.slice (some ⟨g, 0, none⟩) xs.length cap] w fun e w' => e = .returned (.tuple #[]) ∧ IntBlk w' g xs.reverse ∧ Keep (InB g) w w' := by
  have HI := Lib.hid h
  have hgl := h.lt
  clear h
  go_enter Try.func75, Try.ntmps75
  go_wp2
  go_loopw [2, 3] (fun s t wr => ∃ k m : Nat, k + m + 1 = xs.length ∧ k ≤ m + 1 ∧ s = .int .i64 k ∧ t = .int .i64 m ∧ (∃ ys : List Int, ys.length = xs.length ∧ (∀ p, p < xs.length → ys.getD p 0 = if p < k ∨ m < p then xs.getD (xs.length - 1 - p) 0 else xs.getD p 0) ∧ IntBlk wr g ys) ∧ Keep (InB g) w wr) (fun s _ _ => (xs.length - intOf s).toNat)
  case atStart => exact ⟨0, xs.length - 1, by omega, by omega, rfl, by go_num, ⟨xs, rfl, fun p hp => by rw [if_neg (by omega)], HI.out⟩, Keep.refl _ _⟩
  case round =>
    obtain ⟨k, m, hkm, hk, rfl, rfl, ⟨ys, hl, hy, hb⟩, hkp⟩ := hrel
    have HY := Lib.hid hy; clear hy
    have HK := Lib.hid hkp; clear hkp
    by_cases hlt : k < m
    · have hlt' : (k : Int) < (m : Int) := by omega
      have hk1 : (k : Int) < (xs.length : Int) := by omega
      have hm1 : (m : Int) < (xs.length : Int) := by omega
      have ck := hb.cell (i := k) (by omega)
      have cm := hb.cell (i := m) (by omega)
      have fk := hb.free k
      have fm := hb.free m
      have gl := hb.lt
      have HB := Lib.hid hb; clear hb
      generalize hya : ys.getD k 0 = a at *
      generalize hyb : ys.getD m 0 = b at *
      go_wp2
      refine wp_region_two (fun w' => w'.cell? ⟨g, k, none⟩ = some (.int .i64 a) ∧ w'.cell? ⟨g, m, none⟩ = some (.int .i64 b)) (fun _ => True) [0, 1, 2, 3, 4, 5, 6, 8, 9, 10, 13, 14, 15] [([0, 1, 2, 3, 4, 5, 6, 8, 9, 10], [7, 11, 12], 13), ([14], [], 15)] ([], []) (by kernel_rfl) (by kernel_rfl) (fun _ _ => trivial) ⟨ck, cm⟩ ?_
      intro X Y W V hne1 hne2 hF hcl hG hgg
      have hx1 := fun x => (hF x).1
      have hx2 := fun x => (hF x).2
      have HG := Lib.hid hgg
      clear hF hcl hG hgg
      simp only [wpPlanD, pickOps, List.getElem?_toArray, List.getElem?_cons_zero, List.getElem?_cons_succ, Bool.false_eq_true, if_false]
      (repeat (quiet_step (fail))); repeat (refine wpQuiet_nil ?_)
      refine wpOp_at (by simp only [List.getElem?_toArray, List.getElem?_cons_zero, List.getElem?_cons_succ]; rfl) (by rfl) (fun K hK => ?_)
      go_simp
      refine hK _ _ ⟨⟨fun h => (by simp at h), HG.out _ trivial⟩, ?_⟩
      clear hK K
      (repeat (quiet_step (fail))); repeat (refine wpQuiet_nil ?_)
      refine wpOp_at (by simp only [List.getElem?_toArray, List.getElem?_cons_zero, List.getElem?_cons_succ]; rfl) (by rfl) (fun K hK => ?_)
      go_simp
      refine hK _ _ ⟨⟨fun h => (by simp at h), HG.out _ trivial⟩, ?_⟩
      clear hK K
      repeat (refine wpQuiet_nil ?_)
      refine NoPanic.normal ?_
      go_wp2
      go_roundw
      case rel =>
        refine ⟨k + 1, m - 1, by omega, by omega, by go_num, by congr 1; omega, ⟨_, by simp [hl], swap_step hkm hlt hl HY.out, ?_⟩, ?_⟩
        · rw [hya, hyb]
          exact ((HB.out.keep (Keep.refl NoS _).drew).set _).set _
        · exact ((HK.out.drew).setCell _ fun _ => rfl).setCell _ fun _ => rfl
      case measure => simp [intOf]; omega
    · have hlt' : ¬ (k : Int) < (m : Int) := by omega
      have E := Lib.hid (swap_reverse hkm (by omega) hl HY.out)
      go_wp2
      go_returns
      refine ⟨rfl, ?_, HK.out⟩
      rw [← E.out]
      exact hb
end Go.Proofs.Ytnmklgigmmlgeaa
