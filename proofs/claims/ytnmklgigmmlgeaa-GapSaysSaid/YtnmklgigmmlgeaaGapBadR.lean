/- The document's answer to gap.Bad. -/
import Derived.Test.YtnmklgigmmlgeaaGapBad
namespace Go.Proofs.Ytnmklgigmmlgeaa
open Go.ChangeShapes Go.WideShapes Go.RowKit
set_option linter.unusedVariables false
set_option linter.unusedSimpArgs false

open Classical in
noncomputable def gbadB (l : List Gp) (r : List Int) : Bool := decide (gbad l r)

theorem is_gbad {l : List Gp} {r : List Int} {b : Bool} (hb : b = true ↔ gbad l r) : Ending.returned (.bool b) = .returned (.bool (gbadB l r)) := by
  have : gbadB l r = b := by
    unfold gbadB
    cases b <;> simp_all
  rw [this]

theorem nextAt_last {r : List Int} {k : Nat} (hk : k < r.length) (h : k + 1 = r.length) : nextAt r k = 0 := by unfold nextAt; rw [h]; simp
theorem nextAt_more {r : List Int} {k : Nat} (hk : k < r.length) (h : ¬ k + 1 = r.length) : nextAt r k = k + 1 := by unfold nextAt; rw [Nat.mod_eq_of_lt (by omega)]

set_option maxRecDepth 100000 in
set_option maxHeartbeats 16000000 in
theorem refGapBad_any (w : World) (v : Value) (l : List Gp) (vr : Value) (r : List Int) (h : IsGaps w v l) (h' : IsInts w vr r) (hE : rndChk l.length r 0 = (0, 0)) :
    Calls Try.prog 21 #[v, vr] w fun e w' => e = .returned (.bool (gbadB l r)) ∧ Keep NoS w w' := by
  have HG := Lib.hid h
  have HI := Lib.hid h'
  have E := Lib.hid hE
  clear hE
  obtain ⟨oa, cap, rfl, hm, hr, _⟩ := h
  obtain ⟨oa', cap', rfl, hm', hr', _⟩ := h'
  clear hr hr'
  unfold maxLen at hm hm'
  go_enter Try.func21, Try.ntmps21
  go_wp2
  go_loopw [6, 5] (fun s t wr => ∃ k : Nat, k ≤ r.length ∧ s = .int .i64 k ∧ t = .int .i64 (sumTo l r k) ∧ (∀ i, i < k → linkAt l r i) ∧ Keep NoS w wr) (fun s _ _ => (r.length - intOf s).toNat)
  case atStart => exact ⟨0, by omega, rfl, rfl, fun i hi => absurd hi (by omega), by (repeat' (first | (with_reducible assumption) | (with_reducible exact HK.out) | (with_reducible exact Keep.refl _ _) | (with_reducible refine Keep.alloc ?_ _) | (with_reducible refine Keep.setCell ?_ _ (fun h => absurd h (by omega))) | (with_reducible refine Keep.drewN ?_ _) | (with_reducible refine Keep.drew ?_)))⟩
  case round =>
    obtain ⟨k, hk, rfl, rfl, hlk, KX⟩ := hrel
    have HK := Lib.hid hlk; clear hlk
    by_cases hkl : k < r.length
    · have hlt : (k : Int) < (r.length : Int) := by omega
      obtain ⟨b, o, cp, hsl, hb, g0⟩ := (HI.out.keep KX).at hkl
      cases hsl
      obtain ⟨j, hj, hjl⟩ := nth_ok E.out hkl
      have hq := List.getElem?_eq_getElem hkl
      rw [hj] at g0
      have hjl' : (j : Int) < (l.length : Int) := by omega
      obtain ⟨bg, og, cg, hsl, hbg, a0, a1, a2⟩ := (HG.out.keep KX).at hjl
      cases hsl
      have hg := List.getElem?_eq_getElem hjl
      have hGA := gapAt_eq hq hj hg
      have hnl : nextAt r k < r.length := Nat.mod_lt _ (by omega)
      obtain ⟨b', o', cp', hsl, hb', g0'⟩ := (HI.out.keep KX).at hnl
      cases hsl
      obtain ⟨j', hj', hjm⟩ := nth_ok E.out hnl
      have hq' := List.getElem?_eq_getElem hnl
      rw [hj'] at g0'
      have hjm' : (j' : Int) < (l.length : Int) := by omega
      obtain ⟨bg', og', cg', hsl, hbg', a0', a1', a2'⟩ := (HG.out.keep KX).at hjm
      cases hsl
      have hg' := List.getElem?_eq_getElem hjm
      have hGB := gapAt_eq hq' hj' hg'
      have HL : linkAt l r k ↔ l[j].A = l[j'].B := by unfold linkAt; rw [hGA, hGB]
      have HY : (gapAt l r k).By = l[j].By := by rw [hGA]
      clear hGA hGB
      have HL := Lib.hid HL
      have HY := Lib.hid HY
      clear hq hq' hg hg' hj hj'
      have hnx : nextAt r k = if k + 1 = r.length then 0 else k + 1 := by
        split
        · exact nextAt_last hkl (by assumption)
        · exact nextAt_more hkl (by assumption)
      generalize nextAt r k = nx at *
      generalize l[j].A = X at *
      generalize l[j'].B = Y at *
      generalize l[j].By = Z at *
      by_cases hlast : k + 1 = r.length
      · rw [if_pos hlast] at hnx
        subst hnx
        have e0 : (((k : Int) + 1) == (r.length : Int)) = true := by rw [beq_iff_eq]; omega
        simp only [Nat.add_zero] at g0'
        by_cases hlk : X = Y
        · have e1 : (X != Y) = false := bne_eq_false_iff_eq.2 hlk
          have HN := Lib.hid (HL.out.2 hlk)
          have HZ := Lib.hid (by rw [sumTo, HY.out] : sumTo l r (k + 1) = wrap64 (sumTo l r k + Z))
          clear hlk HL HY
          generalize sumTo l r k = sk at *
          go_wp2
          go_quiet (fail)
          go_wp2
          go_roundw
          case rel => exact ⟨k + 1, by omega, by go_num, by rw [HZ.out], fun i hi => by
            by_cases hik : i = k
            · rw [hik]; exact HN.out
            · exact HK.out i (by omega), KX.trans (by (repeat' (first | (with_reducible assumption) | (with_reducible exact HK.out) | (with_reducible exact Keep.refl _ _) | (with_reducible refine Keep.alloc ?_ _) | (with_reducible refine Keep.setCell ?_ _ (fun h => absurd h (by omega))) | (with_reducible refine Keep.drewN ?_ _) | (with_reducible refine Keep.drew ?_)))) fun _ _ _ h => h⟩
          case measure => simp [intOf]; omega
        · have e1 : (X != Y) = true := bne_iff_ne.2 hlk
          have HN := Lib.hid (fun h : gbad l r => hlk (HL.out.1 (h.1 k hkl)))
          clear hlk HL HY
          go_wp2
          go_quiet (fail)
          go_wp2
          go_ret
          exact ⟨is_gbad ⟨fun h => by simp at h, fun h => absurd h HN.out⟩, by (repeat' (first | (with_reducible assumption) | (with_reducible exact HK.out) | (with_reducible exact Keep.refl _ _) | (with_reducible refine Keep.alloc ?_ _) | (with_reducible refine Keep.setCell ?_ _ (fun h => absurd h (by omega))) | (with_reducible refine Keep.drewN ?_ _) | (with_reducible refine Keep.drew ?_)))⟩
      · rw [if_neg hlast] at hnx
        subst hnx
        have e0 : (((k : Int) + 1) == (r.length : Int)) = false := by rw [beq_eq_false_iff_ne]; omega
        have hlt2 : (k : Int) + 1 < (r.length : Int) := by omega
        by_cases hlk : X = Y
        · have e1 : (X != Y) = false := bne_eq_false_iff_eq.2 hlk
          have HN := Lib.hid (HL.out.2 hlk)
          have HZ := Lib.hid (by rw [sumTo, HY.out] : sumTo l r (k + 1) = wrap64 (sumTo l r k + Z))
          clear hlk HL HY
          generalize sumTo l r k = sk at *
          go_wp2
          go_quiet (fail)
          go_wp2
          go_roundw
          case rel => exact ⟨k + 1, by omega, by go_num, by rw [HZ.out], fun i hi => by
            by_cases hik : i = k
            · rw [hik]; exact HN.out
            · exact HK.out i (by omega), KX.trans (by (repeat' (first | (with_reducible assumption) | (with_reducible exact HK.out) | (with_reducible exact Keep.refl _ _) | (with_reducible refine Keep.alloc ?_ _) | (with_reducible refine Keep.setCell ?_ _ (fun h => absurd h (by omega))) | (with_reducible refine Keep.drewN ?_ _) | (with_reducible refine Keep.drew ?_)))) fun _ _ _ h => h⟩
          case measure => simp [intOf]; omega
        · have e1 : (X != Y) = true := bne_iff_ne.2 hlk
          have HN := Lib.hid (fun h : gbad l r => hlk (HL.out.1 (h.1 k hkl)))
          clear hlk HL HY
          go_wp2
          go_quiet (fail)
          go_wp2
          go_ret
          exact ⟨is_gbad ⟨fun h => by simp at h, fun h => absurd h HN.out⟩, by (repeat' (first | (with_reducible assumption) | (with_reducible exact HK.out) | (with_reducible exact Keep.refl _ _) | (with_reducible refine Keep.alloc ?_ _) | (with_reducible refine Keep.setCell ?_ _ (fun h => absurd h (by omega))) | (with_reducible refine Keep.drewN ?_ _) | (with_reducible refine Keep.drew ?_)))⟩
    · have hlt : ¬ (k : Int) < (r.length : Int) := by omega
      obtain rfl : k = r.length := by omega
      go_wp2
      go_ret
      exact ⟨is_gbad ⟨fun h => ⟨HK.out, by simpa using h⟩, fun h => by simpa using h.2⟩, by (repeat' (first | (with_reducible assumption) | (with_reducible exact HK.out) | (with_reducible exact Keep.refl _ _) | (with_reducible refine Keep.alloc ?_ _) | (with_reducible refine Keep.setCell ?_ _ (fun h => absurd h (by omega))) | (with_reducible refine Keep.drewN ?_ _) | (with_reducible refine Keep.drew ?_)))⟩
end Go.Proofs.Ytnmklgigmmlgeaa
