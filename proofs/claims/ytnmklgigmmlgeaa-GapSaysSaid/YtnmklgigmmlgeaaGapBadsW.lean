/- The walk of the law GapBads. -/
import Derived.Test.YtnmklgigmmlgeaaGapBadR
namespace Go.Proofs.Ytnmklgigmmlgeaa
open Go.ChangeShapes Go.WideShapes Go.RowKit
set_option linter.unusedVariables false
set_option linter.unusedSimpArgs false

theorem Blk.gap1 {w : World} {b : Nat} {x y z : Int} (h : Blk w b #[.int .i64 x, .int .i64 y, .int .i64 z]) (hx : I64 x ∧ I64 y ∧ I64 z) : IsGaps w (.slice (some ⟨b, 0, none⟩) 1 1) [⟨x, y, z⟩] := by
  refine ⟨_, 1, rfl, by simp [maxLen], by simpa using hx, fun _ => ⟨b, 0, rfl, h.lt, fun i g hg => ?_⟩⟩
  rcases i with _ | i
  · simp at hg
    subst hg
    exact ⟨by simpa using h.cell 0, by simpa using h.cell 1, by simpa using h.cell 2⟩
  · simp at hg
theorem Blk.int1 {w : World} {b : Nat} {x : Int} (h : Blk w b #[.int .i64 x]) (hx : I64 x) : IsInts w (.slice (some ⟨b, 0, none⟩) 1 1) [x] := by
  refine ⟨_, 1, rfl, by simp [maxLen], by simpa using hx, fun _ => ⟨b, 0, rfl, h.lt, fun i g hg => ?_⟩⟩
  rcases i with _ | i
  · simp at hg
    subst hg
    simpa using h.cell 0
  · simp at hg

theorem fact_badW : badW 1 [⟨0, 0, -1⟩] [0] = (0, 0) := by decide
theorem fact_badB : badB 1 [⟨0, 0, -1⟩] [0] = true := by
  unfold badB
  rw [fact_badW]
  have : gbad [⟨0, 0, -1⟩] [0] := by
    refine ⟨fun i hi => ?_, by rw [show sumTo [⟨0, 0, -1⟩] [0] [(0 : Int)].length = -1 from by kernel_rfl]; omega⟩
    have : i = 0 := by simpa using hi
    subst this
    rfl
  simp [this]
theorem fact_badV : Value.tuple #[.bool (badB 1 [⟨0, 0, -1⟩] [0]), faultV (badW 1 [⟨0, 0, -1⟩] [0]).1 (badW 1 [⟨0, 0, -1⟩] [0]).2] = .tuple #[.bool true, .agg #[.int .i64 0, .int .i64 0]] := by
  rw [fact_badB, fact_badW]; rfl

theorem rnd_zero {m : Nat} {r : List Int} : ∀ {i : Nat}, (rndChk m r i).1 = 0 → rndChk m r i = (0, 0) := by
  induction r with
  | nil => intro i _; rfl
  | cons z t ih =>
    intro i h
    rw [rndChk] at h ⊢
    split at h
    · simp at h
    · rename_i hz
      rw [if_neg hz]
      exact ih h

theorem badW_zero {n : Int} {l : List Gp} {r : List Int} {c a : Int} (h : badW n l r = (c, a)) (hc : c = 0) : a = 0 ∧ gapsW n l = (0, 0) ∧ rndChk l.length r 0 = (0, 0) ∧ badB n l r = gbadB l r := by
  by_cases h0 : (gapsW n l).1 = 0
  · have h1 := h
    rw [badW_go h0] at h1
    have h2 := rnd_zero (show (rndChk l.length r 0).1 = 0 by rw [h1]; exact hc)
    rw [h2] at h1
    refine ⟨(congrArg Prod.snd h1).symm, (gaps_ok h0).1, h2, ?_⟩
    unfold badB gbadB
    rw [h, hc]
    simp
  · rw [badW_no h0] at h
    rw [h] at h0
    exact absurd hc h0

theorem badW_pos {n : Int} {l : List Gp} {r : List Int} {c a : Int} (h : badW n l r = (c, a)) (hc : ¬ c = 0) : badB n l r = false ∧ (gapsW n l = (c, a) ∨ gapsW n l = (0, 0) ∧ rndChk l.length r 0 = (c, a)) := by
  refine ⟨by unfold badB; rw [h]; simp [hc], ?_⟩
  by_cases h0 : (gapsW n l).1 = 0
  · rw [badW_go h0] at h
    exact .inr ⟨(gaps_ok h0).1, h⟩
  · rw [badW_no h0] at h
    exact .inl h

theorem Blk.put {w : World} {b : Nat} {x y : Value} (h : Blk w b #[x, y]) (x' y' : Value) : Blk ((w.setCell ⟨b, 0, none⟩ x').setCell ⟨b, 1, none⟩ y') b #[x', y'] := by
  obtain ⟨t, h⟩ := h
  exact ⟨t, Go.Joins.block_setCell (Go.Joins.block_setCell h x') y'⟩

set_option maxRecDepth 100000 in
set_option maxHeartbeats 32000000 in
theorem gapBads_walk (w : World) (n : Int) (v : Value) (l : List Gp) (vr : Value) (r : List Int) (_ : I64 n) (h : IsGaps w v l) (h' : IsInts w vr r) :
    Calls Try.prog 4 #[.int .i64 n, v, vr] w fun e w' => e = .returned (.bool true) ∧ Below w.heap.size w w' := by
  have HG := Lib.hid h
  have HI := Lib.hid h'
  obtain ⟨oa, cap, rfl, hm, hr, _⟩ := h
  obtain ⟨oa', cap', rfl, hm', hr', _⟩ := h'
  clear hr hr'
  unfold maxLen at hm hm'
  obtain ⟨c, a, hw⟩ : ∃ c a, badW n l r = (c, a) := ⟨_, _, rfl⟩
  obtain ⟨bb, hbb⟩ : ∃ bb, badB n l r = bb := ⟨_, rfl⟩
  have V1 := Lib.hid (by rw [hw, hbb]; rfl : Value.tuple #[.bool (badB n l r), faultV (badW n l r).1 (badW n l r).2] = .tuple #[.bool bb, .agg #[.int .i64 c, .int .i64 a]])
  have HW := Lib.hid hw
  have HB := Lib.hid hbb
  clear hw hbb
  go_enter Try.func4, Try.ntmps4
  go_wp2_with fail
  refine (gapBad_any _ n _ l _ r (HG.out.keep (by (repeat' (first | (with_reducible assumption) | (with_reducible exact HK.out) | (with_reducible exact Keep.refl _ _) | (with_reducible refine Keep.alloc ?_ _) | (with_reducible refine Keep.setCell ?_ _ (fun h => absurd h (by omega))) | (with_reducible refine Keep.drewN ?_ _) | (with_reducible refine Keep.drew ?_))))) (HI.out.keep (by (repeat' (first | (with_reducible assumption) | (with_reducible exact HK.out) | (with_reducible exact Keep.refl _ _) | (with_reducible refine Keep.alloc ?_ _) | (with_reducible refine Keep.setCell ?_ _ (fun h => absurd h (by omega))) | (with_reducible refine Keep.drewN ?_ _) | (with_reducible refine Keep.drew ?_)))))).mono ?_
  rintro e w1 ⟨rfl, hk1⟩
  have K1 : Keep NoS w w1 := Keep.trans (by (repeat' (first | (with_reducible assumption) | (with_reducible exact HK.out) | (with_reducible exact Keep.refl _ _) | (with_reducible refine Keep.alloc ?_ _) | (with_reducible refine Keep.setCell ?_ _ (fun h => absurd h (by omega))) | (with_reducible refine Keep.drewN ?_ _) | (with_reducible refine Keep.drew ?_)))) hk1 fun _ _ _ h => h
  clear hk1
  rw [V1.out]
  go_wp2_with fail
  refine (gapBad_any _ 1 _ [⟨0, 0, -1⟩] _ [0] (Blk.gap1 (by (repeat (first | (with_reducible assumption) | (refine blk_at _ _ ?_; simp; done) | (refine Blk.old ?_ _)))) (by unfold I64; omega)) (Blk.int1 (by (repeat (first | (with_reducible assumption) | (refine blk_at _ _ ?_; simp; done) | (refine Blk.old ?_ _)))) (by unfold I64; omega))).mono ?_
  rintro e w2 ⟨rfl, hk2⟩
  have K2 : Keep NoS w w2 := Keep.trans (by (repeat' (first | (with_reducible assumption) | (with_reducible exact HK.out) | (with_reducible exact Keep.refl _ _) | (with_reducible refine Keep.alloc ?_ _) | (with_reducible refine Keep.setCell ?_ _ (fun h => absurd h (by omega))) | (with_reducible refine Keep.drewN ?_ _) | (with_reducible refine Keep.drew ?_)))) hk2 fun _ _ _ h => h
  have B2 : Blk w2 w1.heap.size #[.int .i64 c, .int .i64 a] := Blk.keep (by (repeat (first | (with_reducible assumption) | (refine blk_at _ _ ?_; simp; done) | (refine Blk.old ?_ _)))) hk2
  have hl2 := B2.lt
  clear hk2 K1
  rw [fact_badV]
  go_wp2_with fail
  refine (refGaps_any _ n _ l (HG.out.keep (by (repeat' (first | (with_reducible assumption) | (with_reducible exact HK.out) | (with_reducible exact Keep.refl _ _) | (with_reducible refine Keep.alloc ?_ _) | (with_reducible refine Keep.setCell ?_ _ (fun h => absurd h (by omega))) | (with_reducible refine Keep.drewN ?_ _) | (with_reducible refine Keep.drew ?_)))))).mono ?_
  rintro e w3 ⟨rfl, hk3⟩
  have K3 : Keep NoS w w3 := Keep.trans (by (repeat' (first | (with_reducible assumption) | (with_reducible exact HK.out) | (with_reducible exact Keep.refl _ _) | (with_reducible refine Keep.alloc ?_ _) | (with_reducible refine Keep.setCell ?_ _ (fun h => absurd h (by omega))) | (with_reducible refine Keep.drewN ?_ _) | (with_reducible refine Keep.drew ?_)))) hk3 fun _ _ _ h => h
  have B3 : Blk w3 w1.heap.size #[.int .i64 c, .int .i64 a] := Blk.keep (by (repeat (first | (with_reducible assumption) | (refine blk_at _ _ ?_; simp; done) | (refine Blk.old ?_ _)))) hk3
  have hl3 := B3.lt
  clear hk3 K2 B2 hl2
  obtain ⟨c', a', hg⟩ : ∃ c' a', gapsW n l = (c', a') := ⟨_, _, rfl⟩
  have V3 := Lib.hid (by rw [hg]; rfl : faultV (gapsW n l).1 (gapsW n l).2 = .agg #[.int .i64 c', .int .i64 a'])
  have HGW := Lib.hid hg
  clear hg
  rw [V3.out]
  have Z3 : ¬ w3.heap.size = w1.heap.size := by omega
  go_wp2
  by_cases hc : c = 0
  · obtain ⟨rfl, g0, r0, bq⟩ := badW_zero HW.out hc
    subst hc
    obtain ⟨rfl, rfl⟩ : c' = 0 ∧ a' = 0 := by have := HGW.out.symm.trans g0; simpa using this
    have R0 := Lib.hid r0
    have HQ := Lib.hid (HB.out.symm.trans bq)
    clear g0 r0 bq
    go_loopw [12] (fun s wr => ∃ k : Nat, k ≤ r.length ∧ s = .int .i64 k ∧ Keep NoS w3 wr ∧ Blk wr w3.heap.size #[.int .i64 0, .int .i64 0]) (fun s _ => (r.length - intOf s).toNat)
    case atStart => exact ⟨0, by omega, rfl, by (repeat' (first | (with_reducible assumption) | (with_reducible exact HK.out) | (with_reducible exact Keep.refl _ _) | (with_reducible refine Keep.alloc ?_ _) | (with_reducible refine Keep.setCell ?_ _ (fun h => absurd h (by omega))) | (with_reducible refine Keep.drewN ?_ _) | (with_reducible refine Keep.drew ?_))), by (repeat (first | (with_reducible assumption) | (refine blk_at _ _ ?_; simp; done) | (refine Blk.old ?_ _)))⟩
    case round =>
      obtain ⟨k, hk, rfl, hkp, BF⟩ := hrel
      have KW : Keep NoS w wr := K3.trans hkp fun _ _ _ h => h
      have BE := B3.keep hkp
      obtain ⟨c0, c1, f0, f1, l0⟩ := BF.two
      obtain ⟨d0, d1, e0, e1, l1⟩ := BE.two
      have m0 : ¬ wr.heap.size = w3.heap.size := by omega
      have m1 : ¬ wr.heap.size = w1.heap.size := by omega
      by_cases hkl : k < r.length
      · have hlt : (k : Int) < (r.length : Int) := by omega
        obtain ⟨b, o, cp, hsl, hb, g0⟩ := (HI.out.keep KW).at hkl
        cases hsl
        obtain ⟨j, hj, hjl⟩ := nth_ok R0.out hkl
        rw [hj] at g0
        clear hj
        have q1 : decide ((j : Int) < 0) = false := dec_f (by omega)
        have q2 : decide ((l.length : Int) ≤ (j : Int)) = false := dec_f (by omega)
        go_wp2
        go_roundw
        case rel => exact ⟨k + 1, by omega, by go_num, hkp, BF⟩
        case measure => simp [intOf]; omega
      · have hlt : ¬ (k : Int) < (r.length : Int) := by omega
        go_wp2_with fail
        refine (refGapBad_any _ _ l _ r (HG.out.keep (by (repeat' (first | (with_reducible assumption) | (with_reducible exact HK.out) | (with_reducible exact Keep.refl _ _) | (with_reducible refine Keep.alloc ?_ _) | (with_reducible refine Keep.setCell ?_ _ (fun h => absurd h (by omega))) | (with_reducible refine Keep.drewN ?_ _) | (with_reducible refine Keep.drew ?_))))) (HI.out.keep (by (repeat' (first | (with_reducible assumption) | (with_reducible exact HK.out) | (with_reducible exact Keep.refl _ _) | (with_reducible refine Keep.alloc ?_ _) | (with_reducible refine Keep.setCell ?_ _ (fun h => absurd h (by omega))) | (with_reducible refine Keep.drewN ?_ _) | (with_reducible refine Keep.drew ?_))))) R0.out).mono ?_
        rintro e w4 ⟨rfl, hk4⟩
        have K4 : Keep NoS w w4 := Keep.trans (by (repeat' (first | (with_reducible assumption) | (with_reducible exact HK.out) | (with_reducible exact Keep.refl _ _) | (with_reducible refine Keep.alloc ?_ _) | (with_reducible refine Keep.setCell ?_ _ (fun h => absurd h (by omega))) | (with_reducible refine Keep.drewN ?_ _) | (with_reducible refine Keep.drew ?_)))) hk4 fun _ _ _ h => h
        clear hk4
        rw [← HQ.out]
        go_wp2
        go_ret
        exact ⟨congrArg (fun b : Bool => Ending.returned (.bool b)) (by simp), Keep.bel (by (repeat' (first | (with_reducible assumption) | (with_reducible exact HK.out) | (with_reducible exact Keep.refl _ _) | (with_reducible refine Keep.alloc ?_ _) | (with_reducible refine Keep.setCell ?_ _ (fun h => absurd h (by omega))) | (with_reducible refine Keep.drewN ?_ _) | (with_reducible refine Keep.drew ?_))))⟩
  · obtain ⟨bf, hcase⟩ := badW_pos HW.out hc
    obtain rfl : bb = false := HB.out.symm.trans bf
    have HC := Lib.hid hcase
    clear bf hcase
    have ec : (c == 0) = false := by simpa using hc
    have ec' : (c != 0) = true := by simpa using hc
    go_loopw [12] (fun s wr => ∃ k : Nat, k ≤ r.length ∧ s = .int .i64 k ∧ Keep NoS w3 wr ∧ ∃ c2 a2, Blk wr w3.heap.size #[.int .i64 c2, .int .i64 a2] ∧ ((c2 = c ∧ a2 = a) ∨ (c2 = 0 ∧ a2 = 0 ∧ rndChk l.length r 0 = (c, a) ∧ rndChk l.length r 0 = rndChk l.length (r.drop k) k))) (fun s _ => (r.length - intOf s).toNat)
    case atStart =>
      refine ⟨0, by omega, rfl, by (repeat' (first | (with_reducible assumption) | (with_reducible exact HK.out) | (with_reducible exact Keep.refl _ _) | (with_reducible refine Keep.alloc ?_ _) | (with_reducible refine Keep.setCell ?_ _ (fun h => absurd h (by omega))) | (with_reducible refine Keep.drewN ?_ _) | (with_reducible refine Keep.drew ?_))), c', a', by (repeat (first | (with_reducible assumption) | (refine blk_at _ _ ?_; simp; done) | (refine Blk.old ?_ _))), ?_⟩
      rcases HC.out with h | ⟨h, h'⟩
      · have := HGW.out.symm.trans h
        exact .inl (by simpa using this)
      · have := HGW.out.symm.trans h
        obtain ⟨h1, h2⟩ : c' = 0 ∧ a' = 0 := by simpa using this
        exact .inr ⟨h1, h2, h', rfl⟩
    case round =>
      obtain ⟨k, hk, rfl, hkp, c2, a2, BF, hst⟩ := hrel
      have KW : Keep NoS w wr := K3.trans hkp fun _ _ _ h => h
      have BE := B3.keep hkp
      obtain ⟨c0, c1, f0, f1, l0⟩ := BF.two
      obtain ⟨d0, d1, e0, e1, l1⟩ := BE.two
      have m0 : ¬ wr.heap.size = w3.heap.size := by omega
      have m1 : ¬ wr.heap.size = w1.heap.size := by omega
      rcases hst with ⟨rfl, rfl⟩ | ⟨rfl, rfl, hr1, hr2⟩
      · by_cases hkl : k < r.length
        · have hlt : (k : Int) < (r.length : Int) := by omega
          go_wp2
          go_ret
          exact ⟨rfl, Keep.bel (by (repeat' (first | (with_reducible assumption) | (with_reducible exact HK.out) | (with_reducible exact Keep.refl _ _) | (with_reducible refine Keep.alloc ?_ _) | (with_reducible refine Keep.setCell ?_ _ (fun h => absurd h (by omega))) | (with_reducible refine Keep.drewN ?_ _) | (with_reducible refine Keep.drew ?_))))⟩
        · have hlt : ¬ (k : Int) < (r.length : Int) := by omega
          go_wp2
          go_ret
          exact ⟨rfl, Keep.bel (by (repeat' (first | (with_reducible assumption) | (with_reducible exact HK.out) | (with_reducible exact Keep.refl _ _) | (with_reducible refine Keep.alloc ?_ _) | (with_reducible refine Keep.setCell ?_ _ (fun h => absurd h (by omega))) | (with_reducible refine Keep.drewN ?_ _) | (with_reducible refine Keep.drew ?_))))⟩
      · by_cases hkl : k < r.length
        · have hlt : (k : Int) < (r.length : Int) := by omega
          obtain ⟨b, o, cp, hsl, hb, g0⟩ := (HI.out.keep KW).at hkl
          cases hsl
          have hx := rndChk_drop l.length r k hkl
          generalize r[k] = z at *
          have HX := Lib.hid (hr2.symm.trans hr1)
          have HY := Lib.hid hr2
          have HZ := Lib.hid hr1
          have HV := Lib.hid hx
          clear hr1 hr2 hx
          by_cases p : z < 0 ∨ (l.length : Int) ≤ z
          · obtain ⟨rfl, rfl⟩ : c = 3 ∧ a = (k : Int) := by
              have := HX.out.symm.trans (HV.out.trans (if_pos p))
              simpa using this
            clear ec ec' hc
            by_cases p1 : z < 0
            · have q1 := dec_t p1
              go_wp2_with fail
              refine (refFault_any _ 3 k).mono ?_
              rintro e w4 ⟨rfl, hk4⟩
              have K4 : Keep NoS w3 w4 := hkp.trans hk4 fun _ _ _ h => h
              have B4 := BF.keep hk4
              obtain ⟨c0, c1, f0, f1, l0⟩ := B4.two
              clear hk4
              go_wp2
              go_roundw
              case rel => exact ⟨k + 1, by omega, by go_num, by (repeat' (first | (with_reducible assumption) | (with_reducible exact HK.out) | (with_reducible exact Keep.refl _ _) | (with_reducible refine Keep.alloc ?_ _) | (with_reducible refine Keep.setCell ?_ _ (fun h => absurd h (by omega))) | (with_reducible refine Keep.drewN ?_ _) | (with_reducible refine Keep.drew ?_))), 3, k, B4.put _ _, .inl ⟨rfl, rfl⟩⟩
              case measure => simp [intOf]; omega
            · have q1 := dec_f p1
              have q2 : decide ((l.length : Int) ≤ z) = true := dec_t (by omega)
              go_wp2_with fail
              refine (refFault_any _ 3 k).mono ?_
              rintro e w4 ⟨rfl, hk4⟩
              have K4 : Keep NoS w3 w4 := hkp.trans hk4 fun _ _ _ h => h
              have B4 := BF.keep hk4
              obtain ⟨c0, c1, f0, f1, l0⟩ := B4.two
              clear hk4
              go_wp2
              go_roundw
              case rel => exact ⟨k + 1, by omega, by go_num, by (repeat' (first | (with_reducible assumption) | (with_reducible exact HK.out) | (with_reducible exact Keep.refl _ _) | (with_reducible refine Keep.alloc ?_ _) | (with_reducible refine Keep.setCell ?_ _ (fun h => absurd h (by omega))) | (with_reducible refine Keep.drewN ?_ _) | (with_reducible refine Keep.drew ?_))), 3, k, B4.put _ _, .inl ⟨rfl, rfl⟩⟩
              case measure => simp [intOf]; omega
          · have q1 : decide (z < 0) = false := dec_f (by omega)
            have q2 : decide ((l.length : Int) ≤ z) = false := dec_f (by omega)
            have HR := Lib.hid (HY.out.trans (HV.out.trans (if_neg p)))
            go_wp2
            go_roundw
            case rel => exact ⟨k + 1, by omega, by go_num, hkp, 0, 0, BF, .inr ⟨rfl, rfl, HZ.out, HR.out⟩⟩
            case measure => simp [intOf]; omega
        · exfalso
          obtain rfl : k = r.length := by omega
          rw [List.drop_length] at hr2
          have := hr2.symm.trans hr1
          simp [rndChk] at this
          exact hc this.1.symm
end Go.Proofs.Ytnmklgigmmlgeaa
