/- The walk of the law GapSays. -/
import Derived.Test.YtnmklgigmmlgeaaGapTab
import Derived.Test.YtnmklgigmmlgeaaGapAlongW
import Derived.Test.YtnmklgigmmlgeaaRegG
namespace Go.Proofs.Ytnmklgigmmlgeaa
open Go.ChangeShapes Go.WideShapes Go.RowKit
set_option linter.unusedVariables false
set_option linter.unusedSimpArgs false

theorem isGaps_nil (w : World) : IsGaps w (.slice none 0 0) [] := ⟨none, 0, rfl, by simp, by simp, fun h => absurd rfl h⟩

/-- What gap.Do and gap.Far return, told together. -/
theorem do_far {n : Int} {l : List Gp} {w1 w2 : World} {v1 v2 : Value} {c a : Int} (hw : gapsW n l = (c, a)) (h1 : DoRes n l w1 v1) (h2 : FarRes n l w2 v2) :
    ∃ vv vr vt c2 a2, v1 = .tuple #[vv, vr, .agg #[.int .i64 c, .int .i64 a]] ∧ v2 = .tuple #[vt, .agg #[.int .i64 c2, .int .i64 a2]] ∧
      ((c ≠ 0 ∧ vv = .slice none 0 0 ∧ vr = .slice none 0 0 ∧ vt = .slice none 0 0 ∧ c2 = c ∧ a2 = a) ∨
       (c = 0 ∧ a = 0 ∧ ∃ N : Nat, n = (N : Int) ∧ GpsOK N l ∧ ∃ r, RoundOK N l r ∧ ¬ okTo N l N ∧ ∃ ov cv, IsInts w1 (.slice ov r.length cv) r ∧ vv = .slice none 0 0 ∧ vr = .slice ov r.length cv ∧ vt = .slice none 0 0 ∧ c2 = 11 ∧ a2 = 0) ∨
       (c = 0 ∧ a = 0 ∧ ∃ N : Nat, n = (N : Int) ∧ GpsOK N l ∧ okTo N l N ∧ ∃ vs : List Int, vs.length = N ∧ (∀ x, x < N → vs.getD x 0 = lst (tab N l N) x N) ∧ ∃ ov cv, IsInts w1 (.slice ov N cv) vs ∧ vv = .slice ov N cv ∧ vr = .slice none 0 0 ∧
          ∃ G gs cp, Mat w2 G N gs cp (tab N l N) ∧ vt = .slice (some ⟨G, 0, none⟩) N N ∧ c2 = 0 ∧ a2 = 0)) := by
  rcases h1.cases' with ⟨c', a', hgc, hc, rfl⟩ | ⟨N, rfl, h0, hg, t, hneg, hvl, hvb, ov, cv, hi, rfl⟩ | ⟨N, rfl, h0, hg, r, hrk, ov, cv, hi, rfl⟩
  · rw [hw] at hgc
    cases hgc
    rcases h2 with ⟨c2, a2, hgc2, hc2, rfl⟩ | ⟨N, rfl, h0, _⟩ | ⟨N, rfl, h0, _⟩
    · rw [hw] at hgc2
      cases hgc2
      exact ⟨_, _, _, _, _, rfl, rfl, .inl ⟨hc, rfl, rfl, rfl, rfl, rfl⟩⟩
    · rw [hw] at h0; cases h0; exact absurd rfl hc
    · rw [hw] at h0; cases h0; exact absurd rfl hc
  · rw [hw] at h0
    cases h0
    have hk := rnds_keeps hg hneg
    rcases h2 with ⟨c2, a2, hgc2, hc2, rfl⟩ | ⟨N', hN', _, ⟨r', hr'⟩, _⟩ | ⟨N', hN', h0', ht, G, gs, cp, hM, rfl⟩
    · rw [hw] at hgc2; cases hgc2; exact absurd rfl hc2
    · obtain rfl : N = N' := by omega
      exact (hr'.none hg hk).elim
    · obtain rfl : N = N' := by omega
      exact ⟨_, _, _, _, _, rfl, rfl, .inr (.inr ⟨rfl, rfl, N, rfl, hg, keeps_ok hg hk (Nat.le_refl _), _, hvl, vals_lst hg hneg hvb, ov, cv, hi, rfl, rfl, G, gs, cp, hM, rfl, rfl, rfl⟩)⟩
  · rw [hw] at h0
    cases h0
    rcases h2 with ⟨c2, a2, hgc2, hc2, rfl⟩ | ⟨N', hN', _, ⟨r', hr'⟩, rfl⟩ | ⟨N', hN', h0', ⟨t, ht⟩, _⟩
    · rw [hw] at hgc2; cases hgc2; exact absurd rfl hc2
    · obtain rfl : N = N' := by omega
      exact ⟨_, _, _, _, _, rfl, rfl, .inr (.inl ⟨rfl, rfl, N, rfl, hg, r, hrk, fun h => hrk.none hg (ok_keeps hg h), ov, cv, hi, rfl, rfl, rfl, rfl, rfl⟩)⟩
    · obtain rfl : N = N' := by omega
      exact (hrk.none hg (rnds_keeps hg ht)).elim

set_option maxRecDepth 100000 in
set_option maxHeartbeats 16000000 in
theorem gapSays_walk (w : World) (n : Int) (v : Value) (l : List Gp) (_ : I64 n) (h : IsGaps w v l) :
    Calls Try.prog 11 #[.int .i64 n, v] w fun e w' => e = .returned (.bool true) ∧ Below w.heap.size w w' := by
  have HG := Lib.hid h
  obtain ⟨oa, cap, rfl, hm, hr, _⟩ := h
  clear hr
  obtain ⟨c, a, hgw⟩ : ∃ c a, gapsW n l = (c, a) := ⟨_, _, rfl⟩
  have F0 := Lib.hid (by rw [hgw]; rfl : faultV (gapsW n l).1 (gapsW n l).2 = .agg #[.int .i64 c, .int .i64 a])
  have HW := Lib.hid hgw
  clear hgw
  go_enter Try.func11, Try.ntmps11
  go_wp2_with fail
  refine (do_any _ n _ l (HG.out.keep (by (repeat' (first | (with_reducible assumption) | (with_reducible exact HK.out) | (with_reducible exact Keep.refl _ _) | (with_reducible refine Keep.alloc ?_ _) | (with_reducible refine Keep.setCell ?_ _ (fun h => absurd h (by omega))) | (with_reducible refine Keep.drewN ?_ _) | (with_reducible refine Keep.drew ?_)))))).mono ?_
  rintro e w1 ⟨v1, rfl, hk1, hd⟩
  have K1 : Keep NoS w w1 := Keep.trans (by (repeat' (first | (with_reducible assumption) | (with_reducible exact HK.out) | (with_reducible exact Keep.refl _ _) | (with_reducible refine Keep.alloc ?_ _) | (with_reducible refine Keep.setCell ?_ _ (fun h => absurd h (by omega))) | (with_reducible refine Keep.drewN ?_ _) | (with_reducible refine Keep.drew ?_)))) hk1 fun _ _ _ h => h
  clear hk1
  -- what comes of it is known when Far has told, too
  obtain ⟨vv, vr, hv1⟩ : ∃ vv vr, v1 = .tuple #[vv, vr, .agg #[.int .i64 c, .int .i64 a]] := by
    rcases hd.cases' with ⟨c', a', hgc, hc, rfl⟩ | ⟨N, rfl, h0, hg, t, hneg, hvl, hvb, ov, cv, hi, rfl⟩ | ⟨N, rfl, h0, hg, r, hrk, ov, cv, hi, rfl⟩
    · rw [HW.out] at hgc; cases hgc; exact ⟨_, _, rfl⟩
    · rw [HW.out] at h0; cases h0; exact ⟨_, _, rfl⟩
    · rw [HW.out] at h0; cases h0; exact ⟨_, _, rfl⟩
  subst hv1
  have HD := Lib.hid hd
  clear hd
  go_wp2_with fail
  refine (far_any _ n _ l (HG.out.keep (by (repeat' (first | (with_reducible assumption) | (with_reducible exact HK.out) | (with_reducible exact Keep.refl _ _) | (with_reducible refine Keep.alloc ?_ _) | (with_reducible refine Keep.setCell ?_ _ (fun h => absurd h (by omega))) | (with_reducible refine Keep.drewN ?_ _) | (with_reducible refine Keep.drew ?_)))))).mono ?_
  rintro e w2 ⟨v2, rfl, hk2, hf⟩
  have K2 : Keep NoS w w2 := Keep.trans (by (repeat' (first | (with_reducible assumption) | (with_reducible exact HK.out) | (with_reducible exact Keep.refl _ _) | (with_reducible refine Keep.alloc ?_ _) | (with_reducible refine Keep.setCell ?_ _ (fun h => absurd h (by omega))) | (with_reducible refine Keep.drewN ?_ _) | (with_reducible refine Keep.drew ?_)))) hk2 fun _ _ _ h => h
  have L2 : Keep NoS w1 w2 := Keep.trans (by (repeat' (first | (with_reducible assumption) | (with_reducible exact HK.out) | (with_reducible exact Keep.refl _ _) | (with_reducible refine Keep.alloc ?_ _) | (with_reducible refine Keep.setCell ?_ _ (fun h => absurd h (by omega))) | (with_reducible refine Keep.drewN ?_ _) | (with_reducible refine Keep.drew ?_)))) hk2 fun _ _ _ h => h
  have BF2 : Blk w2 w1.heap.size #[.int .i64 c, .int .i64 a] := Blk.keep (by (repeat (first | (with_reducible assumption) | (refine blk_at _ _ ?_; simp; done) | (refine Blk.old ?_ _)))) hk2
  obtain ⟨vv', vr', vt, c2, a2, hv1, hv2, hcase⟩ := do_far HW.out HD.out hf
  cases hv1
  subst hv2
  have HC := Lib.hid hcase
  clear hf hcase hk2 HD
  go_wp2_with fail
  refine (refGaps_any _ n _ l (HG.out.keep (by (repeat' (first | (with_reducible assumption) | (with_reducible exact HK.out) | (with_reducible exact Keep.refl _ _) | (with_reducible refine Keep.alloc ?_ _) | (with_reducible refine Keep.setCell ?_ _ (fun h => absurd h (by omega))) | (with_reducible refine Keep.drewN ?_ _) | (with_reducible refine Keep.drew ?_)))))).mono ?_
  rintro e w3 ⟨rfl, hk3⟩
  have K3 : Keep NoS w w3 := Keep.trans (by (repeat' (first | (with_reducible assumption) | (with_reducible exact HK.out) | (with_reducible exact Keep.refl _ _) | (with_reducible refine Keep.alloc ?_ _) | (with_reducible refine Keep.setCell ?_ _ (fun h => absurd h (by omega))) | (with_reducible refine Keep.drewN ?_ _) | (with_reducible refine Keep.drew ?_)))) hk3 fun _ _ _ h => h
  have L3 : Keep NoS w2 w3 := Keep.trans (by (repeat' (first | (with_reducible assumption) | (with_reducible exact HK.out) | (with_reducible exact Keep.refl _ _) | (with_reducible refine Keep.alloc ?_ _) | (with_reducible refine Keep.setCell ?_ _ (fun h => absurd h (by omega))) | (with_reducible refine Keep.drewN ?_ _) | (with_reducible refine Keep.drew ?_)))) hk3 fun _ _ _ h => h
  have BF3 : Blk w3 w1.heap.size #[.int .i64 c, .int .i64 a] := Blk.keep (by (repeat (first | (with_reducible assumption) | (refine blk_at _ _ ?_; simp; done) | (refine Blk.old ?_ _)))) hk3
  have BG3 : Blk w3 w2.heap.size #[.int .i64 c2, .int .i64 a2] := Blk.keep (by (repeat (first | (with_reducible assumption) | (refine blk_at _ _ ?_; simp; done) | (refine Blk.old ?_ _)))) hk3
  rw [F0.out]
  clear hk3 BF2
  go_upto_region 4 with fail
  have KA : Keep NoS w (w3.alloc (.cells #[.int .i64 c, .int .i64 a] 25)) := K3.alloc _
  have LA : Keep NoS w3 (w3.alloc (.cells #[.int .i64 c, .int .i64 a] 25)) := (Keep.refl _ _).alloc _
  have BWa : Blk (w3.alloc (.cells #[.int .i64 c, .int .i64 a] 25)) w3.heap.size #[.int .i64 c, .int .i64 a] := by (repeat (first | (with_reducible assumption) | (refine blk_at _ _ ?_; simp; done) | (refine Blk.old ?_ _)))
  have BFa : Blk (w3.alloc (.cells #[.int .i64 c, .int .i64 a] 25)) w1.heap.size #[.int .i64 c, .int .i64 a] := BF3.keep LA
  have BGa : Blk (w3.alloc (.cells #[.int .i64 c, .int .i64 a] 25)) w2.heap.size #[.int .i64 c2, .int .i64 a2] := BG3.keep LA
  have M2 := Lib.hid (L3.trans LA fun _ _ _ h => h)
  have M1 := Lib.hid (L2.trans M2.out fun _ _ _ h => h)
  clear K1 K2 K3 L2 L3 LA BF3 BG3
  generalize w3.alloc (.cells #[.int .i64 c, .int .i64 a] 25) = wa at *
  have HKA := Lib.hid KA
  have HBW := Lib.hid BWa
  have HBF := Lib.hid BFa
  have HBG := Lib.hid BGa
  clear KA BWa BFa BGa
  generalize w3.heap.size = bw at *
  generalize w1.heap.size = bf at *
  generalize w2.heap.size = bg at *
  have HGA := Lib.hid (HG.out.keep HKA.out)
  refine wp_region_by (fun w' => Keep NoS wa w') [] [([0, 1, 3], 2), ([4, 5], 6)] [7, 8, 9, 10, 11, 12, 13, 14] (by kernel_rfl) (by kernel_rfl) (Keep.refl _ _).drew ?_
  intro X W hne hF hcl
  have HF := Lib.hid hF
  have HCL := Lib.hid hcl
  have hx0 := fun x => (HBW.out.keep (hF x)).cell 0
  have hx1 := fun x => (HBW.out.keep (hF x)).cell 1
  have hx2 := fun x => (HBF.out.keep (hF x)).cell 0
  have hx3 := fun x => (HBF.out.keep (hF x)).cell 1
  simp only [List.getElem?_toArray, List.getElem?_cons_zero, List.getElem?_cons_succ] at hx0 hx1 hx2 hx3
  clear hF hcl
  simp only [wpPlan, pickOps, List.getElem?_toArray, List.getElem?_cons_zero, List.getElem?_cons_succ, clsOf, Bool.false_eq_true, if_false]
  (repeat (quiet_step (fail))); refine wpQuiet_nil ?_
  refine wpOp_at (by simp only [List.getElem?_toArray, List.getElem?_cons_zero, List.getElem?_cons_succ]; rfl) (by rfl) (fun K hK => ?_)
  go_simp
  refine (gapCheck_any _ n _ l (HGA.out.keep (by (repeat' (first | (with_reducible assumption) | (with_reducible exact HK.out) | (with_reducible exact Keep.refl _ _) | (with_reducible refine Keep.alloc ?_ _) | (with_reducible refine Keep.setCell ?_ _ (fun h => absurd h (by omega))) | (with_reducible refine Keep.drewN ?_ _) | (with_reducible refine Keep.drew ?_)))))).mono ?_
  rintro e w4 ⟨rfl, hk4⟩
  rw [F0.out]
  have k4 : Keep NoS wa w4 := Keep.trans (by (repeat' (first | (with_reducible assumption) | (with_reducible exact HK.out) | (with_reducible exact Keep.refl _ _) | (with_reducible refine Keep.alloc ?_ _) | (with_reducible refine Keep.setCell ?_ _ (fun h => absurd h (by omega))) | (with_reducible refine Keep.drewN ?_ _) | (with_reducible refine Keep.drew ?_)))) hk4 fun _ _ _ h => h
  refine hK _ _ ⟨fun _ => HCL.out _ k4, ?_⟩
  clear hK K hk4
  (repeat (quiet_step (fail))); refine wpQuiet_nil ?_
  refine wpOp_wanted (by simp only [List.getElem?_toArray, List.getElem?_cons_zero, List.getElem?_cons_succ]; rfl) (by rfl) (fun K hK => ?_)
  go_simp
  refine (gapCheck_any _ (-1) _ [] (isGaps_nil _)).mono ?_
  rintro e w5 ⟨rfl, hk5⟩
  have k5 : Keep NoS wa w5 := k4.trans hk5 fun _ _ _ h => h
  rw [show faultV (gapsW (-1) []).1 (gapsW (-1) []).2 = .agg #[.int .i64 3, .int .i64 (-1)] from rfl]
  refine hK _ _ ⟨fun _ => HCL.out _ k5, ?_⟩
  clear hK K hk5
  (repeat (quiet_step (fail))); refine wpQuiet_nil ?_
  refine NoPanic.normal ?_
  have HK5 := Lib.hid (HKA.out.trans k5 fun _ _ _ h => h)
  have HL5 := Lib.hid k5
  clear hx0 hx1 hx2 hx3 k4 k5 HF HCL
  go_upto_region 6 with fail
  have hbw := (HBW.out.keep HL5.out).two
  have hbf := (HBF.out.keep HL5.out).two
  have hbg := (HBG.out.keep HL5.out).two
  obtain ⟨w0, w00, _, _, wl⟩ := hbw
  obtain ⟨f0, f00, _, _, fl⟩ := hbf
  obtain ⟨g0, g00, _, _, gl⟩ := hbg
  rcases HC.out with ⟨hc, rfl, rfl, rfl, rfl, rfl⟩ | ⟨rfl, rfl, N, rfl, hg, r, hrk, hno, ov, cv, hi, rfl, rfl, rfl, rfl, rfl⟩ | ⟨rfl, rfl, N, rfl, hg, hok, vs, hvl, hvs, ov, cv, hi, rfl, rfl, G, gs, cp, hM, rfl, rfl, rfl⟩
  · have ec : (c2 != 0) = true := bne_iff_ne.2 hc
    clear HC hc
    go_wp2
    go_ret
    exact ⟨rfl, Keep.bel HK5.out⟩
  · have HI5 := Lib.hid (hi.keep (M1.out.trans HL5.out fun _ _ _ h => h))
    have HGP := Lib.hid hg
    have HRK := Lib.hid hrk
    have HNO := Lib.hid hno
    have hrp := hrk.pos
    have hrN := hrk.le
    have hN12 := hg.1
    clear HC hg hrk hno hi
    go_wp2_with fail
    refine (gapTable_any _ N _ l (HG.out.keep HK5.out) HGP.out).mono ?_
    rintro e w6 ⟨v6, rfl, hk6, hT⟩
    rcases hT with ⟨_, rfl⟩ | ⟨h, _⟩
    rotate_left
    · exact absurd h HNO.out
    have HK6 := Lib.hid (HK5.out.trans hk6 fun _ _ _ h => h)
    have HI6 := Lib.hid (HI5.out.keep hk6)
    have HB6 := Lib.hid ((HBG.out.keep HL5.out).keep hk6)
    clear hk6 w0 w00 f0 f00 g0 g00 wl fl gl HI5
    go_upto_region 10 with fail
    have f1 : ((r.length : Int) == 0) = false := by rw [beq_eq_false_iff_ne]; omega
    have f2 : decide ((N : Int) < (r.length : Int)) = false := dec_f (by omega)
    have f3 : decide (N < r.length) = false := decide_eq_false (by omega)
    refine wp_region_by (fun w' => Keep NoS w6 w') [] [([0], 1)] [2, 3, 4, 5, 6, 7, 8, 9, 10, 11, 12, 13, 14, 15, 16, 17, 18, 19, 20, 21, 22, 23] (by kernel_rfl) (by kernel_rfl) (Keep.refl _ _).drew ?_
    intro X W hne hF hcl
    have HF := Lib.hid hF
    have HCL := Lib.hid hcl
    have hx0 := fun x => (HB6.out.keep (hF x)).cell 0
    have hx1 := fun x => (HB6.out.keep (hF x)).cell 1
    simp only [List.getElem?_toArray, List.getElem?_cons_zero, List.getElem?_cons_succ] at hx0 hx1
    clear hF hcl
    simp only [wpPlan, pickOps, List.getElem?_toArray, List.getElem?_cons_zero, List.getElem?_cons_succ, clsOf, Bool.false_eq_true, if_false]
    (repeat (quiet_step (fail))); refine wpQuiet_nil ?_
    refine wpOp_at (by simp only [List.getElem?_toArray, List.getElem?_cons_zero, List.getElem?_cons_succ]; rfl) (by rfl) (fun K hK => ?_)
    go_simp
    refine (refFault_any _ 11 0).mono ?_
    rintro e w7 ⟨rfl, hk7⟩
    have k7 : Keep NoS w6 w7 := Keep.trans (by (repeat' (first | (with_reducible assumption) | (with_reducible exact HK.out) | (with_reducible exact Keep.refl _ _) | (with_reducible refine Keep.alloc ?_ _) | (with_reducible refine Keep.setCell ?_ _ (fun h => absurd h (by omega))) | (with_reducible refine Keep.drewN ?_ _) | (with_reducible refine Keep.drew ?_)))) hk7 fun _ _ _ h => h
    refine hK _ _ ⟨fun _ => HCL.out _ k7, ?_⟩
    clear hK K hk7
    (repeat (quiet_step (fail))); refine wpQuiet_nil ?_
    refine NoPanic.normal ?_
    have HK7 := Lib.hid (HK6.out.trans k7 fun _ _ _ h => h)
    have HI7 := Lib.hid (HI6.out.keep k7)
    clear hx0 hx1 k7 HF HCL f1 f2 f3 HI6
    have HPL : Hid (∀ k, k < r.length → ∃ j : Nat, r.getD k 0 = (j : Int) ∧ j < l.length ∧ r[k]? = some (j : Int)) := Lib.hid fun k hk => by
      obtain ⟨j, hj, hjl⟩ := nth_ok HRK.out.chk hk
      exact ⟨j, by rw [List.getD_eq_getElem?_getD, List.getElem?_eq_getElem hk]; exact hj, hjl, by rw [List.getElem?_eq_getElem hk, hj]⟩
    go_wp2
    go_loopw [13] (fun s wr => ∃ k : Nat, k ≤ r.length ∧ s = .int .i64 k ∧ Keep NoS w7 wr) (fun s _ => (r.length - intOf s).toNat)
    case atStart => exact ⟨0, by omega, rfl, by (repeat' (first | (with_reducible assumption) | (with_reducible exact HK.out) | (with_reducible exact Keep.refl _ _) | (with_reducible refine Keep.alloc ?_ _) | (with_reducible refine Keep.setCell ?_ _ (fun h => absurd h (by omega))) | (with_reducible refine Keep.drewN ?_ _) | (with_reducible refine Keep.drew ?_)))⟩
    case round =>
      obtain ⟨k, hk, rfl, hkp⟩ := hrel
      have HKP := Lib.hid hkp
      have HKW := Lib.hid (HK7.out.trans hkp fun _ _ _ h => h)
      clear hkp
      by_cases hkl : k < r.length
      · have hlt : (k : Int) < (r.length : Int) := by omega
        obtain ⟨jk, _, hjl, hjs⟩ := HPL.out k hkl
        obtain ⟨b, o, cp, hsl, hb, g0⟩ := (HI7.out.keep HKP.out).at hkl
        cases hsl
        rw [show r[k] = (jk : Int) by have := List.getElem?_eq_getElem hkl; rw [this] at hjs; exact Option.some.inj hjs] at g0
        have q1 : decide ((jk : Int) < 0) = false := dec_f (by omega)
        have q2 : decide ((l.length : Int) ≤ (jk : Int)) = false := dec_f (by omega)
        have q3 : decide (l.length ≤ jk) = false := decide_eq_false (by omega)
        have HJS := Lib.hid hjs
        clear hjs
        obtain ⟨w8, rfl⟩ : ∃ W : World, W = wr := ⟨_, rfl⟩
        go_wp2
        go_loopw [14] (fun s wr => ∃ j : Nat, j ≤ k ∧ s = .int .i64 j ∧ Keep NoS w7 wr) (fun s _ => (k - intOf s).toNat)
        case atStart => exact ⟨0, by omega, rfl, HKP.out⟩
        case round =>
          obtain ⟨j, hj, rfl, hkq⟩ := hrel
          have HKQ := Lib.hid hkq
          have HKV := Lib.hid (HK7.out.trans hkq fun _ _ _ h => h)
          clear hkq g0
          by_cases hjk : j < k
          · have hltj : (j : Int) < (k : Int) := by omega
            have hjr : j < r.length := by omega
            have hltr : (j : Int) < (r.length : Int) := by omega
            obtain ⟨jj, _, hjjl, hjjs⟩ := HPL.out j hjr
            obtain ⟨b1, o1, cp1, hsl, hb1, g1⟩ := (HI7.out.keep HKQ.out).at hjr
            cases hsl
            obtain ⟨b2, o2, cp2, hsl, hb2, g2⟩ := (HI7.out.keep HKQ.out).at hkl
            cases hsl
            rw [show r[k] = (jk : Int) by have := List.getElem?_eq_getElem hkl; rw [this] at HJS; exact Option.some.inj HJS.out] at g2
            rw [show r[j] = (jj : Int) by have := List.getElem?_eq_getElem hjr; rw [this] at hjjs; exact Option.some.inj hjjs] at g1
            obtain ⟨bg1, og1, cg1, hsl, hbg1, a0, _, _⟩ := (HG.out.keep HKV.out).at hjl
            cases hsl
            obtain ⟨bg2, og2, cg2, hsl, hbg2, a1, _, _⟩ := (HG.out.keep HKV.out).at hjjl
            cases hsl
            have hap := HRK.out.apart j k hjk hkl
            rw [gapAt_eq hjjs rfl (List.getElem?_eq_getElem hjjl), gapAt_eq HJS.out rfl (List.getElem?_eq_getElem hjl)] at hap
            generalize l[jj] = gj at *
            generalize l[jk] = gk at *
            obtain ⟨Aj, Bj, Yj⟩ := gj
            obtain ⟨Ak, Bk, Yk⟩ := gk
            simp only at a0 a1 hap
            have e1 : (Aj == Ak) = false := by rw [beq_eq_false_iff_ne]; exact hap
            have hl1 : (jj : Int) < (l.length : Int) := by omega
            have hl2 : (jk : Int) < (l.length : Int) := by omega
            clear hap hjjs
            go_wp2
            go_quiet (fail)
            go_wp2
            go_roundw
            case rel => exact ⟨j + 1, by omega, by go_num, by have := HKQ.out; (repeat' (first | (with_reducible assumption) | (with_reducible exact HK.out) | (with_reducible exact Keep.refl _ _) | (with_reducible refine Keep.alloc ?_ _) | (with_reducible refine Keep.setCell ?_ _ (fun h => absurd h (by omega))) | (with_reducible refine Keep.drewN ?_ _) | (with_reducible refine Keep.drew ?_)))⟩
            case measure => simp [intOf]; omega
          · have hltj : ¬ (j : Int) < (k : Int) := by omega
            go_wp2
            go_roundw
            case rel => exact ⟨k + 1, by omega, by go_num, HKQ.out⟩
            case measure => simp [intOf]; omega
      · have hlt : ¬ (k : Int) < (r.length : Int) := by omega
        have HGB : Hid (gbadB l r = true) := Lib.hid (by unfold gbadB; simpa using HRK.out.bad)
        go_wp2_with fail
        refine (refGapBad_any _ _ l _ r (HG.out.keep HKW.out) (HI7.out.keep HKP.out) HRK.out.chk).mono ?_
        rintro e w9 ⟨rfl, hk9⟩
        have K9 : Keep NoS w w9 := HKW.out.trans hk9 fun _ _ _ h => h
        rw [HGB.out]
        go_wp2
        go_ret
        exact ⟨rfl, Keep.bel K9⟩
  · have HI5 := Lib.hid (hi.keep (M1.out.trans HL5.out fun _ _ _ h => h))
    have HM5 := Lib.hid (hM.keep (M2.out.trans HL5.out fun _ _ _ h => h))
    have HGP := Lib.hid hg
    have HOK := Lib.hid hok
    have HVL := Lib.hid hvl
    have HVS := Lib.hid hvs
    have hN12 := hg.1
    clear HC hg hok hvl hvs hi hM
    go_wp2_with fail
    refine (gapTable_any _ N _ l (HG.out.keep HK5.out) HGP.out).mono ?_
    rintro e w6 ⟨v6, rfl, hk6, hT⟩
    rcases hT with ⟨h, _⟩ | ⟨_, ov2, cv2, rfl, hT⟩
    · exact absurd HOK.out h
    have HT2 := Lib.hid hT
    have HK6 := Lib.hid (HK5.out.trans hk6 fun _ _ _ h => h)
    have HI6 := Lib.hid (HI5.out.keep hk6)
    have HM6 := Lib.hid (HM5.out.keep hk6)
    have HB6 := (HBG.out.keep HL5.out).keep hk6
    clear hk6 w0 w00 f0 f00 g0 g00 wl fl gl HI5 HM5 hT
    obtain ⟨g0, g00, _, _, gl⟩ := HB6.two
    have HBD : Hid (∀ p q, p < N → q < N → I64 (tab N l N p q)) := Lib.hid fun p q hp hq => by
      have := (fwi_ok HGP.out (Nat.le_refl _) HOK.out).bd p q hp hq
      have := pw_le N hN12
      unfold I64
      omega
    go_wp2
    clear g0 g00 gl
    go_loopw [15] (fun s wr => ∃ k : Nat, k ≤ N ∧ s = .int .i64 k ∧ Keep NoS w6 wr) (fun s _ => (N - intOf s).toNat)
    case atStart => exact ⟨0, by omega, rfl, Keep.refl _ _⟩
    case round =>
      obtain ⟨k, hk, rfl, hkp⟩ := hrel
      have HKP := Lib.hid hkp
      have HKW := Lib.hid (HK6.out.trans hkp fun _ _ _ h => h)
      clear hkp
      by_cases hkl : k < N
      · have hlt : (k : Int) < (N : Int) := by omega
        obtain ⟨G2, gs2, cp2, rfl, hM2⟩ := HT2.out (by omega)
        have HMT := Lib.hid (HM6.out.keep HKP.out)
        have HMW := Lib.hid (hM2.keep HKP.out)
        clear hM2 HT2
        have hkv : k < vs.length := by rw [HVL.out]; exact hkl
        obtain ⟨b, o, cp', hsl, hb, gv⟩ := (HI6.out.keep HKP.out).at hkv
        rw [HVL.out] at hsl
        cases hsl
        have hvk : vs[k] = lst (tab N l N) k N := by
          have := HVS.out k hkl
          rwa [List.getD_eq_getElem?_getD, List.getElem?_eq_getElem hkv] at this
        rw [hvk] at gv
        have hc1 := HMT.out.1.cell hkl
        have hc2 := HMW.out.1.cell hkl
        have hl1 := HMT.out.1.lt
        have hl2 := HMW.out.1.lt
        have hl3 := Arr.lt (HMW.out.2.line k hkl)
        clear hvk
        have HI1 := Lib.hid ((HMT.out.2.line k hkl).ints (cp k) (by unfold maxLen; omega) (fun i hi => HBD.out k i hkl hi))
        have HI2 := Lib.hid ((HMW.out.2.line k hkl).ints (cp2 k) (by unfold maxLen; omega) (fun i hi => HBD.out k i hkl hi))
        have HQ : Hid (∀ m, Calls Try.prog 41 #[.slice (some ⟨gs k, 0, none⟩) N (cp k), .slice (some ⟨gs2 k, 0, none⟩) N (cp2 k)] (wr.drewN m) fun e w' => e = .returned (.bool true) ∧ ∃ j, w' = (wr.drewN m).drewN j) := Lib.hid fun m => by
          have := sameInts_quiet (wr.drewN m) _ _ _ _ (HI1.out.keep ((Keep.refl NoS wr).drewN m)) (HI2.out.keep ((Keep.refl NoS wr).drewN m))
          rw [decide_eq_true rfl] at this
          exact this
        have HLN := Lib.hid (HMW.out.2.line k hkl)
        generalize tab N l N = T at *
        have HLS : Hid (∀ j, lst T k (j + 1) = min (lst T k j) (T k j)) := Lib.hid fun j => rfl
        go_wp2
        go_loop [17, 16] (fun s t => ∃ j : Nat, j ≤ N ∧ s = .int .i64 j ∧ t = .int .i64 (lst T k j)) (fun s _ => (N - intOf s).toNat)
        case atStart => exact ⟨0, by omega, rfl, rfl⟩
        case round =>
          obtain ⟨j, hj, rfl, rfl⟩ := hrel
          by_cases hjl : j < N
          · have hltj : (j : Int) < (N : Int) := by omega
            have hcj := Arr.cell HLN.out hjl
            have HS := Lib.hid (HLS.out j)
            generalize lst T k j = x at *
            generalize T k j = y at *
            by_cases hlow : y < x
            · have e1 := dec_t hlow
              go_wp2
              go_round
              case rel => exact ⟨j + 1, by omega, by go_num, by rw [HS.out, Int.min_eq_right (by omega)]⟩
              case measure => simp [intOf]; omega
            · have e1 := dec_f hlow
              go_wp2
              go_round
              case rel => exact ⟨j + 1, by omega, by go_num, by rw [HS.out, Int.min_eq_left (by omega)]⟩
              case measure => simp [intOf]; omega
          · have hltj : ¬ (j : Int) < (N : Int) := by omega
            obtain rfl : j = N := by omega
            clear HLS
            generalize lst T k j = x at *
            go_wp2
            go_quiet ((go_at_call 41; exact Calls.quiet_of (HQ.out _)))
            go_wp2
            go_roundw
            case rel => exact ⟨k + 1, by omega, by go_num, HKP.out.drewN _⟩
            case measure => simp [intOf]; omega
      · have hlt : ¬ (k : Int) < (N : Int) := by omega
        go_wp2
        go_ret
        exact ⟨rfl, Keep.bel HKW.out⟩
end Go.Proofs.Ytnmklgigmmlgeaa
