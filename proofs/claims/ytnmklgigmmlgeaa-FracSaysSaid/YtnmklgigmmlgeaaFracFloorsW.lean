/- The walk of the law FracFloors. -/
import Derived.Test.YtnmklgigmmlgeaaFracFact
namespace Go.Proofs.Ytnmklgigmmlgeaa
open Go.ChangeShapes Go.WideShapes Go.RowKit
set_option linter.unusedVariables false
set_option linter.unusedSimpArgs false

theorem ok_whole (k : Int) (h1 : -1073741824 ≤ k) (h2 : k ≤ 1073741824) : FracOK k 1 := ⟨by omega, by omega, h1, h2, by simp⟩

theorem floor_bd (n d : Int) (h : FracOK n d) : -1073741824 ≤ n / d ∧ n / d ≤ 1073741824 ∧ (n / d) * d ≤ n ∧ n < (n / d + 1) * d := by
  obtain ⟨a1, a2, a3, a4, _⟩ := h
  have h1 : (n / d) * d ≤ n := Int.ediv_mul_le n (by omega)
  have h2 : n < (n / d + 1) * d := Int.lt_ediv_add_one_mul_self n (by omega)
  refine ⟨?_, ?_, h1, h2⟩
  · exact Int.le_ediv_of_mul_le (by omega) (by
      have : -1073741824 * d ≤ -1073741824 * 1 := Int.mul_le_mul_of_nonpos_left (by omega) (by omega)
      omega)
  · have : n / d ≤ n / d := Int.le_refl _
    by_cases h0 : 0 ≤ n
    · have := Int.ediv_le_self d h0; omega
    · have := Int.ediv_neg_of_neg_of_pos (a := n) (b := d) (by omega) (by omega); omega

theorem less_floor (n d : Int) (h : FracOK n d) : lessV n d (n / d) 1 = .tuple #[.bool false, .agg #[.int .i64 0, .int .i64 0]] := by
  obtain ⟨h1, h2, h3, h4⟩ := floor_bd n d h
  obtain ⟨hc, ha⟩ := ck_ok h (ok_whole _ h1 h2)
  unfold lessV lessB
  rw [if_pos hc, hc, ha, dec_f (by omega)]
  rfl

theorem less_floor1 (n d : Int) (h : FracOK n d) : ∃ b c a, lessV n d (n / d + 1) 1 = .tuple #[.bool b, .agg #[.int .i64 c, .int .i64 a]] ∧ (c = 0 ∧ b = true ∨ c = 3) := by
  obtain ⟨h1, h2, h3, h4⟩ := floor_bd n d h
  by_cases hk : n / d + 1 ≤ 1073741824
  · obtain ⟨hc, ha⟩ := ck_ok h (ok_whole (n / d + 1) (by omega) hk)
    refine ⟨true, 0, 0, ?_, .inl ⟨rfl, rfl⟩⟩
    unfold lessV lessB
    rw [if_pos hc, hc, ha, dec_t (by omega)]
    rfl
  · have hc : ckC n d (n / d + 1) 1 = 3 := ck_no fun h => hk h.2.2.2.2.1
    refine ⟨false, 3, ckA n d (n / d + 1) 1, ?_, .inr rfl⟩
    unfold lessV lessB
    rw [if_neg (by rw [hc]; omega), hc]
    rfl

set_option maxRecDepth 100000 in
set_option maxHeartbeats 32000000 in
theorem fracFloors_walk (w : World) (n d m : Int) (_h : I64 n ∧ I64 d) (hm : I64 m) :
    Calls Try.prog 6 #[.agg #[.int .i64 n, .int .i64 d], .int .i64 m] w fun e w' => e = .returned (.bool true) ∧ Below w.heap.size w w' := by
  obtain ⟨hm1, hm2⟩ := hm
  by_cases hk : FracOK n d
  · have HF : Hid (floorV n d = .tuple #[.int .i64 (n / d), .agg #[.int .i64 0, .int .i64 0]]) := Lib.hid (if_pos hk)
    have HL := Lib.hid (less_floor n d hk)
    obtain ⟨b, c, a, hl1, hl2⟩ := less_floor1 n d hk
    have HL1 := Lib.hid hl1
    have HL2 := Lib.hid hl2
    obtain ⟨b1, b2, _, _⟩ := floor_bd n d hk
    clear hk hl1 hl2
    generalize hQ : n / d = q at *
    have HQ := Lib.hid hQ
    clear hQ
    go_enter Try.func6, Try.ntmps6
    go_wp2_with fail
    refine (fracFact_any _).mono ?_
    rintro e w1 ⟨rfl, hk1⟩
    have K1 : Keep NoS w w1 := Keep.trans (by (repeat' (first | (with_reducible assumption) | (with_reducible exact HK.out) | (with_reducible exact Keep.refl _ _) | (with_reducible refine Keep.alloc ?_ _) | (with_reducible refine Keep.setCell ?_ _ (fun h => absurd h (by omega))) | (with_reducible refine Keep.drewN ?_ _) | (with_reducible refine Keep.drew ?_)))) hk1 fun _ _ _ h => h
    have A0 : Blk w1 w.heap.size #[.int .i64 n, .int .i64 d] := Blk.keep (by (repeat (first | (with_reducible assumption) | (refine blk_at _ _ ?_; simp; done) | (refine Blk.old ?_ _)))) hk1
    obtain ⟨c00, c01, _, _, l0⟩ := A0.two
    clear hk1
    go_wp2_with fail
    refine (floor_any n d _).mono ?_
    rintro e w2 ⟨rfl, hk2⟩
    have K2 : Keep NoS w w2 := Keep.trans (by (repeat' (first | (with_reducible assumption) | (with_reducible exact HK.out) | (with_reducible exact Keep.refl _ _) | (with_reducible refine Keep.alloc ?_ _) | (with_reducible refine Keep.setCell ?_ _ (fun h => absurd h (by omega))) | (with_reducible refine Keep.drewN ?_ _) | (with_reducible refine Keep.drew ?_)))) hk2 fun _ _ _ h => h
    have B0 : Blk w2 w.heap.size #[.int .i64 n, .int .i64 d] := Blk.keep (by (repeat (first | (with_reducible assumption) | (refine blk_at _ _ ?_; simp; done) | (refine Blk.old ?_ _)))) hk2
    clear A0 K1 hk2 c00 c01
    obtain ⟨c00, c01, _, _, l1⟩ := B0.two
    rw [HF.out]
    have m1 : ¬ w2.heap.size = w.heap.size := by omega
    go_wp2_with fail
    refine (less_any n d q 1 _).mono ?_
    rintro e w3 ⟨rfl, hk3⟩
    have K3 : Keep NoS w w3 := Keep.trans (by (repeat' (first | (with_reducible assumption) | (with_reducible exact HK.out) | (with_reducible exact Keep.refl _ _) | (with_reducible refine Keep.alloc ?_ _) | (with_reducible refine Keep.setCell ?_ _ (fun h => absurd h (by omega))) | (with_reducible refine Keep.drewN ?_ _) | (with_reducible refine Keep.drew ?_)))) hk3 fun _ _ _ h => h
    have C0 : Blk w3 w.heap.size #[.int .i64 n, .int .i64 d] := Blk.keep (by (repeat (first | (with_reducible assumption) | (refine blk_at _ _ ?_; simp; done) | (refine Blk.old ?_ _)))) hk3
    clear B0 K2 hk3 c00 c01
    obtain ⟨c00, c01, _, _, l2⟩ := C0.two
    have m2 : ¬ w3.heap.size = w.heap.size := by omega
    rw [HL.out]
    go_wp2_with fail
    refine (less_any n d (q + 1) 1 _).mono ?_
    rintro e w4 ⟨rfl, hk4⟩
    have K4 : Keep NoS w w4 := Keep.trans (by (repeat' (first | (with_reducible assumption) | (with_reducible exact HK.out) | (with_reducible exact Keep.refl _ _) | (with_reducible refine Keep.alloc ?_ _) | (with_reducible refine Keep.setCell ?_ _ (fun h => absurd h (by omega))) | (with_reducible refine Keep.drewN ?_ _) | (with_reducible refine Keep.drew ?_)))) hk4 fun _ _ _ h => h
    have D1 : Blk w4 w3.heap.size #[.int .i64 0, .int .i64 0] := Blk.keep (by (repeat (first | (with_reducible assumption) | (refine blk_at _ _ ?_; simp; done) | (refine Blk.old ?_ _)))) hk4
    obtain ⟨d10, d11, _, _, l3⟩ := D1.two
    have m3 : ¬ w4.heap.size = w3.heap.size := by omega
    have HK := Lib.hid K4
    clear C0 K3 hk4 c00 c01 D1 K4
    rw [HL1.out]
    rcases HL2.out with ⟨rfl, rfl⟩ | rfl
    · clear HL1 HL2 HL HF
      by_cases h1 : m < -1073741824
      · have e1 := dec_t h1
        go_wp2
        go_returns
        exact ⟨rfl, Keep.bel (by (repeat' (first | (with_reducible assumption) | (with_reducible exact HK.out) | (with_reducible exact Keep.refl _ _) | (with_reducible refine Keep.alloc ?_ _) | (with_reducible refine Keep.setCell ?_ _ (fun h => absurd h (by omega))) | (with_reducible refine Keep.drewN ?_ _) | (with_reducible refine Keep.drew ?_))))⟩
      have e1 := dec_f h1
      by_cases h2 : 1073741824 < m
      · have e2 := dec_t h2
        go_wp2
        go_returns
        exact ⟨rfl, Keep.bel (by (repeat' (first | (with_reducible assumption) | (with_reducible exact HK.out) | (with_reducible exact Keep.refl _ _) | (with_reducible refine Keep.alloc ?_ _) | (with_reducible refine Keep.setCell ?_ _ (fun h => absurd h (by omega))) | (with_reducible refine Keep.drewN ?_ _) | (with_reducible refine Keep.drew ?_))))⟩
      have e2 := dec_f h2
      have HM : Hid (floorV m 1 = .tuple #[.int .i64 m, .agg #[.int .i64 0, .int .i64 0]]) := Lib.hid (by unfold floorV; rw [if_pos (ok_whole m (by omega) (by omega)), Int.ediv_one]; rfl)
      clear h1 h2
      go_wp2_with fail
      refine (floor_any m 1 _).mono ?_
      rintro e w5 ⟨rfl, hk5⟩
      have HK := Lib.hid (show Keep NoS w w5 from Keep.trans (by (repeat' (first | (with_reducible assumption) | (with_reducible exact HK.out) | (with_reducible exact Keep.refl _ _) | (with_reducible refine Keep.alloc ?_ _) | (with_reducible refine Keep.setCell ?_ _ (fun h => absurd h (by omega))) | (with_reducible refine Keep.drewN ?_ _) | (with_reducible refine Keep.drew ?_)))) hk5 fun _ _ _ h => h)
      clear hk5
      rw [HM.out]
      go_wp2
      go_returns
      exact ⟨rfl, Keep.bel (by (repeat' (first | (with_reducible assumption) | (with_reducible exact HK.out) | (with_reducible exact Keep.refl _ _) | (with_reducible refine Keep.alloc ?_ _) | (with_reducible refine Keep.setCell ?_ _ (fun h => absurd h (by omega))) | (with_reducible refine Keep.drewN ?_ _) | (with_reducible refine Keep.drew ?_))))⟩
    · clear HL1 HL2 HL HF
      by_cases h1 : m < -1073741824
      · have e1 := dec_t h1
        go_wp2
        go_returns
        exact ⟨rfl, Keep.bel (by (repeat' (first | (with_reducible assumption) | (with_reducible exact HK.out) | (with_reducible exact Keep.refl _ _) | (with_reducible refine Keep.alloc ?_ _) | (with_reducible refine Keep.setCell ?_ _ (fun h => absurd h (by omega))) | (with_reducible refine Keep.drewN ?_ _) | (with_reducible refine Keep.drew ?_))))⟩
      have e1 := dec_f h1
      by_cases h2 : 1073741824 < m
      · have e2 := dec_t h2
        go_wp2
        go_returns
        exact ⟨rfl, Keep.bel (by (repeat' (first | (with_reducible assumption) | (with_reducible exact HK.out) | (with_reducible exact Keep.refl _ _) | (with_reducible refine Keep.alloc ?_ _) | (with_reducible refine Keep.setCell ?_ _ (fun h => absurd h (by omega))) | (with_reducible refine Keep.drewN ?_ _) | (with_reducible refine Keep.drew ?_))))⟩
      have e2 := dec_f h2
      have HM : Hid (floorV m 1 = .tuple #[.int .i64 m, .agg #[.int .i64 0, .int .i64 0]]) := Lib.hid (by unfold floorV; rw [if_pos (ok_whole m (by omega) (by omega)), Int.ediv_one]; rfl)
      clear h1 h2
      go_wp2_with fail
      refine (floor_any m 1 _).mono ?_
      rintro e w5 ⟨rfl, hk5⟩
      have HK := Lib.hid (show Keep NoS w w5 from Keep.trans (by (repeat' (first | (with_reducible assumption) | (with_reducible exact HK.out) | (with_reducible exact Keep.refl _ _) | (with_reducible refine Keep.alloc ?_ _) | (with_reducible refine Keep.setCell ?_ _ (fun h => absurd h (by omega))) | (with_reducible refine Keep.drewN ?_ _) | (with_reducible refine Keep.drew ?_)))) hk5 fun _ _ _ h => h)
      clear hk5
      rw [HM.out]
      go_wp2
      go_returns
      exact ⟨rfl, Keep.bel (by (repeat' (first | (with_reducible assumption) | (with_reducible exact HK.out) | (with_reducible exact Keep.refl _ _) | (with_reducible refine Keep.alloc ?_ _) | (with_reducible refine Keep.setCell ?_ _ (fun h => absurd h (by omega))) | (with_reducible refine Keep.drewN ?_ _) | (with_reducible refine Keep.drew ?_))))⟩
  · have HF : Hid (floorV n d = .tuple #[.int .i64 0, .agg #[.int .i64 3, .int .i64 0]]) := Lib.hid (if_neg hk)
    clear hk
    go_enter Try.func6, Try.ntmps6
    go_wp2_with fail
    refine (fracFact_any _).mono ?_
    rintro e w1 ⟨rfl, hk1⟩
    have K1 : Keep NoS w w1 := Keep.trans (by (repeat' (first | (with_reducible assumption) | (with_reducible exact HK.out) | (with_reducible exact Keep.refl _ _) | (with_reducible refine Keep.alloc ?_ _) | (with_reducible refine Keep.setCell ?_ _ (fun h => absurd h (by omega))) | (with_reducible refine Keep.drewN ?_ _) | (with_reducible refine Keep.drew ?_)))) hk1 fun _ _ _ h => h
    have A0 : Blk w1 w.heap.size #[.int .i64 n, .int .i64 d] := Blk.keep (by (repeat (first | (with_reducible assumption) | (refine blk_at _ _ ?_; simp; done) | (refine Blk.old ?_ _)))) hk1
    obtain ⟨c00, c01, _, _, l0⟩ := A0.two
    clear hk1
    go_wp2_with fail
    refine (floor_any n d _).mono ?_
    rintro e w2 ⟨rfl, hk2⟩
    have HK := Lib.hid (show Keep NoS w w2 from Keep.trans (by (repeat' (first | (with_reducible assumption) | (with_reducible exact HK.out) | (with_reducible exact Keep.refl _ _) | (with_reducible refine Keep.alloc ?_ _) | (with_reducible refine Keep.setCell ?_ _ (fun h => absurd h (by omega))) | (with_reducible refine Keep.drewN ?_ _) | (with_reducible refine Keep.drew ?_)))) hk2 fun _ _ _ h => h)
    rw [HF.out]
    clear A0 K1 hk2 c00 c01
    go_wp2
    go_returns
    exact ⟨rfl, Keep.bel (by (repeat' (first | (with_reducible assumption) | (with_reducible exact HK.out) | (with_reducible exact Keep.refl _ _) | (with_reducible refine Keep.alloc ?_ _) | (with_reducible refine Keep.setCell ?_ _ (fun h => absurd h (by omega))) | (with_reducible refine Keep.drewN ?_ _) | (with_reducible refine Keep.drew ?_))))⟩

end Go.Proofs.Ytnmklgigmmlgeaa
