/- The walk of the law FracOrder where all three are valid. -/
import Derived.Test.YtnmklgigmmlgeaaFracOrderA
namespace Go.Proofs.Ytnmklgigmmlgeaa
open Go.ChangeShapes Go.WideShapes Go.RowKit
set_option linter.unusedVariables false
set_option linter.unusedSimpArgs false

set_option maxRecDepth 100000 in
set_option maxHeartbeats 32000000 in
theorem fracOrder_ok (w : World) (n1 d1 n2 d2 n3 d3 : Int) (h1 : FracOK n1 d1) (h2 : FracOK n2 d2) (h3 : FracOK n3 d3) :
    Calls Try.prog 7 #[.agg #[.int .i64 n1, .int .i64 d1], .agg #[.int .i64 n2, .int .i64 d2], .agg #[.int .i64 n3, .int .i64 d3]] w fun e w' => e = .returned (.bool true) ∧ Below w.heap.size w w' := by
  have HL1 := Lib.hid (less_made h1 h2)
  have HL2 := Lib.hid (less_made h2 h1)
  have HL3 := Lib.hid (less_made h2 h3)
  have HL4 := Lib.hid (less_made h1 h3)
  have H1 := Lib.hid h1
  have H2 := Lib.hid h2
  have H3 := Lib.hid h3
  generalize hb1 : decide (fr n1 d1 < fr n2 d2) = b1 at *
  generalize hb2 : decide (fr n2 d2 < fr n1 d1) = b2 at *
  generalize hb3 : decide (fr n2 d2 < fr n3 d3) = b3 at *
  generalize hb4 : decide (fr n1 d1 < fr n3 d3) = b4 at *
  have T1 := Lib.hid hb1
  have T2 := Lib.hid hb2
  have T3 := Lib.hid hb3
  have T4 := Lib.hid hb4
  clear h1 h2 h3 hb1 hb2 hb3 hb4
  go_enter Try.func7, Try.ntmps7
  go_wp2_with fail
  refine (fracFact_any _).mono ?_
  rintro e w1 ⟨rfl, hk1⟩
  have K1 : Keep NoS w w1 := Keep.trans (by (repeat' (first | (with_reducible assumption) | (with_reducible exact HK.out) | (with_reducible exact Keep.refl _ _) | (with_reducible refine Keep.alloc ?_ _) | (with_reducible refine Keep.setCell ?_ _ (fun h => absurd h (by omega))) | (with_reducible refine Keep.drewN ?_ _) | (with_reducible refine Keep.drew ?_)))) hk1 fun _ _ _ h => h
  have B0x1 : Blk w1 (w.heap.size) #[.int .i64 n1, .int .i64 d1] := Blk.keep (by (repeat (first | (with_reducible assumption) | (refine blk_at _ _ ?_; simp; done) | (refine Blk.old ?_ _)))) hk1
  have B1x1 : Blk w1 (w.heap.size + 1) #[.int .i64 n2, .int .i64 d2] := Blk.keep (by (repeat (first | (with_reducible assumption) | (refine blk_at _ _ ?_; simp; done) | (refine Blk.old ?_ _)))) hk1
  have B2x1 : Blk w1 (w.heap.size + 1 + 1) #[.int .i64 n3, .int .i64 d3] := Blk.keep (by (repeat (first | (with_reducible assumption) | (refine blk_at _ _ ?_; simp; done) | (refine Blk.old ?_ _)))) hk1
  clear hk1
  obtain ⟨c0a, c0b, f0a, f0b, l0⟩ := B0x1.two
  have m0 : ¬ w1.heap.size = w.heap.size := by omega
  have M0 : ¬ w1.heap.size + 1 = w.heap.size := by omega
  obtain ⟨c1a, c1b, f1a, f1b, l1⟩ := B1x1.two
  have m1 : ¬ w1.heap.size = w.heap.size + 1 := by omega
  have M1 : ¬ w1.heap.size + 1 = w.heap.size + 1 := by omega
  obtain ⟨c2a, c2b, f2a, f2b, l2⟩ := B2x1.two
  have m2 : ¬ w1.heap.size = w.heap.size + 1 + 1 := by omega
  have M2 : ¬ w1.heap.size + 1 = w.heap.size + 1 + 1 := by omega
  go_wp2_with fail
  refine (less_any n1 d1 n2 d2 _).mono ?_
  rintro e w2 ⟨rfl, hk2⟩
  have K2 : Keep NoS w w2 := Keep.trans (by (repeat' (first | (with_reducible assumption) | (with_reducible exact HK.out) | (with_reducible exact Keep.refl _ _) | (with_reducible refine Keep.alloc ?_ _) | (with_reducible refine Keep.setCell ?_ _ (fun h => absurd h (by omega))) | (with_reducible refine Keep.drewN ?_ _) | (with_reducible refine Keep.drew ?_)))) hk2 fun _ _ _ h => h
  have B0x2 : Blk w2 (w.heap.size) #[.int .i64 n1, .int .i64 d1] := Blk.keep (by (repeat (first | (with_reducible assumption) | (refine blk_at _ _ ?_; simp; done) | (refine Blk.old ?_ _)))) hk2
  have B1x2 : Blk w2 (w.heap.size + 1) #[.int .i64 n2, .int .i64 d2] := Blk.keep (by (repeat (first | (with_reducible assumption) | (refine blk_at _ _ ?_; simp; done) | (refine Blk.old ?_ _)))) hk2
  have B2x2 : Blk w2 (w.heap.size + 1 + 1) #[.int .i64 n3, .int .i64 d3] := Blk.keep (by (repeat (first | (with_reducible assumption) | (refine blk_at _ _ ?_; simp; done) | (refine Blk.old ?_ _)))) hk2
  clear K1 hk2 B0x1 B1x1 B2x1 c0a c0b f0a f0b l0 m0 M0 c1a c1b f1a f1b l1 m1 M1 c2a c2b f2a f2b l2 m2 M2
  obtain ⟨c0a, c0b, f0a, f0b, l0⟩ := B0x2.two
  have m0 : ¬ w2.heap.size = w.heap.size := by omega
  have M0 : ¬ w2.heap.size + 1 = w.heap.size := by omega
  obtain ⟨c1a, c1b, f1a, f1b, l1⟩ := B1x2.two
  have m1 : ¬ w2.heap.size = w.heap.size + 1 := by omega
  have M1 : ¬ w2.heap.size + 1 = w.heap.size + 1 := by omega
  obtain ⟨c2a, c2b, f2a, f2b, l2⟩ := B2x2.two
  have m2 : ¬ w2.heap.size = w.heap.size + 1 + 1 := by omega
  have M2 : ¬ w2.heap.size + 1 = w.heap.size + 1 + 1 := by omega
  rw [HL1.out]
  go_wp2_with fail
  refine (less_any n2 d2 n1 d1 _).mono ?_
  rintro e w3 ⟨rfl, hk3⟩
  have K3 : Keep NoS w w3 := Keep.trans (by (repeat' (first | (with_reducible assumption) | (with_reducible exact HK.out) | (with_reducible exact Keep.refl _ _) | (with_reducible refine Keep.alloc ?_ _) | (with_reducible refine Keep.setCell ?_ _ (fun h => absurd h (by omega))) | (with_reducible refine Keep.drewN ?_ _) | (with_reducible refine Keep.drew ?_)))) hk3 fun _ _ _ h => h
  have B0x3 : Blk w3 (w.heap.size) #[.int .i64 n1, .int .i64 d1] := Blk.keep (by (repeat (first | (with_reducible assumption) | (refine blk_at _ _ ?_; simp; done) | (refine Blk.old ?_ _)))) hk3
  have B1x3 : Blk w3 (w.heap.size + 1) #[.int .i64 n2, .int .i64 d2] := Blk.keep (by (repeat (first | (with_reducible assumption) | (refine blk_at _ _ ?_; simp; done) | (refine Blk.old ?_ _)))) hk3
  have B2x3 : Blk w3 (w.heap.size + 1 + 1) #[.int .i64 n3, .int .i64 d3] := Blk.keep (by (repeat (first | (with_reducible assumption) | (refine blk_at _ _ ?_; simp; done) | (refine Blk.old ?_ _)))) hk3
  have B3x3 : Blk w3 (w2.heap.size) #[.int .i64 0, .int .i64 0] := Blk.keep (by (repeat (first | (with_reducible assumption) | (refine blk_at _ _ ?_; simp; done) | (refine Blk.old ?_ _)))) hk3
  clear K2 hk3 B0x2 B1x2 B2x2 c0a c0b f0a f0b l0 m0 M0 c1a c1b f1a f1b l1 m1 M1 c2a c2b f2a f2b l2 m2 M2
  obtain ⟨c0a, c0b, f0a, f0b, l0⟩ := B0x3.two
  have m0 : ¬ w3.heap.size = w.heap.size := by omega
  have M0 : ¬ w3.heap.size + 1 = w.heap.size := by omega
  obtain ⟨c1a, c1b, f1a, f1b, l1⟩ := B1x3.two
  have m1 : ¬ w3.heap.size = w.heap.size + 1 := by omega
  have M1 : ¬ w3.heap.size + 1 = w.heap.size + 1 := by omega
  obtain ⟨c2a, c2b, f2a, f2b, l2⟩ := B2x3.two
  have m2 : ¬ w3.heap.size = w.heap.size + 1 + 1 := by omega
  have M2 : ¬ w3.heap.size + 1 = w.heap.size + 1 + 1 := by omega
  obtain ⟨c3a, c3b, f3a, f3b, l3⟩ := B3x3.two
  have m3 : ¬ w3.heap.size = w2.heap.size := by omega
  have M3 : ¬ w3.heap.size + 1 = w2.heap.size := by omega
  rw [HL2.out]
  go_wp2_with fail
  refine (less_any n2 d2 n3 d3 _).mono ?_
  rintro e w4 ⟨rfl, hk4⟩
  have K4 : Keep NoS w w4 := Keep.trans (by (repeat' (first | (with_reducible assumption) | (with_reducible exact HK.out) | (with_reducible exact Keep.refl _ _) | (with_reducible refine Keep.alloc ?_ _) | (with_reducible refine Keep.setCell ?_ _ (fun h => absurd h (by omega))) | (with_reducible refine Keep.drewN ?_ _) | (with_reducible refine Keep.drew ?_)))) hk4 fun _ _ _ h => h
  have B0x4 : Blk w4 (w.heap.size) #[.int .i64 n1, .int .i64 d1] := Blk.keep (by (repeat (first | (with_reducible assumption) | (refine blk_at _ _ ?_; simp; done) | (refine Blk.old ?_ _)))) hk4
  have B1x4 : Blk w4 (w.heap.size + 1) #[.int .i64 n2, .int .i64 d2] := Blk.keep (by (repeat (first | (with_reducible assumption) | (refine blk_at _ _ ?_; simp; done) | (refine Blk.old ?_ _)))) hk4
  have B2x4 : Blk w4 (w.heap.size + 1 + 1) #[.int .i64 n3, .int .i64 d3] := Blk.keep (by (repeat (first | (with_reducible assumption) | (refine blk_at _ _ ?_; simp; done) | (refine Blk.old ?_ _)))) hk4
  have B3x4 : Blk w4 (w2.heap.size) #[.int .i64 0, .int .i64 0] := Blk.keep (by (repeat (first | (with_reducible assumption) | (refine blk_at _ _ ?_; simp; done) | (refine Blk.old ?_ _)))) hk4
  have B4x4 : Blk w4 (w3.heap.size) #[.int .i64 0, .int .i64 0] := Blk.keep (by (repeat (first | (with_reducible assumption) | (refine blk_at _ _ ?_; simp; done) | (refine Blk.old ?_ _)))) hk4
  clear K3 hk4 B0x3 B1x3 B2x3 B3x3 c0a c0b f0a f0b l0 m0 M0 c1a c1b f1a f1b l1 m1 M1 c2a c2b f2a f2b l2 m2 M2 c3a c3b f3a f3b l3 m3 M3
  obtain ⟨c0a, c0b, f0a, f0b, l0⟩ := B0x4.two
  have m0 : ¬ w4.heap.size = w.heap.size := by omega
  have M0 : ¬ w4.heap.size + 1 = w.heap.size := by omega
  obtain ⟨c1a, c1b, f1a, f1b, l1⟩ := B1x4.two
  have m1 : ¬ w4.heap.size = w.heap.size + 1 := by omega
  have M1 : ¬ w4.heap.size + 1 = w.heap.size + 1 := by omega
  obtain ⟨c2a, c2b, f2a, f2b, l2⟩ := B2x4.two
  have m2 : ¬ w4.heap.size = w.heap.size + 1 + 1 := by omega
  have M2 : ¬ w4.heap.size + 1 = w.heap.size + 1 + 1 := by omega
  obtain ⟨c3a, c3b, f3a, f3b, l3⟩ := B3x4.two
  have m3 : ¬ w4.heap.size = w2.heap.size := by omega
  have M3 : ¬ w4.heap.size + 1 = w2.heap.size := by omega
  obtain ⟨c4a, c4b, f4a, f4b, l4⟩ := B4x4.two
  have m4 : ¬ w4.heap.size = w3.heap.size := by omega
  have M4 : ¬ w4.heap.size + 1 = w3.heap.size := by omega
  rw [HL3.out]
  go_wp2_with fail
  refine (less_any n1 d1 n3 d3 _).mono ?_
  rintro e w5 ⟨rfl, hk5⟩
  have K5 : Keep NoS w w5 := Keep.trans (by (repeat' (first | (with_reducible assumption) | (with_reducible exact HK.out) | (with_reducible exact Keep.refl _ _) | (with_reducible refine Keep.alloc ?_ _) | (with_reducible refine Keep.setCell ?_ _ (fun h => absurd h (by omega))) | (with_reducible refine Keep.drewN ?_ _) | (with_reducible refine Keep.drew ?_)))) hk5 fun _ _ _ h => h
  have B0x5 : Blk w5 (w.heap.size) #[.int .i64 n1, .int .i64 d1] := Blk.keep (by (repeat (first | (with_reducible assumption) | (refine blk_at _ _ ?_; simp; done) | (refine Blk.old ?_ _)))) hk5
  have B1x5 : Blk w5 (w.heap.size + 1) #[.int .i64 n2, .int .i64 d2] := Blk.keep (by (repeat (first | (with_reducible assumption) | (refine blk_at _ _ ?_; simp; done) | (refine Blk.old ?_ _)))) hk5
  have B2x5 : Blk w5 (w.heap.size + 1 + 1) #[.int .i64 n3, .int .i64 d3] := Blk.keep (by (repeat (first | (with_reducible assumption) | (refine blk_at _ _ ?_; simp; done) | (refine Blk.old ?_ _)))) hk5
  have B3x5 : Blk w5 (w2.heap.size) #[.int .i64 0, .int .i64 0] := Blk.keep (by (repeat (first | (with_reducible assumption) | (refine blk_at _ _ ?_; simp; done) | (refine Blk.old ?_ _)))) hk5
  have B4x5 : Blk w5 (w3.heap.size) #[.int .i64 0, .int .i64 0] := Blk.keep (by (repeat (first | (with_reducible assumption) | (refine blk_at _ _ ?_; simp; done) | (refine Blk.old ?_ _)))) hk5
  have B5x5 : Blk w5 (w4.heap.size) #[.int .i64 0, .int .i64 0] := Blk.keep (by (repeat (first | (with_reducible assumption) | (refine blk_at _ _ ?_; simp; done) | (refine Blk.old ?_ _)))) hk5
  clear K4 hk5 B0x4 B1x4 B2x4 B3x4 B4x4 c0a c0b f0a f0b l0 m0 M0 c1a c1b f1a f1b l1 m1 M1 c2a c2b f2a f2b l2 m2 M2 c3a c3b f3a f3b l3 m3 M3 c4a c4b f4a f4b l4 m4 M4
  obtain ⟨c0a, c0b, f0a, f0b, l0⟩ := B0x5.two
  have m0 : ¬ w5.heap.size = w.heap.size := by omega
  have M0 : ¬ w5.heap.size + 1 = w.heap.size := by omega
  obtain ⟨c1a, c1b, f1a, f1b, l1⟩ := B1x5.two
  have m1 : ¬ w5.heap.size = w.heap.size + 1 := by omega
  have M1 : ¬ w5.heap.size + 1 = w.heap.size + 1 := by omega
  obtain ⟨c2a, c2b, f2a, f2b, l2⟩ := B2x5.two
  have m2 : ¬ w5.heap.size = w.heap.size + 1 + 1 := by omega
  have M2 : ¬ w5.heap.size + 1 = w.heap.size + 1 + 1 := by omega
  obtain ⟨c3a, c3b, f3a, f3b, l3⟩ := B3x5.two
  have m3 : ¬ w5.heap.size = w2.heap.size := by omega
  have M3 : ¬ w5.heap.size + 1 = w2.heap.size := by omega
  obtain ⟨c4a, c4b, f4a, f4b, l4⟩ := B4x5.two
  have m4 : ¬ w5.heap.size = w3.heap.size := by omega
  have M4 : ¬ w5.heap.size + 1 = w3.heap.size := by omega
  obtain ⟨c5a, c5b, f5a, f5b, l5⟩ := B5x5.two
  have m5 : ¬ w5.heap.size = w4.heap.size := by omega
  have M5 : ¬ w5.heap.size + 1 = w4.heap.size := by omega
  rw [HL4.out]
  go_upto_region 10 with fail
  have K6 : Keep NoS w (w5.alloc (.cells #[.int .i64 0, .int .i64 0] 25)) := by (repeat' (first | (with_reducible assumption) | (with_reducible exact HK.out) | (with_reducible exact Keep.refl _ _) | (with_reducible refine Keep.alloc ?_ _) | (with_reducible refine Keep.setCell ?_ _ (fun h => absurd h (by omega))) | (with_reducible refine Keep.drewN ?_ _) | (with_reducible refine Keep.drew ?_)))
  have B0y : Blk (w5.alloc (.cells #[.int .i64 0, .int .i64 0] 25)) (w.heap.size) #[.int .i64 n1, .int .i64 d1] := by (repeat (first | (with_reducible assumption) | (refine blk_at _ _ ?_; simp; done) | (refine Blk.old ?_ _)))
  have B1y : Blk (w5.alloc (.cells #[.int .i64 0, .int .i64 0] 25)) (w.heap.size + 1) #[.int .i64 n2, .int .i64 d2] := by (repeat (first | (with_reducible assumption) | (refine blk_at _ _ ?_; simp; done) | (refine Blk.old ?_ _)))
  have B2y : Blk (w5.alloc (.cells #[.int .i64 0, .int .i64 0] 25)) (w.heap.size + 1 + 1) #[.int .i64 n3, .int .i64 d3] := by (repeat (first | (with_reducible assumption) | (refine blk_at _ _ ?_; simp; done) | (refine Blk.old ?_ _)))
  clear B0x5 B1x5 B2x5 B3x5 B4x5 B5x5 c0a c0b f0a f0b l0 m0 M0 c1a c1b f1a f1b l1 m1 M1 c2a c2b f2a f2b l2 m2 M2 c3a c3b f3a f3b l3 m3 M3 c4a c4b f4a f4b l4 m4 M4 c5a c5b f5a f5b l5 m5 M5 K5
  generalize w5.alloc (.cells #[.int .i64 0, .int .i64 0] 25) = w6 at *
  obtain ⟨c0a, c0b, f0a, f0b, l0⟩ := B0y.two
  obtain ⟨c1a, c1b, f1a, f1b, l1⟩ := B1y.two
  obtain ⟨c2a, c2b, f2a, f2b, l2⟩ := B2y.two
  go_cut [106] (fun s wx => s = .bool false ∧ wx = w6)
  case first =>
    have T12 : b1 = true → b2 = false := fun e => by rw [← T2.out]; rw [← T1.out] at e; simp at e; simp only [decide_eq_false_iff_not]; exact rlt_asymm e
    have T34 : b1 = true → b3 = true → b4 = true := fun e e' => by rw [← T4.out]; rw [← T1.out] at e; rw [← T3.out] at e'; simp at e e'; simp; exact rlt_trans e e'
    have TE : b1 = false → b2 = false → n1 = n2 ∧ d1 = d2 := fun e e' => by
      rw [← T1.out] at e; rw [← T2.out] at e'; simp only [decide_eq_false_iff_not] at e e'
      exact fr_inj H1.out H2.out (req_of e e')
    cases b1 with
    | true =>
      obtain rfl := T12 rfl
      cases b3 with
      | true =>
        obtain rfl := T34 rfl rfl
        clear T12 T34 TE
        (go_wp2_with fail; go_meet; exact ⟨rfl, rfl⟩)
      | false =>
        clear T12 T34 TE
        (go_wp2_with fail; go_meet; exact ⟨rfl, rfl⟩)
    | false =>
      cases b2 with
      | true =>
        clear T12 T34 TE
        (go_wp2_with fail; go_meet; exact ⟨rfl, rfl⟩)
      | false =>
        obtain ⟨rfl, rfl⟩ := TE rfl rfl
        clear T12 T34 TE
        (go_wp2_with fail; go_meet; exact ⟨rfl, rfl⟩)
  case rest =>
    obtain ⟨rfl, rfl⟩ := hcut
    have q1 := add_made H1.out H3.out
    have q2 := add_made H2.out H3.out
    obtain ⟨xn, xd, xc, hx, hx'⟩ := made_form (fr n1 d1 + fr n3 d3)
    obtain ⟨yn, yd, yc, hy, hy'⟩ := made_form (fr n2 d2 + fr n3 d3)
    have HX := Lib.hid (q1.trans hx)
    have HY := Lib.hid (q2.trans hy)
    have HX' := Lib.hid hx'
    have HY' := Lib.hid hy'
    clear q1 q2 hx hy hx' hy'
    go_wp2_with fail
    refine (op_Add n1 d1 n3 d3 _).mono ?_
    rintro e w7 ⟨rfl, hk7⟩
    have K7 : Keep NoS w w7 := Keep.trans (by (repeat' (first | (with_reducible assumption) | (with_reducible exact HK.out) | (with_reducible exact Keep.refl _ _) | (with_reducible refine Keep.alloc ?_ _) | (with_reducible refine Keep.setCell ?_ _ (fun h => absurd h (by omega))) | (with_reducible refine Keep.drewN ?_ _) | (with_reducible refine Keep.drew ?_)))) hk7 fun _ _ _ h => h
    have B0x7 : Blk w7 (w.heap.size) #[.int .i64 n1, .int .i64 d1] := Blk.keep (by (repeat (first | (with_reducible assumption) | (refine blk_at _ _ ?_; simp; done) | (refine Blk.old ?_ _)))) hk7
    have B1x7 : Blk w7 (w.heap.size + 1) #[.int .i64 n2, .int .i64 d2] := Blk.keep (by (repeat (first | (with_reducible assumption) | (refine blk_at _ _ ?_; simp; done) | (refine Blk.old ?_ _)))) hk7
    have B2x7 : Blk w7 (w.heap.size + 1 + 1) #[.int .i64 n3, .int .i64 d3] := Blk.keep (by (repeat (first | (with_reducible assumption) | (refine blk_at _ _ ?_; simp; done) | (refine Blk.old ?_ _)))) hk7
    clear K6 hk7 B0y B1y B2y c0a c0b f0a f0b l0 c1a c1b f1a f1b l1 c2a c2b f2a f2b l2
    obtain ⟨c0a, c0b, f0a, f0b, l0⟩ := B0x7.two
    have m0 : ¬ w7.heap.size = w.heap.size := by omega
    have M0 : ¬ w7.heap.size + 1 = w.heap.size := by omega
    obtain ⟨c1a, c1b, f1a, f1b, l1⟩ := B1x7.two
    have m1 : ¬ w7.heap.size = w.heap.size + 1 := by omega
    have M1 : ¬ w7.heap.size + 1 = w.heap.size + 1 := by omega
    obtain ⟨c2a, c2b, f2a, f2b, l2⟩ := B2x7.two
    have m2 : ¬ w7.heap.size = w.heap.size + 1 + 1 := by omega
    have M2 : ¬ w7.heap.size + 1 = w.heap.size + 1 + 1 := by omega
    rw [HX.out]
    go_wp2_with fail
    refine (op_Add n2 d2 n3 d3 _).mono ?_
    rintro e w8 ⟨rfl, hk8⟩
    have K8 : Keep NoS w w8 := Keep.trans (by (repeat' (first | (with_reducible assumption) | (with_reducible exact HK.out) | (with_reducible exact Keep.refl _ _) | (with_reducible refine Keep.alloc ?_ _) | (with_reducible refine Keep.setCell ?_ _ (fun h => absurd h (by omega))) | (with_reducible refine Keep.drewN ?_ _) | (with_reducible refine Keep.drew ?_)))) hk8 fun _ _ _ h => h
    have B0x8 : Blk w8 (w.heap.size) #[.int .i64 n1, .int .i64 d1] := Blk.keep (by (repeat (first | (with_reducible assumption) | (refine blk_at _ _ ?_; simp; done) | (refine Blk.old ?_ _)))) hk8
    have B1x8 : Blk w8 (w.heap.size + 1) #[.int .i64 n2, .int .i64 d2] := Blk.keep (by (repeat (first | (with_reducible assumption) | (refine blk_at _ _ ?_; simp; done) | (refine Blk.old ?_ _)))) hk8
    have B2x8 : Blk w8 (w.heap.size + 1 + 1) #[.int .i64 n3, .int .i64 d3] := Blk.keep (by (repeat (first | (with_reducible assumption) | (refine blk_at _ _ ?_; simp; done) | (refine Blk.old ?_ _)))) hk8
    have B3x8 : Blk w8 (w7.heap.size) #[.int .i64 xn, .int .i64 xd] := Blk.keep (by (repeat (first | (with_reducible assumption) | (refine blk_at _ _ ?_; simp; done) | (refine Blk.old ?_ _)))) hk8
    have B4x8 : Blk w8 (w7.heap.size + 1) #[.int .i64 xc, .int .i64 0] := Blk.keep (by (repeat (first | (with_reducible assumption) | (refine blk_at _ _ ?_; simp; done) | (refine Blk.old ?_ _)))) hk8
    clear K7 hk8 B0x7 B1x7 B2x7 c0a c0b f0a f0b l0 m0 M0 c1a c1b f1a f1b l1 m1 M1 c2a c2b f2a f2b l2 m2 M2
    obtain ⟨c0a, c0b, f0a, f0b, l0⟩ := B0x8.two
    have m0 : ¬ w8.heap.size = w.heap.size := by omega
    have M0 : ¬ w8.heap.size + 1 = w.heap.size := by omega
    obtain ⟨c1a, c1b, f1a, f1b, l1⟩ := B1x8.two
    have m1 : ¬ w8.heap.size = w.heap.size + 1 := by omega
    have M1 : ¬ w8.heap.size + 1 = w.heap.size + 1 := by omega
    obtain ⟨c2a, c2b, f2a, f2b, l2⟩ := B2x8.two
    have m2 : ¬ w8.heap.size = w.heap.size + 1 + 1 := by omega
    have M2 : ¬ w8.heap.size + 1 = w.heap.size + 1 + 1 := by omega
    obtain ⟨c3a, c3b, f3a, f3b, l3⟩ := B3x8.two
    have m3 : ¬ w8.heap.size = w7.heap.size := by omega
    have M3 : ¬ w8.heap.size + 1 = w7.heap.size := by omega
    obtain ⟨c4a, c4b, f4a, f4b, l4⟩ := B4x8.two
    have m4 : ¬ w8.heap.size = w7.heap.size + 1 := by omega
    have M4 : ¬ w8.heap.size + 1 = w7.heap.size + 1 := by omega
    rw [HY.out]
    go_upto_region 14 with fail
    have K9 : Keep NoS w ((w8.alloc (.cells #[.int .i64 yn, .int .i64 yd] 23)).alloc (.cells #[.int .i64 yc, .int .i64 0] 25)) := by (repeat' (first | (with_reducible assumption) | (with_reducible exact HK.out) | (with_reducible exact Keep.refl _ _) | (with_reducible refine Keep.alloc ?_ _) | (with_reducible refine Keep.setCell ?_ _ (fun h => absurd h (by omega))) | (with_reducible refine Keep.drewN ?_ _) | (with_reducible refine Keep.drew ?_)))
    have B0z : Blk ((w8.alloc (.cells #[.int .i64 yn, .int .i64 yd] 23)).alloc (.cells #[.int .i64 yc, .int .i64 0] 25)) (w.heap.size) #[.int .i64 n1, .int .i64 d1] := by (repeat (first | (with_reducible assumption) | (refine blk_at _ _ ?_; simp; done) | (refine Blk.old ?_ _)))
    have B1z : Blk ((w8.alloc (.cells #[.int .i64 yn, .int .i64 yd] 23)).alloc (.cells #[.int .i64 yc, .int .i64 0] 25)) (w.heap.size + 1) #[.int .i64 n2, .int .i64 d2] := by (repeat (first | (with_reducible assumption) | (refine blk_at _ _ ?_; simp; done) | (refine Blk.old ?_ _)))
    have B2z : Blk ((w8.alloc (.cells #[.int .i64 yn, .int .i64 yd] 23)).alloc (.cells #[.int .i64 yc, .int .i64 0] 25)) (w.heap.size + 1 + 1) #[.int .i64 n3, .int .i64 d3] := by (repeat (first | (with_reducible assumption) | (refine blk_at _ _ ?_; simp; done) | (refine Blk.old ?_ _)))
    have B3z : Blk ((w8.alloc (.cells #[.int .i64 yn, .int .i64 yd] 23)).alloc (.cells #[.int .i64 yc, .int .i64 0] 25)) (w7.heap.size) #[.int .i64 xn, .int .i64 xd] := by (repeat (first | (with_reducible assumption) | (refine blk_at _ _ ?_; simp; done) | (refine Blk.old ?_ _)))
    have B4z : Blk ((w8.alloc (.cells #[.int .i64 yn, .int .i64 yd] 23)).alloc (.cells #[.int .i64 yc, .int .i64 0] 25)) (w7.heap.size + 1) #[.int .i64 xc, .int .i64 0] := by (repeat (first | (with_reducible assumption) | (refine blk_at _ _ ?_; simp; done) | (refine Blk.old ?_ _)))
    have B5z : Blk ((w8.alloc (.cells #[.int .i64 yn, .int .i64 yd] 23)).alloc (.cells #[.int .i64 yc, .int .i64 0] 25)) (w8.heap.size) #[.int .i64 yn, .int .i64 yd] := by (repeat (first | (with_reducible assumption) | (refine blk_at _ _ ?_; simp; done) | (refine Blk.old ?_ _)))
    have B6z : Blk ((w8.alloc (.cells #[.int .i64 yn, .int .i64 yd] 23)).alloc (.cells #[.int .i64 yc, .int .i64 0] 25)) (w8.heap.size + 1) #[.int .i64 yc, .int .i64 0] := by (repeat (first | (with_reducible assumption) | (refine blk_at _ _ ?_; simp; done) | (refine Blk.old ?_ _)))
    clear B0x8 B1x8 B2x8 B3x8 B4x8 c0a c0b f0a f0b l0 m0 M0 c1a c1b f1a f1b l1 m1 M1 c2a c2b f2a f2b l2 m2 M2 c3a c3b f3a f3b l3 m3 M3 c4a c4b f4a f4b l4 m4 M4 K8
    generalize ((w8.alloc (.cells #[.int .i64 yn, .int .i64 yd] 23)).alloc (.cells #[.int .i64 yc, .int .i64 0] 25)) = w9 at *
    obtain ⟨c0a, c0b, f0a, f0b, l0⟩ := B0z.two
    obtain ⟨c1a, c1b, f1a, f1b, l1⟩ := B1z.two
    obtain ⟨c2a, c2b, f2a, f2b, l2⟩ := B2z.two
    obtain ⟨c3a, c3b, f3a, f3b, l3⟩ := B3z.two
    obtain ⟨c4a, c4b, f4a, f4b, l4⟩ := B4z.two
    obtain ⟨c5a, c5b, f5a, f5b, l5⟩ := B5z.two
    obtain ⟨c6a, c6b, f6a, f6b, l6⟩ := B6z.two
    obtain ⟨bb, hbb⟩ : ∃ bb, (xc == 0 && yc == 0) = bb := ⟨_, rfl⟩
    have HB := Lib.hid hbb
    clear hbb
    go_cut [126] (fun s wx => s = .bool bb ∧ wx = w9)
    case first =>
      rcases HX'.out with ⟨rfl, _⟩ | ⟨rfl, _⟩
      · rcases HY'.out with ⟨rfl, _⟩ | ⟨rfl, _⟩
        · obtain rfl : bb = true := HB.out.symm
          (go_wp2_with fail; go_meet; exact ⟨rfl, rfl⟩)
        · obtain rfl : bb = false := HB.out.symm
          (go_wp2_with fail; go_meet; exact ⟨rfl, rfl⟩)
      · obtain rfl : bb = false := HB.out.symm
        (go_wp2_with fail; go_meet; exact ⟨rfl, rfl⟩)
    case rest =>
      obtain ⟨rfl, rfl⟩ := hcut
      obtain ⟨W9, rfl⟩ : ∃ W9 : World, W9 = wc := ⟨_, rfl⟩
      go_upto_if 126 with fail
      go_cut [] (fun wx => Keep NoS W9 wx)
      case first =>
        have m3 : ¬ W9.heap.size = w7.heap.size := by omega
        have K0 : Keep NoS W9 W9 := Keep.refl _ _
        rcases HX'.out with ⟨rfl, ox, ex⟩ | ⟨rfl, _⟩
        · rcases HY'.out with ⟨rfl, oy, ey⟩ | ⟨rfl, _⟩
          · obtain rfl : bb = true := HB.out.symm
            have hl : lessV xn xd yn yd = .tuple #[.bool b1, .agg #[.int .i64 0, .int .i64 0]] := by
              rw [less_made ox oy, ex, ey, ← T1.out]; simp only [Rat.add_lt_add_right]
            have HL := Lib.hid hl
            clear hl ox oy ex ey
            cases b1 <;>
            (go_wp2_with fail
             refine (less_any xn xd yn yd _).mono ?_
             rintro e w10 ⟨rfl, hk10⟩
             have K10 : Keep NoS W9 w10 := hk10
             rw [HL.out]
             go_wp2
             go_meet
             exact (by (repeat' (first | (with_reducible assumption) | (with_reducible exact HK.out) | (with_reducible exact Keep.refl _ _) | (with_reducible refine Keep.alloc ?_ _) | (with_reducible refine Keep.setCell ?_ _ (fun h => absurd h (by omega))) | (with_reducible refine Keep.drewN ?_ _) | (with_reducible refine Keep.drew ?_)))))
          · obtain rfl : bb = false := HB.out.symm
            (go_wp2; go_meet; exact (by (repeat' (first | (with_reducible assumption) | (with_reducible exact HK.out) | (with_reducible exact Keep.refl _ _) | (with_reducible refine Keep.alloc ?_ _) | (with_reducible refine Keep.setCell ?_ _ (fun h => absurd h (by omega))) | (with_reducible refine Keep.drewN ?_ _) | (with_reducible refine Keep.drew ?_)))))
        · obtain rfl : bb = false := HB.out.symm
          (go_wp2; go_meet; exact (by (repeat' (first | (with_reducible assumption) | (with_reducible exact HK.out) | (with_reducible exact Keep.refl _ _) | (with_reducible refine Keep.alloc ?_ _) | (with_reducible refine Keep.setCell ?_ _ (fun h => absurd h (by omega))) | (with_reducible refine Keep.drewN ?_ _) | (with_reducible refine Keep.drew ?_)))))
      case rest =>
        obtain ⟨W10, rfl⟩ : ∃ W10 : World, W10 = wc := ⟨_, rfl⟩
        have hk10 := hcut
        have K10 : Keep NoS w W10 := K9.trans hk10 fun _ _ _ h => h
        have B0u : Blk W10 (w.heap.size) #[.int .i64 n1, .int .i64 d1] := B0z.keep hk10
        have B1u : Blk W10 (w.heap.size + 1) #[.int .i64 n2, .int .i64 d2] := B1z.keep hk10
        have B2u : Blk W10 (w.heap.size + 1 + 1) #[.int .i64 n3, .int .i64 d3] := B2z.keep hk10
        clear hk10 hcut K9 B0z c0a c0b f0a f0b l0 B1z c1a c1b f1a f1b l1 B2z c2a c2b f2a f2b l2 B3z c3a c3b f3a f3b l3 B4z c4a c4b f4a f4b l4 B5z c5a c5b f5a f5b l5 B6z c6a c6b f6a f6b l6
        obtain ⟨c0a, c0b, f0a, f0b, l0⟩ := B0u.two
        obtain ⟨c1a, c1b, f1a, f1b, l1⟩ := B1u.two
        obtain ⟨c2a, c2b, f2a, f2b, l2⟩ := B2u.two
        have q1 := mul_made H1.out H3.out
        have q2 := mul_made H2.out H3.out
        obtain ⟨pn, pd, pc, hp, hp'⟩ := made_form (fr n1 d1 * fr n3 d3)
        obtain ⟨qn, qd, qc, hq, hq'⟩ := made_form (fr n2 d2 * fr n3 d3)
        have HP := Lib.hid (q1.trans hp)
        have HQ := Lib.hid (q2.trans hq)
        have HP' := Lib.hid hp'
        have HQ' := Lib.hid hq'
        clear q1 q2 hp hq hp' hq' HX HY HX' HY'
        go_wp2_with fail
        refine (op_Times n1 d1 n3 d3 _).mono ?_
        rintro e w11 ⟨rfl, hk11⟩
        have K11 : Keep NoS w w11 := Keep.trans (by (repeat' (first | (with_reducible assumption) | (with_reducible exact HK.out) | (with_reducible exact Keep.refl _ _) | (with_reducible refine Keep.alloc ?_ _) | (with_reducible refine Keep.setCell ?_ _ (fun h => absurd h (by omega))) | (with_reducible refine Keep.drewN ?_ _) | (with_reducible refine Keep.drew ?_)))) hk11 fun _ _ _ h => h
        have B0x11 : Blk w11 (w.heap.size) #[.int .i64 n1, .int .i64 d1] := Blk.keep (by (repeat (first | (with_reducible assumption) | (refine blk_at _ _ ?_; simp; done) | (refine Blk.old ?_ _)))) hk11
        have B1x11 : Blk w11 (w.heap.size + 1) #[.int .i64 n2, .int .i64 d2] := Blk.keep (by (repeat (first | (with_reducible assumption) | (refine blk_at _ _ ?_; simp; done) | (refine Blk.old ?_ _)))) hk11
        have B2x11 : Blk w11 (w.heap.size + 1 + 1) #[.int .i64 n3, .int .i64 d3] := Blk.keep (by (repeat (first | (with_reducible assumption) | (refine blk_at _ _ ?_; simp; done) | (refine Blk.old ?_ _)))) hk11
        clear K10 hk11 B0u B1u B2u c0a c0b f0a f0b l0 c1a c1b f1a f1b l1 c2a c2b f2a f2b l2
        obtain ⟨c0a, c0b, f0a, f0b, l0⟩ := B0x11.two
        have m0 : ¬ w11.heap.size = w.heap.size := by omega
        have M0 : ¬ w11.heap.size + 1 = w.heap.size := by omega
        obtain ⟨c1a, c1b, f1a, f1b, l1⟩ := B1x11.two
        have m1 : ¬ w11.heap.size = w.heap.size + 1 := by omega
        have M1 : ¬ w11.heap.size + 1 = w.heap.size + 1 := by omega
        obtain ⟨c2a, c2b, f2a, f2b, l2⟩ := B2x11.two
        have m2 : ¬ w11.heap.size = w.heap.size + 1 + 1 := by omega
        have M2 : ¬ w11.heap.size + 1 = w.heap.size + 1 + 1 := by omega
        rw [HP.out]
        go_wp2_with fail
        refine (op_Times n2 d2 n3 d3 _).mono ?_
        rintro e w12 ⟨rfl, hk12⟩
        have K12 : Keep NoS w w12 := Keep.trans (by (repeat' (first | (with_reducible assumption) | (with_reducible exact HK.out) | (with_reducible exact Keep.refl _ _) | (with_reducible refine Keep.alloc ?_ _) | (with_reducible refine Keep.setCell ?_ _ (fun h => absurd h (by omega))) | (with_reducible refine Keep.drewN ?_ _) | (with_reducible refine Keep.drew ?_)))) hk12 fun _ _ _ h => h
        have B0x12 : Blk w12 (w.heap.size) #[.int .i64 n1, .int .i64 d1] := Blk.keep (by (repeat (first | (with_reducible assumption) | (refine blk_at _ _ ?_; simp; done) | (refine Blk.old ?_ _)))) hk12
        have B1x12 : Blk w12 (w.heap.size + 1) #[.int .i64 n2, .int .i64 d2] := Blk.keep (by (repeat (first | (with_reducible assumption) | (refine blk_at _ _ ?_; simp; done) | (refine Blk.old ?_ _)))) hk12
        have B2x12 : Blk w12 (w.heap.size + 1 + 1) #[.int .i64 n3, .int .i64 d3] := Blk.keep (by (repeat (first | (with_reducible assumption) | (refine blk_at _ _ ?_; simp; done) | (refine Blk.old ?_ _)))) hk12
        have B3x12 : Blk w12 (w11.heap.size) #[.int .i64 pn, .int .i64 pd] := Blk.keep (by (repeat (first | (with_reducible assumption) | (refine blk_at _ _ ?_; simp; done) | (refine Blk.old ?_ _)))) hk12
        have B4x12 : Blk w12 (w11.heap.size + 1) #[.int .i64 pc, .int .i64 0] := Blk.keep (by (repeat (first | (with_reducible assumption) | (refine blk_at _ _ ?_; simp; done) | (refine Blk.old ?_ _)))) hk12
        clear K11 hk12 B0x11 B1x11 B2x11 c0a c0b f0a f0b l0 m0 M0 c1a c1b f1a f1b l1 m1 M1 c2a c2b f2a f2b l2 m2 M2
        obtain ⟨c0a, c0b, f0a, f0b, l0⟩ := B0x12.two
        have m0 : ¬ w12.heap.size = w.heap.size := by omega
        have M0 : ¬ w12.heap.size + 1 = w.heap.size := by omega
        obtain ⟨c1a, c1b, f1a, f1b, l1⟩ := B1x12.two
        have m1 : ¬ w12.heap.size = w.heap.size + 1 := by omega
        have M1 : ¬ w12.heap.size + 1 = w.heap.size + 1 := by omega
        obtain ⟨c2a, c2b, f2a, f2b, l2⟩ := B2x12.two
        have m2 : ¬ w12.heap.size = w.heap.size + 1 + 1 := by omega
        have M2 : ¬ w12.heap.size + 1 = w.heap.size + 1 + 1 := by omega
        obtain ⟨c3a, c3b, f3a, f3b, l3⟩ := B3x12.two
        have m3 : ¬ w12.heap.size = w11.heap.size := by omega
        have M3 : ¬ w12.heap.size + 1 = w11.heap.size := by omega
        obtain ⟨c4a, c4b, f4a, f4b, l4⟩ := B4x12.two
        have m4 : ¬ w12.heap.size = w11.heap.size + 1 := by omega
        have M4 : ¬ w12.heap.size + 1 = w11.heap.size + 1 := by omega
        rw [HQ.out]
        rcases HP'.out with ⟨rfl, op, ep⟩ | ⟨rfl, _⟩
        · rcases HQ'.out with ⟨rfl, oq, eq⟩ | ⟨rfl, _⟩
          · by_cases h0 : n3 ≤ 0
            · have e0 := dec_t h0
              (go_wp2; go_returns; exact ⟨rfl, Keep.bel (by (repeat' (first | (with_reducible assumption) | (with_reducible exact HK.out) | (with_reducible exact Keep.refl _ _) | (with_reducible refine Keep.alloc ?_ _) | (with_reducible refine Keep.setCell ?_ _ (fun h => absurd h (by omega))) | (with_reducible refine Keep.drewN ?_ _) | (with_reducible refine Keep.drew ?_))))⟩)
            · have e0 := dec_f h0
              have hl : lessV pn pd qn qd = .tuple #[.bool b1, .agg #[.int .i64 0, .int .i64 0]] := by
                rw [less_made op oq, ep, eq, ← T1.out]
                simp only [Rat.mul_lt_mul_right ((fr_pos H3.out).2 (by omega))]
              have HL := Lib.hid hl
              clear hl op oq ep eq h0
              go_wp2_with fail
              refine (less_any pn pd qn qd _).mono ?_
              rintro e w13 ⟨rfl, hk13⟩
              have K13 : Keep NoS w w13 := Keep.trans (by (repeat' (first | (with_reducible assumption) | (with_reducible exact HK.out) | (with_reducible exact Keep.refl _ _) | (with_reducible refine Keep.alloc ?_ _) | (with_reducible refine Keep.setCell ?_ _ (fun h => absurd h (by omega))) | (with_reducible refine Keep.drewN ?_ _) | (with_reducible refine Keep.drew ?_)))) hk13 fun _ _ _ h => h
              rw [HL.out]
              cases b1 <;> (go_wp2; go_returns; exact ⟨rfl, Keep.bel (by (repeat' (first | (with_reducible assumption) | (with_reducible exact HK.out) | (with_reducible exact Keep.refl _ _) | (with_reducible refine Keep.alloc ?_ _) | (with_reducible refine Keep.setCell ?_ _ (fun h => absurd h (by omega))) | (with_reducible refine Keep.drewN ?_ _) | (with_reducible refine Keep.drew ?_))))⟩)
          · (go_wp2; go_returns; exact ⟨rfl, Keep.bel (by (repeat' (first | (with_reducible assumption) | (with_reducible exact HK.out) | (with_reducible exact Keep.refl _ _) | (with_reducible refine Keep.alloc ?_ _) | (with_reducible refine Keep.setCell ?_ _ (fun h => absurd h (by omega))) | (with_reducible refine Keep.drewN ?_ _) | (with_reducible refine Keep.drew ?_))))⟩)
        · (go_wp2; go_returns; exact ⟨rfl, Keep.bel (by (repeat' (first | (with_reducible assumption) | (with_reducible exact HK.out) | (with_reducible exact Keep.refl _ _) | (with_reducible refine Keep.alloc ?_ _) | (with_reducible refine Keep.setCell ?_ _ (fun h => absurd h (by omega))) | (with_reducible refine Keep.drewN ?_ _) | (with_reducible refine Keep.drew ?_))))⟩)

end Go.Proofs.Ytnmklgigmmlgeaa
