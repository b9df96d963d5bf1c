/- The walk of the law FracOrder. -/
import Derived.Test.YtnmklgigmmlgeaaFracRat
import Derived.Deep.DeepCutAuto
namespace Go.Proofs.Ytnmklgigmmlgeaa
open Go.ChangeShapes Go.WideShapes Go.RowKit
set_option linter.unusedVariables false
set_option linter.unusedSimpArgs false

theorem less_form (n1 d1 n2 d2 : Int) : ∃ b c a, lessV n1 d1 n2 d2 = .tuple #[.bool b, .agg #[.int .i64 c, .int .i64 a]] := ⟨_, _, _, rfl⟩

set_option maxRecDepth 100000 in
set_option maxHeartbeats 32000000 in
theorem fracOrder_bad1 (w : World) (n1 d1 n2 d2 n3 d3 : Int) (hk : ¬ (FracOK n1 d1 ∧ FracOK n2 d2)) :
    Calls Try.prog 7 #[.agg #[.int .i64 n1, .int .i64 d1], .agg #[.int .i64 n2, .int .i64 d2], .agg #[.int .i64 n3, .int .i64 d3]] w fun e w' => e = .returned (.bool true) ∧ Below w.heap.size w w' := by
  have HL1 := Lib.hid (less_bad hk)
  have HL2 := Lib.hid (less_bad (n1 := n2) (d1 := d2) (n2 := n1) (d2 := d1) fun h => hk ⟨h.2, h.1⟩)
  obtain ⟨b3, c3, a3, hl3⟩ := less_form n2 d2 n3 d3
  obtain ⟨b4, c4, a4, hl4⟩ := less_form n1 d1 n3 d3
  have HL3 := Lib.hid hl3
  have HL4 := Lib.hid hl4
  clear hk hl3 hl4
  generalize ckA n1 d1 n2 d2 = A1 at *
  generalize ckA n2 d2 n1 d1 = A2 at *
  go_enter Try.func7, Try.ntmps7
  go_wp2_with fail
  refine (fracFact_any _).mono ?_
  rintro e w1 ⟨rfl, hk1⟩
  have K1 : Keep NoS w w1 := Keep.trans (by (repeat' (first | (with_reducible assumption) | (with_reducible exact HK.out) | (with_reducible exact Keep.refl _ _) | (with_reducible refine Keep.alloc ?_ _) | (with_reducible refine Keep.setCell ?_ _ (fun h => absurd h (by omega))) | (with_reducible refine Keep.drewN ?_ _) | (with_reducible refine Keep.drew ?_)))) hk1 fun _ _ _ h => h
  have B0x1 : Blk w1 (w.heap.size) #[.int .i64 n1, .int .i64 d1] := Blk.keep (by (repeat (first | (with_reducible assumption) | (refine blk_at _ _ ?_; simp; done) | (refine Blk.old ?_ _)))) hk1
  have B1x1 : Blk w1 (w.heap.size + 1) #[.int .i64 n2, .int .i64 d2] := Blk.keep (by (repeat (first | (with_reducible assumption) | (refine blk_at _ _ ?_; simp; done) | (refine Blk.old ?_ _)))) hk1
  have B2x1 : Blk w1 (w.heap.size + 1 + 1) #[.int .i64 n3, .int .i64 d3] := Blk.keep (by (repeat (first | (with_reducible assumption) | (refine blk_at _ _ ?_; simp; done) | (refine Blk.old ?_ _)))) hk1
  clear hk1
  obtain ⟨c0a, c0b, f0a, f0b, l0⟩ := B0x1.two
  have m0 : ¬ w1.heap.size = w.heap.size := by omega
  have M0 : ¬ w1.heap.size + 1 = w.heap.size := by omega
  obtain ⟨c1a, c1b, f1a, f1b, l1⟩ := B1x1.two
  have m1 : ¬ w1.heap.size = w.heap.size + 1 := by omega
  have M1 : ¬ w1.heap.size + 1 = w.heap.size + 1 := by omega
  obtain ⟨c2a, c2b, f2a, f2b, l2⟩ := B2x1.two
  have m2 : ¬ w1.heap.size = w.heap.size + 1 + 1 := by omega
  have M2 : ¬ w1.heap.size + 1 = w.heap.size + 1 + 1 := by omega
  go_wp2_with fail
  refine (less_any n1 d1 n2 d2 _).mono ?_
  rintro e w2 ⟨rfl, hk2⟩
  have K2 : Keep NoS w w2 := Keep.trans (by (repeat' (first | (with_reducible assumption) | (with_reducible exact HK.out) | (with_reducible exact Keep.refl _ _) | (with_reducible refine Keep.alloc ?_ _) | (with_reducible refine Keep.setCell ?_ _ (fun h => absurd h (by omega))) | (with_reducible refine Keep.drewN ?_ _) | (with_reducible refine Keep.drew ?_)))) hk2 fun _ _ _ h => h
  have B0x2 : Blk w2 (w.heap.size) #[.int .i64 n1, .int .i64 d1] := Blk.keep (by (repeat (first | (with_reducible assumption) | (refine blk_at _ _ ?_; simp; done) | (refine Blk.old ?_ _)))) hk2
  have B1x2 : Blk w2 (w.heap.size + 1) #[.int .i64 n2, .int .i64 d2] := Blk.keep (by (repeat (first | (with_reducible assumption) | (refine blk_at _ _ ?_; simp; done) | (refine Blk.old ?_ _)))) hk2
  have B2x2 : Blk w2 (w.heap.size + 1 + 1) #[.int .i64 n3, .int .i64 d3] := Blk.keep (by (repeat (first | (with_reducible assumption) | (refine blk_at _ _ ?_; simp; done) | (refine Blk.old ?_ _)))) hk2
  clear K1 hk2 B0x1 B1x1 B2x1 c0a c0b f0a f0b l0 m0 M0 c1a c1b f1a f1b l1 m1 M1 c2a c2b f2a f2b l2 m2 M2
  obtain ⟨c0a, c0b, f0a, f0b, l0⟩ := B0x2.two
  have m0 : ¬ w2.heap.size = w.heap.size := by omega
  have M0 : ¬ w2.heap.size + 1 = w.heap.size := by omega
  obtain ⟨c1a, c1b, f1a, f1b, l1⟩ := B1x2.two
  have m1 : ¬ w2.heap.size = w.heap.size + 1 := by omega
  have M1 : ¬ w2.heap.size + 1 = w.heap.size + 1 := by omega
  obtain ⟨c2a, c2b, f2a, f2b, l2⟩ := B2x2.two
  have m2 : ¬ w2.heap.size = w.heap.size + 1 + 1 := by omega
  have M2 : ¬ w2.heap.size + 1 = w.heap.size + 1 + 1 := by omega
  rw [HL1.out]
  go_wp2_with fail
  refine (less_any n2 d2 n1 d1 _).mono ?_
  rintro e w3 ⟨rfl, hk3⟩
  have K3 : Keep NoS w w3 := Keep.trans (by (repeat' (first | (with_reducible assumption) | (with_reducible exact HK.out) | (with_reducible exact Keep.refl _ _) | (with_reducible refine Keep.alloc ?_ _) | (with_reducible refine Keep.setCell ?_ _ (fun h => absurd h (by omega))) | (with_reducible refine Keep.drewN ?_ _) | (with_reducible refine Keep.drew ?_)))) hk3 fun _ _ _ h => h
  have B0x3 : Blk w3 (w.heap.size) #[.int .i64 n1, .int .i64 d1] := Blk.keep (by (repeat (first | (with_reducible assumption) | (refine blk_at _ _ ?_; simp; done) | (refine Blk.old ?_ _)))) hk3
  have B1x3 : Blk w3 (w.heap.size + 1) #[.int .i64 n2, .int .i64 d2] := Blk.keep (by (repeat (first | (with_reducible assumption) | (refine blk_at _ _ ?_; simp; done) | (refine Blk.old ?_ _)))) hk3
  have B2x3 : Blk w3 (w.heap.size + 1 + 1) #[.int .i64 n3, .int .i64 d3] := Blk.keep (by (repeat (first | (with_reducible assumption) | (refine blk_at _ _ ?_; simp; done) | (refine Blk.old ?_ _)))) hk3
  have B3x3 : Blk w3 (w2.heap.size) #[.int .i64 3, .int .i64 A1] := Blk.keep (by (repeat (first | (with_reducible assumption) | (refine blk_at _ _ ?_; simp; done) | (refine Blk.old ?_ _)))) hk3
  clear K2 hk3 B0x2 B1x2 B2x2 c0a c0b f0a f0b l0 m0 M0 c1a c1b f1a f1b l1 m1 M1 c2a c2b f2a f2b l2 m2 M2
  obtain ⟨c0a, c0b, f0a, f0b, l0⟩ := B0x3.two
  have m0 : ¬ w3.heap.size = w.heap.size := by omega
  have M0 : ¬ w3.heap.size + 1 = w.heap.size := by omega
  obtain ⟨c1a, c1b, f1a, f1b, l1⟩ := B1x3.two
  have m1 : ¬ w3.heap.size = w.heap.size + 1 := by omega
  have M1 : ¬ w3.heap.size + 1 = w.heap.size + 1 := by omega
  obtain ⟨c2a, c2b, f2a, f2b, l2⟩ := B2x3.two
  have m2 : ¬ w3.heap.size = w.heap.size + 1 + 1 := by omega
  have M2 : ¬ w3.heap.size + 1 = w.heap.size + 1 + 1 := by omega
  obtain ⟨c3a, c3b, f3a, f3b, l3⟩ := B3x3.two
  have m3 : ¬ w3.heap.size = w2.heap.size := by omega
  have M3 : ¬ w3.heap.size + 1 = w2.heap.size := by omega
  rw [HL2.out]
  go_wp2_with fail
  refine (less_any n2 d2 n3 d3 _).mono ?_
  rintro e w4 ⟨rfl, hk4⟩
  have K4 : Keep NoS w w4 := Keep.trans (by (repeat' (first | (with_reducible assumption) | (with_reducible exact HK.out) | (with_reducible exact Keep.refl _ _) | (with_reducible refine Keep.alloc ?_ _) | (with_reducible refine Keep.setCell ?_ _ (fun h => absurd h (by omega))) | (with_reducible refine Keep.drewN ?_ _) | (with_reducible refine Keep.drew ?_)))) hk4 fun _ _ _ h => h
  have B0x4 : Blk w4 (w.heap.size) #[.int .i64 n1, .int .i64 d1] := Blk.keep (by (repeat (first | (with_reducible assumption) | (refine blk_at _ _ ?_; simp; done) | (refine Blk.old ?_ _)))) hk4
  have B1x4 : Blk w4 (w.heap.size + 1) #[.int .i64 n2, .int .i64 d2] := Blk.keep (by (repeat (first | (with_reducible assumption) | (refine blk_at _ _ ?_; simp; done) | (refine Blk.old ?_ _)))) hk4
  have B2x4 : Blk w4 (w.heap.size + 1 + 1) #[.int .i64 n3, .int .i64 d3] := Blk.keep (by (repeat (first | (with_reducible assumption) | (refine blk_at _ _ ?_; simp; done) | (refine Blk.old ?_ _)))) hk4
  have B3x4 : Blk w4 (w2.heap.size) #[.int .i64 3, .int .i64 A1] := Blk.keep (by (repeat (first | (with_reducible assumption) | (refine blk_at _ _ ?_; simp; done) | (refine Blk.old ?_ _)))) hk4
  have B4x4 : Blk w4 (w3.heap.size) #[.int .i64 3, .int .i64 A2] := Blk.keep (by (repeat (first | (with_reducible assumption) | (refine blk_at _ _ ?_; simp; done) | (refine Blk.old ?_ _)))) hk4
  clear K3 hk4 B0x3 B1x3 B2x3 B3x3 c0a c0b f0a f0b l0 m0 M0 c1a c1b f1a f1b l1 m1 M1 c2a c2b f2a f2b l2 m2 M2 c3a c3b f3a f3b l3 m3 M3
  obtain ⟨c0a, c0b, f0a, f0b, l0⟩ := B0x4.two
  have m0 : ¬ w4.heap.size = w.heap.size := by omega
  have M0 : ¬ w4.heap.size + 1 = w.heap.size := by omega
  obtain ⟨c1a, c1b, f1a, f1b, l1⟩ := B1x4.two
  have m1 : ¬ w4.heap.size = w.heap.size + 1 := by omega
  have M1 : ¬ w4.heap.size + 1 = w.heap.size + 1 := by omega
  obtain ⟨c2a, c2b, f2a, f2b, l2⟩ := B2x4.two
  have m2 : ¬ w4.heap.size = w.heap.size + 1 + 1 := by omega
  have M2 : ¬ w4.heap.size + 1 = w.heap.size + 1 + 1 := by omega
  obtain ⟨c3a, c3b, f3a, f3b, l3⟩ := B3x4.two
  have m3 : ¬ w4.heap.size = w2.heap.size := by omega
  have M3 : ¬ w4.heap.size + 1 = w2.heap.size := by omega
  obtain ⟨c4a, c4b, f4a, f4b, l4⟩ := B4x4.two
  have m4 : ¬ w4.heap.size = w3.heap.size := by omega
  have M4 : ¬ w4.heap.size + 1 = w3.heap.size := by omega
  rw [HL3.out]
  go_wp2_with fail
  refine (less_any n1 d1 n3 d3 _).mono ?_
  rintro e w5 ⟨rfl, hk5⟩
  have K5 : Keep NoS w w5 := Keep.trans (by (repeat' (first | (with_reducible assumption) | (with_reducible exact HK.out) | (with_reducible exact Keep.refl _ _) | (with_reducible refine Keep.alloc ?_ _) | (with_reducible refine Keep.setCell ?_ _ (fun h => absurd h (by omega))) | (with_reducible refine Keep.drewN ?_ _) | (with_reducible refine Keep.drew ?_)))) hk5 fun _ _ _ h => h
  have B0x5 : Blk w5 (w.heap.size) #[.int .i64 n1, .int .i64 d1] := Blk.keep (by (repeat (first | (with_reducible assumption) | (refine blk_at _ _ ?_; simp; done) | (refine Blk.old ?_ _)))) hk5
  have B1x5 : Blk w5 (w.heap.size + 1) #[.int .i64 n2, .int .i64 d2] := Blk.keep (by (repeat (first | (with_reducible assumption) | (refine blk_at _ _ ?_; simp; done) | (refine Blk.old ?_ _)))) hk5
  have B2x5 : Blk w5 (w.heap.size + 1 + 1) #[.int .i64 n3, .int .i64 d3] := Blk.keep (by (repeat (first | (with_reducible assumption) | (refine blk_at _ _ ?_; simp; done) | (refine Blk.old ?_ _)))) hk5
  have B3x5 : Blk w5 (w2.heap.size) #[.int .i64 3, .int .i64 A1] := Blk.keep (by (repeat (first | (with_reducible assumption) | (refine blk_at _ _ ?_; simp; done) | (refine Blk.old ?_ _)))) hk5
  have B4x5 : Blk w5 (w3.heap.size) #[.int .i64 3, .int .i64 A2] := Blk.keep (by (repeat (first | (with_reducible assumption) | (refine blk_at _ _ ?_; simp; done) | (refine Blk.old ?_ _)))) hk5
  have B5x5 : Blk w5 (w4.heap.size) #[.int .i64 c3, .int .i64 a3] := Blk.keep (by (repeat (first | (with_reducible assumption) | (refine blk_at _ _ ?_; simp; done) | (refine Blk.old ?_ _)))) hk5
  clear K4 hk5 B0x4 B1x4 B2x4 B3x4 B4x4 c0a c0b f0a f0b l0 m0 M0 c1a c1b f1a f1b l1 m1 M1 c2a c2b f2a f2b l2 m2 M2 c3a c3b f3a f3b l3 m3 M3 c4a c4b f4a f4b l4 m4 M4
  obtain ⟨c0a, c0b, f0a, f0b, l0⟩ := B0x5.two
  have m0 : ¬ w5.heap.size = w.heap.size := by omega
  have M0 : ¬ w5.heap.size + 1 = w.heap.size := by omega
  obtain ⟨c1a, c1b, f1a, f1b, l1⟩ := B1x5.two
  have m1 : ¬ w5.heap.size = w.heap.size + 1 := by omega
  have M1 : ¬ w5.heap.size + 1 = w.heap.size + 1 := by omega
  obtain ⟨c2a, c2b, f2a, f2b, l2⟩ := B2x5.two
  have m2 : ¬ w5.heap.size = w.heap.size + 1 + 1 := by omega
  have M2 : ¬ w5.heap.size + 1 = w.heap.size + 1 + 1 := by omega
  obtain ⟨c3a, c3b, f3a, f3b, l3⟩ := B3x5.two
  have m3 : ¬ w5.heap.size = w2.heap.size := by omega
  have M3 : ¬ w5.heap.size + 1 = w2.heap.size := by omega
  obtain ⟨c4a, c4b, f4a, f4b, l4⟩ := B4x5.two
  have m4 : ¬ w5.heap.size = w3.heap.size := by omega
  have M4 : ¬ w5.heap.size + 1 = w3.heap.size := by omega
  obtain ⟨c5a, c5b, f5a, f5b, l5⟩ := B5x5.two
  have m5 : ¬ w5.heap.size = w4.heap.size := by omega
  have M5 : ¬ w5.heap.size + 1 = w4.heap.size := by omega
  rw [HL4.out]
  go_wp2
  go_returns
  exact ⟨rfl, Keep.bel (by (repeat' (first | (with_reducible assumption) | (with_reducible exact HK.out) | (with_reducible exact Keep.refl _ _) | (with_reducible refine Keep.alloc ?_ _) | (with_reducible refine Keep.setCell ?_ _ (fun h => absurd h (by omega))) | (with_reducible refine Keep.drewN ?_ _) | (with_reducible refine Keep.drew ?_))))⟩

set_option maxRecDepth 100000 in
set_option maxHeartbeats 32000000 in
theorem fracOrder_bad2 (w : World) (n1 d1 n2 d2 n3 d3 : Int) (h1 : FracOK n1 d1) (h2 : FracOK n2 d2) (h3 : ¬ FracOK n3 d3) :
    Calls Try.prog 7 #[.agg #[.int .i64 n1, .int .i64 d1], .agg #[.int .i64 n2, .int .i64 d2], .agg #[.int .i64 n3, .int .i64 d3]] w fun e w' => e = .returned (.bool true) ∧ Below w.heap.size w w' := by
  have HL1 := Lib.hid (less_made h1 h2)
  have HL2 := Lib.hid (less_made h2 h1)
  have HL3 := Lib.hid (less_bad (n1 := n2) (d1 := d2) (n2 := n3) (d2 := d3) fun h => h3 h.2)
  have HL4 := Lib.hid (less_bad (n1 := n1) (d1 := d1) (n2 := n3) (d2 := d3) fun h => h3 h.2)
  clear h1 h2 h3
  generalize decide (fr n1 d1 < fr n2 d2) = b1 at *
  generalize decide (fr n2 d2 < fr n1 d1) = b2 at *
  generalize ckA n2 d2 n3 d3 = A3 at *
  generalize ckA n1 d1 n3 d3 = A4 at *
  go_enter Try.func7, Try.ntmps7
  go_wp2_with fail
  refine (fracFact_any _).mono ?_
  rintro e w1 ⟨rfl, hk1⟩
  have K1 : Keep NoS w w1 := Keep.trans (by (repeat' (first | (with_reducible assumption) | (with_reducible exact HK.out) | (with_reducible exact Keep.refl _ _) | (with_reducible refine Keep.alloc ?_ _) | (with_reducible refine Keep.setCell ?_ _ (fun h => absurd h (by omega))) | (with_reducible refine Keep.drewN ?_ _) | (with_reducible refine Keep.drew ?_)))) hk1 fun _ _ _ h => h
  have B0x1 : Blk w1 (w.heap.size) #[.int .i64 n1, .int .i64 d1] := Blk.keep (by (repeat (first | (with_reducible assumption) | (refine blk_at _ _ ?_; simp; done) | (refine Blk.old ?_ _)))) hk1
  have B1x1 : Blk w1 (w.heap.size + 1) #[.int .i64 n2, .int .i64 d2] := Blk.keep (by (repeat (first | (with_reducible assumption) | (refine blk_at _ _ ?_; simp; done) | (refine Blk.old ?_ _)))) hk1
  have B2x1 : Blk w1 (w.heap.size + 1 + 1) #[.int .i64 n3, .int .i64 d3] := Blk.keep (by (repeat (first | (with_reducible assumption) | (refine blk_at _ _ ?_; simp; done) | (refine Blk.old ?_ _)))) hk1
  clear hk1
  obtain ⟨c0a, c0b, f0a, f0b, l0⟩ := B0x1.two
  have m0 : ¬ w1.heap.size = w.heap.size := by omega
  have M0 : ¬ w1.heap.size + 1 = w.heap.size := by omega
  obtain ⟨c1a, c1b, f1a, f1b, l1⟩ := B1x1.two
  have m1 : ¬ w1.heap.size = w.heap.size + 1 := by omega
  have M1 : ¬ w1.heap.size + 1 = w.heap.size + 1 := by omega
  obtain ⟨c2a, c2b, f2a, f2b, l2⟩ := B2x1.two
  have m2 : ¬ w1.heap.size = w.heap.size + 1 + 1 := by omega
  have M2 : ¬ w1.heap.size + 1 = w.heap.size + 1 + 1 := by omega
  go_wp2_with fail
  refine (less_any n1 d1 n2 d2 _).mono ?_
  rintro e w2 ⟨rfl, hk2⟩
  have K2 : Keep NoS w w2 := Keep.trans (by (repeat' (first | (with_reducible assumption) | (with_reducible exact HK.out) | (with_reducible exact Keep.refl _ _) | (with_reducible refine Keep.alloc ?_ _) | (with_reducible refine Keep.setCell ?_ _ (fun h => absurd h (by omega))) | (with_reducible refine Keep.drewN ?_ _) | (with_reducible refine Keep.drew ?_)))) hk2 fun _ _ _ h => h
  have B0x2 : Blk w2 (w.heap.size) #[.int .i64 n1, .int .i64 d1] := Blk.keep (by (repeat (first | (with_reducible assumption) | (refine blk_at _ _ ?_; simp; done) | (refine Blk.old ?_ _)))) hk2
  have B1x2 : Blk w2 (w.heap.size + 1) #[.int .i64 n2, .int .i64 d2] := Blk.keep (by (repeat (first | (with_reducible assumption) | (refine blk_at _ _ ?_; simp; done) | (refine Blk.old ?_ _)))) hk2
  have B2x2 : Blk w2 (w.heap.size + 1 + 1) #[.int .i64 n3, .int .i64 d3] := Blk.keep (by (repeat (first | (with_reducible assumption) | (refine blk_at _ _ ?_; simp; done) | (refine Blk.old ?_ _)))) hk2
  clear K1 hk2 B0x1 B1x1 B2x1 c0a c0b f0a f0b l0 m0 M0 c1a c1b f1a f1b l1 m1 M1 c2a c2b f2a f2b l2 m2 M2
  obtain ⟨c0a, c0b, f0a, f0b, l0⟩ := B0x2.two
  have m0 : ¬ w2.heap.size = w.heap.size := by omega
  have M0 : ¬ w2.heap.size + 1 = w.heap.size := by omega
  obtain ⟨c1a, c1b, f1a, f1b, l1⟩ := B1x2.two
  have m1 : ¬ w2.heap.size = w.heap.size + 1 := by omega
  have M1 : ¬ w2.heap.size + 1 = w.heap.size + 1 := by omega
  obtain ⟨c2a, c2b, f2a, f2b, l2⟩ := B2x2.two
  have m2 : ¬ w2.heap.size = w.heap.size + 1 + 1 := by omega
  have M2 : ¬ w2.heap.size + 1 = w.heap.size + 1 + 1 := by omega
  rw [HL1.out]
  go_wp2_with fail
  refine (less_any n2 d2 n1 d1 _).mono ?_
  rintro e w3 ⟨rfl, hk3⟩
  have K3 : Keep NoS w w3 := Keep.trans (by (repeat' (first | (with_reducible assumption) | (with_reducible exact HK.out) | (with_reducible exact Keep.refl _ _) | (with_reducible refine Keep.alloc ?_ _) | (with_reducible refine Keep.setCell ?_ _ (fun h => absurd h (by omega))) | (with_reducible refine Keep.drewN ?_ _) | (with_reducible refine Keep.drew ?_)))) hk3 fun _ _ _ h => h
  have B0x3 : Blk w3 (w.heap.size) #[.int .i64 n1, .int .i64 d1] := Blk.keep (by (repeat (first | (with_reducible assumption) | (refine blk_at _ _ ?_; simp; done) | (refine Blk.old ?_ _)))) hk3
  have B1x3 : Blk w3 (w.heap.size + 1) #[.int .i64 n2, .int .i64 d2] := Blk.keep (by (repeat (first | (with_reducible assumption) | (refine blk_at _ _ ?_; simp; done) | (refine Blk.old ?_ _)))) hk3
  have B2x3 : Blk w3 (w.heap.size + 1 + 1) #[.int .i64 n3, .int .i64 d3] := Blk.keep (by (repeat (first | (with_reducible assumption) | (refine blk_at _ _ ?_; simp; done) | (refine Blk.old ?_ _)))) hk3
  have B3x3 : Blk w3 (w2.heap.size) #[.int .i64 0, .int .i64 0] := Blk.keep (by (repeat (first | (with_reducible assumption) | (refine blk_at _ _ ?_; simp; done) | (refine Blk.old ?_ _)))) hk3
  clear K2 hk3 B0x2 B1x2 B2x2 c0a c0b f0a f0b l0 m0 M0 c1a c1b f1a f1b l1 m1 M1 c2a c2b f2a f2b l2 m2 M2
  obtain ⟨c0a, c0b, f0a, f0b, l0⟩ := B0x3.two
  have m0 : ¬ w3.heap.size = w.heap.size := by omega
  have M0 : ¬ w3.heap.size + 1 = w.heap.size := by omega
  obtain ⟨c1a, c1b, f1a, f1b, l1⟩ := B1x3.two
  have m1 : ¬ w3.heap.size = w.heap.size + 1 := by omega
  have M1 : ¬ w3.heap.size + 1 = w.heap.size + 1 := by omega
  obtain ⟨c2a, c2b, f2a, f2b, l2⟩ := B2x3.two
  have m2 : ¬ w3.heap.size = w.heap.size + 1 + 1 := by omega
  have M2 : ¬ w3.heap.size + 1 = w.heap.size + 1 + 1 := by omega
  obtain ⟨c3a, c3b, f3a, f3b, l3⟩ := B3x3.two
  have m3 : ¬ w3.heap.size = w2.heap.size := by omega
  have M3 : ¬ w3.heap.size + 1 = w2.heap.size := by omega
  rw [HL2.out]
  go_wp2_with fail
  refine (less_any n2 d2 n3 d3 _).mono ?_
  rintro e w4 ⟨rfl, hk4⟩
  have K4 : Keep NoS w w4 := Keep.trans (by (repeat' (first | (with_reducible assumption) | (with_reducible exact HK.out) | (with_reducible exact Keep.refl _ _) | (with_reducible refine Keep.alloc ?_ _) | (with_reducible refine Keep.setCell ?_ _ (fun h => absurd h (by omega))) | (with_reducible refine Keep.drewN ?_ _) | (with_reducible refine Keep.drew ?_)))) hk4 fun _ _ _ h => h
  have B0x4 : Blk w4 (w.heap.size) #[.int .i64 n1, .int .i64 d1] := Blk.keep (by (repeat (first | (with_reducible assumption) | (refine blk_at _ _ ?_; simp; done) | (refine Blk.old ?_ _)))) hk4
  have B1x4 : Blk w4 (w.heap.size + 1) #[.int .i64 n2, .int .i64 d2] := Blk.keep (by (repeat (first | (with_reducible assumption) | (refine blk_at _ _ ?_; simp; done) | (refine Blk.old ?_ _)))) hk4
  have B2x4 : Blk w4 (w.heap.size + 1 + 1) #[.int .i64 n3, .int .i64 d3] := Blk.keep (by (repeat (first | (with_reducible assumption) | (refine blk_at _ _ ?_; simp; done) | (refine Blk.old ?_ _)))) hk4
  have B3x4 : Blk w4 (w2.heap.size) #[.int .i64 0, .int .i64 0] := Blk.keep (by (repeat (first | (with_reducible assumption) | (refine blk_at _ _ ?_; simp; done) | (refine Blk.old ?_ _)))) hk4
  have B4x4 : Blk w4 (w3.heap.size) #[.int .i64 0, .int .i64 0] := Blk.keep (by (repeat (first | (with_reducible assumption) | (refine blk_at _ _ ?_; simp; done) | (refine Blk.old ?_ _)))) hk4
  clear K3 hk4 B0x3 B1x3 B2x3 B3x3 c0a c0b f0a f0b l0 m0 M0 c1a c1b f1a f1b l1 m1 M1 c2a c2b f2a f2b l2 m2 M2 c3a c3b f3a f3b l3 m3 M3
  obtain ⟨c0a, c0b, f0a, f0b, l0⟩ := B0x4.two
  have m0 : ¬ w4.heap.size = w.heap.size := by omega
  have M0 : ¬ w4.heap.size + 1 = w.heap.size := by omega
  obtain ⟨c1a, c1b, f1a, f1b, l1⟩ := B1x4.two
  have m1 : ¬ w4.heap.size = w.heap.size + 1 := by omega
  have M1 : ¬ w4.heap.size + 1 = w.heap.size + 1 := by omega
  obtain ⟨c2a, c2b, f2a, f2b, l2⟩ := B2x4.two
  have m2 : ¬ w4.heap.size = w.heap.size + 1 + 1 := by omega
  have M2 : ¬ w4.heap.size + 1 = w.heap.size + 1 + 1 := by omega
  obtain ⟨c3a, c3b, f3a, f3b, l3⟩ := B3x4.two
  have m3 : ¬ w4.heap.size = w2.heap.size := by omega
  have M3 : ¬ w4.heap.size + 1 = w2.heap.size := by omega
  obtain ⟨c4a, c4b, f4a, f4b, l4⟩ := B4x4.two
  have m4 : ¬ w4.heap.size = w3.heap.size := by omega
  have M4 : ¬ w4.heap.size + 1 = w3.heap.size := by omega
  rw [HL3.out]
  go_wp2_with fail
  refine (less_any n1 d1 n3 d3 _).mono ?_
  rintro e w5 ⟨rfl, hk5⟩
  have K5 : Keep NoS w w5 := Keep.trans (by (repeat' (first | (with_reducible assumption) | (with_reducible exact HK.out) | (with_reducible exact Keep.refl _ _) | (with_reducible refine Keep.alloc ?_ _) | (with_reducible refine Keep.setCell ?_ _ (fun h => absurd h (by omega))) | (with_reducible refine Keep.drewN ?_ _) | (with_reducible refine Keep.drew ?_)))) hk5 fun _ _ _ h => h
  have B0x5 : Blk w5 (w.heap.size) #[.int .i64 n1, .int .i64 d1] := Blk.keep (by (repeat (first | (with_reducible assumption) | (refine blk_at _ _ ?_; simp; done) | (refine Blk.old ?_ _)))) hk5
  have B1x5 : Blk w5 (w.heap.size + 1) #[.int .i64 n2, .int .i64 d2] := Blk.keep (by (repeat (first | (with_reducible assumption) | (refine blk_at _ _ ?_; simp; done) | (refine Blk.old ?_ _)))) hk5
  have B2x5 : Blk w5 (w.heap.size + 1 + 1) #[.int .i64 n3, .int .i64 d3] := Blk.keep (by (repeat (first | (with_reducible assumption) | (refine blk_at _ _ ?_; simp; done) | (refine Blk.old ?_ _)))) hk5
  have B3x5 : Blk w5 (w2.heap.size) #[.int .i64 0, .int .i64 0] := Blk.keep (by (repeat (first | (with_reducible assumption) | (refine blk_at _ _ ?_; simp; done) | (refine Blk.old ?_ _)))) hk5
  have B4x5 : Blk w5 (w3.heap.size) #[.int .i64 0, .int .i64 0] := Blk.keep (by (repeat (first | (with_reducible assumption) | (refine blk_at _ _ ?_; simp; done) | (refine Blk.old ?_ _)))) hk5
  have B5x5 : Blk w5 (w4.heap.size) #[.int .i64 3, .int .i64 A3] := Blk.keep (by (repeat (first | (with_reducible assumption) | (refine blk_at _ _ ?_; simp; done) | (refine Blk.old ?_ _)))) hk5
  clear K4 hk5 B0x4 B1x4 B2x4 B3x4 B4x4 c0a c0b f0a f0b l0 m0 M0 c1a c1b f1a f1b l1 m1 M1 c2a c2b f2a f2b l2 m2 M2 c3a c3b f3a f3b l3 m3 M3 c4a c4b f4a f4b l4 m4 M4
  obtain ⟨c0a, c0b, f0a, f0b, l0⟩ := B0x5.two
  have m0 : ¬ w5.heap.size = w.heap.size := by omega
  have M0 : ¬ w5.heap.size + 1 = w.heap.size := by omega
  obtain ⟨c1a, c1b, f1a, f1b, l1⟩ := B1x5.two
  have m1 : ¬ w5.heap.size = w.heap.size + 1 := by omega
  have M1 : ¬ w5.heap.size + 1 = w.heap.size + 1 := by omega
  obtain ⟨c2a, c2b, f2a, f2b, l2⟩ := B2x5.two
  have m2 : ¬ w5.heap.size = w.heap.size + 1 + 1 := by omega
  have M2 : ¬ w5.heap.size + 1 = w.heap.size + 1 + 1 := by omega
  obtain ⟨c3a, c3b, f3a, f3b, l3⟩ := B3x5.two
  have m3 : ¬ w5.heap.size = w2.heap.size := by omega
  have M3 : ¬ w5.heap.size + 1 = w2.heap.size := by omega
  obtain ⟨c4a, c4b, f4a, f4b, l4⟩ := B4x5.two
  have m4 : ¬ w5.heap.size = w3.heap.size := by omega
  have M4 : ¬ w5.heap.size + 1 = w3.heap.size := by omega
  obtain ⟨c5a, c5b, f5a, f5b, l5⟩ := B5x5.two
  have m5 : ¬ w5.heap.size = w4.heap.size := by omega
  have M5 : ¬ w5.heap.size + 1 = w4.heap.size := by omega
  rw [HL4.out]
  go_wp2
  go_returns
  exact ⟨rfl, Keep.bel (by (repeat' (first | (with_reducible assumption) | (with_reducible exact HK.out) | (with_reducible exact Keep.refl _ _) | (with_reducible refine Keep.alloc ?_ _) | (with_reducible refine Keep.setCell ?_ _ (fun h => absurd h (by omega))) | (with_reducible refine Keep.drewN ?_ _) | (with_reducible refine Keep.drew ?_))))⟩

end Go.Proofs.Ytnmklgigmmlgeaa
