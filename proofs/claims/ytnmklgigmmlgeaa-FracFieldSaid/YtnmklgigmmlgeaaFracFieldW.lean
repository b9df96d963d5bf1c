/- The walk of the law FracField. -/
import Derived.Test.YtnmklgigmmlgeaaFracRat
import Derived.Test.YtnmklgigmmlgeaaOpen
import Derived.Deep.DeepCutAuto
namespace Go.Proofs.Ytnmklgigmmlgeaa
open Go.ChangeShapes Go.WideShapes Go.RowKit
set_option linter.unusedVariables false
set_option linter.unusedSimpArgs false

theorem op_form (n1 d1 n2 d2 x y : Int) : ∃ n d c a, opV n1 d1 n2 d2 x y = .tuple #[.agg #[.int .i64 n, .int .i64 d], .agg #[.int .i64 c, .int .i64 a]] := by
  unfold opV makeV
  split <;> exact ⟨_, _, _, _, rfl⟩

set_option maxRecDepth 100000 in
set_option maxHeartbeats 64000000 in
theorem fracField_bad1 (w : World) (n1 d1 n2 d2 n3 d3 : Int) (hk : ¬ (FracOK n1 d1 ∧ FracOK n2 d2)) :
    Calls Try.prog 9 #[.agg #[.int .i64 n1, .int .i64 d1], .agg #[.int .i64 n2, .int .i64 d2], .agg #[.int .i64 n3, .int .i64 d3]] w fun e w' => e = .returned (.bool true) ∧ Below w.heap.size w w' := by
  have hk' : ¬ (FracOK n2 d2 ∧ FracOK n1 d1) := fun h => hk ⟨h.2, h.1⟩
  have HA := Lib.hid (op_bad hk (n1 * d2 + n2 * d1) (d1 * d2))
  have HB := Lib.hid (op_bad hk' (n2 * d1 + n1 * d2) (d2 * d1))
  obtain ⟨nC, dC, cC, aC, hC⟩ := op_form n2 d2 n3 d3 (n2 * d3 + n3 * d2) (d2 * d3)
  have HC := Lib.hid hC
  clear hC
  have HD := Lib.hid (op_bad hk (n1 * n2) (d1 * d2))
  have HE := Lib.hid (op_bad hk' (n2 * n1) (d2 * d1))
  obtain ⟨nF, dF, cF, aF, hF⟩ := op_form n2 d2 n3 d3 (n2 * n3) (d2 * d3)
  have HF := Lib.hid hF
  clear hF
  obtain ⟨nG, dG, cG, aG, hG⟩ := op_form n1 d1 n3 d3 (n1 * n3) (d1 * d3)
  have HG := Lib.hid hG
  clear hG
  clear hk hk'
  generalize ckA n1 d1 n2 d2 = A1 at *
  generalize ckA n2 d2 n1 d1 = A2 at *
  go_enter Try.func9, Try.ntmps9
  go_wp2_with fail
  refine (fracFact_any _).mono ?_
  rintro e w1 ⟨rfl, hk1⟩
  have K1 : Keep NoS w w1 := Keep.trans (by (repeat' (first | (with_reducible assumption) | (with_reducible exact HK.out) | (with_reducible exact Keep.refl _ _) | (with_reducible refine Keep.alloc ?_ _) | (with_reducible refine Keep.setCell ?_ _ (fun h => absurd h (by omega))) | (with_reducible refine Keep.drewN ?_ _) | (with_reducible refine Keep.drew ?_)))) hk1 fun _ _ _ h => h
  have B0x1 : Blk w1 (w.heap.size) #[.int .i64 n1, .int .i64 d1] := Blk.keep (by (repeat (first | (with_reducible assumption) | (refine blk_at _ _ ?_; simp; done) | (refine Blk.old ?_ _)))) hk1
  have B1x1 : Blk w1 (w.heap.size + 1) #[.int .i64 n2, .int .i64 d2] := Blk.keep (by (repeat (first | (with_reducible assumption) | (refine blk_at _ _ ?_; simp; done) | (refine Blk.old ?_ _)))) hk1
  have B2x1 : Blk w1 (w.heap.size + 1 + 1) #[.int .i64 n3, .int .i64 d3] := Blk.keep (by (repeat (first | (with_reducible assumption) | (refine blk_at _ _ ?_; simp; done) | (refine Blk.old ?_ _)))) hk1
  clear hk1
  obtain ⟨c0a, c0b, f0a, f0b, l0⟩ := B0x1.two
  have m0 : ¬ w1.heap.size = w.heap.size := by omega
  have M0 : ¬ w1.heap.size + 1 = w.heap.size := by omega
  obtain ⟨c1a, c1b, f1a, f1b, l1⟩ := B1x1.two
  have m1 : ¬ w1.heap.size = w.heap.size + 1 := by omega
  have M1 : ¬ w1.heap.size + 1 = w.heap.size + 1 := by omega
  have N1 : ¬ w1.heap.size = w.heap.size := by omega
  have L1 : w.heap.size < w1.heap.size := by omega
  go_wp2_with fail
  refine (op_Add n1 d1 n2 d2 _).mono ?_
  rintro e w2 ⟨rfl, hk2⟩
  have K2 : Keep NoS w w2 := Keep.trans (by (repeat' (first | (with_reducible assumption) | (with_reducible exact HK.out) | (with_reducible exact Keep.refl _ _) | (with_reducible refine Keep.alloc ?_ _) | (with_reducible refine Keep.setCell ?_ _ (fun h => absurd h (by omega))) | (with_reducible refine Keep.drewN ?_ _) | (with_reducible refine Keep.drew ?_)))) hk2 fun _ _ _ h => h
  have B0x2 : Blk w2 (w.heap.size) #[.int .i64 n1, .int .i64 d1] := Blk.keep (by (repeat (first | (with_reducible assumption) | (refine blk_at _ _ ?_; simp; done) | (refine Blk.old ?_ _)))) hk2
  have B1x2 : Blk w2 (w.heap.size + 1) #[.int .i64 n2, .int .i64 d2] := Blk.keep (by (repeat (first | (with_reducible assumption) | (refine blk_at _ _ ?_; simp; done) | (refine Blk.old ?_ _)))) hk2
  have B2x2 : Blk w2 (w.heap.size + 1 + 1) #[.int .i64 n3, .int .i64 d3] := Blk.keep (by (repeat (first | (with_reducible assumption) | (refine blk_at _ _ ?_; simp; done) | (refine Blk.old ?_ _)))) hk2
  clear K1 hk2 B0x1 B1x1 B2x1 c0a c0b f0a f0b l0 m0 M0 N1 L1 c1a c1b f1a f1b l1 m1 M1
  obtain ⟨c0a, c0b, f0a, f0b, l0⟩ := B0x2.two
  have m0 : ¬ w2.heap.size = w.heap.size := by omega
  have M0 : ¬ w2.heap.size + 1 = w.heap.size := by omega
  obtain ⟨c1a, c1b, f1a, f1b, l1⟩ := B1x2.two
  have m1 : ¬ w2.heap.size = w.heap.size + 1 := by omega
  have M1 : ¬ w2.heap.size + 1 = w.heap.size + 1 := by omega
  have N1 : ¬ w2.heap.size = w.heap.size := by omega
  have L1 : w.heap.size < w2.heap.size := by omega
  rw [HA.out]
  go_wp2_with fail
  refine (op_Add n2 d2 n1 d1 _).mono ?_
  rintro e w3 ⟨rfl, hk3⟩
  have K3 : Keep NoS w w3 := Keep.trans (by (repeat' (first | (with_reducible assumption) | (with_reducible exact HK.out) | (with_reducible exact Keep.refl _ _) | (with_reducible refine Keep.alloc ?_ _) | (with_reducible refine Keep.setCell ?_ _ (fun h => absurd h (by omega))) | (with_reducible refine Keep.drewN ?_ _) | (with_reducible refine Keep.drew ?_)))) hk3 fun _ _ _ h => h
  have B0x3 : Blk w3 (w.heap.size) #[.int .i64 n1, .int .i64 d1] := Blk.keep (by (repeat (first | (with_reducible assumption) | (refine blk_at _ _ ?_; simp; done) | (refine Blk.old ?_ _)))) hk3
  have B1x3 : Blk w3 (w.heap.size + 1) #[.int .i64 n2, .int .i64 d2] := Blk.keep (by (repeat (first | (with_reducible assumption) | (refine blk_at _ _ ?_; simp; done) | (refine Blk.old ?_ _)))) hk3
  have B2x3 : Blk w3 (w.heap.size + 1 + 1) #[.int .i64 n3, .int .i64 d3] := Blk.keep (by (repeat (first | (with_reducible assumption) | (refine blk_at _ _ ?_; simp; done) | (refine Blk.old ?_ _)))) hk3
  have B3x3 : Blk w3 (w2.heap.size) #[.int .i64 0, .int .i64 0] := Blk.keep (by (repeat (first | (with_reducible assumption) | (refine blk_at _ _ ?_; simp; done) | (refine Blk.old ?_ _)))) hk3
  have B4x3 : Blk w3 (w2.heap.size + 1) #[.int .i64 3, .int .i64 A1] := Blk.keep (by (repeat (first | (with_reducible assumption) | (refine blk_at _ _ ?_; simp; done) | (refine Blk.old ?_ _)))) hk3
  clear K2 hk3 B0x2 B1x2 B2x2 c0a c0b f0a f0b l0 m0 M0 N1 L1 c1a c1b f1a f1b l1 m1 M1
  obtain ⟨c1a, c1b, f1a, f1b, l1⟩ := B1x3.two
  have m1 : ¬ w3.heap.size = w.heap.size + 1 := by omega
  have M1 : ¬ w3.heap.size + 1 = w.heap.size + 1 := by omega
  have N1 : ¬ w3.heap.size = w.heap.size := by omega
  have L1 : w.heap.size < w3.heap.size := by omega
  obtain ⟨c2a, c2b, f2a, f2b, l2⟩ := B2x3.two
  have m2 : ¬ w3.heap.size = w.heap.size + 1 + 1 := by omega
  have M2 : ¬ w3.heap.size + 1 = w.heap.size + 1 + 1 := by omega
  have N2 : ¬ w3.heap.size = w.heap.size + 1 := by omega
  have L2 : w.heap.size + 1 < w3.heap.size := by omega
  rw [HB.out]
  go_wp2_with fail
  refine (op_Add n2 d2 n3 d3 _).mono ?_
  rintro e w4 ⟨rfl, hk4⟩
  have K4 : Keep NoS w w4 := Keep.trans (by (repeat' (first | (with_reducible assumption) | (with_reducible exact HK.out) | (with_reducible exact Keep.refl _ _) | (with_reducible refine Keep.alloc ?_ _) | (with_reducible refine Keep.setCell ?_ _ (fun h => absurd h (by omega))) | (with_reducible refine Keep.drewN ?_ _) | (with_reducible refine Keep.drew ?_)))) hk4 fun _ _ _ h => h
  have B0x4 : Blk w4 (w.heap.size) #[.int .i64 n1, .int .i64 d1] := Blk.keep (by (repeat (first | (with_reducible assumption) | (refine blk_at _ _ ?_; simp; done) | (refine Blk.old ?_ _)))) hk4
  have B1x4 : Blk w4 (w.heap.size + 1) #[.int .i64 n2, .int .i64 d2] := Blk.keep (by (repeat (first | (with_reducible assumption) | (refine blk_at _ _ ?_; simp; done) | (refine Blk.old ?_ _)))) hk4
  have B2x4 : Blk w4 (w.heap.size + 1 + 1) #[.int .i64 n3, .int .i64 d3] := Blk.keep (by (repeat (first | (with_reducible assumption) | (refine blk_at _ _ ?_; simp; done) | (refine Blk.old ?_ _)))) hk4
  have B3x4 : Blk w4 (w2.heap.size) #[.int .i64 0, .int .i64 0] := Blk.keep (by (repeat (first | (with_reducible assumption) | (refine blk_at _ _ ?_; simp; done) | (refine Blk.old ?_ _)))) hk4
  have B4x4 : Blk w4 (w2.heap.size + 1) #[.int .i64 3, .int .i64 A1] := Blk.keep (by (repeat (first | (with_reducible assumption) | (refine blk_at _ _ ?_; simp; done) | (refine Blk.old ?_ _)))) hk4
  have B5x4 : Blk w4 (w3.heap.size) #[.int .i64 0, .int .i64 0] := Blk.keep (by (repeat (first | (with_reducible assumption) | (refine blk_at _ _ ?_; simp; done) | (refine Blk.old ?_ _)))) hk4
  have B6x4 : Blk w4 (w3.heap.size + 1) #[.int .i64 3, .int .i64 A2] := Blk.keep (by (repeat (first | (with_reducible assumption) | (refine blk_at _ _ ?_; simp; done) | (refine Blk.old ?_ _)))) hk4
  clear K3 hk4 B0x3 B1x3 B2x3 B3x3 B4x3 N1 L1 c1a c1b f1a f1b l1 m1 M1 N2 L2 c2a c2b f2a f2b l2 m2 M2
  obtain ⟨c0a, c0b, f0a, f0b, l0⟩ := B0x4.two
  have m0 : ¬ w4.heap.size = w.heap.size := by omega
  have M0 : ¬ w4.heap.size + 1 = w.heap.size := by omega
  obtain ⟨c1a, c1b, f1a, f1b, l1⟩ := B1x4.two
  have m1 : ¬ w4.heap.size = w.heap.size + 1 := by omega
  have M1 : ¬ w4.heap.size + 1 = w.heap.size + 1 := by omega
  have N1 : ¬ w4.heap.size = w.heap.size := by omega
  have L1 : w.heap.size < w4.heap.size := by omega
  rw [HC.out]
  go_wp2_with fail
  refine (op_Times n1 d1 n2 d2 _).mono ?_
  rintro e w5 ⟨rfl, hk5⟩
  have K5 : Keep NoS w w5 := Keep.trans (by (repeat' (first | (with_reducible assumption) | (with_reducible exact HK.out) | (with_reducible exact Keep.refl _ _) | (with_reducible refine Keep.alloc ?_ _) | (with_reducible refine Keep.setCell ?_ _ (fun h => absurd h (by omega))) | (with_reducible refine Keep.drewN ?_ _) | (with_reducible refine Keep.drew ?_)))) hk5 fun _ _ _ h => h
  have B0x5 : Blk w5 (w.heap.size) #[.int .i64 n1, .int .i64 d1] := Blk.keep (by (repeat (first | (with_reducible assumption) | (refine blk_at _ _ ?_; simp; done) | (refine Blk.old ?_ _)))) hk5
  have B1x5 : Blk w5 (w.heap.size + 1) #[.int .i64 n2, .int .i64 d2] := Blk.keep (by (repeat (first | (with_reducible assumption) | (refine blk_at _ _ ?_; simp; done) | (refine Blk.old ?_ _)))) hk5
  have B2x5 : Blk w5 (w.heap.size + 1 + 1) #[.int .i64 n3, .int .i64 d3] := Blk.keep (by (repeat (first | (with_reducible assumption) | (refine blk_at _ _ ?_; simp; done) | (refine Blk.old ?_ _)))) hk5
  have B3x5 : Blk w5 (w2.heap.size) #[.int .i64 0, .int .i64 0] := Blk.keep (by (repeat (first | (with_reducible assumption) | (refine blk_at _ _ ?_; simp; done) | (refine Blk.old ?_ _)))) hk5
  have B4x5 : Blk w5 (w2.heap.size + 1) #[.int .i64 3, .int .i64 A1] := Blk.keep (by (repeat (first | (with_reducible assumption) | (refine blk_at _ _ ?_; simp; done) | (refine Blk.old ?_ _)))) hk5
  have B5x5 : Blk w5 (w3.heap.size) #[.int .i64 0, .int .i64 0] := Blk.keep (by (repeat (first | (with_reducible assumption) | (refine blk_at _ _ ?_; simp; done) | (refine Blk.old ?_ _)))) hk5
  have B6x5 : Blk w5 (w3.heap.size + 1) #[.int .i64 3, .int .i64 A2] := Blk.keep (by (repeat (first | (with_reducible assumption) | (refine blk_at _ _ ?_; simp; done) | (refine Blk.old ?_ _)))) hk5
  have B7x5 : Blk w5 (w4.heap.size) #[.int .i64 nC, .int .i64 dC] := Blk.keep (by (repeat (first | (with_reducible assumption) | (refine blk_at _ _ ?_; simp; done) | (refine Blk.old ?_ _)))) hk5
  have B8x5 : Blk w5 (w4.heap.size + 1) #[.int .i64 cC, .int .i64 aC] := Blk.keep (by (repeat (first | (with_reducible assumption) | (refine blk_at _ _ ?_; simp; done) | (refine Blk.old ?_ _)))) hk5
  clear K4 hk5 B0x4 B1x4 B2x4 B3x4 B4x4 B5x4 B6x4 c0a c0b f0a f0b l0 m0 M0 N1 L1 c1a c1b f1a f1b l1 m1 M1
  obtain ⟨c0a, c0b, f0a, f0b, l0⟩ := B0x5.two
  have m0 : ¬ w5.heap.size = w.heap.size := by omega
  have M0 : ¬ w5.heap.size + 1 = w.heap.size := by omega
  obtain ⟨c1a, c1b, f1a, f1b, l1⟩ := B1x5.two
  have m1 : ¬ w5.heap.size = w.heap.size + 1 := by omega
  have M1 : ¬ w5.heap.size + 1 = w.heap.size + 1 := by omega
  have N1 : ¬ w5.heap.size = w.heap.size := by omega
  have L1 : w.heap.size < w5.heap.size := by omega
  rw [HD.out]
  go_wp2_with fail
  refine (op_Times n2 d2 n1 d1 _).mono ?_
  rintro e w6 ⟨rfl, hk6⟩
  have K6 : Keep NoS w w6 := Keep.trans (by (repeat' (first | (with_reducible assumption) | (with_reducible exact HK.out) | (with_reducible exact Keep.refl _ _) | (with_reducible refine Keep.alloc ?_ _) | (with_reducible refine Keep.setCell ?_ _ (fun h => absurd h (by omega))) | (with_reducible refine Keep.drewN ?_ _) | (with_reducible refine Keep.drew ?_)))) hk6 fun _ _ _ h => h
  have B0x6 : Blk w6 (w.heap.size) #[.int .i64 n1, .int .i64 d1] := Blk.keep (by (repeat (first | (with_reducible assumption) | (refine blk_at _ _ ?_; simp; done) | (refine Blk.old ?_ _)))) hk6
  have B1x6 : Blk w6 (w.heap.size + 1) #[.int .i64 n2, .int .i64 d2] := Blk.keep (by (repeat (first | (with_reducible assumption) | (refine blk_at _ _ ?_; simp; done) | (refine Blk.old ?_ _)))) hk6
  have B2x6 : Blk w6 (w.heap.size + 1 + 1) #[.int .i64 n3, .int .i64 d3] := Blk.keep (by (repeat (first | (with_reducible assumption) | (refine blk_at _ _ ?_; simp; done) | (refine Blk.old ?_ _)))) hk6
  have B3x6 : Blk w6 (w2.heap.size) #[.int .i64 0, .int .i64 0] := Blk.keep (by (repeat (first | (with_reducible assumption) | (refine blk_at _ _ ?_; simp; done) | (refine Blk.old ?_ _)))) hk6
  have B4x6 : Blk w6 (w2.heap.size + 1) #[.int .i64 3, .int .i64 A1] := Blk.keep (by (repeat (first | (with_reducible assumption) | (refine blk_at _ _ ?_; simp; done) | (refine Blk.old ?_ _)))) hk6
  have B5x6 : Blk w6 (w3.heap.size) #[.int .i64 0, .int .i64 0] := Blk.keep (by (repeat (first | (with_reducible assumption) | (refine blk_at _ _ ?_; simp; done) | (refine Blk.old ?_ _)))) hk6
  have B6x6 : Blk w6 (w3.heap.size + 1) #[.int .i64 3, .int .i64 A2] := Blk.keep (by (repeat (first | (with_reducible assumption) | (refine blk_at _ _ ?_; simp; done) | (refine Blk.old ?_ _)))) hk6
  have B7x6 : Blk w6 (w4.heap.size) #[.int .i64 nC, .int .i64 dC] := Blk.keep (by (repeat (first | (with_reducible assumption) | (refine blk_at _ _ ?_; simp; done) | (refine Blk.old ?_ _)))) hk6
  have B8x6 : Blk w6 (w4.heap.size + 1) #[.int .i64 cC, .int .i64 aC] := Blk.keep (by (repeat (first | (with_reducible assumption) | (refine blk_at _ _ ?_; simp; done) | (refine Blk.old ?_ _)))) hk6
  have B9x6 : Blk w6 (w5.heap.size) #[.int .i64 0, .int .i64 0] := Blk.keep (by (repeat (first | (with_reducible assumption) | (refine blk_at _ _ ?_; simp; done) | (refine Blk.old ?_ _)))) hk6
  have B10x6 : Blk w6 (w5.heap.size + 1) #[.int .i64 3, .int .i64 A1] := Blk.keep (by (repeat (first | (with_reducible assumption) | (refine blk_at _ _ ?_; simp; done) | (refine Blk.old ?_ _)))) hk6
  clear K5 hk6 B0x5 B1x5 B2x5 B3x5 B4x5 B5x5 B6x5 B7x5 B8x5 c0a c0b f0a f0b l0 m0 M0 N1 L1 c1a c1b f1a f1b l1 m1 M1
  obtain ⟨c1a, c1b, f1a, f1b, l1⟩ := B1x6.two
  have m1 : ¬ w6.heap.size = w.heap.size + 1 := by omega
  have M1 : ¬ w6.heap.size + 1 = w.heap.size + 1 := by omega
  have N1 : ¬ w6.heap.size = w.heap.size := by omega
  have L1 : w.heap.size < w6.heap.size := by omega
  obtain ⟨c2a, c2b, f2a, f2b, l2⟩ := B2x6.two
  have m2 : ¬ w6.heap.size = w.heap.size + 1 + 1 := by omega
  have M2 : ¬ w6.heap.size + 1 = w.heap.size + 1 + 1 := by omega
  have N2 : ¬ w6.heap.size = w.heap.size + 1 := by omega
  have L2 : w.heap.size + 1 < w6.heap.size := by omega
  rw [HE.out]
  go_wp2_with fail
  refine (op_Times n2 d2 n3 d3 _).mono ?_
  rintro e w7 ⟨rfl, hk7⟩
  have K7 : Keep NoS w w7 := Keep.trans (by (repeat' (first | (with_reducible assumption) | (with_reducible exact HK.out) | (with_reducible exact Keep.refl _ _) | (with_reducible refine Keep.alloc ?_ _) | (with_reducible refine Keep.setCell ?_ _ (fun h => absurd h (by omega))) | (with_reducible refine Keep.drewN ?_ _) | (with_reducible refine Keep.drew ?_)))) hk7 fun _ _ _ h => h
  have B0x7 : Blk w7 (w.heap.size) #[.int .i64 n1, .int .i64 d1] := Blk.keep (by (repeat (first | (with_reducible assumption) | (refine blk_at _ _ ?_; simp; done) | (refine Blk.old ?_ _)))) hk7
  have B1x7 : Blk w7 (w.heap.size + 1) #[.int .i64 n2, .int .i64 d2] := Blk.keep (by (repeat (first | (with_reducible assumption) | (refine blk_at _ _ ?_; simp; done) | (refine Blk.old ?_ _)))) hk7
  have B2x7 : Blk w7 (w.heap.size + 1 + 1) #[.int .i64 n3, .int .i64 d3] := Blk.keep (by (repeat (first | (with_reducible assumption) | (refine blk_at _ _ ?_; simp; done) | (refine Blk.old ?_ _)))) hk7
  have B3x7 : Blk w7 (w2.heap.size) #[.int .i64 0, .int .i64 0] := Blk.keep (by (repeat (first | (with_reducible assumption) | (refine blk_at _ _ ?_; simp; done) | (refine Blk.old ?_ _)))) hk7
  have B4x7 : Blk w7 (w2.heap.size + 1) #[.int .i64 3, .int .i64 A1] := Blk.keep (by (repeat (first | (with_reducible assumption) | (refine blk_at _ _ ?_; simp; done) | (refine Blk.old ?_ _)))) hk7
  have B5x7 : Blk w7 (w3.heap.size) #[.int .i64 0, .int .i64 0] := Blk.keep (by (repeat (first | (with_reducible assumption) | (refine blk_at _ _ ?_; simp; done) | (refine Blk.old ?_ _)))) hk7
  have B6x7 : Blk w7 (w3.heap.size + 1) #[.int .i64 3, .int .i64 A2] := Blk.keep (by (repeat (first | (with_reducible assumption) | (refine blk_at _ _ ?_; simp; done) | (refine Blk.old ?_ _)))) hk7
  have B7x7 : Blk w7 (w4.heap.size) #[.int .i64 nC, .int .i64 dC] := Blk.keep (by (repeat (first | (with_reducible assumption) | (refine blk_at _ _ ?_; simp; done) | (refine Blk.old ?_ _)))) hk7
  have B8x7 : Blk w7 (w4.heap.size + 1) #[.int .i64 cC, .int .i64 aC] := Blk.keep (by (repeat (first | (with_reducible assumption) | (refine blk_at _ _ ?_; simp; done) | (refine Blk.old ?_ _)))) hk7
  have B9x7 : Blk w7 (w5.heap.size) #[.int .i64 0, .int .i64 0] := Blk.keep (by (repeat (first | (with_reducible assumption) | (refine blk_at _ _ ?_; simp; done) | (refine Blk.old ?_ _)))) hk7
  have B10x7 : Blk w7 (w5.heap.size + 1) #[.int .i64 3, .int .i64 A1] := Blk.keep (by (repeat (first | (with_reducible assumption) | (refine blk_at _ _ ?_; simp; done) | (refine Blk.old ?_ _)))) hk7
  have B11x7 : Blk w7 (w6.heap.size) #[.int .i64 0, .int .i64 0] := Blk.keep (by (repeat (first | (with_reducible assumption) | (refine blk_at _ _ ?_; simp; done) | (refine Blk.old ?_ _)))) hk7
  have B12x7 : Blk w7 (w6.heap.size + 1) #[.int .i64 3, .int .i64 A2] := Blk.keep (by (repeat (first | (with_reducible assumption) | (refine blk_at _ _ ?_; simp; done) | (refine Blk.old ?_ _)))) hk7
  clear K6 hk7 B0x6 B1x6 B2x6 B3x6 B4x6 B5x6 B6x6 B7x6 B8x6 B9x6 B10x6 N1 L1 c1a c1b f1a f1b l1 m1 M1 N2 L2 c2a c2b f2a f2b l2 m2 M2
  obtain ⟨c0a, c0b, f0a, f0b, l0⟩ := B0x7.two
  have m0 : ¬ w7.heap.size = w.heap.size := by omega
  have M0 : ¬ w7.heap.size + 1 = w.heap.size := by omega
  obtain ⟨c2a, c2b, f2a, f2b, l2⟩ := B2x7.two
  have m2 : ¬ w7.heap.size = w.heap.size + 1 + 1 := by omega
  have M2 : ¬ w7.heap.size + 1 = w.heap.size + 1 + 1 := by omega
  have N2 : ¬ w7.heap.size = w.heap.size + 1 := by omega
  have L2 : w.heap.size + 1 < w7.heap.size := by omega
  rw [HF.out]
  go_wp2_with fail
  refine (op_Times n1 d1 n3 d3 _).mono ?_
  rintro e w8 ⟨rfl, hk8⟩
  have K8 : Keep NoS w w8 := Keep.trans (by (repeat' (first | (with_reducible assumption) | (with_reducible exact HK.out) | (with_reducible exact Keep.refl _ _) | (with_reducible refine Keep.alloc ?_ _) | (with_reducible refine Keep.setCell ?_ _ (fun h => absurd h (by omega))) | (with_reducible refine Keep.drewN ?_ _) | (with_reducible refine Keep.drew ?_)))) hk8 fun _ _ _ h => h
  have B0x8 : Blk w8 (w.heap.size) #[.int .i64 n1, .int .i64 d1] := Blk.keep (by (repeat (first | (with_reducible assumption) | (refine blk_at _ _ ?_; simp; done) | (refine Blk.old ?_ _)))) hk8
  have B1x8 : Blk w8 (w.heap.size + 1) #[.int .i64 n2, .int .i64 d2] := Blk.keep (by (repeat (first | (with_reducible assumption) | (refine blk_at _ _ ?_; simp; done) | (refine Blk.old ?_ _)))) hk8
  have B2x8 : Blk w8 (w.heap.size + 1 + 1) #[.int .i64 n3, .int .i64 d3] := Blk.keep (by (repeat (first | (with_reducible assumption) | (refine blk_at _ _ ?_; simp; done) | (refine Blk.old ?_ _)))) hk8
  have B3x8 : Blk w8 (w2.heap.size) #[.int .i64 0, .int .i64 0] := Blk.keep (by (repeat (first | (with_reducible assumption) | (refine blk_at _ _ ?_; simp; done) | (refine Blk.old ?_ _)))) hk8
  have B4x8 : Blk w8 (w2.heap.size + 1) #[.int .i64 3, .int .i64 A1] := Blk.keep (by (repeat (first | (with_reducible assumption) | (refine blk_at _ _ ?_; simp; done) | (refine Blk.old ?_ _)))) hk8
  have B5x8 : Blk w8 (w3.heap.size) #[.int .i64 0, .int .i64 0] := Blk.keep (by (repeat (first | (with_reducible assumption) | (refine blk_at _ _ ?_; simp; done) | (refine Blk.old ?_ _)))) hk8
  have B6x8 : Blk w8 (w3.heap.size + 1) #[.int .i64 3, .int .i64 A2] := Blk.keep (by (repeat (first | (with_reducible assumption) | (refine blk_at _ _ ?_; simp; done) | (refine Blk.old ?_ _)))) hk8
  have B7x8 : Blk w8 (w4.heap.size) #[.int .i64 nC, .int .i64 dC] := Blk.keep (by (repeat (first | (with_reducible assumption) | (refine blk_at _ _ ?_; simp; done) | (refine Blk.old ?_ _)))) hk8
  have B8x8 : Blk w8 (w4.heap.size + 1) #[.int .i64 cC, .int .i64 aC] := Blk.keep (by (repeat (first | (with_reducible assumption) | (refine blk_at _ _ ?_; simp; done) | (refine Blk.old ?_ _)))) hk8
  have B9x8 : Blk w8 (w5.heap.size) #[.int .i64 0, .int .i64 0] := Blk.keep (by (repeat (first | (with_reducible assumption) | (refine blk_at _ _ ?_; simp; done) | (refine Blk.old ?_ _)))) hk8
  have B10x8 : Blk w8 (w5.heap.size + 1) #[.int .i64 3, .int .i64 A1] := Blk.keep (by (repeat (first | (with_reducible assumption) | (refine blk_at _ _ ?_; simp; done) | (refine Blk.old ?_ _)))) hk8
  have B11x8 : Blk w8 (w6.heap.size) #[.int .i64 0, .int .i64 0] := Blk.keep (by (repeat (first | (with_reducible assumption) | (refine blk_at _ _ ?_; simp; done) | (refine Blk.old ?_ _)))) hk8
  have B12x8 : Blk w8 (w6.heap.size + 1) #[.int .i64 3, .int .i64 A2] := Blk.keep (by (repeat (first | (with_reducible assumption) | (refine blk_at _ _ ?_; simp; done) | (refine Blk.old ?_ _)))) hk8
  have B13x8 : Blk w8 (w7.heap.size) #[.int .i64 nF, .int .i64 dF] := Blk.keep (by (repeat (first | (with_reducible assumption) | (refine blk_at _ _ ?_; simp; done) | (refine Blk.old ?_ _)))) hk8
  have B14x8 : Blk w8 (w7.heap.size + 1) #[.int .i64 cF, .int .i64 aF] := Blk.keep (by (repeat (first | (with_reducible assumption) | (refine blk_at _ _ ?_; simp; done) | (refine Blk.old ?_ _)))) hk8
  clear K7 hk8 B0x7 B1x7 B2x7 B3x7 B4x7 B5x7 B6x7 B7x7 B8x7 B9x7 B10x7 B11x7 B12x7 c0a c0b f0a f0b l0 m0 M0 N2 L2 c2a c2b f2a f2b l2 m2 M2
  obtain ⟨c0a, c0b, f0a, f0b, l0⟩ := B0x8.two
  have m0 : ¬ w8.heap.size = w.heap.size := by omega
  have M0 : ¬ w8.heap.size + 1 = w.heap.size := by omega
  obtain ⟨c1a, c1b, f1a, f1b, l1⟩ := B1x8.two
  have m1 : ¬ w8.heap.size = w.heap.size + 1 := by omega
  have M1 : ¬ w8.heap.size + 1 = w.heap.size + 1 := by omega
  have N1 : ¬ w8.heap.size = w.heap.size := by omega
  have L1 : w.heap.size < w8.heap.size := by omega
  obtain ⟨c2a, c2b, f2a, f2b, l2⟩ := B2x8.two
  have m2 : ¬ w8.heap.size = w.heap.size + 1 + 1 := by omega
  have M2 : ¬ w8.heap.size + 1 = w.heap.size + 1 + 1 := by omega
  have N2 : ¬ w8.heap.size = w.heap.size + 1 := by omega
  have L2 : w.heap.size + 1 < w8.heap.size := by omega
  obtain ⟨c3a, c3b, f3a, f3b, l3⟩ := B3x8.two
  have m3 : ¬ w8.heap.size = w2.heap.size := by omega
  have M3 : ¬ w8.heap.size + 1 = w2.heap.size := by omega
  obtain ⟨c4a, c4b, f4a, f4b, l4⟩ := B4x8.two
  have m4 : ¬ w8.heap.size = w2.heap.size + 1 := by omega
  have M4 : ¬ w8.heap.size + 1 = w2.heap.size + 1 := by omega
  have N4 : ¬ w8.heap.size = w2.heap.size := by omega
  have L4 : w2.heap.size < w8.heap.size := by omega
  obtain ⟨c5a, c5b, f5a, f5b, l5⟩ := B5x8.two
  have m5 : ¬ w8.heap.size = w3.heap.size := by omega
  have M5 : ¬ w8.heap.size + 1 = w3.heap.size := by omega
  obtain ⟨c6a, c6b, f6a, f6b, l6⟩ := B6x8.two
  have m6 : ¬ w8.heap.size = w3.heap.size + 1 := by omega
  have M6 : ¬ w8.heap.size + 1 = w3.heap.size + 1 := by omega
  have N6 : ¬ w8.heap.size = w3.heap.size := by omega
  have L6 : w3.heap.size < w8.heap.size := by omega
  obtain ⟨c7a, c7b, f7a, f7b, l7⟩ := B7x8.two
  have m7 : ¬ w8.heap.size = w4.heap.size := by omega
  have M7 : ¬ w8.heap.size + 1 = w4.heap.size := by omega
  obtain ⟨c8a, c8b, f8a, f8b, l8⟩ := B8x8.two
  have m8 : ¬ w8.heap.size = w4.heap.size + 1 := by omega
  have M8 : ¬ w8.heap.size + 1 = w4.heap.size + 1 := by omega
  have N8 : ¬ w8.heap.size = w4.heap.size := by omega
  have L8 : w4.heap.size < w8.heap.size := by omega
  obtain ⟨c9a, c9b, f9a, f9b, l9⟩ := B9x8.two
  have m9 : ¬ w8.heap.size = w5.heap.size := by omega
  have M9 : ¬ w8.heap.size + 1 = w5.heap.size := by omega
  obtain ⟨c10a, c10b, f10a, f10b, l10⟩ := B10x8.two
  have m10 : ¬ w8.heap.size = w5.heap.size + 1 := by omega
  have M10 : ¬ w8.heap.size + 1 = w5.heap.size + 1 := by omega
  have N10 : ¬ w8.heap.size = w5.heap.size := by omega
  have L10 : w5.heap.size < w8.heap.size := by omega
  obtain ⟨c11a, c11b, f11a, f11b, l11⟩ := B11x8.two
  have m11 : ¬ w8.heap.size = w6.heap.size := by omega
  have M11 : ¬ w8.heap.size + 1 = w6.heap.size := by omega
  obtain ⟨c12a, c12b, f12a, f12b, l12⟩ := B12x8.two
  have m12 : ¬ w8.heap.size = w6.heap.size + 1 := by omega
  have M12 : ¬ w8.heap.size + 1 = w6.heap.size + 1 := by omega
  have N12 : ¬ w8.heap.size = w6.heap.size := by omega
  have L12 : w6.heap.size < w8.heap.size := by omega
  obtain ⟨c13a, c13b, f13a, f13b, l13⟩ := B13x8.two
  have m13 : ¬ w8.heap.size = w7.heap.size := by omega
  have M13 : ¬ w8.heap.size + 1 = w7.heap.size := by omega
  obtain ⟨c14a, c14b, f14a, f14b, l14⟩ := B14x8.two
  have m14 : ¬ w8.heap.size = w7.heap.size + 1 := by omega
  have M14 : ¬ w8.heap.size + 1 = w7.heap.size + 1 := by omega
  have N14 : ¬ w8.heap.size = w7.heap.size := by omega
  have L14 : w7.heap.size < w8.heap.size := by omega
  rw [HG.out]
  go_wp2
  go_returns
  exact ⟨rfl, Keep.bel (by (repeat' (first | (with_reducible assumption) | (with_reducible exact HK.out) | (with_reducible exact Keep.refl _ _) | (with_reducible refine Keep.alloc ?_ _) | (with_reducible refine Keep.setCell ?_ _ (fun h => absurd h (by omega))) | (with_reducible refine Keep.drewN ?_ _) | (with_reducible refine Keep.drew ?_))))⟩

set_option maxRecDepth 100000 in
set_option maxHeartbeats 64000000 in
theorem fracField_bad2 (w : World) (n1 d1 n2 d2 n3 d3 : Int) (h1 : FracOK n1 d1) (h2 : FracOK n2 d2) (h3 : ¬ FracOK n3 d3) :
    Calls Try.prog 9 #[.agg #[.int .i64 n1, .int .i64 d1], .agg #[.int .i64 n2, .int .i64 d2], .agg #[.int .i64 n3, .int .i64 d3]] w fun e w' => e = .returned (.bool true) ∧ Below w.heap.size w w' := by
  obtain ⟨xn, xd, xc, hx, hx'⟩ := made_form (fr n1 d1 + fr n2 d2)
  obtain ⟨pn, pd, pc, hp, hp'⟩ := made_form (fr n1 d1 * fr n2 d2)
  have HA := Lib.hid ((add_made h1 h2).trans hx)
  have HB := Lib.hid ((add_made h2 h1).trans ((congrArg fracMadeV (Rat.add_comm _ _)).trans hx))
  have HD := Lib.hid ((mul_made h1 h2).trans hp)
  have HE := Lib.hid ((mul_made h2 h1).trans ((congrArg fracMadeV (Rat.mul_comm _ _)).trans hp))
  have HX := Lib.hid hx'
  have HP := Lib.hid hp'
  have hk : ¬ (FracOK n2 d2 ∧ FracOK n3 d3) := fun h => h3 h.2
  have hk' : ¬ (FracOK n1 d1 ∧ FracOK n3 d3) := fun h => h3 h.2
  have HC := Lib.hid (op_bad hk (n2 * d3 + n3 * d2) (d2 * d3))
  have HF := Lib.hid (op_bad hk (n2 * n3) (d2 * d3))
  have HG := Lib.hid (op_bad hk' (n1 * n3) (d1 * d3))
  clear hk hk' h1 h2 h3 hx hx' hp hp'
  generalize ckA n2 d2 n3 d3 = A2 at *
  generalize ckA n1 d1 n3 d3 = A1 at *
  go_enter Try.func9, Try.ntmps9
  go_wp2_with fail
  refine (fracFact_any _).mono ?_
  rintro e w1 ⟨rfl, hk1⟩
  have K1 : Keep NoS w w1 := Keep.trans (by (repeat' (first | (with_reducible assumption) | (with_reducible exact HK.out) | (with_reducible exact Keep.refl _ _) | (with_reducible refine Keep.alloc ?_ _) | (with_reducible refine Keep.setCell ?_ _ (fun h => absurd h (by omega))) | (with_reducible refine Keep.drewN ?_ _) | (with_reducible refine Keep.drew ?_)))) hk1 fun _ _ _ h => h
  have B0x1 : Blk w1 (w.heap.size) #[.int .i64 n1, .int .i64 d1] := Blk.keep (by (repeat (first | (with_reducible assumption) | (refine blk_at _ _ ?_; simp; done) | (refine Blk.old ?_ _)))) hk1
  have B1x1 : Blk w1 (w.heap.size + 1) #[.int .i64 n2, .int .i64 d2] := Blk.keep (by (repeat (first | (with_reducible assumption) | (refine blk_at _ _ ?_; simp; done) | (refine Blk.old ?_ _)))) hk1
  have B2x1 : Blk w1 (w.heap.size + 1 + 1) #[.int .i64 n3, .int .i64 d3] := Blk.keep (by (repeat (first | (with_reducible assumption) | (refine blk_at _ _ ?_; simp; done) | (refine Blk.old ?_ _)))) hk1
  clear hk1
  obtain ⟨c0a, c0b, f0a, f0b, l0⟩ := B0x1.two
  have m0 : ¬ w1.heap.size = w.heap.size := by omega
  have M0 : ¬ w1.heap.size + 1 = w.heap.size := by omega
  obtain ⟨c1a, c1b, f1a, f1b, l1⟩ := B1x1.two
  have m1 : ¬ w1.heap.size = w.heap.size + 1 := by omega
  have M1 : ¬ w1.heap.size + 1 = w.heap.size + 1 := by omega
  have N1 : ¬ w1.heap.size = w.heap.size := by omega
  have L1 : w.heap.size < w1.heap.size := by omega
  go_wp2_with fail
  refine (op_Add n1 d1 n2 d2 _).mono ?_
  rintro e w2 ⟨rfl, hk2⟩
  have K2 : Keep NoS w w2 := Keep.trans (by (repeat' (first | (with_reducible assumption) | (with_reducible exact HK.out) | (with_reducible exact Keep.refl _ _) | (with_reducible refine Keep.alloc ?_ _) | (with_reducible refine Keep.setCell ?_ _ (fun h => absurd h (by omega))) | (with_reducible refine Keep.drewN ?_ _) | (with_reducible refine Keep.drew ?_)))) hk2 fun _ _ _ h => h
  have B0x2 : Blk w2 (w.heap.size) #[.int .i64 n1, .int .i64 d1] := Blk.keep (by (repeat (first | (with_reducible assumption) | (refine blk_at _ _ ?_; simp; done) | (refine Blk.old ?_ _)))) hk2
  have B1x2 : Blk w2 (w.heap.size + 1) #[.int .i64 n2, .int .i64 d2] := Blk.keep (by (repeat (first | (with_reducible assumption) | (refine blk_at _ _ ?_; simp; done) | (refine Blk.old ?_ _)))) hk2
  have B2x2 : Blk w2 (w.heap.size + 1 + 1) #[.int .i64 n3, .int .i64 d3] := Blk.keep (by (repeat (first | (with_reducible assumption) | (refine blk_at _ _ ?_; simp; done) | (refine Blk.old ?_ _)))) hk2
  clear K1 hk2 B0x1 B1x1 B2x1 c0a c0b f0a f0b l0 m0 M0 N1 L1 c1a c1b f1a f1b l1 m1 M1
  obtain ⟨c0a, c0b, f0a, f0b, l0⟩ := B0x2.two
  have m0 : ¬ w2.heap.size = w.heap.size := by omega
  have M0 : ¬ w2.heap.size + 1 = w.heap.size := by omega
  obtain ⟨c1a, c1b, f1a, f1b, l1⟩ := B1x2.two
  have m1 : ¬ w2.heap.size = w.heap.size + 1 := by omega
  have M1 : ¬ w2.heap.size + 1 = w.heap.size + 1 := by omega
  have N1 : ¬ w2.heap.size = w.heap.size := by omega
  have L1 : w.heap.size < w2.heap.size := by omega
  rw [HA.out]
  go_wp2_with fail
  refine (op_Add n2 d2 n1 d1 _).mono ?_
  rintro e w3 ⟨rfl, hk3⟩
  have K3 : Keep NoS w w3 := Keep.trans (by (repeat' (first | (with_reducible assumption) | (with_reducible exact HK.out) | (with_reducible exact Keep.refl _ _) | (with_reducible refine Keep.alloc ?_ _) | (with_reducible refine Keep.setCell ?_ _ (fun h => absurd h (by omega))) | (with_reducible refine Keep.drewN ?_ _) | (with_reducible refine Keep.drew ?_)))) hk3 fun _ _ _ h => h
  have B0x3 : Blk w3 (w.heap.size) #[.int .i64 n1, .int .i64 d1] := Blk.keep (by (repeat (first | (with_reducible assumption) | (refine blk_at _ _ ?_; simp; done) | (refine Blk.old ?_ _)))) hk3
  have B1x3 : Blk w3 (w.heap.size + 1) #[.int .i64 n2, .int .i64 d2] := Blk.keep (by (repeat (first | (with_reducible assumption) | (refine blk_at _ _ ?_; simp; done) | (refine Blk.old ?_ _)))) hk3
  have B2x3 : Blk w3 (w.heap.size + 1 + 1) #[.int .i64 n3, .int .i64 d3] := Blk.keep (by (repeat (first | (with_reducible assumption) | (refine blk_at _ _ ?_; simp; done) | (refine Blk.old ?_ _)))) hk3
  have B3x3 : Blk w3 (w2.heap.size) #[.int .i64 xn, .int .i64 xd] := Blk.keep (by (repeat (first | (with_reducible assumption) | (refine blk_at _ _ ?_; simp; done) | (refine Blk.old ?_ _)))) hk3
  have B4x3 : Blk w3 (w2.heap.size + 1) #[.int .i64 xc, .int .i64 0] := Blk.keep (by (repeat (first | (with_reducible assumption) | (refine blk_at _ _ ?_; simp; done) | (refine Blk.old ?_ _)))) hk3
  clear K2 hk3 B0x2 B1x2 B2x2 c0a c0b f0a f0b l0 m0 M0 N1 L1 c1a c1b f1a f1b l1 m1 M1
  obtain ⟨c1a, c1b, f1a, f1b, l1⟩ := B1x3.two
  have m1 : ¬ w3.heap.size = w.heap.size + 1 := by omega
  have M1 : ¬ w3.heap.size + 1 = w.heap.size + 1 := by omega
  have N1 : ¬ w3.heap.size = w.heap.size := by omega
  have L1 : w.heap.size < w3.heap.size := by omega
  obtain ⟨c2a, c2b, f2a, f2b, l2⟩ := B2x3.two
  have m2 : ¬ w3.heap.size = w.heap.size + 1 + 1 := by omega
  have M2 : ¬ w3.heap.size + 1 = w.heap.size + 1 + 1 := by omega
  have N2 : ¬ w3.heap.size = w.heap.size + 1 := by omega
  have L2 : w.heap.size + 1 < w3.heap.size := by omega
  rw [HB.out]
  go_wp2_with fail
  refine (op_Add n2 d2 n3 d3 _).mono ?_
  rintro e w4 ⟨rfl, hk4⟩
  have K4 : Keep NoS w w4 := Keep.trans (by (repeat' (first | (with_reducible assumption) | (with_reducible exact HK.out) | (with_reducible exact Keep.refl _ _) | (with_reducible refine Keep.alloc ?_ _) | (with_reducible refine Keep.setCell ?_ _ (fun h => absurd h (by omega))) | (with_reducible refine Keep.drewN ?_ _) | (with_reducible refine Keep.drew ?_)))) hk4 fun _ _ _ h => h
  have B0x4 : Blk w4 (w.heap.size) #[.int .i64 n1, .int .i64 d1] := Blk.keep (by (repeat (first | (with_reducible assumption) | (refine blk_at _ _ ?_; simp; done) | (refine Blk.old ?_ _)))) hk4
  have B1x4 : Blk w4 (w.heap.size + 1) #[.int .i64 n2, .int .i64 d2] := Blk.keep (by (repeat (first | (with_reducible assumption) | (refine blk_at _ _ ?_; simp; done) | (refine Blk.old ?_ _)))) hk4
  have B2x4 : Blk w4 (w.heap.size + 1 + 1) #[.int .i64 n3, .int .i64 d3] := Blk.keep (by (repeat (first | (with_reducible assumption) | (refine blk_at _ _ ?_; simp; done) | (refine Blk.old ?_ _)))) hk4
  have B3x4 : Blk w4 (w2.heap.size) #[.int .i64 xn, .int .i64 xd] := Blk.keep (by (repeat (first | (with_reducible assumption) | (refine blk_at _ _ ?_; simp; done) | (refine Blk.old ?_ _)))) hk4
  have B4x4 : Blk w4 (w2.heap.size + 1) #[.int .i64 xc, .int .i64 0] := Blk.keep (by (repeat (first | (with_reducible assumption) | (refine blk_at _ _ ?_; simp; done) | (refine Blk.old ?_ _)))) hk4
  have B5x4 : Blk w4 (w3.heap.size) #[.int .i64 xn, .int .i64 xd] := Blk.keep (by (repeat (first | (with_reducible assumption) | (refine blk_at _ _ ?_; simp; done) | (refine Blk.old ?_ _)))) hk4
  have B6x4 : Blk w4 (w3.heap.size + 1) #[.int .i64 xc, .int .i64 0] := Blk.keep (by (repeat (first | (with_reducible assumption) | (refine blk_at _ _ ?_; simp; done) | (refine Blk.old ?_ _)))) hk4
  clear K3 hk4 B0x3 B1x3 B2x3 B3x3 B4x3 N1 L1 c1a c1b f1a f1b l1 m1 M1 N2 L2 c2a c2b f2a f2b l2 m2 M2
  obtain ⟨c0a, c0b, f0a, f0b, l0⟩ := B0x4.two
  have m0 : ¬ w4.heap.size = w.heap.size := by omega
  have M0 : ¬ w4.heap.size + 1 = w.heap.size := by omega
  obtain ⟨c1a, c1b, f1a, f1b, l1⟩ := B1x4.two
  have m1 : ¬ w4.heap.size = w.heap.size + 1 := by omega
  have M1 : ¬ w4.heap.size + 1 = w.heap.size + 1 := by omega
  have N1 : ¬ w4.heap.size = w.heap.size := by omega
  have L1 : w.heap.size < w4.heap.size := by omega
  rw [HC.out]
  go_wp2_with fail
  refine (op_Times n1 d1 n2 d2 _).mono ?_
  rintro e w5 ⟨rfl, hk5⟩
  have K5 : Keep NoS w w5 := Keep.trans (by (repeat' (first | (with_reducible assumption) | (with_reducible exact HK.out) | (with_reducible exact Keep.refl _ _) | (with_reducible refine Keep.alloc ?_ _) | (with_reducible refine Keep.setCell ?_ _ (fun h => absurd h (by omega))) | (with_reducible refine Keep.drewN ?_ _) | (with_reducible refine Keep.drew ?_)))) hk5 fun _ _ _ h => h
  have B0x5 : Blk w5 (w.heap.size) #[.int .i64 n1, .int .i64 d1] := Blk.keep (by (repeat (first | (with_reducible assumption) | (refine blk_at _ _ ?_; simp; done) | (refine Blk.old ?_ _)))) hk5
  have B1x5 : Blk w5 (w.heap.size + 1) #[.int .i64 n2, .int .i64 d2] := Blk.keep (by (repeat (first | (with_reducible assumption) | (refine blk_at _ _ ?_; simp; done) | (refine Blk.old ?_ _)))) hk5
  have B2x5 : Blk w5 (w.heap.size + 1 + 1) #[.int .i64 n3, .int .i64 d3] := Blk.keep (by (repeat (first | (with_reducible assumption) | (refine blk_at _ _ ?_; simp; done) | (refine Blk.old ?_ _)))) hk5
  have B3x5 : Blk w5 (w2.heap.size) #[.int .i64 xn, .int .i64 xd] := Blk.keep (by (repeat (first | (with_reducible assumption) | (refine blk_at _ _ ?_; simp; done) | (refine Blk.old ?_ _)))) hk5
  have B4x5 : Blk w5 (w2.heap.size + 1) #[.int .i64 xc, .int .i64 0] := Blk.keep (by (repeat (first | (with_reducible assumption) | (refine blk_at _ _ ?_; simp; done) | (refine Blk.old ?_ _)))) hk5
  have B5x5 : Blk w5 (w3.heap.size) #[.int .i64 xn, .int .i64 xd] := Blk.keep (by (repeat (first | (with_reducible assumption) | (refine blk_at _ _ ?_; simp; done) | (refine Blk.old ?_ _)))) hk5
  have B6x5 : Blk w5 (w3.heap.size + 1) #[.int .i64 xc, .int .i64 0] := Blk.keep (by (repeat (first | (with_reducible assumption) | (refine blk_at _ _ ?_; simp; done) | (refine Blk.old ?_ _)))) hk5
  have B7x5 : Blk w5 (w4.heap.size) #[.int .i64 0, .int .i64 0] := Blk.keep (by (repeat (first | (with_reducible assumption) | (refine blk_at _ _ ?_; simp; done) | (refine Blk.old ?_ _)))) hk5
  have B8x5 : Blk w5 (w4.heap.size + 1) #[.int .i64 3, .int .i64 A2] := Blk.keep (by (repeat (first | (with_reducible assumption) | (refine blk_at _ _ ?_; simp; done) | (refine Blk.old ?_ _)))) hk5
  clear K4 hk5 B0x4 B1x4 B2x4 B3x4 B4x4 B5x4 B6x4 c0a c0b f0a f0b l0 m0 M0 N1 L1 c1a c1b f1a f1b l1 m1 M1
  obtain ⟨c0a, c0b, f0a, f0b, l0⟩ := B0x5.two
  have m0 : ¬ w5.heap.size = w.heap.size := by omega
  have M0 : ¬ w5.heap.size + 1 = w.heap.size := by omega
  obtain ⟨c1a, c1b, f1a, f1b, l1⟩ := B1x5.two
  have m1 : ¬ w5.heap.size = w.heap.size + 1 := by omega
  have M1 : ¬ w5.heap.size + 1 = w.heap.size + 1 := by omega
  have N1 : ¬ w5.heap.size = w.heap.size := by omega
  have L1 : w.heap.size < w5.heap.size := by omega
  rw [HD.out]
  go_wp2_with fail
  refine (op_Times n2 d2 n1 d1 _).mono ?_
  rintro e w6 ⟨rfl, hk6⟩
  have K6 : Keep NoS w w6 := Keep.trans (by (repeat' (first | (with_reducible assumption) | (with_reducible exact HK.out) | (with_reducible exact Keep.refl _ _) | (with_reducible refine Keep.alloc ?_ _) | (with_reducible refine Keep.setCell ?_ _ (fun h => absurd h (by omega))) | (with_reducible refine Keep.drewN ?_ _) | (with_reducible refine Keep.drew ?_)))) hk6 fun _ _ _ h => h
  have B0x6 : Blk w6 (w.heap.size) #[.int .i64 n1, .int .i64 d1] := Blk.keep (by (repeat (first | (with_reducible assumption) | (refine blk_at _ _ ?_; simp; done) | (refine Blk.old ?_ _)))) hk6
  have B1x6 : Blk w6 (w.heap.size + 1) #[.int .i64 n2, .int .i64 d2] := Blk.keep (by (repeat (first | (with_reducible assumption) | (refine blk_at _ _ ?_; simp; done) | (refine Blk.old ?_ _)))) hk6
  have B2x6 : Blk w6 (w.heap.size + 1 + 1) #[.int .i64 n3, .int .i64 d3] := Blk.keep (by (repeat (first | (with_reducible assumption) | (refine blk_at _ _ ?_; simp; done) | (refine Blk.old ?_ _)))) hk6
  have B3x6 : Blk w6 (w2.heap.size) #[.int .i64 xn, .int .i64 xd] := Blk.keep (by (repeat (first | (with_reducible assumption) | (refine blk_at _ _ ?_; simp; done) | (refine Blk.old ?_ _)))) hk6
  have B4x6 : Blk w6 (w2.heap.size + 1) #[.int .i64 xc, .int .i64 0] := Blk.keep (by (repeat (first | (with_reducible assumption) | (refine blk_at _ _ ?_; simp; done) | (refine Blk.old ?_ _)))) hk6
  have B5x6 : Blk w6 (w3.heap.size) #[.int .i64 xn, .int .i64 xd] := Blk.keep (by (repeat (first | (with_reducible assumption) | (refine blk_at _ _ ?_; simp; done) | (refine Blk.old ?_ _)))) hk6
  have B6x6 : Blk w6 (w3.heap.size + 1) #[.int .i64 xc, .int .i64 0] := Blk.keep (by (repeat (first | (with_reducible assumption) | (refine blk_at _ _ ?_; simp; done) | (refine Blk.old ?_ _)))) hk6
  have B7x6 : Blk w6 (w4.heap.size) #[.int .i64 0, .int .i64 0] := Blk.keep (by (repeat (first | (with_reducible assumption) | (refine blk_at _ _ ?_; simp; done) | (refine Blk.old ?_ _)))) hk6
  have B8x6 : Blk w6 (w4.heap.size + 1) #[.int .i64 3, .int .i64 A2] := Blk.keep (by (repeat (first | (with_reducible assumption) | (refine blk_at _ _ ?_; simp; done) | (refine Blk.old ?_ _)))) hk6
  have B9x6 : Blk w6 (w5.heap.size) #[.int .i64 pn, .int .i64 pd] := Blk.keep (by (repeat (first | (with_reducible assumption) | (refine blk_at _ _ ?_; simp; done) | (refine Blk.old ?_ _)))) hk6
  have B10x6 : Blk w6 (w5.heap.size + 1) #[.int .i64 pc, .int .i64 0] := Blk.keep (by (repeat (first | (with_reducible assumption) | (refine blk_at _ _ ?_; simp; done) | (refine Blk.old ?_ _)))) hk6
  clear K5 hk6 B0x5 B1x5 B2x5 B3x5 B4x5 B5x5 B6x5 B7x5 B8x5 c0a c0b f0a f0b l0 m0 M0 N1 L1 c1a c1b f1a f1b l1 m1 M1
  obtain ⟨c1a, c1b, f1a, f1b, l1⟩ := B1x6.two
  have m1 : ¬ w6.heap.size = w.heap.size + 1 := by omega
  have M1 : ¬ w6.heap.size + 1 = w.heap.size + 1 := by omega
  have N1 : ¬ w6.heap.size = w.heap.size := by omega
  have L1 : w.heap.size < w6.heap.size := by omega
  obtain ⟨c2a, c2b, f2a, f2b, l2⟩ := B2x6.two
  have m2 : ¬ w6.heap.size = w.heap.size + 1 + 1 := by omega
  have M2 : ¬ w6.heap.size + 1 = w.heap.size + 1 + 1 := by omega
  have N2 : ¬ w6.heap.size = w.heap.size + 1 := by omega
  have L2 : w.heap.size + 1 < w6.heap.size := by omega
  rw [HE.out]
  go_wp2_with fail
  refine (op_Times n2 d2 n3 d3 _).mono ?_
  rintro e w7 ⟨rfl, hk7⟩
  have K7 : Keep NoS w w7 := Keep.trans (by (repeat' (first | (with_reducible assumption) | (with_reducible exact HK.out) | (with_reducible exact Keep.refl _ _) | (with_reducible refine Keep.alloc ?_ _) | (with_reducible refine Keep.setCell ?_ _ (fun h => absurd h (by omega))) | (with_reducible refine Keep.drewN ?_ _) | (with_reducible refine Keep.drew ?_)))) hk7 fun _ _ _ h => h
  have B0x7 : Blk w7 (w.heap.size) #[.int .i64 n1, .int .i64 d1] := Blk.keep (by (repeat (first | (with_reducible assumption) | (refine blk_at _ _ ?_; simp; done) | (refine Blk.old ?_ _)))) hk7
  have B1x7 : Blk w7 (w.heap.size + 1) #[.int .i64 n2, .int .i64 d2] := Blk.keep (by (repeat (first | (with_reducible assumption) | (refine blk_at _ _ ?_; simp; done) | (refine Blk.old ?_ _)))) hk7
  have B2x7 : Blk w7 (w.heap.size + 1 + 1) #[.int .i64 n3, .int .i64 d3] := Blk.keep (by (repeat (first | (with_reducible assumption) | (refine blk_at _ _ ?_; simp; done) | (refine Blk.old ?_ _)))) hk7
  have B3x7 : Blk w7 (w2.heap.size) #[.int .i64 xn, .int .i64 xd] := Blk.keep (by (repeat (first | (with_reducible assumption) | (refine blk_at _ _ ?_; simp; done) | (refine Blk.old ?_ _)))) hk7
  have B4x7 : Blk w7 (w2.heap.size + 1) #[.int .i64 xc, .int .i64 0] := Blk.keep (by (repeat (first | (with_reducible assumption) | (refine blk_at _ _ ?_; simp; done) | (refine Blk.old ?_ _)))) hk7
  have B5x7 : Blk w7 (w3.heap.size) #[.int .i64 xn, .int .i64 xd] := Blk.keep (by (repeat (first | (with_reducible assumption) | (refine blk_at _ _ ?_; simp; done) | (refine Blk.old ?_ _)))) hk7
  have B6x7 : Blk w7 (w3.heap.size + 1) #[.int .i64 xc, .int .i64 0] := Blk.keep (by (repeat (first | (with_reducible assumption) | (refine blk_at _ _ ?_; simp; done) | (refine Blk.old ?_ _)))) hk7
  have B7x7 : Blk w7 (w4.heap.size) #[.int .i64 0, .int .i64 0] := Blk.keep (by (repeat (first | (with_reducible assumption) | (refine blk_at _ _ ?_; simp; done) | (refine Blk.old ?_ _)))) hk7
  have B8x7 : Blk w7 (w4.heap.size + 1) #[.int .i64 3, .int .i64 A2] := Blk.keep (by (repeat (first | (with_reducible assumption) | (refine blk_at _ _ ?_; simp; done) | (refine Blk.old ?_ _)))) hk7
  have B9x7 : Blk w7 (w5.heap.size) #[.int .i64 pn, .int .i64 pd] := Blk.keep (by (repeat (first | (with_reducible assumption) | (refine blk_at _ _ ?_; simp; done) | (refine Blk.old ?_ _)))) hk7
  have B10x7 : Blk w7 (w5.heap.size + 1) #[.int .i64 pc, .int .i64 0] := Blk.keep (by (repeat (first | (with_reducible assumption) | (refine blk_at _ _ ?_; simp; done) | (refine Blk.old ?_ _)))) hk7
  have B11x7 : Blk w7 (w6.heap.size) #[.int .i64 pn, .int .i64 pd] := Blk.keep (by (repeat (first | (with_reducible assumption) | (refine blk_at _ _ ?_; simp; done) | (refine Blk.old ?_ _)))) hk7
  have B12x7 : Blk w7 (w6.heap.size + 1) #[.int .i64 pc, .int .i64 0] := Blk.keep (by (repeat (first | (with_reducible assumption) | (refine blk_at _ _ ?_; simp; done) | (refine Blk.old ?_ _)))) hk7
  clear K6 hk7 B0x6 B1x6 B2x6 B3x6 B4x6 B5x6 B6x6 B7x6 B8x6 B9x6 B10x6 N1 L1 c1a c1b f1a f1b l1 m1 M1 N2 L2 c2a c2b f2a f2b l2 m2 M2
  obtain ⟨c0a, c0b, f0a, f0b, l0⟩ := B0x7.two
  have m0 : ¬ w7.heap.size = w.heap.size := by omega
  have M0 : ¬ w7.heap.size + 1 = w.heap.size := by omega
  obtain ⟨c2a, c2b, f2a, f2b, l2⟩ := B2x7.two
  have m2 : ¬ w7.heap.size = w.heap.size + 1 + 1 := by omega
  have M2 : ¬ w7.heap.size + 1 = w.heap.size + 1 + 1 := by omega
  have N2 : ¬ w7.heap.size = w.heap.size + 1 := by omega
  have L2 : w.heap.size + 1 < w7.heap.size := by omega
  rw [HF.out]
  go_wp2_with fail
  refine (op_Times n1 d1 n3 d3 _).mono ?_
  rintro e w8 ⟨rfl, hk8⟩
  have K8 : Keep NoS w w8 := Keep.trans (by (repeat' (first | (with_reducible assumption) | (with_reducible exact HK.out) | (with_reducible exact Keep.refl _ _) | (with_reducible refine Keep.alloc ?_ _) | (with_reducible refine Keep.setCell ?_ _ (fun h => absurd h (by omega))) | (with_reducible refine Keep.drewN ?_ _) | (with_reducible refine Keep.drew ?_)))) hk8 fun _ _ _ h => h
  have B0x8 : Blk w8 (w.heap.size) #[.int .i64 n1, .int .i64 d1] := Blk.keep (by (repeat (first | (with_reducible assumption) | (refine blk_at _ _ ?_; simp; done) | (refine Blk.old ?_ _)))) hk8
  have B1x8 : Blk w8 (w.heap.size + 1) #[.int .i64 n2, .int .i64 d2] := Blk.keep (by (repeat (first | (with_reducible assumption) | (refine blk_at _ _ ?_; simp; done) | (refine Blk.old ?_ _)))) hk8
  have B2x8 : Blk w8 (w.heap.size + 1 + 1) #[.int .i64 n3, .int .i64 d3] := Blk.keep (by (repeat (first | (with_reducible assumption) | (refine blk_at _ _ ?_; simp; done) | (refine Blk.old ?_ _)))) hk8
  have B3x8 : Blk w8 (w2.heap.size) #[.int .i64 xn, .int .i64 xd] := Blk.keep (by (repeat (first | (with_reducible assumption) | (refine blk_at _ _ ?_; simp; done) | (refine Blk.old ?_ _)))) hk8
  have B4x8 : Blk w8 (w2.heap.size + 1) #[.int .i64 xc, .int .i64 0] := Blk.keep (by (repeat (first | (with_reducible assumption) | (refine blk_at _ _ ?_; simp; done) | (refine Blk.old ?_ _)))) hk8
  have B5x8 : Blk w8 (w3.heap.size) #[.int .i64 xn, .int .i64 xd] := Blk.keep (by (repeat (first | (with_reducible assumption) | (refine blk_at _ _ ?_; simp; done) | (refine Blk.old ?_ _)))) hk8
  have B6x8 : Blk w8 (w3.heap.size + 1) #[.int .i64 xc, .int .i64 0] := Blk.keep (by (repeat (first | (with_reducible assumption) | (refine blk_at _ _ ?_; simp; done) | (refine Blk.old ?_ _)))) hk8
  have B7x8 : Blk w8 (w4.heap.size) #[.int .i64 0, .int .i64 0] := Blk.keep (by (repeat (first | (with_reducible assumption) | (refine blk_at _ _ ?_; simp; done) | (refine Blk.old ?_ _)))) hk8
  have B8x8 : Blk w8 (w4.heap.size + 1) #[.int .i64 3, .int .i64 A2] := Blk.keep (by (repeat (first | (with_reducible assumption) | (refine blk_at _ _ ?_; simp; done) | (refine Blk.old ?_ _)))) hk8
  have B9x8 : Blk w8 (w5.heap.size) #[.int .i64 pn, .int .i64 pd] := Blk.keep (by (repeat (first | (with_reducible assumption) | (refine blk_at _ _ ?_; simp; done) | (refine Blk.old ?_ _)))) hk8
  have B10x8 : Blk w8 (w5.heap.size + 1) #[.int .i64 pc, .int .i64 0] := Blk.keep (by (repeat (first | (with_reducible assumption) | (refine blk_at _ _ ?_; simp; done) | (refine Blk.old ?_ _)))) hk8
  have B11x8 : Blk w8 (w6.heap.size) #[.int .i64 pn, .int .i64 pd] := Blk.keep (by (repeat (first | (with_reducible assumption) | (refine blk_at _ _ ?_; simp; done) | (refine Blk.old ?_ _)))) hk8
  have B12x8 : Blk w8 (w6.heap.size + 1) #[.int .i64 pc, .int .i64 0] := Blk.keep (by (repeat (first | (with_reducible assumption) | (refine blk_at _ _ ?_; simp; done) | (refine Blk.old ?_ _)))) hk8
  have B13x8 : Blk w8 (w7.heap.size) #[.int .i64 0, .int .i64 0] := Blk.keep (by (repeat (first | (with_reducible assumption) | (refine blk_at _ _ ?_; simp; done) | (refine Blk.old ?_ _)))) hk8
  have B14x8 : Blk w8 (w7.heap.size + 1) #[.int .i64 3, .int .i64 A2] := Blk.keep (by (repeat (first | (with_reducible assumption) | (refine blk_at _ _ ?_; simp; done) | (refine Blk.old ?_ _)))) hk8
  clear K7 hk8 B0x7 B1x7 B2x7 B3x7 B4x7 B5x7 B6x7 B7x7 B8x7 B9x7 B10x7 B11x7 B12x7 c0a c0b f0a f0b l0 m0 M0 N2 L2 c2a c2b f2a f2b l2 m2 M2
  obtain ⟨c0a, c0b, f0a, f0b, l0⟩ := B0x8.two
  have m0 : ¬ w8.heap.size = w.heap.size := by omega
  have M0 : ¬ w8.heap.size + 1 = w.heap.size := by omega
  obtain ⟨c1a, c1b, f1a, f1b, l1⟩ := B1x8.two
  have m1 : ¬ w8.heap.size = w.heap.size + 1 := by omega
  have M1 : ¬ w8.heap.size + 1 = w.heap.size + 1 := by omega
  have N1 : ¬ w8.heap.size = w.heap.size := by omega
  have L1 : w.heap.size < w8.heap.size := by omega
  obtain ⟨c2a, c2b, f2a, f2b, l2⟩ := B2x8.two
  have m2 : ¬ w8.heap.size = w.heap.size + 1 + 1 := by omega
  have M2 : ¬ w8.heap.size + 1 = w.heap.size + 1 + 1 := by omega
  have N2 : ¬ w8.heap.size = w.heap.size + 1 := by omega
  have L2 : w.heap.size + 1 < w8.heap.size := by omega
  obtain ⟨c3a, c3b, f3a, f3b, l3⟩ := B3x8.two
  have m3 : ¬ w8.heap.size = w2.heap.size := by omega
  have M3 : ¬ w8.heap.size + 1 = w2.heap.size := by omega
  obtain ⟨c4a, c4b, f4a, f4b, l4⟩ := B4x8.two
  have m4 : ¬ w8.heap.size = w2.heap.size + 1 := by omega
  have M4 : ¬ w8.heap.size + 1 = w2.heap.size + 1 := by omega
  have N4 : ¬ w8.heap.size = w2.heap.size := by omega
  have L4 : w2.heap.size < w8.heap.size := by omega
  obtain ⟨c5a, c5b, f5a, f5b, l5⟩ := B5x8.two
  have m5 : ¬ w8.heap.size = w3.heap.size := by omega
  have M5 : ¬ w8.heap.size + 1 = w3.heap.size := by omega
  obtain ⟨c6a, c6b, f6a, f6b, l6⟩ := B6x8.two
  have m6 : ¬ w8.heap.size = w3.heap.size + 1 := by omega
  have M6 : ¬ w8.heap.size + 1 = w3.heap.size + 1 := by omega
  have N6 : ¬ w8.heap.size = w3.heap.size := by omega
  have L6 : w3.heap.size < w8.heap.size := by omega
  obtain ⟨c7a, c7b, f7a, f7b, l7⟩ := B7x8.two
  have m7 : ¬ w8.heap.size = w4.heap.size := by omega
  have M7 : ¬ w8.heap.size + 1 = w4.heap.size := by omega
  obtain ⟨c8a, c8b, f8a, f8b, l8⟩ := B8x8.two
  have m8 : ¬ w8.heap.size = w4.heap.size + 1 := by omega
  have M8 : ¬ w8.heap.size + 1 = w4.heap.size + 1 := by omega
  have N8 : ¬ w8.heap.size = w4.heap.size := by omega
  have L8 : w4.heap.size < w8.heap.size := by omega
  obtain ⟨c9a, c9b, f9a, f9b, l9⟩ := B9x8.two
  have m9 : ¬ w8.heap.size = w5.heap.size := by omega
  have M9 : ¬ w8.heap.size + 1 = w5.heap.size := by omega
  obtain ⟨c10a, c10b, f10a, f10b, l10⟩ := B10x8.two
  have m10 : ¬ w8.heap.size = w5.heap.size + 1 := by omega
  have M10 : ¬ w8.heap.size + 1 = w5.heap.size + 1 := by omega
  have N10 : ¬ w8.heap.size = w5.heap.size := by omega
  have L10 : w5.heap.size < w8.heap.size := by omega
  obtain ⟨c11a, c11b, f11a, f11b, l11⟩ := B11x8.two
  have m11 : ¬ w8.heap.size = w6.heap.size := by omega
  have M11 : ¬ w8.heap.size + 1 = w6.heap.size := by omega
  obtain ⟨c12a, c12b, f12a, f12b, l12⟩ := B12x8.two
  have m12 : ¬ w8.heap.size = w6.heap.size + 1 := by omega
  have M12 : ¬ w8.heap.size + 1 = w6.heap.size + 1 := by omega
  have N12 : ¬ w8.heap.size = w6.heap.size := by omega
  have L12 : w6.heap.size < w8.heap.size := by omega
  obtain ⟨c13a, c13b, f13a, f13b, l13⟩ := B13x8.two
  have m13 : ¬ w8.heap.size = w7.heap.size := by omega
  have M13 : ¬ w8.heap.size + 1 = w7.heap.size := by omega
  obtain ⟨c14a, c14b, f14a, f14b, l14⟩ := B14x8.two
  have m14 : ¬ w8.heap.size = w7.heap.size + 1 := by omega
  have M14 : ¬ w8.heap.size + 1 = w7.heap.size + 1 := by omega
  have N14 : ¬ w8.heap.size = w7.heap.size := by omega
  have L14 : w7.heap.size < w8.heap.size := by omega
  rw [HG.out]
  rcases HX.out with ⟨rfl, _⟩ | ⟨rfl, rfl, rfl⟩
  · go_wp2
    go_returns
    exact ⟨rfl, Keep.bel (by (repeat' (first | (with_reducible assumption) | (with_reducible exact HK.out) | (with_reducible exact Keep.refl _ _) | (with_reducible refine Keep.alloc ?_ _) | (with_reducible refine Keep.setCell ?_ _ (fun h => absurd h (by omega))) | (with_reducible refine Keep.drewN ?_ _) | (with_reducible refine Keep.drew ?_))))⟩
  · rcases HP.out with ⟨rfl, _⟩ | ⟨rfl, rfl, rfl⟩
    · go_wp2
      go_returns
      exact ⟨rfl, Keep.bel (by (repeat' (first | (with_reducible assumption) | (with_reducible exact HK.out) | (with_reducible exact Keep.refl _ _) | (with_reducible refine Keep.alloc ?_ _) | (with_reducible refine Keep.setCell ?_ _ (fun h => absurd h (by omega))) | (with_reducible refine Keep.drewN ?_ _) | (with_reducible refine Keep.drew ?_))))⟩
    · go_wp2
      go_returns
      exact ⟨rfl, Keep.bel (by (repeat' (first | (with_reducible assumption) | (with_reducible exact HK.out) | (with_reducible exact Keep.refl _ _) | (with_reducible refine Keep.alloc ?_ _) | (with_reducible refine Keep.setCell ?_ _ (fun h => absurd h (by omega))) | (with_reducible refine Keep.drewN ?_ _) | (with_reducible refine Keep.drew ?_))))⟩

set_option maxRecDepth 100000 in
set_option maxHeartbeats 64000000 in
theorem fracField_ok (w : World) (n1 d1 n2 d2 n3 d3 : Int) (h1 : FracOK n1 d1) (h2 : FracOK n2 d2) (h3 : FracOK n3 d3) :
    Calls Try.prog 9 #[.agg #[.int .i64 n1, .int .i64 d1], .agg #[.int .i64 n2, .int .i64 d2], .agg #[.int .i64 n3, .int .i64 d3]] w fun e w' => e = .returned (.bool true) ∧ Below w.heap.size w w' := by
  obtain ⟨xn, xd, xc, hx, hx'⟩ := made_form (fr n1 d1 + fr n2 d2)
  obtain ⟨pn, pd, pc, hp, hp'⟩ := made_form (fr n1 d1 * fr n2 d2)
  have HA := Lib.hid ((add_made h1 h2).trans hx)
  have HB := Lib.hid ((add_made h2 h1).trans ((congrArg fracMadeV (Rat.add_comm _ _)).trans hx))
  have HD := Lib.hid ((mul_made h1 h2).trans hp)
  have HE := Lib.hid ((mul_made h2 h1).trans ((congrArg fracMadeV (Rat.mul_comm _ _)).trans hp))
  have HX := Lib.hid hx'
  have HP := Lib.hid hp'
  obtain ⟨yn, yd, yc, hy, hy'⟩ := made_form (fr n2 d2 + fr n3 d3)
  obtain ⟨qn, qd, qc, hq, hq'⟩ := made_form (fr n2 d2 * fr n3 d3)
  obtain ⟨rn, rd, rc, hr, hr'⟩ := made_form (fr n1 d1 * fr n3 d3)
  have HC := Lib.hid ((add_made h2 h3).trans hy)
  have HF := Lib.hid ((mul_made h2 h3).trans hq)
  have HG := Lib.hid ((mul_made h1 h3).trans hr)
  have HY := Lib.hid hy'
  have HQ := Lib.hid hq'
  have HR := Lib.hid hr'
  have H1 := Lib.hid h1
  have H2 := Lib.hid h2
  have H3 := Lib.hid h3
  clear h1 h2 h3 hx hx' hp hp' hy hy' hq hq' hr hr'
  go_enter Try.func9, Try.ntmps9
  go_wp2_with fail
  refine (fracFact_any _).mono ?_
  rintro e w1 ⟨rfl, hk1⟩
  have K1 : Keep NoS w w1 := Keep.trans (by (repeat' (first | (with_reducible assumption) | (with_reducible exact HK.out) | (with_reducible exact Keep.refl _ _) | (with_reducible refine Keep.alloc ?_ _) | (with_reducible refine Keep.setCell ?_ _ (fun h => absurd h (by omega))) | (with_reducible refine Keep.drewN ?_ _) | (with_reducible refine Keep.drew ?_)))) hk1 fun _ _ _ h => h
  have B0x1 : Blk w1 (w.heap.size) #[.int .i64 n1, .int .i64 d1] := Blk.keep (by (repeat (first | (with_reducible assumption) | (refine blk_at _ _ ?_; simp; done) | (refine Blk.old ?_ _)))) hk1
  have B1x1 : Blk w1 (w.heap.size + 1) #[.int .i64 n2, .int .i64 d2] := Blk.keep (by (repeat (first | (with_reducible assumption) | (refine blk_at _ _ ?_; simp; done) | (refine Blk.old ?_ _)))) hk1
  have B2x1 : Blk w1 (w.heap.size + 1 + 1) #[.int .i64 n3, .int .i64 d3] := Blk.keep (by (repeat (first | (with_reducible assumption) | (refine blk_at _ _ ?_; simp; done) | (refine Blk.old ?_ _)))) hk1
  clear hk1
  obtain ⟨c0a, c0b, f0a, f0b, l0⟩ := B0x1.two
  have m0 : ¬ w1.heap.size = w.heap.size := by omega
  have M0 : ¬ w1.heap.size + 1 = w.heap.size := by omega
  obtain ⟨c1a, c1b, f1a, f1b, l1⟩ := B1x1.two
  have m1 : ¬ w1.heap.size = w.heap.size + 1 := by omega
  have M1 : ¬ w1.heap.size + 1 = w.heap.size + 1 := by omega
  have N1 : ¬ w1.heap.size = w.heap.size := by omega
  have L1 : w.heap.size < w1.heap.size := by omega
  go_wp2_with fail
  refine (op_Add n1 d1 n2 d2 _).mono ?_
  rintro e w2 ⟨rfl, hk2⟩
  have K2 : Keep NoS w w2 := Keep.trans (by (repeat' (first | (with_reducible assumption) | (with_reducible exact HK.out) | (with_reducible exact Keep.refl _ _) | (with_reducible refine Keep.alloc ?_ _) | (with_reducible refine Keep.setCell ?_ _ (fun h => absurd h (by omega))) | (with_reducible refine Keep.drewN ?_ _) | (with_reducible refine Keep.drew ?_)))) hk2 fun _ _ _ h => h
  have B0x2 : Blk w2 (w.heap.size) #[.int .i64 n1, .int .i64 d1] := Blk.keep (by (repeat (first | (with_reducible assumption) | (refine blk_at _ _ ?_; simp; done) | (refine Blk.old ?_ _)))) hk2
  have B1x2 : Blk w2 (w.heap.size + 1) #[.int .i64 n2, .int .i64 d2] := Blk.keep (by (repeat (first | (with_reducible assumption) | (refine blk_at _ _ ?_; simp; done) | (refine Blk.old ?_ _)))) hk2
  have B2x2 : Blk w2 (w.heap.size + 1 + 1) #[.int .i64 n3, .int .i64 d3] := Blk.keep (by (repeat (first | (with_reducible assumption) | (refine blk_at _ _ ?_; simp; done) | (refine Blk.old ?_ _)))) hk2
  clear K1 hk2 B0x1 B1x1 B2x1 c0a c0b f0a f0b l0 m0 M0 N1 L1 c1a c1b f1a f1b l1 m1 M1
  obtain ⟨c0a, c0b, f0a, f0b, l0⟩ := B0x2.two
  have m0 : ¬ w2.heap.size = w.heap.size := by omega
  have M0 : ¬ w2.heap.size + 1 = w.heap.size := by omega
  obtain ⟨c1a, c1b, f1a, f1b, l1⟩ := B1x2.two
  have m1 : ¬ w2.heap.size = w.heap.size + 1 := by omega
  have M1 : ¬ w2.heap.size + 1 = w.heap.size + 1 := by omega
  have N1 : ¬ w2.heap.size = w.heap.size := by omega
  have L1 : w.heap.size < w2.heap.size := by omega
  rw [HA.out]
  go_wp2_with fail
  refine (op_Add n2 d2 n1 d1 _).mono ?_
  rintro e w3 ⟨rfl, hk3⟩
  have K3 : Keep NoS w w3 := Keep.trans (by (repeat' (first | (with_reducible assumption) | (with_reducible exact HK.out) | (with_reducible exact Keep.refl _ _) | (with_reducible refine Keep.alloc ?_ _) | (with_reducible refine Keep.setCell ?_ _ (fun h => absurd h (by omega))) | (with_reducible refine Keep.drewN ?_ _) | (with_reducible refine Keep.drew ?_)))) hk3 fun _ _ _ h => h
  have B0x3 : Blk w3 (w.heap.size) #[.int .i64 n1, .int .i64 d1] := Blk.keep (by (repeat (first | (with_reducible assumption) | (refine blk_at _ _ ?_; simp; done) | (refine Blk.old ?_ _)))) hk3
  have B1x3 : Blk w3 (w.heap.size + 1) #[.int .i64 n2, .int .i64 d2] := Blk.keep (by (repeat (first | (with_reducible assumption) | (refine blk_at _ _ ?_; simp; done) | (refine Blk.old ?_ _)))) hk3
  have B2x3 : Blk w3 (w.heap.size + 1 + 1) #[.int .i64 n3, .int .i64 d3] := Blk.keep (by (repeat (first | (with_reducible assumption) | (refine blk_at _ _ ?_; simp; done) | (refine Blk.old ?_ _)))) hk3
  have B3x3 : Blk w3 (w2.heap.size) #[.int .i64 xn, .int .i64 xd] := Blk.keep (by (repeat (first | (with_reducible assumption) | (refine blk_at _ _ ?_; simp; done) | (refine Blk.old ?_ _)))) hk3
  have B4x3 : Blk w3 (w2.heap.size + 1) #[.int .i64 xc, .int .i64 0] := Blk.keep (by (repeat (first | (with_reducible assumption) | (refine blk_at _ _ ?_; simp; done) | (refine Blk.old ?_ _)))) hk3
  clear K2 hk3 B0x2 B1x2 B2x2 c0a c0b f0a f0b l0 m0 M0 N1 L1 c1a c1b f1a f1b l1 m1 M1
  obtain ⟨c1a, c1b, f1a, f1b, l1⟩ := B1x3.two
  have m1 : ¬ w3.heap.size = w.heap.size + 1 := by omega
  have M1 : ¬ w3.heap.size + 1 = w.heap.size + 1 := by omega
  have N1 : ¬ w3.heap.size = w.heap.size := by omega
  have L1 : w.heap.size < w3.heap.size := by omega
  obtain ⟨c2a, c2b, f2a, f2b, l2⟩ := B2x3.two
  have m2 : ¬ w3.heap.size = w.heap.size + 1 + 1 := by omega
  have M2 : ¬ w3.heap.size + 1 = w.heap.size + 1 + 1 := by omega
  have N2 : ¬ w3.heap.size = w.heap.size + 1 := by omega
  have L2 : w.heap.size + 1 < w3.heap.size := by omega
  rw [HB.out]
  go_wp2_with fail
  refine (op_Add n2 d2 n3 d3 _).mono ?_
  rintro e w4 ⟨rfl, hk4⟩
  have K4 : Keep NoS w w4 := Keep.trans (by (repeat' (first | (with_reducible assumption) | (with_reducible exact HK.out) | (with_reducible exact Keep.refl _ _) | (with_reducible refine Keep.alloc ?_ _) | (with_reducible refine Keep.setCell ?_ _ (fun h => absurd h (by omega))) | (with_reducible refine Keep.drewN ?_ _) | (with_reducible refine Keep.drew ?_)))) hk4 fun _ _ _ h => h
  have B0x4 : Blk w4 (w.heap.size) #[.int .i64 n1, .int .i64 d1] := Blk.keep (by (repeat (first | (with_reducible assumption) | (refine blk_at _ _ ?_; simp; done) | (refine Blk.old ?_ _)))) hk4
  have B1x4 : Blk w4 (w.heap.size + 1) #[.int .i64 n2, .int .i64 d2] := Blk.keep (by (repeat (first | (with_reducible assumption) | (refine blk_at _ _ ?_; simp; done) | (refine Blk.old ?_ _)))) hk4
  have B2x4 : Blk w4 (w.heap.size + 1 + 1) #[.int .i64 n3, .int .i64 d3] := Blk.keep (by (repeat (first | (with_reducible assumption) | (refine blk_at _ _ ?_; simp; done) | (refine Blk.old ?_ _)))) hk4
  have B3x4 : Blk w4 (w2.heap.size) #[.int .i64 xn, .int .i64 xd] := Blk.keep (by (repeat (first | (with_reducible assumption) | (refine blk_at _ _ ?_; simp; done) | (refine Blk.old ?_ _)))) hk4
  have B4x4 : Blk w4 (w2.heap.size + 1) #[.int .i64 xc, .int .i64 0] := Blk.keep (by (repeat (first | (with_reducible assumption) | (refine blk_at _ _ ?_; simp; done) | (refine Blk.old ?_ _)))) hk4
  have B5x4 : Blk w4 (w3.heap.size) #[.int .i64 xn, .int .i64 xd] := Blk.keep (by (repeat (first | (with_reducible assumption) | (refine blk_at _ _ ?_; simp; done) | (refine Blk.old ?_ _)))) hk4
  have B6x4 : Blk w4 (w3.heap.size + 1) #[.int .i64 xc, .int .i64 0] := Blk.keep (by (repeat (first | (with_reducible assumption) | (refine blk_at _ _ ?_; simp; done) | (refine Blk.old ?_ _)))) hk4
  clear K3 hk4 B0x3 B1x3 B2x3 B3x3 B4x3 N1 L1 c1a c1b f1a f1b l1 m1 M1 N2 L2 c2a c2b f2a f2b l2 m2 M2
  obtain ⟨c0a, c0b, f0a, f0b, l0⟩ := B0x4.two
  have m0 : ¬ w4.heap.size = w.heap.size := by omega
  have M0 : ¬ w4.heap.size + 1 = w.heap.size := by omega
  obtain ⟨c1a, c1b, f1a, f1b, l1⟩ := B1x4.two
  have m1 : ¬ w4.heap.size = w.heap.size + 1 := by omega
  have M1 : ¬ w4.heap.size + 1 = w.heap.size + 1 := by omega
  have N1 : ¬ w4.heap.size = w.heap.size := by omega
  have L1 : w.heap.size < w4.heap.size := by omega
  rw [HC.out]
  go_wp2_with fail
  refine (op_Times n1 d1 n2 d2 _).mono ?_
  rintro e w5 ⟨rfl, hk5⟩
  have K5 : Keep NoS w w5 := Keep.trans (by (repeat' (first | (with_reducible assumption) | (with_reducible exact HK.out) | (with_reducible exact Keep.refl _ _) | (with_reducible refine Keep.alloc ?_ _) | (with_reducible refine Keep.setCell ?_ _ (fun h => absurd h (by omega))) | (with_reducible refine Keep.drewN ?_ _) | (with_reducible refine Keep.drew ?_)))) hk5 fun _ _ _ h => h
  have B0x5 : Blk w5 (w.heap.size) #[.int .i64 n1, .int .i64 d1] := Blk.keep (by (repeat (first | (with_reducible assumption) | (refine blk_at _ _ ?_; simp; done) | (refine Blk.old ?_ _)))) hk5
  have B1x5 : Blk w5 (w.heap.size + 1) #[.int .i64 n2, .int .i64 d2] := Blk.keep (by (repeat (first | (with_reducible assumption) | (refine blk_at _ _ ?_; simp; done) | (refine Blk.old ?_ _)))) hk5
  have B2x5 : Blk w5 (w.heap.size + 1 + 1) #[.int .i64 n3, .int .i64 d3] := Blk.keep (by (repeat (first | (with_reducible assumption) | (refine blk_at _ _ ?_; simp; done) | (refine Blk.old ?_ _)))) hk5
  have B3x5 : Blk w5 (w2.heap.size) #[.int .i64 xn, .int .i64 xd] := Blk.keep (by (repeat (first | (with_reducible assumption) | (refine blk_at _ _ ?_; simp; done) | (refine Blk.old ?_ _)))) hk5
  have B4x5 : Blk w5 (w2.heap.size + 1) #[.int .i64 xc, .int .i64 0] := Blk.keep (by (repeat (first | (with_reducible assumption) | (refine blk_at _ _ ?_; simp; done) | (refine Blk.old ?_ _)))) hk5
  have B5x5 : Blk w5 (w3.heap.size) #[.int .i64 xn, .int .i64 xd] := Blk.keep (by (repeat (first | (with_reducible assumption) | (refine blk_at _ _ ?_; simp; done) | (refine Blk.old ?_ _)))) hk5
  have B6x5 : Blk w5 (w3.heap.size + 1) #[.int .i64 xc, .int .i64 0] := Blk.keep (by (repeat (first | (with_reducible assumption) | (refine blk_at _ _ ?_; simp; done) | (refine Blk.old ?_ _)))) hk5
  have B7x5 : Blk w5 (w4.heap.size) #[.int .i64 yn, .int .i64 yd] := Blk.keep (by (repeat (first | (with_reducible assumption) | (refine blk_at _ _ ?_; simp; done) | (refine Blk.old ?_ _)))) hk5
  have B8x5 : Blk w5 (w4.heap.size + 1) #[.int .i64 yc, .int .i64 0] := Blk.keep (by (repeat (first | (with_reducible assumption) | (refine blk_at _ _ ?_; simp; done) | (refine Blk.old ?_ _)))) hk5
  clear K4 hk5 B0x4 B1x4 B2x4 B3x4 B4x4 B5x4 B6x4 c0a c0b f0a f0b l0 m0 M0 N1 L1 c1a c1b f1a f1b l1 m1 M1
  obtain ⟨c0a, c0b, f0a, f0b, l0⟩ := B0x5.two
  have m0 : ¬ w5.heap.size = w.heap.size := by omega
  have M0 : ¬ w5.heap.size + 1 = w.heap.size := by omega
  obtain ⟨c1a, c1b, f1a, f1b, l1⟩ := B1x5.two
  have m1 : ¬ w5.heap.size = w.heap.size + 1 := by omega
  have M1 : ¬ w5.heap.size + 1 = w.heap.size + 1 := by omega
  have N1 : ¬ w5.heap.size = w.heap.size := by omega
  have L1 : w.heap.size < w5.heap.size := by omega
  rw [HD.out]
  go_wp2_with fail
  refine (op_Times n2 d2 n1 d1 _).mono ?_
  rintro e w6 ⟨rfl, hk6⟩
  have K6 : Keep NoS w w6 := Keep.trans (by (repeat' (first | (with_reducible assumption) | (with_reducible exact HK.out) | (with_reducible exact Keep.refl _ _) | (with_reducible refine Keep.alloc ?_ _) | (with_reducible refine Keep.setCell ?_ _ (fun h => absurd h (by omega))) | (with_reducible refine Keep.drewN ?_ _) | (with_reducible refine Keep.drew ?_)))) hk6 fun _ _ _ h => h
  have B0x6 : Blk w6 (w.heap.size) #[.int .i64 n1, .int .i64 d1] := Blk.keep (by (repeat (first | (with_reducible assumption) | (refine blk_at _ _ ?_; simp; done) | (refine Blk.old ?_ _)))) hk6
  have B1x6 : Blk w6 (w.heap.size + 1) #[.int .i64 n2, .int .i64 d2] := Blk.keep (by (repeat (first | (with_reducible assumption) | (refine blk_at _ _ ?_; simp; done) | (refine Blk.old ?_ _)))) hk6
  have B2x6 : Blk w6 (w.heap.size + 1 + 1) #[.int .i64 n3, .int .i64 d3] := Blk.keep (by (repeat (first | (with_reducible assumption) | (refine blk_at _ _ ?_; simp; done) | (refine Blk.old ?_ _)))) hk6
  have B3x6 : Blk w6 (w2.heap.size) #[.int .i64 xn, .int .i64 xd] := Blk.keep (by (repeat (first | (with_reducible assumption) | (refine blk_at _ _ ?_; simp; done) | (refine Blk.old ?_ _)))) hk6
  have B4x6 : Blk w6 (w2.heap.size + 1) #[.int .i64 xc, .int .i64 0] := Blk.keep (by (repeat (first | (with_reducible assumption) | (refine blk_at _ _ ?_; simp; done) | (refine Blk.old ?_ _)))) hk6
  have B5x6 : Blk w6 (w3.heap.size) #[.int .i64 xn, .int .i64 xd] := Blk.keep (by (repeat (first | (with_reducible assumption) | (refine blk_at _ _ ?_; simp; done) | (refine Blk.old ?_ _)))) hk6
  have B6x6 : Blk w6 (w3.heap.size + 1) #[.int .i64 xc, .int .i64 0] := Blk.keep (by (repeat (first | (with_reducible assumption) | (refine blk_at _ _ ?_; simp; done) | (refine Blk.old ?_ _)))) hk6
  have B7x6 : Blk w6 (w4.heap.size) #[.int .i64 yn, .int .i64 yd] := Blk.keep (by (repeat (first | (with_reducible assumption) | (refine blk_at _ _ ?_; simp; done) | (refine Blk.old ?_ _)))) hk6
  have B8x6 : Blk w6 (w4.heap.size + 1) #[.int .i64 yc, .int .i64 0] := Blk.keep (by (repeat (first | (with_reducible assumption) | (refine blk_at _ _ ?_; simp; done) | (refine Blk.old ?_ _)))) hk6
  have B9x6 : Blk w6 (w5.heap.size) #[.int .i64 pn, .int .i64 pd] := Blk.keep (by (repeat (first | (with_reducible assumption) | (refine blk_at _ _ ?_; simp; done) | (refine Blk.old ?_ _)))) hk6
  have B10x6 : Blk w6 (w5.heap.size + 1) #[.int .i64 pc, .int .i64 0] := Blk.keep (by (repeat (first | (with_reducible assumption) | (refine blk_at _ _ ?_; simp; done) | (refine Blk.old ?_ _)))) hk6
  clear K5 hk6 B0x5 B1x5 B2x5 B3x5 B4x5 B5x5 B6x5 B7x5 B8x5 c0a c0b f0a f0b l0 m0 M0 N1 L1 c1a c1b f1a f1b l1 m1 M1
  obtain ⟨c1a, c1b, f1a, f1b, l1⟩ := B1x6.two
  have m1 : ¬ w6.heap.size = w.heap.size + 1 := by omega
  have M1 : ¬ w6.heap.size + 1 = w.heap.size + 1 := by omega
  have N1 : ¬ w6.heap.size = w.heap.size := by omega
  have L1 : w.heap.size < w6.heap.size := by omega
  obtain ⟨c2a, c2b, f2a, f2b, l2⟩ := B2x6.two
  have m2 : ¬ w6.heap.size = w.heap.size + 1 + 1 := by omega
  have M2 : ¬ w6.heap.size + 1 = w.heap.size + 1 + 1 := by omega
  have N2 : ¬ w6.heap.size = w.heap.size + 1 := by omega
  have L2 : w.heap.size + 1 < w6.heap.size := by omega
  rw [HE.out]
  go_wp2_with fail
  refine (op_Times n2 d2 n3 d3 _).mono ?_
  rintro e w7 ⟨rfl, hk7⟩
  have K7 : Keep NoS w w7 := Keep.trans (by (repeat' (first | (with_reducible assumption) | (with_reducible exact HK.out) | (with_reducible exact Keep.refl _ _) | (with_reducible refine Keep.alloc ?_ _) | (with_reducible refine Keep.setCell ?_ _ (fun h => absurd h (by omega))) | (with_reducible refine Keep.drewN ?_ _) | (with_reducible refine Keep.drew ?_)))) hk7 fun _ _ _ h => h
  have B0x7 : Blk w7 (w.heap.size) #[.int .i64 n1, .int .i64 d1] := Blk.keep (by (repeat (first | (with_reducible assumption) | (refine blk_at _ _ ?_; simp; done) | (refine Blk.old ?_ _)))) hk7
  have B1x7 : Blk w7 (w.heap.size + 1) #[.int .i64 n2, .int .i64 d2] := Blk.keep (by (repeat (first | (with_reducible assumption) | (refine blk_at _ _ ?_; simp; done) | (refine Blk.old ?_ _)))) hk7
  have B2x7 : Blk w7 (w.heap.size + 1 + 1) #[.int .i64 n3, .int .i64 d3] := Blk.keep (by (repeat (first | (with_reducible assumption) | (refine blk_at _ _ ?_; simp; done) | (refine Blk.old ?_ _)))) hk7
  have B3x7 : Blk w7 (w2.heap.size) #[.int .i64 xn, .int .i64 xd] := Blk.keep (by (repeat (first | (with_reducible assumption) | (refine blk_at _ _ ?_; simp; done) | (refine Blk.old ?_ _)))) hk7
  have B4x7 : Blk w7 (w2.heap.size + 1) #[.int .i64 xc, .int .i64 0] := Blk.keep (by (repeat (first | (with_reducible assumption) | (refine blk_at _ _ ?_; simp; done) | (refine Blk.old ?_ _)))) hk7
  have B5x7 : Blk w7 (w3.heap.size) #[.int .i64 xn, .int .i64 xd] := Blk.keep (by (repeat (first | (with_reducible assumption) | (refine blk_at _ _ ?_; simp; done) | (refine Blk.old ?_ _)))) hk7
  have B6x7 : Blk w7 (w3.heap.size + 1) #[.int .i64 xc, .int .i64 0] := Blk.keep (by (repeat (first | (with_reducible assumption) | (refine blk_at _ _ ?_; simp; done) | (refine Blk.old ?_ _)))) hk7
  have B7x7 : Blk w7 (w4.heap.size) #[.int .i64 yn, .int .i64 yd] := Blk.keep (by (repeat (first | (with_reducible assumption) | (refine blk_at _ _ ?_; simp; done) | (refine Blk.old ?_ _)))) hk7
  have B8x7 : Blk w7 (w4.heap.size + 1) #[.int .i64 yc, .int .i64 0] := Blk.keep (by (repeat (first | (with_reducible assumption) | (refine blk_at _ _ ?_; simp; done) | (refine Blk.old ?_ _)))) hk7
  have B9x7 : Blk w7 (w5.heap.size) #[.int .i64 pn, .int .i64 pd] := Blk.keep (by (repeat (first | (with_reducible assumption) | (refine blk_at _ _ ?_; simp; done) | (refine Blk.old ?_ _)))) hk7
  have B10x7 : Blk w7 (w5.heap.size + 1) #[.int .i64 pc, .int .i64 0] := Blk.keep (by (repeat (first | (with_reducible assumption) | (refine blk_at _ _ ?_; simp; done) | (refine Blk.old ?_ _)))) hk7
  have B11x7 : Blk w7 (w6.heap.size) #[.int .i64 pn, .int .i64 pd] := Blk.keep (by (repeat (first | (with_reducible assumption) | (refine blk_at _ _ ?_; simp; done) | (refine Blk.old ?_ _)))) hk7
  have B12x7 : Blk w7 (w6.heap.size + 1) #[.int .i64 pc, .int .i64 0] := Blk.keep (by (repeat (first | (with_reducible assumption) | (refine blk_at _ _ ?_; simp; done) | (refine Blk.old ?_ _)))) hk7
  clear K6 hk7 B0x6 B1x6 B2x6 B3x6 B4x6 B5x6 B6x6 B7x6 B8x6 B9x6 B10x6 N1 L1 c1a c1b f1a f1b l1 m1 M1 N2 L2 c2a c2b f2a f2b l2 m2 M2
  obtain ⟨c0a, c0b, f0a, f0b, l0⟩ := B0x7.two
  have m0 : ¬ w7.heap.size = w.heap.size := by omega
  have M0 : ¬ w7.heap.size + 1 = w.heap.size := by omega
  obtain ⟨c2a, c2b, f2a, f2b, l2⟩ := B2x7.two
  have m2 : ¬ w7.heap.size = w.heap.size + 1 + 1 := by omega
  have M2 : ¬ w7.heap.size + 1 = w.heap.size + 1 + 1 := by omega
  have N2 : ¬ w7.heap.size = w.heap.size + 1 := by omega
  have L2 : w.heap.size + 1 < w7.heap.size := by omega
  rw [HF.out]
  go_wp2_with fail
  refine (op_Times n1 d1 n3 d3 _).mono ?_
  rintro e w8 ⟨rfl, hk8⟩
  have K8 : Keep NoS w w8 := Keep.trans (by (repeat' (first | (with_reducible assumption) | (with_reducible exact HK.out) | (with_reducible exact Keep.refl _ _) | (with_reducible refine Keep.alloc ?_ _) | (with_reducible refine Keep.setCell ?_ _ (fun h => absurd h (by omega))) | (with_reducible refine Keep.drewN ?_ _) | (with_reducible refine Keep.drew ?_)))) hk8 fun _ _ _ h => h
  have B0x8 : Blk w8 (w.heap.size) #[.int .i64 n1, .int .i64 d1] := Blk.keep (by (repeat (first | (with_reducible assumption) | (refine blk_at _ _ ?_; simp; done) | (refine Blk.old ?_ _)))) hk8
  have B1x8 : Blk w8 (w.heap.size + 1) #[.int .i64 n2, .int .i64 d2] := Blk.keep (by (repeat (first | (with_reducible assumption) | (refine blk_at _ _ ?_; simp; done) | (refine Blk.old ?_ _)))) hk8
  have B2x8 : Blk w8 (w.heap.size + 1 + 1) #[.int .i64 n3, .int .i64 d3] := Blk.keep (by (repeat (first | (with_reducible assumption) | (refine blk_at _ _ ?_; simp; done) | (refine Blk.old ?_ _)))) hk8
  have B3x8 : Blk w8 (w2.heap.size) #[.int .i64 xn, .int .i64 xd] := Blk.keep (by (repeat (first | (with_reducible assumption) | (refine blk_at _ _ ?_; simp; done) | (refine Blk.old ?_ _)))) hk8
  have B4x8 : Blk w8 (w2.heap.size + 1) #[.int .i64 xc, .int .i64 0] := Blk.keep (by (repeat (first | (with_reducible assumption) | (refine blk_at _ _ ?_; simp; done) | (refine Blk.old ?_ _)))) hk8
  have B5x8 : Blk w8 (w3.heap.size) #[.int .i64 xn, .int .i64 xd] := Blk.keep (by (repeat (first | (with_reducible assumption) | (refine blk_at _ _ ?_; simp; done) | (refine Blk.old ?_ _)))) hk8
  have B6x8 : Blk w8 (w3.heap.size + 1) #[.int .i64 xc, .int .i64 0] := Blk.keep (by (repeat (first | (with_reducible assumption) | (refine blk_at _ _ ?_; simp; done) | (refine Blk.old ?_ _)))) hk8
  have B7x8 : Blk w8 (w4.heap.size) #[.int .i64 yn, .int .i64 yd] := Blk.keep (by (repeat (first | (with_reducible assumption) | (refine blk_at _ _ ?_; simp; done) | (refine Blk.old ?_ _)))) hk8
  have B8x8 : Blk w8 (w4.heap.size + 1) #[.int .i64 yc, .int .i64 0] := Blk.keep (by (repeat (first | (with_reducible assumption) | (refine blk_at _ _ ?_; simp; done) | (refine Blk.old ?_ _)))) hk8
  have B9x8 : Blk w8 (w5.heap.size) #[.int .i64 pn, .int .i64 pd] := Blk.keep (by (repeat (first | (with_reducible assumption) | (refine blk_at _ _ ?_; simp; done) | (refine Blk.old ?_ _)))) hk8
  have B10x8 : Blk w8 (w5.heap.size + 1) #[.int .i64 pc, .int .i64 0] := Blk.keep (by (repeat (first | (with_reducible assumption) | (refine blk_at _ _ ?_; simp; done) | (refine Blk.old ?_ _)))) hk8
  have B11x8 : Blk w8 (w6.heap.size) #[.int .i64 pn, .int .i64 pd] := Blk.keep (by (repeat (first | (with_reducible assumption) | (refine blk_at _ _ ?_; simp; done) | (refine Blk.old ?_ _)))) hk8
  have B12x8 : Blk w8 (w6.heap.size + 1) #[.int .i64 pc, .int .i64 0] := Blk.keep (by (repeat (first | (with_reducible assumption) | (refine blk_at _ _ ?_; simp; done) | (refine Blk.old ?_ _)))) hk8
  have B13x8 : Blk w8 (w7.heap.size) #[.int .i64 qn, .int .i64 qd] := Blk.keep (by (repeat (first | (with_reducible assumption) | (refine blk_at _ _ ?_; simp; done) | (refine Blk.old ?_ _)))) hk8
  have B14x8 : Blk w8 (w7.heap.size + 1) #[.int .i64 qc, .int .i64 0] := Blk.keep (by (repeat (first | (with_reducible assumption) | (refine blk_at _ _ ?_; simp; done) | (refine Blk.old ?_ _)))) hk8
  clear K7 hk8 B0x7 B1x7 B2x7 B3x7 B4x7 B5x7 B6x7 B7x7 B8x7 B9x7 B10x7 B11x7 B12x7 c0a c0b f0a f0b l0 m0 M0 N2 L2 c2a c2b f2a f2b l2 m2 M2
  obtain ⟨c0a, c0b, f0a, f0b, l0⟩ := B0x8.two
  have m0 : ¬ w8.heap.size = w.heap.size := by omega
  have M0 : ¬ w8.heap.size + 1 = w.heap.size := by omega
  obtain ⟨c1a, c1b, f1a, f1b, l1⟩ := B1x8.two
  have m1 : ¬ w8.heap.size = w.heap.size + 1 := by omega
  have M1 : ¬ w8.heap.size + 1 = w.heap.size + 1 := by omega
  have N1 : ¬ w8.heap.size = w.heap.size := by omega
  have L1 : w.heap.size < w8.heap.size := by omega
  obtain ⟨c2a, c2b, f2a, f2b, l2⟩ := B2x8.two
  have m2 : ¬ w8.heap.size = w.heap.size + 1 + 1 := by omega
  have M2 : ¬ w8.heap.size + 1 = w.heap.size + 1 + 1 := by omega
  have N2 : ¬ w8.heap.size = w.heap.size + 1 := by omega
  have L2 : w.heap.size + 1 < w8.heap.size := by omega
  obtain ⟨c3a, c3b, f3a, f3b, l3⟩ := B3x8.two
  have m3 : ¬ w8.heap.size = w2.heap.size := by omega
  have M3 : ¬ w8.heap.size + 1 = w2.heap.size := by omega
  obtain ⟨c4a, c4b, f4a, f4b, l4⟩ := B4x8.two
  have m4 : ¬ w8.heap.size = w2.heap.size + 1 := by omega
  have M4 : ¬ w8.heap.size + 1 = w2.heap.size + 1 := by omega
  have N4 : ¬ w8.heap.size = w2.heap.size := by omega
  have L4 : w2.heap.size < w8.heap.size := by omega
  obtain ⟨c5a, c5b, f5a, f5b, l5⟩ := B5x8.two
  have m5 : ¬ w8.heap.size = w3.heap.size := by omega
  have M5 : ¬ w8.heap.size + 1 = w3.heap.size := by omega
  obtain ⟨c6a, c6b, f6a, f6b, l6⟩ := B6x8.two
  have m6 : ¬ w8.heap.size = w3.heap.size + 1 := by omega
  have M6 : ¬ w8.heap.size + 1 = w3.heap.size + 1 := by omega
  have N6 : ¬ w8.heap.size = w3.heap.size := by omega
  have L6 : w3.heap.size < w8.heap.size := by omega
  obtain ⟨c7a, c7b, f7a, f7b, l7⟩ := B7x8.two
  have m7 : ¬ w8.heap.size = w4.heap.size := by omega
  have M7 : ¬ w8.heap.size + 1 = w4.heap.size := by omega
  obtain ⟨c8a, c8b, f8a, f8b, l8⟩ := B8x8.two
  have m8 : ¬ w8.heap.size = w4.heap.size + 1 := by omega
  have M8 : ¬ w8.heap.size + 1 = w4.heap.size + 1 := by omega
  have N8 : ¬ w8.heap.size = w4.heap.size := by omega
  have L8 : w4.heap.size < w8.heap.size := by omega
  obtain ⟨c9a, c9b, f9a, f9b, l9⟩ := B9x8.two
  have m9 : ¬ w8.heap.size = w5.heap.size := by omega
  have M9 : ¬ w8.heap.size + 1 = w5.heap.size := by omega
  obtain ⟨c10a, c10b, f10a, f10b, l10⟩ := B10x8.two
  have m10 : ¬ w8.heap.size = w5.heap.size + 1 := by omega
  have M10 : ¬ w8.heap.size + 1 = w5.heap.size + 1 := by omega
  have N10 : ¬ w8.heap.size = w5.heap.size := by omega
  have L10 : w5.heap.size < w8.heap.size := by omega
  obtain ⟨c11a, c11b, f11a, f11b, l11⟩ := B11x8.two
  have m11 : ¬ w8.heap.size = w6.heap.size := by omega
  have M11 : ¬ w8.heap.size + 1 = w6.heap.size := by omega
  obtain ⟨c12a, c12b, f12a, f12b, l12⟩ := B12x8.two
  have m12 : ¬ w8.heap.size = w6.heap.size + 1 := by omega
  have M12 : ¬ w8.heap.size + 1 = w6.heap.size + 1 := by omega
  have N12 : ¬ w8.heap.size = w6.heap.size := by omega
  have L12 : w6.heap.size < w8.heap.size := by omega
  obtain ⟨c13a, c13b, f13a, f13b, l13⟩ := B13x8.two
  have m13 : ¬ w8.heap.size = w7.heap.size := by omega
  have M13 : ¬ w8.heap.size + 1 = w7.heap.size := by omega
  obtain ⟨c14a, c14b, f14a, f14b, l14⟩ := B14x8.two
  have m14 : ¬ w8.heap.size = w7.heap.size + 1 := by omega
  have M14 : ¬ w8.heap.size + 1 = w7.heap.size + 1 := by omega
  have N14 : ¬ w8.heap.size = w7.heap.size := by omega
  have L14 : w7.heap.size < w8.heap.size := by omega
  rw [HG.out]
  obtain ⟨rfl, ox, ex⟩ | ⟨rfl, rfl, rfl⟩ := HX.out
  rotate_left
  · go_wp2
    go_returns
    exact ⟨rfl, Keep.bel (by (repeat' (first | (with_reducible assumption) | (with_reducible exact HK.out) | (with_reducible exact Keep.refl _ _) | (with_reducible refine Keep.alloc ?_ _) | (with_reducible refine Keep.setCell ?_ _ (fun h => absurd h (by omega))) | (with_reducible refine Keep.drewN ?_ _) | (with_reducible refine Keep.drew ?_))))⟩
  obtain ⟨rfl, oy, ey⟩ | ⟨rfl, rfl, rfl⟩ := HY.out
  rotate_left
  · clear ox ex
    go_wp2
    go_returns
    exact ⟨rfl, Keep.bel (by (repeat' (first | (with_reducible assumption) | (with_reducible exact HK.out) | (with_reducible exact Keep.refl _ _) | (with_reducible refine Keep.alloc ?_ _) | (with_reducible refine Keep.setCell ?_ _ (fun h => absurd h (by omega))) | (with_reducible refine Keep.drewN ?_ _) | (with_reducible refine Keep.drew ?_))))⟩
  obtain ⟨rfl, op, ep⟩ | ⟨rfl, rfl, rfl⟩ := HP.out
  rotate_left
  · clear ox ex oy ey
    go_wp2
    go_returns
    exact ⟨rfl, Keep.bel (by (repeat' (first | (with_reducible assumption) | (with_reducible exact HK.out) | (with_reducible exact Keep.refl _ _) | (with_reducible refine Keep.alloc ?_ _) | (with_reducible refine Keep.setCell ?_ _ (fun h => absurd h (by omega))) | (with_reducible refine Keep.drewN ?_ _) | (with_reducible refine Keep.drew ?_))))⟩
  obtain ⟨rfl, oq, eq⟩ | ⟨rfl, rfl, rfl⟩ := HQ.out
  rotate_left
  · clear ox ex oy ey op ep
    go_wp2
    go_returns
    exact ⟨rfl, Keep.bel (by (repeat' (first | (with_reducible assumption) | (with_reducible exact HK.out) | (with_reducible exact Keep.refl _ _) | (with_reducible refine Keep.alloc ?_ _) | (with_reducible refine Keep.setCell ?_ _ (fun h => absurd h (by omega))) | (with_reducible refine Keep.drewN ?_ _) | (with_reducible refine Keep.drew ?_))))⟩
  obtain ⟨rfl, or_, er⟩ | ⟨rfl, rfl, rfl⟩ := HR.out
  rotate_left
  · clear ox ex oy ey op ep oq eq
    go_wp2
    go_returns
    exact ⟨rfl, Keep.bel (by (repeat' (first | (with_reducible assumption) | (with_reducible exact HK.out) | (with_reducible exact Keep.refl _ _) | (with_reducible refine Keep.alloc ?_ _) | (with_reducible refine Keep.setCell ?_ _ (fun h => absurd h (by omega))) | (with_reducible refine Keep.drewN ?_ _) | (with_reducible refine Keep.drew ?_))))⟩
  obtain ⟨an, ad, ac, ha, ha'⟩ := made_form (fr n1 d1 + fr n2 d2 + fr n3 d3)
  obtain ⟨un, ud, uc, hu, hu'⟩ := made_form (fr n1 d1 * fr n2 d2 * fr n3 d3)
  obtain ⟨sn, sd, sc, hs, hs'⟩ := made_form (fr n1 d1 * (fr n2 d2 + fr n3 d3))
  have I1 := Lib.hid ((by rw [add_made ox H3.out, ex] : opV xn xd n3 d3 (xn * d3 + n3 * xd) (xd * d3) = fracMadeV (fr n1 d1 + fr n2 d2 + fr n3 d3)).trans ha)
  have I2 := Lib.hid ((by rw [add_made H1.out oy, ey, ← Rat.add_assoc] : opV n1 d1 yn yd (n1 * yd + yn * d1) (d1 * yd) = fracMadeV (fr n1 d1 + fr n2 d2 + fr n3 d3)).trans ha)
  have I3 := Lib.hid ((by rw [mul_made op H3.out, ep] : opV pn pd n3 d3 (pn * n3) (pd * d3) = fracMadeV (fr n1 d1 * fr n2 d2 * fr n3 d3)).trans hu)
  have I4 := Lib.hid ((by rw [mul_made H1.out oq, eq, ← Rat.mul_assoc] : opV n1 d1 qn qd (n1 * qn) (d1 * qd) = fracMadeV (fr n1 d1 * fr n2 d2 * fr n3 d3)).trans hu)
  have I5 := Lib.hid ((by rw [mul_made H1.out oy, ey] : opV n1 d1 yn yd (n1 * yn) (d1 * yd) = fracMadeV (fr n1 d1 * (fr n2 d2 + fr n3 d3))).trans hs)
  have I6 := Lib.hid ((by rw [add_made op or_, ep, er, ← Rat.mul_add] : opV pn pd rn rd (pn * rd + rn * pd) (pd * rd) = fracMadeV (fr n1 d1 * (fr n2 d2 + fr n3 d3))).trans hs)
  have I7 := Lib.hid ((by rw [sub_made ox H2.out, ex, show fr n1 d1 + fr n2 d2 - fr n2 d2 = fr n1 d1 from by rw [Rat.sub_eq_add_neg, Rat.add_assoc, Rat.add_neg_cancel, Rat.add_zero]] : opV xn xd n2 d2 (xn * d2 - n2 * xd) (xd * d2) = fracMadeV (fr n1 d1)).trans (made_of_ok H1.out))
  obtain ⟨vn, vd, vc, hv, hv'⟩ : ∃ vn vd vc, opV pn pd n2 d2 (pn * d2) (pd * n2) = .tuple #[.agg #[.int .i64 vn, .int .i64 vd], .agg #[.int .i64 vc, .int .i64 0]] ∧ (n2 = 0 ∧ vc = 6 ∨ n2 ≠ 0 ∧ vc = 0 ∧ vn = n1 ∧ vd = d1) := by
    by_cases hz : n2 = 0
    · exact ⟨_, _, _, over_zero op H2.out hz, .inl ⟨hz, rfl⟩⟩
    · refine ⟨_, _, _, ?_, .inr ⟨hz, rfl, rfl, rfl⟩⟩
      rw [over_made op H2.out hz, ep, Rat.div_def, Rat.mul_assoc, Rat.mul_inv_cancel _ (fun h => hz ((fr_zero H2.out).1 h)), Rat.mul_one]
      exact made_of_ok H1.out
  have I8 := Lib.hid hv
  have V8 := Lib.hid hv'
  have HA' := Lib.hid ha'
  have HU' := Lib.hid hu'
  have HS' := Lib.hid hs'
  clear hv hv' ha ha' hu hu' hs hs' HA HB HC HD HE HF HG HX HY HP HQ HR ox ex oy ey op ep oq eq or_ er
  go_wp2_with fail
  refine (op_Add xn xd n3 d3 _).mono ?_
  rintro e w9 ⟨rfl, hk9⟩
  have K9 : Keep NoS w w9 := Keep.trans (by (repeat' (first | (with_reducible assumption) | (with_reducible exact HK.out) | (with_reducible exact Keep.refl _ _) | (with_reducible refine Keep.alloc ?_ _) | (with_reducible refine Keep.setCell ?_ _ (fun h => absurd h (by omega))) | (with_reducible refine Keep.drewN ?_ _) | (with_reducible refine Keep.drew ?_)))) hk9 fun _ _ _ h => h
  have B0x9 : Blk w9 (w.heap.size) #[.int .i64 n1, .int .i64 d1] := Blk.keep (by (repeat (first | (with_reducible assumption) | (refine blk_at _ _ ?_; simp; done) | (refine Blk.old ?_ _)))) hk9
  have B1x9 : Blk w9 (w.heap.size + 1) #[.int .i64 n2, .int .i64 d2] := Blk.keep (by (repeat (first | (with_reducible assumption) | (refine blk_at _ _ ?_; simp; done) | (refine Blk.old ?_ _)))) hk9
  have B2x9 : Blk w9 (w.heap.size + 1 + 1) #[.int .i64 n3, .int .i64 d3] := Blk.keep (by (repeat (first | (with_reducible assumption) | (refine blk_at _ _ ?_; simp; done) | (refine Blk.old ?_ _)))) hk9
  have B3x9 : Blk w9 (w2.heap.size) #[.int .i64 xn, .int .i64 xd] := Blk.keep (by (repeat (first | (with_reducible assumption) | (refine blk_at _ _ ?_; simp; done) | (refine Blk.old ?_ _)))) hk9
  have B7x9 : Blk w9 (w4.heap.size) #[.int .i64 yn, .int .i64 yd] := Blk.keep (by (repeat (first | (with_reducible assumption) | (refine blk_at _ _ ?_; simp; done) | (refine Blk.old ?_ _)))) hk9
  have B9x9 : Blk w9 (w5.heap.size) #[.int .i64 pn, .int .i64 pd] := Blk.keep (by (repeat (first | (with_reducible assumption) | (refine blk_at _ _ ?_; simp; done) | (refine Blk.old ?_ _)))) hk9
  have B13x9 : Blk w9 (w7.heap.size) #[.int .i64 qn, .int .i64 qd] := Blk.keep (by (repeat (first | (with_reducible assumption) | (refine blk_at _ _ ?_; simp; done) | (refine Blk.old ?_ _)))) hk9
  have B15x9 : Blk w9 (w8.heap.size) #[.int .i64 rn, .int .i64 rd] := Blk.keep (by (repeat (first | (with_reducible assumption) | (refine blk_at _ _ ?_; simp; done) | (refine Blk.old ?_ _)))) hk9
  clear K8 hk9 B0x8 B1x8 B2x8 B3x8 B4x8 B5x8 B6x8 B7x8 B8x8 B9x8 B10x8 B11x8 B12x8 B13x8 B14x8 c0a c0b f0a f0b l0 m0 M0 N1 L1 c1a c1b f1a f1b l1 m1 M1 N2 L2 c2a c2b f2a f2b l2 m2 M2 c3a c3b f3a f3b l3 m3 M3 N4 L4 c4a c4b f4a f4b l4 m4 M4 c5a c5b f5a f5b l5 m5 M5 N6 L6 c6a c6b f6a f6b l6 m6 M6 c7a c7b f7a f7b l7 m7 M7 N8 L8 c8a c8b f8a f8b l8 m8 M8 c9a c9b f9a f9b l9 m9 M9 N10 L10 c10a c10b f10a f10b l10 m10 M10 c11a c11b f11a f11b l11 m11 M11 N12 L12 c12a c12b f12a f12b l12 m12 M12 c13a c13b f13a f13b l13 m13 M13 N14 L14 c14a c14b f14a f14b l14 m14 M14
  obtain ⟨c0a, c0b, f0a, f0b, l0⟩ := B0x9.two
  have m0 : ¬ w9.heap.size = w.heap.size := by omega
  have M0 : ¬ w9.heap.size + 1 = w.heap.size := by omega
  obtain ⟨c7a, c7b, f7a, f7b, l7⟩ := B7x9.two
  have m7 : ¬ w9.heap.size = w4.heap.size := by omega
  have M7 : ¬ w9.heap.size + 1 = w4.heap.size := by omega
  rw [I1.out]
  go_wp2_with fail
  refine (op_Add n1 d1 yn yd _).mono ?_
  rintro e w10 ⟨rfl, hk10⟩
  have K10 : Keep NoS w w10 := Keep.trans (by (repeat' (first | (with_reducible assumption) | (with_reducible exact HK.out) | (with_reducible exact Keep.refl _ _) | (with_reducible refine Keep.alloc ?_ _) | (with_reducible refine Keep.setCell ?_ _ (fun h => absurd h (by omega))) | (with_reducible refine Keep.drewN ?_ _) | (with_reducible refine Keep.drew ?_)))) hk10 fun _ _ _ h => h
  have B0x10 : Blk w10 (w.heap.size) #[.int .i64 n1, .int .i64 d1] := Blk.keep (by (repeat (first | (with_reducible assumption) | (refine blk_at _ _ ?_; simp; done) | (refine Blk.old ?_ _)))) hk10
  have B1x10 : Blk w10 (w.heap.size + 1) #[.int .i64 n2, .int .i64 d2] := Blk.keep (by (repeat (first | (with_reducible assumption) | (refine blk_at _ _ ?_; simp; done) | (refine Blk.old ?_ _)))) hk10
  have B2x10 : Blk w10 (w.heap.size + 1 + 1) #[.int .i64 n3, .int .i64 d3] := Blk.keep (by (repeat (first | (with_reducible assumption) | (refine blk_at _ _ ?_; simp; done) | (refine Blk.old ?_ _)))) hk10
  have B3x10 : Blk w10 (w2.heap.size) #[.int .i64 xn, .int .i64 xd] := Blk.keep (by (repeat (first | (with_reducible assumption) | (refine blk_at _ _ ?_; simp; done) | (refine Blk.old ?_ _)))) hk10
  have B7x10 : Blk w10 (w4.heap.size) #[.int .i64 yn, .int .i64 yd] := Blk.keep (by (repeat (first | (with_reducible assumption) | (refine blk_at _ _ ?_; simp; done) | (refine Blk.old ?_ _)))) hk10
  have B9x10 : Blk w10 (w5.heap.size) #[.int .i64 pn, .int .i64 pd] := Blk.keep (by (repeat (first | (with_reducible assumption) | (refine blk_at _ _ ?_; simp; done) | (refine Blk.old ?_ _)))) hk10
  have B13x10 : Blk w10 (w7.heap.size) #[.int .i64 qn, .int .i64 qd] := Blk.keep (by (repeat (first | (with_reducible assumption) | (refine blk_at _ _ ?_; simp; done) | (refine Blk.old ?_ _)))) hk10
  have B15x10 : Blk w10 (w8.heap.size) #[.int .i64 rn, .int .i64 rd] := Blk.keep (by (repeat (first | (with_reducible assumption) | (refine blk_at _ _ ?_; simp; done) | (refine Blk.old ?_ _)))) hk10
  have B17x10 : Blk w10 (w9.heap.size) #[.int .i64 an, .int .i64 ad] := Blk.keep (by (repeat (first | (with_reducible assumption) | (refine blk_at _ _ ?_; simp; done) | (refine Blk.old ?_ _)))) hk10
  have B18x10 : Blk w10 (w9.heap.size + 1) #[.int .i64 ac, .int .i64 0] := Blk.keep (by (repeat (first | (with_reducible assumption) | (refine blk_at _ _ ?_; simp; done) | (refine Blk.old ?_ _)))) hk10
  clear K9 hk10 B0x9 B1x9 B2x9 B3x9 B7x9 B9x9 B13x9 B15x9 c0a c0b f0a f0b l0 m0 M0 c7a c7b f7a f7b l7 m7 M7
  obtain ⟨c2a, c2b, f2a, f2b, l2⟩ := B2x10.two
  have m2 : ¬ w10.heap.size = w.heap.size + 1 + 1 := by omega
  have M2 : ¬ w10.heap.size + 1 = w.heap.size + 1 + 1 := by omega
  have N2 : ¬ w10.heap.size = w.heap.size + 1 := by omega
  have L2 : w.heap.size + 1 < w10.heap.size := by omega
  obtain ⟨c9a, c9b, f9a, f9b, l9⟩ := B9x10.two
  have m9 : ¬ w10.heap.size = w5.heap.size := by omega
  have M9 : ¬ w10.heap.size + 1 = w5.heap.size := by omega
  rw [I2.out]
  go_wp2_with fail
  refine (op_Times pn pd n3 d3 _).mono ?_
  rintro e w11 ⟨rfl, hk11⟩
  have K11 : Keep NoS w w11 := Keep.trans (by (repeat' (first | (with_reducible assumption) | (with_reducible exact HK.out) | (with_reducible exact Keep.refl _ _) | (with_reducible refine Keep.alloc ?_ _) | (with_reducible refine Keep.setCell ?_ _ (fun h => absurd h (by omega))) | (with_reducible refine Keep.drewN ?_ _) | (with_reducible refine Keep.drew ?_)))) hk11 fun _ _ _ h => h
  have B0x11 : Blk w11 (w.heap.size) #[.int .i64 n1, .int .i64 d1] := Blk.keep (by (repeat (first | (with_reducible assumption) | (refine blk_at _ _ ?_; simp; done) | (refine Blk.old ?_ _)))) hk11
  have B1x11 : Blk w11 (w.heap.size + 1) #[.int .i64 n2, .int .i64 d2] := Blk.keep (by (repeat (first | (with_reducible assumption) | (refine blk_at _ _ ?_; simp; done) | (refine Blk.old ?_ _)))) hk11
  have B2x11 : Blk w11 (w.heap.size + 1 + 1) #[.int .i64 n3, .int .i64 d3] := Blk.keep (by (repeat (first | (with_reducible assumption) | (refine blk_at _ _ ?_; simp; done) | (refine Blk.old ?_ _)))) hk11
  have B3x11 : Blk w11 (w2.heap.size) #[.int .i64 xn, .int .i64 xd] := Blk.keep (by (repeat (first | (with_reducible assumption) | (refine blk_at _ _ ?_; simp; done) | (refine Blk.old ?_ _)))) hk11
  have B7x11 : Blk w11 (w4.heap.size) #[.int .i64 yn, .int .i64 yd] := Blk.keep (by (repeat (first | (with_reducible assumption) | (refine blk_at _ _ ?_; simp; done) | (refine Blk.old ?_ _)))) hk11
  have B9x11 : Blk w11 (w5.heap.size) #[.int .i64 pn, .int .i64 pd] := Blk.keep (by (repeat (first | (with_reducible assumption) | (refine blk_at _ _ ?_; simp; done) | (refine Blk.old ?_ _)))) hk11
  have B13x11 : Blk w11 (w7.heap.size) #[.int .i64 qn, .int .i64 qd] := Blk.keep (by (repeat (first | (with_reducible assumption) | (refine blk_at _ _ ?_; simp; done) | (refine Blk.old ?_ _)))) hk11
  have B15x11 : Blk w11 (w8.heap.size) #[.int .i64 rn, .int .i64 rd] := Blk.keep (by (repeat (first | (with_reducible assumption) | (refine blk_at _ _ ?_; simp; done) | (refine Blk.old ?_ _)))) hk11
  have B17x11 : Blk w11 (w9.heap.size) #[.int .i64 an, .int .i64 ad] := Blk.keep (by (repeat (first | (with_reducible assumption) | (refine blk_at _ _ ?_; simp; done) | (refine Blk.old ?_ _)))) hk11
  have B18x11 : Blk w11 (w9.heap.size + 1) #[.int .i64 ac, .int .i64 0] := Blk.keep (by (repeat (first | (with_reducible assumption) | (refine blk_at _ _ ?_; simp; done) | (refine Blk.old ?_ _)))) hk11
  have B19x11 : Blk w11 (w10.heap.size) #[.int .i64 an, .int .i64 ad] := Blk.keep (by (repeat (first | (with_reducible assumption) | (refine blk_at _ _ ?_; simp; done) | (refine Blk.old ?_ _)))) hk11
  have B20x11 : Blk w11 (w10.heap.size + 1) #[.int .i64 ac, .int .i64 0] := Blk.keep (by (repeat (first | (with_reducible assumption) | (refine blk_at _ _ ?_; simp; done) | (refine Blk.old ?_ _)))) hk11
  clear K10 hk11 B0x10 B1x10 B2x10 B3x10 B7x10 B9x10 B13x10 B15x10 B17x10 B18x10 N2 L2 c2a c2b f2a f2b l2 m2 M2 c9a c9b f9a f9b l9 m9 M9
  obtain ⟨c0a, c0b, f0a, f0b, l0⟩ := B0x11.two
  have m0 : ¬ w11.heap.size = w.heap.size := by omega
  have M0 : ¬ w11.heap.size + 1 = w.heap.size := by omega
  obtain ⟨c13a, c13b, f13a, f13b, l13⟩ := B13x11.two
  have m13 : ¬ w11.heap.size = w7.heap.size := by omega
  have M13 : ¬ w11.heap.size + 1 = w7.heap.size := by omega
  rw [I3.out]
  go_wp2_with fail
  refine (op_Times n1 d1 qn qd _).mono ?_
  rintro e w12 ⟨rfl, hk12⟩
  have K12 : Keep NoS w w12 := Keep.trans (by (repeat' (first | (with_reducible assumption) | (with_reducible exact HK.out) | (with_reducible exact Keep.refl _ _) | (with_reducible refine Keep.alloc ?_ _) | (with_reducible refine Keep.setCell ?_ _ (fun h => absurd h (by omega))) | (with_reducible refine Keep.drewN ?_ _) | (with_reducible refine Keep.drew ?_)))) hk12 fun _ _ _ h => h
  have B0x12 : Blk w12 (w.heap.size) #[.int .i64 n1, .int .i64 d1] := Blk.keep (by (repeat (first | (with_reducible assumption) | (refine blk_at _ _ ?_; simp; done) | (refine Blk.old ?_ _)))) hk12
  have B1x12 : Blk w12 (w.heap.size + 1) #[.int .i64 n2, .int .i64 d2] := Blk.keep (by (repeat (first | (with_reducible assumption) | (refine blk_at _ _ ?_; simp; done) | (refine Blk.old ?_ _)))) hk12
  have B2x12 : Blk w12 (w.heap.size + 1 + 1) #[.int .i64 n3, .int .i64 d3] := Blk.keep (by (repeat (first | (with_reducible assumption) | (refine blk_at _ _ ?_; simp; done) | (refine Blk.old ?_ _)))) hk12
  have B3x12 : Blk w12 (w2.heap.size) #[.int .i64 xn, .int .i64 xd] := Blk.keep (by (repeat (first | (with_reducible assumption) | (refine blk_at _ _ ?_; simp; done) | (refine Blk.old ?_ _)))) hk12
  have B7x12 : Blk w12 (w4.heap.size) #[.int .i64 yn, .int .i64 yd] := Blk.keep (by (repeat (first | (with_reducible assumption) | (refine blk_at _ _ ?_; simp; done) | (refine Blk.old ?_ _)))) hk12
  have B9x12 : Blk w12 (w5.heap.size) #[.int .i64 pn, .int .i64 pd] := Blk.keep (by (repeat (first | (with_reducible assumption) | (refine blk_at _ _ ?_; simp; done) | (refine Blk.old ?_ _)))) hk12
  have B13x12 : Blk w12 (w7.heap.size) #[.int .i64 qn, .int .i64 qd] := Blk.keep (by (repeat (first | (with_reducible assumption) | (refine blk_at _ _ ?_; simp; done) | (refine Blk.old ?_ _)))) hk12
  have B15x12 : Blk w12 (w8.heap.size) #[.int .i64 rn, .int .i64 rd] := Blk.keep (by (repeat (first | (with_reducible assumption) | (refine blk_at _ _ ?_; simp; done) | (refine Blk.old ?_ _)))) hk12
  have B17x12 : Blk w12 (w9.heap.size) #[.int .i64 an, .int .i64 ad] := Blk.keep (by (repeat (first | (with_reducible assumption) | (refine blk_at _ _ ?_; simp; done) | (refine Blk.old ?_ _)))) hk12
  have B18x12 : Blk w12 (w9.heap.size + 1) #[.int .i64 ac, .int .i64 0] := Blk.keep (by (repeat (first | (with_reducible assumption) | (refine blk_at _ _ ?_; simp; done) | (refine Blk.old ?_ _)))) hk12
  have B19x12 : Blk w12 (w10.heap.size) #[.int .i64 an, .int .i64 ad] := Blk.keep (by (repeat (first | (with_reducible assumption) | (refine blk_at _ _ ?_; simp; done) | (refine Blk.old ?_ _)))) hk12
  have B20x12 : Blk w12 (w10.heap.size + 1) #[.int .i64 ac, .int .i64 0] := Blk.keep (by (repeat (first | (with_reducible assumption) | (refine blk_at _ _ ?_; simp; done) | (refine Blk.old ?_ _)))) hk12
  have B21x12 : Blk w12 (w11.heap.size) #[.int .i64 un, .int .i64 ud] := Blk.keep (by (repeat (first | (with_reducible assumption) | (refine blk_at _ _ ?_; simp; done) | (refine Blk.old ?_ _)))) hk12
  have B22x12 : Blk w12 (w11.heap.size + 1) #[.int .i64 uc, .int .i64 0] := Blk.keep (by (repeat (first | (with_reducible assumption) | (refine blk_at _ _ ?_; simp; done) | (refine Blk.old ?_ _)))) hk12
  clear K11 hk12 B0x11 B1x11 B2x11 B3x11 B7x11 B9x11 B13x11 B15x11 B17x11 B18x11 B19x11 B20x11 c0a c0b f0a f0b l0 m0 M0 c13a c13b f13a f13b l13 m13 M13
  obtain ⟨c0a, c0b, f0a, f0b, l0⟩ := B0x12.two
  have m0 : ¬ w12.heap.size = w.heap.size := by omega
  have M0 : ¬ w12.heap.size + 1 = w.heap.size := by omega
  obtain ⟨c7a, c7b, f7a, f7b, l7⟩ := B7x12.two
  have m7 : ¬ w12.heap.size = w4.heap.size := by omega
  have M7 : ¬ w12.heap.size + 1 = w4.heap.size := by omega
  rw [I4.out]
  go_wp2_with fail
  refine (op_Times n1 d1 yn yd _).mono ?_
  rintro e w13 ⟨rfl, hk13⟩
  have K13 : Keep NoS w w13 := Keep.trans (by (repeat' (first | (with_reducible assumption) | (with_reducible exact HK.out) | (with_reducible exact Keep.refl _ _) | (with_reducible refine Keep.alloc ?_ _) | (with_reducible refine Keep.setCell ?_ _ (fun h => absurd h (by omega))) | (with_reducible refine Keep.drewN ?_ _) | (with_reducible refine Keep.drew ?_)))) hk13 fun _ _ _ h => h
  have B0x13 : Blk w13 (w.heap.size) #[.int .i64 n1, .int .i64 d1] := Blk.keep (by (repeat (first | (with_reducible assumption) | (refine blk_at _ _ ?_; simp; done) | (refine Blk.old ?_ _)))) hk13
  have B1x13 : Blk w13 (w.heap.size + 1) #[.int .i64 n2, .int .i64 d2] := Blk.keep (by (repeat (first | (with_reducible assumption) | (refine blk_at _ _ ?_; simp; done) | (refine Blk.old ?_ _)))) hk13
  have B2x13 : Blk w13 (w.heap.size + 1 + 1) #[.int .i64 n3, .int .i64 d3] := Blk.keep (by (repeat (first | (with_reducible assumption) | (refine blk_at _ _ ?_; simp; done) | (refine Blk.old ?_ _)))) hk13
  have B3x13 : Blk w13 (w2.heap.size) #[.int .i64 xn, .int .i64 xd] := Blk.keep (by (repeat (first | (with_reducible assumption) | (refine blk_at _ _ ?_; simp; done) | (refine Blk.old ?_ _)))) hk13
  have B7x13 : Blk w13 (w4.heap.size) #[.int .i64 yn, .int .i64 yd] := Blk.keep (by (repeat (first | (with_reducible assumption) | (refine blk_at _ _ ?_; simp; done) | (refine Blk.old ?_ _)))) hk13
  have B9x13 : Blk w13 (w5.heap.size) #[.int .i64 pn, .int .i64 pd] := Blk.keep (by (repeat (first | (with_reducible assumption) | (refine blk_at _ _ ?_; simp; done) | (refine Blk.old ?_ _)))) hk13
  have B13x13 : Blk w13 (w7.heap.size) #[.int .i64 qn, .int .i64 qd] := Blk.keep (by (repeat (first | (with_reducible assumption) | (refine blk_at _ _ ?_; simp; done) | (refine Blk.old ?_ _)))) hk13
  have B15x13 : Blk w13 (w8.heap.size) #[.int .i64 rn, .int .i64 rd] := Blk.keep (by (repeat (first | (with_reducible assumption) | (refine blk_at _ _ ?_; simp; done) | (refine Blk.old ?_ _)))) hk13
  have B17x13 : Blk w13 (w9.heap.size) #[.int .i64 an, .int .i64 ad] := Blk.keep (by (repeat (first | (with_reducible assumption) | (refine blk_at _ _ ?_; simp; done) | (refine Blk.old ?_ _)))) hk13
  have B18x13 : Blk w13 (w9.heap.size + 1) #[.int .i64 ac, .int .i64 0] := Blk.keep (by (repeat (first | (with_reducible assumption) | (refine blk_at _ _ ?_; simp; done) | (refine Blk.old ?_ _)))) hk13
  have B19x13 : Blk w13 (w10.heap.size) #[.int .i64 an, .int .i64 ad] := Blk.keep (by (repeat (first | (with_reducible assumption) | (refine blk_at _ _ ?_; simp; done) | (refine Blk.old ?_ _)))) hk13
  have B20x13 : Blk w13 (w10.heap.size + 1) #[.int .i64 ac, .int .i64 0] := Blk.keep (by (repeat (first | (with_reducible assumption) | (refine blk_at _ _ ?_; simp; done) | (refine Blk.old ?_ _)))) hk13
  have B21x13 : Blk w13 (w11.heap.size) #[.int .i64 un, .int .i64 ud] := Blk.keep (by (repeat (first | (with_reducible assumption) | (refine blk_at _ _ ?_; simp; done) | (refine Blk.old ?_ _)))) hk13
  have B22x13 : Blk w13 (w11.heap.size + 1) #[.int .i64 uc, .int .i64 0] := Blk.keep (by (repeat (first | (with_reducible assumption) | (refine blk_at _ _ ?_; simp; done) | (refine Blk.old ?_ _)))) hk13
  have B23x13 : Blk w13 (w12.heap.size) #[.int .i64 un, .int .i64 ud] := Blk.keep (by (repeat (first | (with_reducible assumption) | (refine blk_at _ _ ?_; simp; done) | (refine Blk.old ?_ _)))) hk13
  have B24x13 : Blk w13 (w12.heap.size + 1) #[.int .i64 uc, .int .i64 0] := Blk.keep (by (repeat (first | (with_reducible assumption) | (refine blk_at _ _ ?_; simp; done) | (refine Blk.old ?_ _)))) hk13
  clear K12 hk13 B0x12 B1x12 B2x12 B3x12 B7x12 B9x12 B13x12 B15x12 B17x12 B18x12 B19x12 B20x12 B21x12 B22x12 c0a c0b f0a f0b l0 m0 M0 c7a c7b f7a f7b l7 m7 M7
  obtain ⟨c9a, c9b, f9a, f9b, l9⟩ := B9x13.two
  have m9 : ¬ w13.heap.size = w5.heap.size := by omega
  have M9 : ¬ w13.heap.size + 1 = w5.heap.size := by omega
  obtain ⟨c15a, c15b, f15a, f15b, l15⟩ := B15x13.two
  have m15 : ¬ w13.heap.size = w8.heap.size := by omega
  have M15 : ¬ w13.heap.size + 1 = w8.heap.size := by omega
  rw [I5.out]
  go_wp2_with fail
  refine (op_Add pn pd rn rd _).mono ?_
  rintro e w14 ⟨rfl, hk14⟩
  have K14 : Keep NoS w w14 := Keep.trans (by (repeat' (first | (with_reducible assumption) | (with_reducible exact HK.out) | (with_reducible exact Keep.refl _ _) | (with_reducible refine Keep.alloc ?_ _) | (with_reducible refine Keep.setCell ?_ _ (fun h => absurd h (by omega))) | (with_reducible refine Keep.drewN ?_ _) | (with_reducible refine Keep.drew ?_)))) hk14 fun _ _ _ h => h
  have B0x14 : Blk w14 (w.heap.size) #[.int .i64 n1, .int .i64 d1] := Blk.keep (by (repeat (first | (with_reducible assumption) | (refine blk_at _ _ ?_; simp; done) | (refine Blk.old ?_ _)))) hk14
  have B1x14 : Blk w14 (w.heap.size + 1) #[.int .i64 n2, .int .i64 d2] := Blk.keep (by (repeat (first | (with_reducible assumption) | (refine blk_at _ _ ?_; simp; done) | (refine Blk.old ?_ _)))) hk14
  have B2x14 : Blk w14 (w.heap.size + 1 + 1) #[.int .i64 n3, .int .i64 d3] := Blk.keep (by (repeat (first | (with_reducible assumption) | (refine blk_at _ _ ?_; simp; done) | (refine Blk.old ?_ _)))) hk14
  have B3x14 : Blk w14 (w2.heap.size) #[.int .i64 xn, .int .i64 xd] := Blk.keep (by (repeat (first | (with_reducible assumption) | (refine blk_at _ _ ?_; simp; done) | (refine Blk.old ?_ _)))) hk14
  have B7x14 : Blk w14 (w4.heap.size) #[.int .i64 yn, .int .i64 yd] := Blk.keep (by (repeat (first | (with_reducible assumption) | (refine blk_at _ _ ?_; simp; done) | (refine Blk.old ?_ _)))) hk14
  have B9x14 : Blk w14 (w5.heap.size) #[.int .i64 pn, .int .i64 pd] := Blk.keep (by (repeat (first | (with_reducible assumption) | (refine blk_at _ _ ?_; simp; done) | (refine Blk.old ?_ _)))) hk14
  have B13x14 : Blk w14 (w7.heap.size) #[.int .i64 qn, .int .i64 qd] := Blk.keep (by (repeat (first | (with_reducible assumption) | (refine blk_at _ _ ?_; simp; done) | (refine Blk.old ?_ _)))) hk14
  have B15x14 : Blk w14 (w8.heap.size) #[.int .i64 rn, .int .i64 rd] := Blk.keep (by (repeat (first | (with_reducible assumption) | (refine blk_at _ _ ?_; simp; done) | (refine Blk.old ?_ _)))) hk14
  have B17x14 : Blk w14 (w9.heap.size) #[.int .i64 an, .int .i64 ad] := Blk.keep (by (repeat (first | (with_reducible assumption) | (refine blk_at _ _ ?_; simp; done) | (refine Blk.old ?_ _)))) hk14
  have B18x14 : Blk w14 (w9.heap.size + 1) #[.int .i64 ac, .int .i64 0] := Blk.keep (by (repeat (first | (with_reducible assumption) | (refine blk_at _ _ ?_; simp; done) | (refine Blk.old ?_ _)))) hk14
  have B19x14 : Blk w14 (w10.heap.size) #[.int .i64 an, .int .i64 ad] := Blk.keep (by (repeat (first | (with_reducible assumption) | (refine blk_at _ _ ?_; simp; done) | (refine Blk.old ?_ _)))) hk14
  have B20x14 : Blk w14 (w10.heap.size + 1) #[.int .i64 ac, .int .i64 0] := Blk.keep (by (repeat (first | (with_reducible assumption) | (refine blk_at _ _ ?_; simp; done) | (refine Blk.old ?_ _)))) hk14
  have B21x14 : Blk w14 (w11.heap.size) #[.int .i64 un, .int .i64 ud] := Blk.keep (by (repeat (first | (with_reducible assumption) | (refine blk_at _ _ ?_; simp; done) | (refine Blk.old ?_ _)))) hk14
  have B22x14 : Blk w14 (w11.heap.size + 1) #[.int .i64 uc, .int .i64 0] := Blk.keep (by (repeat (first | (with_reducible assumption) | (refine blk_at _ _ ?_; simp; done) | (refine Blk.old ?_ _)))) hk14
  have B23x14 : Blk w14 (w12.heap.size) #[.int .i64 un, .int .i64 ud] := Blk.keep (by (repeat (first | (with_reducible assumption) | (refine blk_at _ _ ?_; simp; done) | (refine Blk.old ?_ _)))) hk14
  have B24x14 : Blk w14 (w12.heap.size + 1) #[.int .i64 uc, .int .i64 0] := Blk.keep (by (repeat (first | (with_reducible assumption) | (refine blk_at _ _ ?_; simp; done) | (refine Blk.old ?_ _)))) hk14
  have B25x14 : Blk w14 (w13.heap.size) #[.int .i64 sn, .int .i64 sd] := Blk.keep (by (repeat (first | (with_reducible assumption) | (refine blk_at _ _ ?_; simp; done) | (refine Blk.old ?_ _)))) hk14
  have B26x14 : Blk w14 (w13.heap.size + 1) #[.int .i64 sc, .int .i64 0] := Blk.keep (by (repeat (first | (with_reducible assumption) | (refine blk_at _ _ ?_; simp; done) | (refine Blk.old ?_ _)))) hk14
  clear K13 hk14 B0x13 B1x13 B2x13 B3x13 B7x13 B9x13 B13x13 B15x13 B17x13 B18x13 B19x13 B20x13 B21x13 B22x13 B23x13 B24x13 c9a c9b f9a f9b l9 m9 M9 c15a c15b f15a f15b l15 m15 M15
  obtain ⟨c1a, c1b, f1a, f1b, l1⟩ := B1x14.two
  have m1 : ¬ w14.heap.size = w.heap.size + 1 := by omega
  have M1 : ¬ w14.heap.size + 1 = w.heap.size + 1 := by omega
  have N1 : ¬ w14.heap.size = w.heap.size := by omega
  have L1 : w.heap.size < w14.heap.size := by omega
  obtain ⟨c3a, c3b, f3a, f3b, l3⟩ := B3x14.two
  have m3 : ¬ w14.heap.size = w2.heap.size := by omega
  have M3 : ¬ w14.heap.size + 1 = w2.heap.size := by omega
  rw [I6.out]
  go_wp2_with fail
  refine (op_Sub xn xd n2 d2 _).mono ?_
  rintro e w15 ⟨rfl, hk15⟩
  have K15 : Keep NoS w w15 := Keep.trans (by (repeat' (first | (with_reducible assumption) | (with_reducible exact HK.out) | (with_reducible exact Keep.refl _ _) | (with_reducible refine Keep.alloc ?_ _) | (with_reducible refine Keep.setCell ?_ _ (fun h => absurd h (by omega))) | (with_reducible refine Keep.drewN ?_ _) | (with_reducible refine Keep.drew ?_)))) hk15 fun _ _ _ h => h
  have B0x15 : Blk w15 (w.heap.size) #[.int .i64 n1, .int .i64 d1] := Blk.keep (by (repeat (first | (with_reducible assumption) | (refine blk_at _ _ ?_; simp; done) | (refine Blk.old ?_ _)))) hk15
  have B1x15 : Blk w15 (w.heap.size + 1) #[.int .i64 n2, .int .i64 d2] := Blk.keep (by (repeat (first | (with_reducible assumption) | (refine blk_at _ _ ?_; simp; done) | (refine Blk.old ?_ _)))) hk15
  have B2x15 : Blk w15 (w.heap.size + 1 + 1) #[.int .i64 n3, .int .i64 d3] := Blk.keep (by (repeat (first | (with_reducible assumption) | (refine blk_at _ _ ?_; simp; done) | (refine Blk.old ?_ _)))) hk15
  have B3x15 : Blk w15 (w2.heap.size) #[.int .i64 xn, .int .i64 xd] := Blk.keep (by (repeat (first | (with_reducible assumption) | (refine blk_at _ _ ?_; simp; done) | (refine Blk.old ?_ _)))) hk15
  have B7x15 : Blk w15 (w4.heap.size) #[.int .i64 yn, .int .i64 yd] := Blk.keep (by (repeat (first | (with_reducible assumption) | (refine blk_at _ _ ?_; simp; done) | (refine Blk.old ?_ _)))) hk15
  have B9x15 : Blk w15 (w5.heap.size) #[.int .i64 pn, .int .i64 pd] := Blk.keep (by (repeat (first | (with_reducible assumption) | (refine blk_at _ _ ?_; simp; done) | (refine Blk.old ?_ _)))) hk15
  have B13x15 : Blk w15 (w7.heap.size) #[.int .i64 qn, .int .i64 qd] := Blk.keep (by (repeat (first | (with_reducible assumption) | (refine blk_at _ _ ?_; simp; done) | (refine Blk.old ?_ _)))) hk15
  have B15x15 : Blk w15 (w8.heap.size) #[.int .i64 rn, .int .i64 rd] := Blk.keep (by (repeat (first | (with_reducible assumption) | (refine blk_at _ _ ?_; simp; done) | (refine Blk.old ?_ _)))) hk15
  have B17x15 : Blk w15 (w9.heap.size) #[.int .i64 an, .int .i64 ad] := Blk.keep (by (repeat (first | (with_reducible assumption) | (refine blk_at _ _ ?_; simp; done) | (refine Blk.old ?_ _)))) hk15
  have B18x15 : Blk w15 (w9.heap.size + 1) #[.int .i64 ac, .int .i64 0] := Blk.keep (by (repeat (first | (with_reducible assumption) | (refine blk_at _ _ ?_; simp; done) | (refine Blk.old ?_ _)))) hk15
  have B19x15 : Blk w15 (w10.heap.size) #[.int .i64 an, .int .i64 ad] := Blk.keep (by (repeat (first | (with_reducible assumption) | (refine blk_at _ _ ?_; simp; done) | (refine Blk.old ?_ _)))) hk15
  have B20x15 : Blk w15 (w10.heap.size + 1) #[.int .i64 ac, .int .i64 0] := Blk.keep (by (repeat (first | (with_reducible assumption) | (refine blk_at _ _ ?_; simp; done) | (refine Blk.old ?_ _)))) hk15
  have B21x15 : Blk w15 (w11.heap.size) #[.int .i64 un, .int .i64 ud] := Blk.keep (by (repeat (first | (with_reducible assumption) | (refine blk_at _ _ ?_; simp; done) | (refine Blk.old ?_ _)))) hk15
  have B22x15 : Blk w15 (w11.heap.size + 1) #[.int .i64 uc, .int .i64 0] := Blk.keep (by (repeat (first | (with_reducible assumption) | (refine blk_at _ _ ?_; simp; done) | (refine Blk.old ?_ _)))) hk15
  have B23x15 : Blk w15 (w12.heap.size) #[.int .i64 un, .int .i64 ud] := Blk.keep (by (repeat (first | (with_reducible assumption) | (refine blk_at _ _ ?_; simp; done) | (refine Blk.old ?_ _)))) hk15
  have B24x15 : Blk w15 (w12.heap.size + 1) #[.int .i64 uc, .int .i64 0] := Blk.keep (by (repeat (first | (with_reducible assumption) | (refine blk_at _ _ ?_; simp; done) | (refine Blk.old ?_ _)))) hk15
  have B25x15 : Blk w15 (w13.heap.size) #[.int .i64 sn, .int .i64 sd] := Blk.keep (by (repeat (first | (with_reducible assumption) | (refine blk_at _ _ ?_; simp; done) | (refine Blk.old ?_ _)))) hk15
  have B26x15 : Blk w15 (w13.heap.size + 1) #[.int .i64 sc, .int .i64 0] := Blk.keep (by (repeat (first | (with_reducible assumption) | (refine blk_at _ _ ?_; simp; done) | (refine Blk.old ?_ _)))) hk15
  have B27x15 : Blk w15 (w14.heap.size) #[.int .i64 sn, .int .i64 sd] := Blk.keep (by (repeat (first | (with_reducible assumption) | (refine blk_at _ _ ?_; simp; done) | (refine Blk.old ?_ _)))) hk15
  have B28x15 : Blk w15 (w14.heap.size + 1) #[.int .i64 sc, .int .i64 0] := Blk.keep (by (repeat (first | (with_reducible assumption) | (refine blk_at _ _ ?_; simp; done) | (refine Blk.old ?_ _)))) hk15
  clear K14 hk15 B0x14 B1x14 B2x14 B3x14 B7x14 B9x14 B13x14 B15x14 B17x14 B18x14 B19x14 B20x14 B21x14 B22x14 B23x14 B24x14 B25x14 B26x14 N1 L1 c1a c1b f1a f1b l1 m1 M1 c3a c3b f3a f3b l3 m3 M3
  obtain ⟨c1a, c1b, f1a, f1b, l1⟩ := B1x15.two
  have m1 : ¬ w15.heap.size = w.heap.size + 1 := by omega
  have M1 : ¬ w15.heap.size + 1 = w.heap.size + 1 := by omega
  have N1 : ¬ w15.heap.size = w.heap.size := by omega
  have L1 : w.heap.size < w15.heap.size := by omega
  obtain ⟨c9a, c9b, f9a, f9b, l9⟩ := B9x15.two
  have m9 : ¬ w15.heap.size = w5.heap.size := by omega
  have M9 : ¬ w15.heap.size + 1 = w5.heap.size := by omega
  rw [I7.out]
  go_wp2_with fail
  refine (op_Over pn pd n2 d2 _).mono ?_
  rintro e w16 ⟨rfl, hk16⟩
  have K16 : Keep NoS w w16 := Keep.trans (by (repeat' (first | (with_reducible assumption) | (with_reducible exact HK.out) | (with_reducible exact Keep.refl _ _) | (with_reducible refine Keep.alloc ?_ _) | (with_reducible refine Keep.setCell ?_ _ (fun h => absurd h (by omega))) | (with_reducible refine Keep.drewN ?_ _) | (with_reducible refine Keep.drew ?_)))) hk16 fun _ _ _ h => h
  have B0x16 : Blk w16 (w.heap.size) #[.int .i64 n1, .int .i64 d1] := Blk.keep (by (repeat (first | (with_reducible assumption) | (refine blk_at _ _ ?_; simp; done) | (refine Blk.old ?_ _)))) hk16
  have B1x16 : Blk w16 (w.heap.size + 1) #[.int .i64 n2, .int .i64 d2] := Blk.keep (by (repeat (first | (with_reducible assumption) | (refine blk_at _ _ ?_; simp; done) | (refine Blk.old ?_ _)))) hk16
  have B17x16 : Blk w16 (w9.heap.size) #[.int .i64 an, .int .i64 ad] := Blk.keep (by (repeat (first | (with_reducible assumption) | (refine blk_at _ _ ?_; simp; done) | (refine Blk.old ?_ _)))) hk16
  have B18x16 : Blk w16 (w9.heap.size + 1) #[.int .i64 ac, .int .i64 0] := Blk.keep (by (repeat (first | (with_reducible assumption) | (refine blk_at _ _ ?_; simp; done) | (refine Blk.old ?_ _)))) hk16
  have B19x16 : Blk w16 (w10.heap.size) #[.int .i64 an, .int .i64 ad] := Blk.keep (by (repeat (first | (with_reducible assumption) | (refine blk_at _ _ ?_; simp; done) | (refine Blk.old ?_ _)))) hk16
  have B20x16 : Blk w16 (w10.heap.size + 1) #[.int .i64 ac, .int .i64 0] := Blk.keep (by (repeat (first | (with_reducible assumption) | (refine blk_at _ _ ?_; simp; done) | (refine Blk.old ?_ _)))) hk16
  have B21x16 : Blk w16 (w11.heap.size) #[.int .i64 un, .int .i64 ud] := Blk.keep (by (repeat (first | (with_reducible assumption) | (refine blk_at _ _ ?_; simp; done) | (refine Blk.old ?_ _)))) hk16
  have B22x16 : Blk w16 (w11.heap.size + 1) #[.int .i64 uc, .int .i64 0] := Blk.keep (by (repeat (first | (with_reducible assumption) | (refine blk_at _ _ ?_; simp; done) | (refine Blk.old ?_ _)))) hk16
  have B23x16 : Blk w16 (w12.heap.size) #[.int .i64 un, .int .i64 ud] := Blk.keep (by (repeat (first | (with_reducible assumption) | (refine blk_at _ _ ?_; simp; done) | (refine Blk.old ?_ _)))) hk16
  have B24x16 : Blk w16 (w12.heap.size + 1) #[.int .i64 uc, .int .i64 0] := Blk.keep (by (repeat (first | (with_reducible assumption) | (refine blk_at _ _ ?_; simp; done) | (refine Blk.old ?_ _)))) hk16
  have B25x16 : Blk w16 (w13.heap.size) #[.int .i64 sn, .int .i64 sd] := Blk.keep (by (repeat (first | (with_reducible assumption) | (refine blk_at _ _ ?_; simp; done) | (refine Blk.old ?_ _)))) hk16
  have B26x16 : Blk w16 (w13.heap.size + 1) #[.int .i64 sc, .int .i64 0] := Blk.keep (by (repeat (first | (with_reducible assumption) | (refine blk_at _ _ ?_; simp; done) | (refine Blk.old ?_ _)))) hk16
  have B27x16 : Blk w16 (w14.heap.size) #[.int .i64 sn, .int .i64 sd] := Blk.keep (by (repeat (first | (with_reducible assumption) | (refine blk_at _ _ ?_; simp; done) | (refine Blk.old ?_ _)))) hk16
  have B28x16 : Blk w16 (w14.heap.size + 1) #[.int .i64 sc, .int .i64 0] := Blk.keep (by (repeat (first | (with_reducible assumption) | (refine blk_at _ _ ?_; simp; done) | (refine Blk.old ?_ _)))) hk16
  have B29x16 : Blk w16 (w15.heap.size) #[.int .i64 n1, .int .i64 d1] := Blk.keep (by (repeat (first | (with_reducible assumption) | (refine blk_at _ _ ?_; simp; done) | (refine Blk.old ?_ _)))) hk16
  have B30x16 : Blk w16 (w15.heap.size + 1) #[.int .i64 0, .int .i64 0] := Blk.keep (by (repeat (first | (with_reducible assumption) | (refine blk_at _ _ ?_; simp; done) | (refine Blk.old ?_ _)))) hk16
  clear K15 hk16 B0x15 B1x15 B2x15 B3x15 B7x15 B9x15 B13x15 B15x15 B17x15 B18x15 B19x15 B20x15 B21x15 B22x15 B23x15 B24x15 B25x15 B26x15 B27x15 B28x15 N1 L1 c1a c1b f1a f1b l1 m1 M1 c9a c9b f9a f9b l9 m9 M9
  obtain ⟨c0a, c0b, f0a, f0b, l0⟩ := B0x16.two
  have m0 : ¬ w16.heap.size = w.heap.size := by omega
  have M0 : ¬ w16.heap.size + 1 = w.heap.size := by omega
  obtain ⟨c1a, c1b, f1a, f1b, l1⟩ := B1x16.two
  have m1 : ¬ w16.heap.size = w.heap.size + 1 := by omega
  have M1 : ¬ w16.heap.size + 1 = w.heap.size + 1 := by omega
  have N1 : ¬ w16.heap.size = w.heap.size := by omega
  have L1 : w.heap.size < w16.heap.size := by omega
  obtain ⟨c17a, c17b, f17a, f17b, l17⟩ := B17x16.two
  have m17 : ¬ w16.heap.size = w9.heap.size := by omega
  have M17 : ¬ w16.heap.size + 1 = w9.heap.size := by omega
  obtain ⟨c18a, c18b, f18a, f18b, l18⟩ := B18x16.two
  have m18 : ¬ w16.heap.size = w9.heap.size + 1 := by omega
  have M18 : ¬ w16.heap.size + 1 = w9.heap.size + 1 := by omega
  have N18 : ¬ w16.heap.size = w9.heap.size := by omega
  have L18 : w9.heap.size < w16.heap.size := by omega
  obtain ⟨c19a, c19b, f19a, f19b, l19⟩ := B19x16.two
  have m19 : ¬ w16.heap.size = w10.heap.size := by omega
  have M19 : ¬ w16.heap.size + 1 = w10.heap.size := by omega
  obtain ⟨c20a, c20b, f20a, f20b, l20⟩ := B20x16.two
  have m20 : ¬ w16.heap.size = w10.heap.size + 1 := by omega
  have M20 : ¬ w16.heap.size + 1 = w10.heap.size + 1 := by omega
  have N20 : ¬ w16.heap.size = w10.heap.size := by omega
  have L20 : w10.heap.size < w16.heap.size := by omega
  obtain ⟨c21a, c21b, f21a, f21b, l21⟩ := B21x16.two
  have m21 : ¬ w16.heap.size = w11.heap.size := by omega
  have M21 : ¬ w16.heap.size + 1 = w11.heap.size := by omega
  obtain ⟨c22a, c22b, f22a, f22b, l22⟩ := B22x16.two
  have m22 : ¬ w16.heap.size = w11.heap.size + 1 := by omega
  have M22 : ¬ w16.heap.size + 1 = w11.heap.size + 1 := by omega
  have N22 : ¬ w16.heap.size = w11.heap.size := by omega
  have L22 : w11.heap.size < w16.heap.size := by omega
  obtain ⟨c23a, c23b, f23a, f23b, l23⟩ := B23x16.two
  have m23 : ¬ w16.heap.size = w12.heap.size := by omega
  have M23 : ¬ w16.heap.size + 1 = w12.heap.size := by omega
  obtain ⟨c24a, c24b, f24a, f24b, l24⟩ := B24x16.two
  have m24 : ¬ w16.heap.size = w12.heap.size + 1 := by omega
  have M24 : ¬ w16.heap.size + 1 = w12.heap.size + 1 := by omega
  have N24 : ¬ w16.heap.size = w12.heap.size := by omega
  have L24 : w12.heap.size < w16.heap.size := by omega
  obtain ⟨c25a, c25b, f25a, f25b, l25⟩ := B25x16.two
  have m25 : ¬ w16.heap.size = w13.heap.size := by omega
  have M25 : ¬ w16.heap.size + 1 = w13.heap.size := by omega
  obtain ⟨c26a, c26b, f26a, f26b, l26⟩ := B26x16.two
  have m26 : ¬ w16.heap.size = w13.heap.size + 1 := by omega
  have M26 : ¬ w16.heap.size + 1 = w13.heap.size + 1 := by omega
  have N26 : ¬ w16.heap.size = w13.heap.size := by omega
  have L26 : w13.heap.size < w16.heap.size := by omega
  obtain ⟨c27a, c27b, f27a, f27b, l27⟩ := B27x16.two
  have m27 : ¬ w16.heap.size = w14.heap.size := by omega
  have M27 : ¬ w16.heap.size + 1 = w14.heap.size := by omega
  obtain ⟨c28a, c28b, f28a, f28b, l28⟩ := B28x16.two
  have m28 : ¬ w16.heap.size = w14.heap.size + 1 := by omega
  have M28 : ¬ w16.heap.size + 1 = w14.heap.size + 1 := by omega
  have N28 : ¬ w16.heap.size = w14.heap.size := by omega
  have L28 : w14.heap.size < w16.heap.size := by omega
  obtain ⟨c29a, c29b, f29a, f29b, l29⟩ := B29x16.two
  have m29 : ¬ w16.heap.size = w15.heap.size := by omega
  have M29 : ¬ w16.heap.size + 1 = w15.heap.size := by omega
  obtain ⟨c30a, c30b, f30a, f30b, l30⟩ := B30x16.two
  have m30 : ¬ w16.heap.size = w15.heap.size + 1 := by omega
  have M30 : ¬ w16.heap.size + 1 = w15.heap.size + 1 := by omega
  have N30 : ¬ w16.heap.size = w15.heap.size := by omega
  have L30 : w15.heap.size < w16.heap.size := by omega
  rw [I8.out]
  clear I1 I2 I3 I4 I5 I6 I7 I8
  go_upto_region 23 with fail
  have K17 : Keep NoS w ((w16.alloc (.cells #[.int .i64 vn, .int .i64 vd] 23)).alloc (.cells #[.int .i64 vc, .int .i64 0] 25)) := by (repeat' (first | (with_reducible assumption) | (with_reducible exact HK.out) | (with_reducible exact Keep.refl _ _) | (with_reducible refine Keep.alloc ?_ _) | (with_reducible refine Keep.setCell ?_ _ (fun h => absurd h (by omega))) | (with_reducible refine Keep.drewN ?_ _) | (with_reducible refine Keep.drew ?_)))
  have B0y : Blk ((w16.alloc (.cells #[.int .i64 vn, .int .i64 vd] 23)).alloc (.cells #[.int .i64 vc, .int .i64 0] 25)) (w.heap.size) #[.int .i64 n1, .int .i64 d1] := by (repeat (first | (with_reducible assumption) | (refine blk_at _ _ ?_; simp; done) | (refine Blk.old ?_ _)))
  have B17y : Blk ((w16.alloc (.cells #[.int .i64 vn, .int .i64 vd] 23)).alloc (.cells #[.int .i64 vc, .int .i64 0] 25)) (w9.heap.size) #[.int .i64 an, .int .i64 ad] := by (repeat (first | (with_reducible assumption) | (refine blk_at _ _ ?_; simp; done) | (refine Blk.old ?_ _)))
  have B18y : Blk ((w16.alloc (.cells #[.int .i64 vn, .int .i64 vd] 23)).alloc (.cells #[.int .i64 vc, .int .i64 0] 25)) (w9.heap.size + 1) #[.int .i64 ac, .int .i64 0] := by (repeat (first | (with_reducible assumption) | (refine blk_at _ _ ?_; simp; done) | (refine Blk.old ?_ _)))
  have B19y : Blk ((w16.alloc (.cells #[.int .i64 vn, .int .i64 vd] 23)).alloc (.cells #[.int .i64 vc, .int .i64 0] 25)) (w10.heap.size) #[.int .i64 an, .int .i64 ad] := by (repeat (first | (with_reducible assumption) | (refine blk_at _ _ ?_; simp; done) | (refine Blk.old ?_ _)))
  have B20y : Blk ((w16.alloc (.cells #[.int .i64 vn, .int .i64 vd] 23)).alloc (.cells #[.int .i64 vc, .int .i64 0] 25)) (w10.heap.size + 1) #[.int .i64 ac, .int .i64 0] := by (repeat (first | (with_reducible assumption) | (refine blk_at _ _ ?_; simp; done) | (refine Blk.old ?_ _)))
  have B21y : Blk ((w16.alloc (.cells #[.int .i64 vn, .int .i64 vd] 23)).alloc (.cells #[.int .i64 vc, .int .i64 0] 25)) (w11.heap.size) #[.int .i64 un, .int .i64 ud] := by (repeat (first | (with_reducible assumption) | (refine blk_at _ _ ?_; simp; done) | (refine Blk.old ?_ _)))
  have B22y : Blk ((w16.alloc (.cells #[.int .i64 vn, .int .i64 vd] 23)).alloc (.cells #[.int .i64 vc, .int .i64 0] 25)) (w11.heap.size + 1) #[.int .i64 uc, .int .i64 0] := by (repeat (first | (with_reducible assumption) | (refine blk_at _ _ ?_; simp; done) | (refine Blk.old ?_ _)))
  have B23y : Blk ((w16.alloc (.cells #[.int .i64 vn, .int .i64 vd] 23)).alloc (.cells #[.int .i64 vc, .int .i64 0] 25)) (w12.heap.size) #[.int .i64 un, .int .i64 ud] := by (repeat (first | (with_reducible assumption) | (refine blk_at _ _ ?_; simp; done) | (refine Blk.old ?_ _)))
  have B24y : Blk ((w16.alloc (.cells #[.int .i64 vn, .int .i64 vd] 23)).alloc (.cells #[.int .i64 vc, .int .i64 0] 25)) (w12.heap.size + 1) #[.int .i64 uc, .int .i64 0] := by (repeat (first | (with_reducible assumption) | (refine blk_at _ _ ?_; simp; done) | (refine Blk.old ?_ _)))
  have B25y : Blk ((w16.alloc (.cells #[.int .i64 vn, .int .i64 vd] 23)).alloc (.cells #[.int .i64 vc, .int .i64 0] 25)) (w13.heap.size) #[.int .i64 sn, .int .i64 sd] := by (repeat (first | (with_reducible assumption) | (refine blk_at _ _ ?_; simp; done) | (refine Blk.old ?_ _)))
  have B26y : Blk ((w16.alloc (.cells #[.int .i64 vn, .int .i64 vd] 23)).alloc (.cells #[.int .i64 vc, .int .i64 0] 25)) (w13.heap.size + 1) #[.int .i64 sc, .int .i64 0] := by (repeat (first | (with_reducible assumption) | (refine blk_at _ _ ?_; simp; done) | (refine Blk.old ?_ _)))
  have B27y : Blk ((w16.alloc (.cells #[.int .i64 vn, .int .i64 vd] 23)).alloc (.cells #[.int .i64 vc, .int .i64 0] 25)) (w14.heap.size) #[.int .i64 sn, .int .i64 sd] := by (repeat (first | (with_reducible assumption) | (refine blk_at _ _ ?_; simp; done) | (refine Blk.old ?_ _)))
  have B28y : Blk ((w16.alloc (.cells #[.int .i64 vn, .int .i64 vd] 23)).alloc (.cells #[.int .i64 vc, .int .i64 0] 25)) (w14.heap.size + 1) #[.int .i64 sc, .int .i64 0] := by (repeat (first | (with_reducible assumption) | (refine blk_at _ _ ?_; simp; done) | (refine Blk.old ?_ _)))
  have B29y : Blk ((w16.alloc (.cells #[.int .i64 vn, .int .i64 vd] 23)).alloc (.cells #[.int .i64 vc, .int .i64 0] 25)) (w15.heap.size) #[.int .i64 n1, .int .i64 d1] := by (repeat (first | (with_reducible assumption) | (refine blk_at _ _ ?_; simp; done) | (refine Blk.old ?_ _)))
  have B30y : Blk ((w16.alloc (.cells #[.int .i64 vn, .int .i64 vd] 23)).alloc (.cells #[.int .i64 vc, .int .i64 0] 25)) (w15.heap.size + 1) #[.int .i64 0, .int .i64 0] := by (repeat (first | (with_reducible assumption) | (refine blk_at _ _ ?_; simp; done) | (refine Blk.old ?_ _)))
  have B31y : Blk ((w16.alloc (.cells #[.int .i64 vn, .int .i64 vd] 23)).alloc (.cells #[.int .i64 vc, .int .i64 0] 25)) (w16.heap.size) #[.int .i64 vn, .int .i64 vd] := by (repeat (first | (with_reducible assumption) | (refine blk_at _ _ ?_; simp; done) | (refine Blk.old ?_ _)))
  have B32y : Blk ((w16.alloc (.cells #[.int .i64 vn, .int .i64 vd] 23)).alloc (.cells #[.int .i64 vc, .int .i64 0] 25)) (w16.heap.size + 1) #[.int .i64 vc, .int .i64 0] := by (repeat (first | (with_reducible assumption) | (refine blk_at _ _ ?_; simp; done) | (refine Blk.old ?_ _)))
  have B1y : Blk ((w16.alloc (.cells #[.int .i64 vn, .int .i64 vd] 23)).alloc (.cells #[.int .i64 vc, .int .i64 0] 25)) (w.heap.size + 1) #[.int .i64 n2, .int .i64 d2] := by (repeat (first | (with_reducible assumption) | (refine blk_at _ _ ?_; simp; done) | (refine Blk.old ?_ _)))
  clear B0x16 B1x16 B17x16 B18x16 B19x16 B20x16 B21x16 B22x16 B23x16 B24x16 B25x16 B26x16 B27x16 B28x16 B29x16 B30x16 c0a c0b f0a f0b l0 m0 M0 N1 L1 c1a c1b f1a f1b l1 m1 M1 c17a c17b f17a f17b l17 m17 M17 N18 L18 c18a c18b f18a f18b l18 m18 M18 c19a c19b f19a f19b l19 m19 M19 N20 L20 c20a c20b f20a f20b l20 m20 M20 c21a c21b f21a f21b l21 m21 M21 N22 L22 c22a c22b f22a f22b l22 m22 M22 c23a c23b f23a f23b l23 m23 M23 N24 L24 c24a c24b f24a f24b l24 m24 M24 c25a c25b f25a f25b l25 m25 M25 N26 L26 c26a c26b f26a f26b l26 m26 M26 c27a c27b f27a f27b l27 m27 M27 N28 L28 c28a c28b f28a f28b l28 m28 M28 c29a c29b f29a f29b l29 m29 M29 N30 L30 c30a c30b f30a f30b l30 m30 M30 K16
  generalize ((w16.alloc (.cells #[.int .i64 vn, .int .i64 vd] 23)).alloc (.cells #[.int .i64 vc, .int .i64 0] 25)) = w17 at *
  obtain ⟨c0a, c0b, f0a, f0b, l0⟩ := B0y.two
  obtain ⟨c17a, c17b, f17a, f17b, l17⟩ := B17y.two
  obtain ⟨c18a, c18b, f18a, f18b, l18⟩ := B18y.two
  obtain ⟨c19a, c19b, f19a, f19b, l19⟩ := B19y.two
  obtain ⟨c20a, c20b, f20a, f20b, l20⟩ := B20y.two
  obtain ⟨c21a, c21b, f21a, f21b, l21⟩ := B21y.two
  obtain ⟨c22a, c22b, f22a, f22b, l22⟩ := B22y.two
  obtain ⟨c23a, c23b, f23a, f23b, l23⟩ := B23y.two
  obtain ⟨c24a, c24b, f24a, f24b, l24⟩ := B24y.two
  obtain ⟨c25a, c25b, f25a, f25b, l25⟩ := B25y.two
  obtain ⟨c26a, c26b, f26a, f26b, l26⟩ := B26y.two
  obtain ⟨c27a, c27b, f27a, f27b, l27⟩ := B27y.two
  obtain ⟨c28a, c28b, f28a, f28b, l28⟩ := B28y.two
  obtain ⟨c29a, c29b, f29a, f29b, l29⟩ := B29y.two
  obtain ⟨c30a, c30b, f30a, f30b, l30⟩ := B30y.two
  obtain ⟨c31a, c31b, f31a, f31b, l31⟩ := B31y.two
  obtain ⟨c32a, c32b, f32a, f32b, l32⟩ := B32y.two
  obtain ⟨c1a, c1b, f1a, f1b, l1⟩ := B1y.two
  go_cut [232] (fun s wx => s = .bool false ∧ wx = w17)
  case first =>
    rcases HA'.out with ⟨rfl, _⟩ | ⟨rfl, rfl, rfl⟩ <;> rcases HU'.out with ⟨rfl, _⟩ | ⟨rfl, rfl, rfl⟩ <;> rcases HS'.out with ⟨rfl, _⟩ | ⟨rfl, rfl, rfl⟩
    all_goals (clear HA' HU' HS' V8)
    all_goals (go_wp2_with fail; go_meet; exact ⟨rfl, rfl⟩)
  case rest =>
    obtain ⟨rfl, rfl⟩ := hcut
    rcases V8.out with ⟨rfl, rfl⟩ | ⟨hz, rfl, rfl, rfl⟩
    · clear V8 HA' HU' HS'
      go_wp2
      go_returns
      exact ⟨rfl, Keep.bel (by (repeat' (first | (with_reducible assumption) | (with_reducible exact HK.out) | (with_reducible exact Keep.refl _ _) | (with_reducible refine Keep.alloc ?_ _) | (with_reducible refine Keep.setCell ?_ _ (fun h => absurd h (by omega))) | (with_reducible refine Keep.drewN ?_ _) | (with_reducible refine Keep.drew ?_))))⟩
    · have e0 := dec_f hz
      clear V8 HA' HU' HS'
      go_wp2
      go_returns
      refine ⟨?_, Keep.bel (by (repeat' (first | (with_reducible assumption) | (with_reducible exact HK.out) | (with_reducible exact Keep.refl _ _) | (with_reducible refine Keep.alloc ?_ _) | (with_reducible refine Keep.setCell ?_ _ (fun h => absurd h (by omega))) | (with_reducible refine Keep.drewN ?_ _) | (with_reducible refine Keep.drew ?_))))⟩
      exact congrArg (fun b : Bool => Ending.returned (.bool b)) (bne_iff_ne.2 hz)

theorem fracField_walk (w : World) (n1 d1 n2 d2 n3 d3 : Int) (_h1 : I64 n1 ∧ I64 d1) (_h2 : I64 n2 ∧ I64 d2) (_h3 : I64 n3 ∧ I64 d3) :
    Calls Try.prog 9 #[.agg #[.int .i64 n1, .int .i64 d1], .agg #[.int .i64 n2, .int .i64 d2], .agg #[.int .i64 n3, .int .i64 d3]] w fun e w' => e = .returned (.bool true) ∧ Below w.heap.size w w' := by
  by_cases k : FracOK n1 d1 ∧ FracOK n2 d2
  · by_cases k3 : FracOK n3 d3
    · exact fracField_ok w n1 d1 n2 d2 n3 d3 k.1 k.2 k3
    · exact fracField_bad2 w n1 d1 n2 d2 n3 d3 k.1 k.2 k3
  · exact fracField_bad1 w n1 d1 n2 d2 n3 d3 k

end Go.Proofs.Ytnmklgigmmlgeaa
