/- The walk of the law FracSays. -/
import Derived.Test.YtnmklgigmmlgeaaFracTwo
import Derived.Test.YtnmklgigmmlgeaaRegG
import Derived.Test.YtnmklgigmmlgeaaOpen
namespace Go.Proofs.Ytnmklgigmmlgeaa
open Go.ChangeShapes Go.WideShapes Go.RowKit
set_option linter.unusedVariables false
set_option linter.unusedSimpArgs false

theorem lt_iff_sign (x y : Rat) : x < y ↔ (x - y).num.sign < 0 := by
  rw [Rat.lt_iff_sub_pos, show y - x = -(x - y) from (Rat.neg_sub x y).symm]
  generalize x - y = z
  rw [Int.sign_neg_iff]
  have : 0 < -z ↔ 0 < (-z).num := by rw [Rat.lt_iff]; simp
  rw [this, Rat.neg_num]
  omega
theorem check_okK (n d : Int) (w : World) (h : FracOK n d) :
    Calls Try.prog 34 #[.agg #[.int .i64 n, .int .i64 d]] w fun e w' => e = .returned (.agg #[.int .i64 0, .int .i64 0]) ∧ Keep NoS w w' := (check_ok n d w h).mono fun e w' ⟨he, hb⟩ => ⟨he, Below.keep hb⟩
theorem check_noK (n d : Int) (w : World) (h : ¬ FracOK n d) :
    Calls Try.prog 34 #[.agg #[.int .i64 n, .int .i64 d]] w fun e w' => e = .returned (.agg #[.int .i64 3, .int .i64 0]) ∧ Keep NoS w w' := (check_no n d w h).mono fun e w' ⟨he, hb⟩ => ⟨he, Below.keep hb⟩

section
variable (n1 d1 n2 d2 : Int) (w : World)

theorem refTwo_Add : Calls Try.prog 32 #[.int .i64 1, .agg #[.int .i64 n1, .int .i64 d1], .agg #[.int .i64 n2, .int .i64 d2]] w fun e w' => e = .returned (opV n1 d1 n2 d2 (n1 * d2 + n2 * d1) (d1 * d2)) ∧ Keep NoS w w' := by
  by_cases h1 : FracOK n1 d1
  · by_cases h2 : FracOK n2 d2
    · exact two_add n1 d1 n2 d2 w h1 h2
    · rw [op_bad (fun h => h2 h.2), show ckA n1 d1 n2 d2 = 1 from by simp [ckA, h1, h2]]
      exact two_bad2 1 n1 d1 n2 d2 w h1 h2
  · rw [op_bad (fun h => h1 h.1), show ckA n1 d1 n2 d2 = 0 from by simp [ckA, h1]]
    exact two_bad1 1 n1 d1 n2 d2 w h1

theorem refTwo_Sub : Calls Try.prog 32 #[.int .i64 2, .agg #[.int .i64 n1, .int .i64 d1], .agg #[.int .i64 n2, .int .i64 d2]] w fun e w' => e = .returned (opV n1 d1 n2 d2 (n1 * d2 - n2 * d1) (d1 * d2)) ∧ Keep NoS w w' := by
  by_cases h1 : FracOK n1 d1
  · by_cases h2 : FracOK n2 d2
    · exact two_sub n1 d1 n2 d2 w h1 h2
    · rw [op_bad (fun h => h2 h.2), show ckA n1 d1 n2 d2 = 1 from by simp [ckA, h1, h2]]
      exact two_bad2 2 n1 d1 n2 d2 w h1 h2
  · rw [op_bad (fun h => h1 h.1), show ckA n1 d1 n2 d2 = 0 from by simp [ckA, h1]]
    exact two_bad1 2 n1 d1 n2 d2 w h1

theorem refTwo_Times : Calls Try.prog 32 #[.int .i64 3, .agg #[.int .i64 n1, .int .i64 d1], .agg #[.int .i64 n2, .int .i64 d2]] w fun e w' => e = .returned (opV n1 d1 n2 d2 (n1 * n2) (d1 * d2)) ∧ Keep NoS w w' := by
  by_cases h1 : FracOK n1 d1
  · by_cases h2 : FracOK n2 d2
    · exact two_mul n1 d1 n2 d2 w h1 h2
    · rw [op_bad (fun h => h2 h.2), show ckA n1 d1 n2 d2 = 1 from by simp [ckA, h1, h2]]
      exact two_bad2 3 n1 d1 n2 d2 w h1 h2
  · rw [op_bad (fun h => h1 h.1), show ckA n1 d1 n2 d2 = 0 from by simp [ckA, h1]]
    exact two_bad1 3 n1 d1 n2 d2 w h1

theorem refTwo_Over : Calls Try.prog 32 #[.int .i64 4, .agg #[.int .i64 n1, .int .i64 d1], .agg #[.int .i64 n2, .int .i64 d2]] w fun e w' => e = .returned (opV n1 d1 n2 d2 (n1 * d2) (d1 * n2)) ∧ Keep NoS w w' := by
  by_cases h1 : FracOK n1 d1
  · by_cases h2 : FracOK n2 d2
    · by_cases h0 : n2 = 0
      · rw [over_zero h1 h2 h0]
        subst h0
        exact two_zero n1 d1 d2 w h1 h2
      · exact two_quo n1 d1 n2 d2 w h1 h2 h0
    · rw [op_bad (fun h => h2 h.2), show ckA n1 d1 n2 d2 = 1 from by simp [ckA, h1, h2]]
      exact two_bad2 4 n1 d1 n2 d2 w h1 h2
  · rw [op_bad (fun h => h1 h.1), show ckA n1 d1 n2 d2 = 0 from by simp [ckA, h1]]
    exact two_bad1 4 n1 d1 n2 d2 w h1
end

set_option maxRecDepth 100000 in
set_option maxHeartbeats 64000000 in
theorem fracSays_A (w : World) (n1 d1 n2 d2 : Int) (h1 : ¬ FracOK n1 d1) :
    Calls Try.prog 8 #[.agg #[.int .i64 n1, .int .i64 d1], .agg #[.int .i64 n2, .int .i64 d2]] w fun e w' => e = .returned (.bool true) ∧ Below w.heap.size w w' := by
  have hk : ¬ (FracOK n1 d1 ∧ FracOK n2 d2) := fun h => h1 h.1
  have hA : ckA n1 d1 n2 d2 = 0 := by simp [ckA, h1]
  have HAdd := Lib.hid ((op_bad hk (n1 * d2 + n2 * d1) (d1 * d2)).trans (by rw [hA]))
  have HSub := Lib.hid ((op_bad hk (n1 * d2 - n2 * d1) (d1 * d2)).trans (by rw [hA]))
  have HTimes := Lib.hid ((op_bad hk (n1 * n2) (d1 * d2)).trans (by rw [hA]))
  have HOver := Lib.hid ((op_bad hk (n1 * d2) (d1 * n2)).trans (by rw [hA]))
  have HLess := Lib.hid ((less_bad hk).trans (by rw [hA]))
  have HFloor : Hid (floorV n1 d1 = .tuple #[.int .i64 0, .agg #[.int .i64 3, .int .i64 0]]) := Lib.hid (if_neg h1)
  have e1 : decide (FracOK n1 d1) = false := dec_f h1
  have H1 := Lib.hid h1
  clear h1 hk hA
  have E1 := Lib.hid e1
  clear e1
  go_enter Try.func8, Try.ntmps8
  go_wp2_with fail
  refine (op_Add n1 d1 n2 d2 _).mono ?_
  rintro e w1 ⟨rfl, hk1⟩
  have K1 : Keep NoS w w1 := Keep.trans (by (repeat' (first | (with_reducible assumption) | (with_reducible exact HK.out) | (with_reducible exact Keep.refl _ _) | (with_reducible refine Keep.alloc ?_ _) | (with_reducible refine Keep.setCell ?_ _ (fun h => absurd h (by omega))) | (with_reducible refine Keep.drewN ?_ _) | (with_reducible refine Keep.drew ?_)))) hk1 fun _ _ _ h => h
  have B0x1 : Blk w1 (w.heap.size) #[.int .i64 n1, .int .i64 d1] := Blk.keep (by (repeat (first | (with_reducible assumption) | (refine blk_at _ _ ?_; simp; done) | (refine Blk.old ?_ _)))) hk1
  have B1x1 : Blk w1 (w.heap.size + 1) #[.int .i64 n2, .int .i64 d2] := Blk.keep (by (repeat (first | (with_reducible assumption) | (refine blk_at _ _ ?_; simp; done) | (refine Blk.old ?_ _)))) hk1
  clear hk1
  obtain ⟨c0a, c0b, f0a, f0b, l0⟩ := B0x1.two
  have m0 : ¬ w1.heap.size = w.heap.size := by omega
  have M0 : ¬ w1.heap.size + 1 = w.heap.size := by omega
  obtain ⟨c1a, c1b, f1a, f1b, l1⟩ := B1x1.two
  have m1 : ¬ w1.heap.size = w.heap.size + 1 := by omega
  have M1 : ¬ w1.heap.size + 1 = w.heap.size + 1 := by omega
  have N1 : ¬ w1.heap.size = w.heap.size := by omega
  have L1 : w.heap.size < w1.heap.size := by omega
  rw [HAdd.out]
  go_wp2_with fail
  refine (op_Sub n1 d1 n2 d2 _).mono ?_
  rintro e w2 ⟨rfl, hk2⟩
  have K2 : Keep NoS w w2 := Keep.trans (by (repeat' (first | (with_reducible assumption) | (with_reducible exact HK.out) | (with_reducible exact Keep.refl _ _) | (with_reducible refine Keep.alloc ?_ _) | (with_reducible refine Keep.setCell ?_ _ (fun h => absurd h (by omega))) | (with_reducible refine Keep.drewN ?_ _) | (with_reducible refine Keep.drew ?_)))) hk2 fun _ _ _ h => h
  have B0x2 : Blk w2 (w.heap.size) #[.int .i64 n1, .int .i64 d1] := Blk.keep (by (repeat (first | (with_reducible assumption) | (refine blk_at _ _ ?_; simp; done) | (refine Blk.old ?_ _)))) hk2
  have B1x2 : Blk w2 (w.heap.size + 1) #[.int .i64 n2, .int .i64 d2] := Blk.keep (by (repeat (first | (with_reducible assumption) | (refine blk_at _ _ ?_; simp; done) | (refine Blk.old ?_ _)))) hk2
  have B2x2 : Blk w2 (w1.heap.size) #[.int .i64 0, .int .i64 0] := Blk.keep (by (repeat (first | (with_reducible assumption) | (refine blk_at _ _ ?_; simp; done) | (refine Blk.old ?_ _)))) hk2
  have B3x2 : Blk w2 (w1.heap.size + 1) #[.int .i64 3, .int .i64 0] := Blk.keep (by (repeat (first | (with_reducible assumption) | (refine blk_at _ _ ?_; simp; done) | (refine Blk.old ?_ _)))) hk2
  clear K1 hk2 B0x1 B1x1 c0a c0b f0a f0b l0 m0 M0 N1 L1 c1a c1b f1a f1b l1 m1 M1
  obtain ⟨c0a, c0b, f0a, f0b, l0⟩ := B0x2.two
  have m0 : ¬ w2.heap.size = w.heap.size := by omega
  have M0 : ¬ w2.heap.size + 1 = w.heap.size := by omega
  obtain ⟨c1a, c1b, f1a, f1b, l1⟩ := B1x2.two
  have m1 : ¬ w2.heap.size = w.heap.size + 1 := by omega
  have M1 : ¬ w2.heap.size + 1 = w.heap.size + 1 := by omega
  have N1 : ¬ w2.heap.size = w.heap.size := by omega
  have L1 : w.heap.size < w2.heap.size := by omega
  rw [HSub.out]
  go_wp2_with fail
  refine (op_Times n1 d1 n2 d2 _).mono ?_
  rintro e w3 ⟨rfl, hk3⟩
  have K3 : Keep NoS w w3 := Keep.trans (by (repeat' (first | (with_reducible assumption) | (with_reducible exact HK.out) | (with_reducible exact Keep.refl _ _) | (with_reducible refine Keep.alloc ?_ _) | (with_reducible refine Keep.setCell ?_ _ (fun h => absurd h (by omega))) | (with_reducible refine Keep.drewN ?_ _) | (with_reducible refine Keep.drew ?_)))) hk3 fun _ _ _ h => h
  have B0x3 : Blk w3 (w.heap.size) #[.int .i64 n1, .int .i64 d1] := Blk.keep (by (repeat (first | (with_reducible assumption) | (refine blk_at _ _ ?_; simp; done) | (refine Blk.old ?_ _)))) hk3
  have B1x3 : Blk w3 (w.heap.size + 1) #[.int .i64 n2, .int .i64 d2] := Blk.keep (by (repeat (first | (with_reducible assumption) | (refine blk_at _ _ ?_; simp; done) | (refine Blk.old ?_ _)))) hk3
  have B2x3 : Blk w3 (w1.heap.size) #[.int .i64 0, .int .i64 0] := Blk.keep (by (repeat (first | (with_reducible assumption) | (refine blk_at _ _ ?_; simp; done) | (refine Blk.old ?_ _)))) hk3
  have B3x3 : Blk w3 (w1.heap.size + 1) #[.int .i64 3, .int .i64 0] := Blk.keep (by (repeat (first | (with_reducible assumption) | (refine blk_at _ _ ?_; simp; done) | (refine Blk.old ?_ _)))) hk3
  have B4x3 : Blk w3 (w2.heap.size) #[.int .i64 0, .int .i64 0] := Blk.keep (by (repeat (first | (with_reducible assumption) | (refine blk_at _ _ ?_; simp; done) | (refine Blk.old ?_ _)))) hk3
  have B5x3 : Blk w3 (w2.heap.size + 1) #[.int .i64 3, .int .i64 0] := Blk.keep (by (repeat (first | (with_reducible assumption) | (refine blk_at _ _ ?_; simp; done) | (refine Blk.old ?_ _)))) hk3
  clear K2 hk3 B0x2 B1x2 B2x2 B3x2 c0a c0b f0a f0b l0 m0 M0 N1 L1 c1a c1b f1a f1b l1 m1 M1
  obtain ⟨c0a, c0b, f0a, f0b, l0⟩ := B0x3.two
  have m0 : ¬ w3.heap.size = w.heap.size := by omega
  have M0 : ¬ w3.heap.size + 1 = w.heap.size := by omega
  obtain ⟨c1a, c1b, f1a, f1b, l1⟩ := B1x3.two
  have m1 : ¬ w3.heap.size = w.heap.size + 1 := by omega
  have M1 : ¬ w3.heap.size + 1 = w.heap.size + 1 := by omega
  have N1 : ¬ w3.heap.size = w.heap.size := by omega
  have L1 : w.heap.size < w3.heap.size := by omega
  rw [HTimes.out]
  go_wp2_with fail
  refine (op_Over n1 d1 n2 d2 _).mono ?_
  rintro e w4 ⟨rfl, hk4⟩
  have K4 : Keep NoS w w4 := Keep.trans (by (repeat' (first | (with_reducible assumption) | (with_reducible exact HK.out) | (with_reducible exact Keep.refl _ _) | (with_reducible refine Keep.alloc ?_ _) | (with_reducible refine Keep.setCell ?_ _ (fun h => absurd h (by omega))) | (with_reducible refine Keep.drewN ?_ _) | (with_reducible refine Keep.drew ?_)))) hk4 fun _ _ _ h => h
  have B0x4 : Blk w4 (w.heap.size) #[.int .i64 n1, .int .i64 d1] := Blk.keep (by (repeat (first | (with_reducible assumption) | (refine blk_at _ _ ?_; simp; done) | (refine Blk.old ?_ _)))) hk4
  have B1x4 : Blk w4 (w.heap.size + 1) #[.int .i64 n2, .int .i64 d2] := Blk.keep (by (repeat (first | (with_reducible assumption) | (refine blk_at _ _ ?_; simp; done) | (refine Blk.old ?_ _)))) hk4
  have B2x4 : Blk w4 (w1.heap.size) #[.int .i64 0, .int .i64 0] := Blk.keep (by (repeat (first | (with_reducible assumption) | (refine blk_at _ _ ?_; simp; done) | (refine Blk.old ?_ _)))) hk4
  have B3x4 : Blk w4 (w1.heap.size + 1) #[.int .i64 3, .int .i64 0] := Blk.keep (by (repeat (first | (with_reducible assumption) | (refine blk_at _ _ ?_; simp; done) | (refine Blk.old ?_ _)))) hk4
  have B4x4 : Blk w4 (w2.heap.size) #[.int .i64 0, .int .i64 0] := Blk.keep (by (repeat (first | (with_reducible assumption) | (refine blk_at _ _ ?_; simp; done) | (refine Blk.old ?_ _)))) hk4
  have B5x4 : Blk w4 (w2.heap.size + 1) #[.int .i64 3, .int .i64 0] := Blk.keep (by (repeat (first | (with_reducible assumption) | (refine blk_at _ _ ?_; simp; done) | (refine Blk.old ?_ _)))) hk4
  have B6x4 : Blk w4 (w3.heap.size) #[.int .i64 0, .int .i64 0] := Blk.keep (by (repeat (first | (with_reducible assumption) | (refine blk_at _ _ ?_; simp; done) | (refine Blk.old ?_ _)))) hk4
  have B7x4 : Blk w4 (w3.heap.size + 1) #[.int .i64 3, .int .i64 0] := Blk.keep (by (repeat (first | (with_reducible assumption) | (refine blk_at _ _ ?_; simp; done) | (refine Blk.old ?_ _)))) hk4
  clear K3 hk4 B0x3 B1x3 B2x3 B3x3 B4x3 B5x3 c0a c0b f0a f0b l0 m0 M0 N1 L1 c1a c1b f1a f1b l1 m1 M1
  obtain ⟨c0a, c0b, f0a, f0b, l0⟩ := B0x4.two
  have m0 : ¬ w4.heap.size = w.heap.size := by omega
  have M0 : ¬ w4.heap.size + 1 = w.heap.size := by omega
  obtain ⟨c1a, c1b, f1a, f1b, l1⟩ := B1x4.two
  have m1 : ¬ w4.heap.size = w.heap.size + 1 := by omega
  have M1 : ¬ w4.heap.size + 1 = w.heap.size + 1 := by omega
  have N1 : ¬ w4.heap.size = w.heap.size := by omega
  have L1 : w.heap.size < w4.heap.size := by omega
  rw [HOver.out]
  go_wp2_with fail
  refine (less_any n1 d1 n2 d2 _).mono ?_
  rintro e w5 ⟨rfl, hk5⟩
  have K5 : Keep NoS w w5 := Keep.trans (by (repeat' (first | (with_reducible assumption) | (with_reducible exact HK.out) | (with_reducible exact Keep.refl _ _) | (with_reducible refine Keep.alloc ?_ _) | (with_reducible refine Keep.setCell ?_ _ (fun h => absurd h (by omega))) | (with_reducible refine Keep.drewN ?_ _) | (with_reducible refine Keep.drew ?_)))) hk5 fun _ _ _ h => h
  have B0x5 : Blk w5 (w.heap.size) #[.int .i64 n1, .int .i64 d1] := Blk.keep (by (repeat (first | (with_reducible assumption) | (refine blk_at _ _ ?_; simp; done) | (refine Blk.old ?_ _)))) hk5
  have B1x5 : Blk w5 (w.heap.size + 1) #[.int .i64 n2, .int .i64 d2] := Blk.keep (by (repeat (first | (with_reducible assumption) | (refine blk_at _ _ ?_; simp; done) | (refine Blk.old ?_ _)))) hk5
  have B2x5 : Blk w5 (w1.heap.size) #[.int .i64 0, .int .i64 0] := Blk.keep (by (repeat (first | (with_reducible assumption) | (refine blk_at _ _ ?_; simp; done) | (refine Blk.old ?_ _)))) hk5
  have B3x5 : Blk w5 (w1.heap.size + 1) #[.int .i64 3, .int .i64 0] := Blk.keep (by (repeat (first | (with_reducible assumption) | (refine blk_at _ _ ?_; simp; done) | (refine Blk.old ?_ _)))) hk5
  have B4x5 : Blk w5 (w2.heap.size) #[.int .i64 0, .int .i64 0] := Blk.keep (by (repeat (first | (with_reducible assumption) | (refine blk_at _ _ ?_; simp; done) | (refine Blk.old ?_ _)))) hk5
  have B5x5 : Blk w5 (w2.heap.size + 1) #[.int .i64 3, .int .i64 0] := Blk.keep (by (repeat (first | (with_reducible assumption) | (refine blk_at _ _ ?_; simp; done) | (refine Blk.old ?_ _)))) hk5
  have B6x5 : Blk w5 (w3.heap.size) #[.int .i64 0, .int .i64 0] := Blk.keep (by (repeat (first | (with_reducible assumption) | (refine blk_at _ _ ?_; simp; done) | (refine Blk.old ?_ _)))) hk5
  have B7x5 : Blk w5 (w3.heap.size + 1) #[.int .i64 3, .int .i64 0] := Blk.keep (by (repeat (first | (with_reducible assumption) | (refine blk_at _ _ ?_; simp; done) | (refine Blk.old ?_ _)))) hk5
  have B8x5 : Blk w5 (w4.heap.size) #[.int .i64 0, .int .i64 0] := Blk.keep (by (repeat (first | (with_reducible assumption) | (refine blk_at _ _ ?_; simp; done) | (refine Blk.old ?_ _)))) hk5
  have B9x5 : Blk w5 (w4.heap.size + 1) #[.int .i64 3, .int .i64 0] := Blk.keep (by (repeat (first | (with_reducible assumption) | (refine blk_at _ _ ?_; simp; done) | (refine Blk.old ?_ _)))) hk5
  clear K4 hk5 B0x4 B1x4 B2x4 B3x4 B4x4 B5x4 B6x4 B7x4 c0a c0b f0a f0b l0 m0 M0 N1 L1 c1a c1b f1a f1b l1 m1 M1
  obtain ⟨c0a, c0b, f0a, f0b, l0⟩ := B0x5.two
  have m0 : ¬ w5.heap.size = w.heap.size := by omega
  have M0 : ¬ w5.heap.size + 1 = w.heap.size := by omega
  rw [HLess.out]
  go_wp2_with fail
  refine (floor_any n1 d1 _).mono ?_
  rintro e w6 ⟨rfl, hk6⟩
  have K6 : Keep NoS w w6 := Keep.trans (by (repeat' (first | (with_reducible assumption) | (with_reducible exact HK.out) | (with_reducible exact Keep.refl _ _) | (with_reducible refine Keep.alloc ?_ _) | (with_reducible refine Keep.setCell ?_ _ (fun h => absurd h (by omega))) | (with_reducible refine Keep.drewN ?_ _) | (with_reducible refine Keep.drew ?_)))) hk6 fun _ _ _ h => h
  have B0x6 : Blk w6 (w.heap.size) #[.int .i64 n1, .int .i64 d1] := Blk.keep (by (repeat (first | (with_reducible assumption) | (refine blk_at _ _ ?_; simp; done) | (refine Blk.old ?_ _)))) hk6
  have B1x6 : Blk w6 (w.heap.size + 1) #[.int .i64 n2, .int .i64 d2] := Blk.keep (by (repeat (first | (with_reducible assumption) | (refine blk_at _ _ ?_; simp; done) | (refine Blk.old ?_ _)))) hk6
  have B2x6 : Blk w6 (w1.heap.size) #[.int .i64 0, .int .i64 0] := Blk.keep (by (repeat (first | (with_reducible assumption) | (refine blk_at _ _ ?_; simp; done) | (refine Blk.old ?_ _)))) hk6
  have B3x6 : Blk w6 (w1.heap.size + 1) #[.int .i64 3, .int .i64 0] := Blk.keep (by (repeat (first | (with_reducible assumption) | (refine blk_at _ _ ?_; simp; done) | (refine Blk.old ?_ _)))) hk6
  have B4x6 : Blk w6 (w2.heap.size) #[.int .i64 0, .int .i64 0] := Blk.keep (by (repeat (first | (with_reducible assumption) | (refine blk_at _ _ ?_; simp; done) | (refine Blk.old ?_ _)))) hk6
  have B5x6 : Blk w6 (w2.heap.size + 1) #[.int .i64 3, .int .i64 0] := Blk.keep (by (repeat (first | (with_reducible assumption) | (refine blk_at _ _ ?_; simp; done) | (refine Blk.old ?_ _)))) hk6
  have B6x6 : Blk w6 (w3.heap.size) #[.int .i64 0, .int .i64 0] := Blk.keep (by (repeat (first | (with_reducible assumption) | (refine blk_at _ _ ?_; simp; done) | (refine Blk.old ?_ _)))) hk6
  have B7x6 : Blk w6 (w3.heap.size + 1) #[.int .i64 3, .int .i64 0] := Blk.keep (by (repeat (first | (with_reducible assumption) | (refine blk_at _ _ ?_; simp; done) | (refine Blk.old ?_ _)))) hk6
  have B8x6 : Blk w6 (w4.heap.size) #[.int .i64 0, .int .i64 0] := Blk.keep (by (repeat (first | (with_reducible assumption) | (refine blk_at _ _ ?_; simp; done) | (refine Blk.old ?_ _)))) hk6
  have B9x6 : Blk w6 (w4.heap.size + 1) #[.int .i64 3, .int .i64 0] := Blk.keep (by (repeat (first | (with_reducible assumption) | (refine blk_at _ _ ?_; simp; done) | (refine Blk.old ?_ _)))) hk6
  have B10x6 : Blk w6 (w5.heap.size) #[.int .i64 3, .int .i64 0] := Blk.keep (by (repeat (first | (with_reducible assumption) | (refine blk_at _ _ ?_; simp; done) | (refine Blk.old ?_ _)))) hk6
  clear K5 hk6 B0x5 B1x5 B2x5 B3x5 B4x5 B5x5 B6x5 B7x5 B8x5 B9x5 c0a c0b f0a f0b l0 m0 M0
  obtain ⟨c0a, c0b, f0a, f0b, l0⟩ := B0x6.two
  have m0 : ¬ w6.heap.size = w.heap.size := by omega
  have M0 : ¬ w6.heap.size + 1 = w.heap.size := by omega
  obtain ⟨c1a, c1b, f1a, f1b, l1⟩ := B1x6.two
  have m1 : ¬ w6.heap.size = w.heap.size + 1 := by omega
  have M1 : ¬ w6.heap.size + 1 = w.heap.size + 1 := by omega
  have N1 : ¬ w6.heap.size = w.heap.size := by omega
  have L1 : w.heap.size < w6.heap.size := by omega
  rw [HFloor.out]
  go_wp2_with fail
  refine (refTwo_Add n1 d1 n2 d2 _).mono ?_
  rintro e w7 ⟨rfl, hk7⟩
  have K7 : Keep NoS w w7 := Keep.trans (by (repeat' (first | (with_reducible assumption) | (with_reducible exact HK.out) | (with_reducible exact Keep.refl _ _) | (with_reducible refine Keep.alloc ?_ _) | (with_reducible refine Keep.setCell ?_ _ (fun h => absurd h (by omega))) | (with_reducible refine Keep.drewN ?_ _) | (with_reducible refine Keep.drew ?_)))) hk7 fun _ _ _ h => h
  have B0x7 : Blk w7 (w.heap.size) #[.int .i64 n1, .int .i64 d1] := Blk.keep (by (repeat (first | (with_reducible assumption) | (refine blk_at _ _ ?_; simp; done) | (refine Blk.old ?_ _)))) hk7
  have B1x7 : Blk w7 (w.heap.size + 1) #[.int .i64 n2, .int .i64 d2] := Blk.keep (by (repeat (first | (with_reducible assumption) | (refine blk_at _ _ ?_; simp; done) | (refine Blk.old ?_ _)))) hk7
  have B2x7 : Blk w7 (w1.heap.size) #[.int .i64 0, .int .i64 0] := Blk.keep (by (repeat (first | (with_reducible assumption) | (refine blk_at _ _ ?_; simp; done) | (refine Blk.old ?_ _)))) hk7
  have B3x7 : Blk w7 (w1.heap.size + 1) #[.int .i64 3, .int .i64 0] := Blk.keep (by (repeat (first | (with_reducible assumption) | (refine blk_at _ _ ?_; simp; done) | (refine Blk.old ?_ _)))) hk7
  have B4x7 : Blk w7 (w2.heap.size) #[.int .i64 0, .int .i64 0] := Blk.keep (by (repeat (first | (with_reducible assumption) | (refine blk_at _ _ ?_; simp; done) | (refine Blk.old ?_ _)))) hk7
  have B5x7 : Blk w7 (w2.heap.size + 1) #[.int .i64 3, .int .i64 0] := Blk.keep (by (repeat (first | (with_reducible assumption) | (refine blk_at _ _ ?_; simp; done) | (refine Blk.old ?_ _)))) hk7
  have B6x7 : Blk w7 (w3.heap.size) #[.int .i64 0, .int .i64 0] := Blk.keep (by (repeat (first | (with_reducible assumption) | (refine blk_at _ _ ?_; simp; done) | (refine Blk.old ?_ _)))) hk7
  have B7x7 : Blk w7 (w3.heap.size + 1) #[.int .i64 3, .int .i64 0] := Blk.keep (by (repeat (first | (with_reducible assumption) | (refine blk_at _ _ ?_; simp; done) | (refine Blk.old ?_ _)))) hk7
  have B8x7 : Blk w7 (w4.heap.size) #[.int .i64 0, .int .i64 0] := Blk.keep (by (repeat (first | (with_reducible assumption) | (refine blk_at _ _ ?_; simp; done) | (refine Blk.old ?_ _)))) hk7
  have B9x7 : Blk w7 (w4.heap.size + 1) #[.int .i64 3, .int .i64 0] := Blk.keep (by (repeat (first | (with_reducible assumption) | (refine blk_at _ _ ?_; simp; done) | (refine Blk.old ?_ _)))) hk7
  have B10x7 : Blk w7 (w5.heap.size) #[.int .i64 3, .int .i64 0] := Blk.keep (by (repeat (first | (with_reducible assumption) | (refine blk_at _ _ ?_; simp; done) | (refine Blk.old ?_ _)))) hk7
  have B11x7 : Blk w7 (w6.heap.size) #[.int .i64 3, .int .i64 0] := Blk.keep (by (repeat (first | (with_reducible assumption) | (refine blk_at _ _ ?_; simp; done) | (refine Blk.old ?_ _)))) hk7
  clear K6 hk7 B0x6 B1x6 B2x6 B3x6 B4x6 B5x6 B6x6 B7x6 B8x6 B9x6 B10x6 c0a c0b f0a f0b l0 m0 M0 N1 L1 c1a c1b f1a f1b l1 m1 M1
  obtain ⟨c0a, c0b, f0a, f0b, l0⟩ := B0x7.two
  have m0 : ¬ w7.heap.size = w.heap.size := by omega
  have M0 : ¬ w7.heap.size + 1 = w.heap.size := by omega
  obtain ⟨c1a, c1b, f1a, f1b, l1⟩ := B1x7.two
  have m1 : ¬ w7.heap.size = w.heap.size + 1 := by omega
  have M1 : ¬ w7.heap.size + 1 = w.heap.size + 1 := by omega
  have N1 : ¬ w7.heap.size = w.heap.size := by omega
  have L1 : w.heap.size < w7.heap.size := by omega
  rw [HAdd.out]
  go_wp2_with fail
  refine (refTwo_Sub n1 d1 n2 d2 _).mono ?_
  rintro e w8 ⟨rfl, hk8⟩
  have K8 : Keep NoS w w8 := Keep.trans (by (repeat' (first | (with_reducible assumption) | (with_reducible exact HK.out) | (with_reducible exact Keep.refl _ _) | (with_reducible refine Keep.alloc ?_ _) | (with_reducible refine Keep.setCell ?_ _ (fun h => absurd h (by omega))) | (with_reducible refine Keep.drewN ?_ _) | (with_reducible refine Keep.drew ?_)))) hk8 fun _ _ _ h => h
  have B0x8 : Blk w8 (w.heap.size) #[.int .i64 n1, .int .i64 d1] := Blk.keep (by (repeat (first | (with_reducible assumption) | (refine blk_at _ _ ?_; simp; done) | (refine Blk.old ?_ _)))) hk8
  have B1x8 : Blk w8 (w.heap.size + 1) #[.int .i64 n2, .int .i64 d2] := Blk.keep (by (repeat (first | (with_reducible assumption) | (refine blk_at _ _ ?_; simp; done) | (refine Blk.old ?_ _)))) hk8
  have B2x8 : Blk w8 (w1.heap.size) #[.int .i64 0, .int .i64 0] := Blk.keep (by (repeat (first | (with_reducible assumption) | (refine blk_at _ _ ?_; simp; done) | (refine Blk.old ?_ _)))) hk8
  have B3x8 : Blk w8 (w1.heap.size + 1) #[.int .i64 3, .int .i64 0] := Blk.keep (by (repeat (first | (with_reducible assumption) | (refine blk_at _ _ ?_; simp; done) | (refine Blk.old ?_ _)))) hk8
  have B4x8 : Blk w8 (w2.heap.size) #[.int .i64 0, .int .i64 0] := Blk.keep (by (repeat (first | (with_reducible assumption) | (refine blk_at _ _ ?_; simp; done) | (refine Blk.old ?_ _)))) hk8
  have B5x8 : Blk w8 (w2.heap.size + 1) #[.int .i64 3, .int .i64 0] := Blk.keep (by (repeat (first | (with_reducible assumption) | (refine blk_at _ _ ?_; simp; done) | (refine Blk.old ?_ _)))) hk8
  have B6x8 : Blk w8 (w3.heap.size) #[.int .i64 0, .int .i64 0] := Blk.keep (by (repeat (first | (with_reducible assumption) | (refine blk_at _ _ ?_; simp; done) | (refine Blk.old ?_ _)))) hk8
  have B7x8 : Blk w8 (w3.heap.size + 1) #[.int .i64 3, .int .i64 0] := Blk.keep (by (repeat (first | (with_reducible assumption) | (refine blk_at _ _ ?_; simp; done) | (refine Blk.old ?_ _)))) hk8
  have B8x8 : Blk w8 (w4.heap.size) #[.int .i64 0, .int .i64 0] := Blk.keep (by (repeat (first | (with_reducible assumption) | (refine blk_at _ _ ?_; simp; done) | (refine Blk.old ?_ _)))) hk8
  have B9x8 : Blk w8 (w4.heap.size + 1) #[.int .i64 3, .int .i64 0] := Blk.keep (by (repeat (first | (with_reducible assumption) | (refine blk_at _ _ ?_; simp; done) | (refine Blk.old ?_ _)))) hk8
  have B10x8 : Blk w8 (w5.heap.size) #[.int .i64 3, .int .i64 0] := Blk.keep (by (repeat (first | (with_reducible assumption) | (refine blk_at _ _ ?_; simp; done) | (refine Blk.old ?_ _)))) hk8
  have B11x8 : Blk w8 (w6.heap.size) #[.int .i64 3, .int .i64 0] := Blk.keep (by (repeat (first | (with_reducible assumption) | (refine blk_at _ _ ?_; simp; done) | (refine Blk.old ?_ _)))) hk8
  have B12x8 : Blk w8 (w7.heap.size) #[.int .i64 0, .int .i64 0] := Blk.keep (by (repeat (first | (with_reducible assumption) | (refine blk_at _ _ ?_; simp; done) | (refine Blk.old ?_ _)))) hk8
  have B13x8 : Blk w8 (w7.heap.size + 1) #[.int .i64 3, .int .i64 0] := Blk.keep (by (repeat (first | (with_reducible assumption) | (refine blk_at _ _ ?_; simp; done) | (refine Blk.old ?_ _)))) hk8
  clear K7 hk8 B0x7 B1x7 B2x7 B3x7 B4x7 B5x7 B6x7 B7x7 B8x7 B9x7 B10x7 B11x7 c0a c0b f0a f0b l0 m0 M0 N1 L1 c1a c1b f1a f1b l1 m1 M1
  obtain ⟨c0a, c0b, f0a, f0b, l0⟩ := B0x8.two
  have m0 : ¬ w8.heap.size = w.heap.size := by omega
  have M0 : ¬ w8.heap.size + 1 = w.heap.size := by omega
  obtain ⟨c1a, c1b, f1a, f1b, l1⟩ := B1x8.two
  have m1 : ¬ w8.heap.size = w.heap.size + 1 := by omega
  have M1 : ¬ w8.heap.size + 1 = w.heap.size + 1 := by omega
  have N1 : ¬ w8.heap.size = w.heap.size := by omega
  have L1 : w.heap.size < w8.heap.size := by omega
  rw [HSub.out]
  go_wp2_with fail
  refine (refTwo_Times n1 d1 n2 d2 _).mono ?_
  rintro e w9 ⟨rfl, hk9⟩
  have K9 : Keep NoS w w9 := Keep.trans (by (repeat' (first | (with_reducible assumption) | (with_reducible exact HK.out) | (with_reducible exact Keep.refl _ _) | (with_reducible refine Keep.alloc ?_ _) | (with_reducible refine Keep.setCell ?_ _ (fun h => absurd h (by omega))) | (with_reducible refine Keep.drewN ?_ _) | (with_reducible refine Keep.drew ?_)))) hk9 fun _ _ _ h => h
  have B0x9 : Blk w9 (w.heap.size) #[.int .i64 n1, .int .i64 d1] := Blk.keep (by (repeat (first | (with_reducible assumption) | (refine blk_at _ _ ?_; simp; done) | (refine Blk.old ?_ _)))) hk9
  have B1x9 : Blk w9 (w.heap.size + 1) #[.int .i64 n2, .int .i64 d2] := Blk.keep (by (repeat (first | (with_reducible assumption) | (refine blk_at _ _ ?_; simp; done) | (refine Blk.old ?_ _)))) hk9
  have B2x9 : Blk w9 (w1.heap.size) #[.int .i64 0, .int .i64 0] := Blk.keep (by (repeat (first | (with_reducible assumption) | (refine blk_at _ _ ?_; simp; done) | (refine Blk.old ?_ _)))) hk9
  have B3x9 : Blk w9 (w1.heap.size + 1) #[.int .i64 3, .int .i64 0] := Blk.keep (by (repeat (first | (with_reducible assumption) | (refine blk_at _ _ ?_; simp; done) | (refine Blk.old ?_ _)))) hk9
  have B4x9 : Blk w9 (w2.heap.size) #[.int .i64 0, .int .i64 0] := Blk.keep (by (repeat (first | (with_reducible assumption) | (refine blk_at _ _ ?_; simp; done) | (refine Blk.old ?_ _)))) hk9
  have B5x9 : Blk w9 (w2.heap.size + 1) #[.int .i64 3, .int .i64 0] := Blk.keep (by (repeat (first | (with_reducible assumption) | (refine blk_at _ _ ?_; simp; done) | (refine Blk.old ?_ _)))) hk9
  have B6x9 : Blk w9 (w3.heap.size) #[.int .i64 0, .int .i64 0] := Blk.keep (by (repeat (first | (with_reducible assumption) | (refine blk_at _ _ ?_; simp; done) | (refine Blk.old ?_ _)))) hk9
  have B7x9 : Blk w9 (w3.heap.size + 1) #[.int .i64 3, .int .i64 0] := Blk.keep (by (repeat (first | (with_reducible assumption) | (refine blk_at _ _ ?_; simp; done) | (refine Blk.old ?_ _)))) hk9
  have B8x9 : Blk w9 (w4.heap.size) #[.int .i64 0, .int .i64 0] := Blk.keep (by (repeat (first | (with_reducible assumption) | (refine blk_at _ _ ?_; simp; done) | (refine Blk.old ?_ _)))) hk9
  have B9x9 : Blk w9 (w4.heap.size + 1) #[.int .i64 3, .int .i64 0] := Blk.keep (by (repeat (first | (with_reducible assumption) | (refine blk_at _ _ ?_; simp; done) | (refine Blk.old ?_ _)))) hk9
  have B10x9 : Blk w9 (w5.heap.size) #[.int .i64 3, .int .i64 0] := Blk.keep (by (repeat (first | (with_reducible assumption) | (refine blk_at _ _ ?_; simp; done) | (refine Blk.old ?_ _)))) hk9
  have B11x9 : Blk w9 (w6.heap.size) #[.int .i64 3, .int .i64 0] := Blk.keep (by (repeat (first | (with_reducible assumption) | (refine blk_at _ _ ?_; simp; done) | (refine Blk.old ?_ _)))) hk9
  have B12x9 : Blk w9 (w7.heap.size) #[.int .i64 0, .int .i64 0] := Blk.keep (by (repeat (first | (with_reducible assumption) | (refine blk_at _ _ ?_; simp; done) | (refine Blk.old ?_ _)))) hk9
  have B13x9 : Blk w9 (w7.heap.size + 1) #[.int .i64 3, .int .i64 0] := Blk.keep (by (repeat (first | (with_reducible assumption) | (refine blk_at _ _ ?_; simp; done) | (refine Blk.old ?_ _)))) hk9
  have B14x9 : Blk w9 (w8.heap.size) #[.int .i64 0, .int .i64 0] := Blk.keep (by (repeat (first | (with_reducible assumption) | (refine blk_at _ _ ?_; simp; done) | (refine Blk.old ?_ _)))) hk9
  have B15x9 : Blk w9 (w8.heap.size + 1) #[.int .i64 3, .int .i64 0] := Blk.keep (by (repeat (first | (with_reducible assumption) | (refine blk_at _ _ ?_; simp; done) | (refine Blk.old ?_ _)))) hk9
  clear K8 hk9 B0x8 B1x8 B2x8 B3x8 B4x8 B5x8 B6x8 B7x8 B8x8 B9x8 B10x8 B11x8 B12x8 B13x8 c0a c0b f0a f0b l0 m0 M0 N1 L1 c1a c1b f1a f1b l1 m1 M1
  obtain ⟨c0a, c0b, f0a, f0b, l0⟩ := B0x9.two
  have m0 : ¬ w9.heap.size = w.heap.size := by omega
  have M0 : ¬ w9.heap.size + 1 = w.heap.size := by omega
  obtain ⟨c1a, c1b, f1a, f1b, l1⟩ := B1x9.two
  have m1 : ¬ w9.heap.size = w.heap.size + 1 := by omega
  have M1 : ¬ w9.heap.size + 1 = w.heap.size + 1 := by omega
  have N1 : ¬ w9.heap.size = w.heap.size := by omega
  have L1 : w.heap.size < w9.heap.size := by omega
  rw [HTimes.out]
  go_wp2_with fail
  refine (refTwo_Over n1 d1 n2 d2 _).mono ?_
  rintro e w10 ⟨rfl, hk10⟩
  have K10 : Keep NoS w w10 := Keep.trans (by (repeat' (first | (with_reducible assumption) | (with_reducible exact HK.out) | (with_reducible exact Keep.refl _ _) | (with_reducible refine Keep.alloc ?_ _) | (with_reducible refine Keep.setCell ?_ _ (fun h => absurd h (by omega))) | (with_reducible refine Keep.drewN ?_ _) | (with_reducible refine Keep.drew ?_)))) hk10 fun _ _ _ h => h
  have B0x10 : Blk w10 (w.heap.size) #[.int .i64 n1, .int .i64 d1] := Blk.keep (by (repeat (first | (with_reducible assumption) | (refine blk_at _ _ ?_; simp; done) | (refine Blk.old ?_ _)))) hk10
  have B1x10 : Blk w10 (w.heap.size + 1) #[.int .i64 n2, .int .i64 d2] := Blk.keep (by (repeat (first | (with_reducible assumption) | (refine blk_at _ _ ?_; simp; done) | (refine Blk.old ?_ _)))) hk10
  have B2x10 : Blk w10 (w1.heap.size) #[.int .i64 0, .int .i64 0] := Blk.keep (by (repeat (first | (with_reducible assumption) | (refine blk_at _ _ ?_; simp; done) | (refine Blk.old ?_ _)))) hk10
  have B3x10 : Blk w10 (w1.heap.size + 1) #[.int .i64 3, .int .i64 0] := Blk.keep (by (repeat (first | (with_reducible assumption) | (refine blk_at _ _ ?_; simp; done) | (refine Blk.old ?_ _)))) hk10
  have B4x10 : Blk w10 (w2.heap.size) #[.int .i64 0, .int .i64 0] := Blk.keep (by (repeat (first | (with_reducible assumption) | (refine blk_at _ _ ?_; simp; done) | (refine Blk.old ?_ _)))) hk10
  have B5x10 : Blk w10 (w2.heap.size + 1) #[.int .i64 3, .int .i64 0] := Blk.keep (by (repeat (first | (with_reducible assumption) | (refine blk_at _ _ ?_; simp; done) | (refine Blk.old ?_ _)))) hk10
  have B6x10 : Blk w10 (w3.heap.size) #[.int .i64 0, .int .i64 0] := Blk.keep (by (repeat (first | (with_reducible assumption) | (refine blk_at _ _ ?_; simp; done) | (refine Blk.old ?_ _)))) hk10
  have B7x10 : Blk w10 (w3.heap.size + 1) #[.int .i64 3, .int .i64 0] := Blk.keep (by (repeat (first | (with_reducible assumption) | (refine blk_at _ _ ?_; simp; done) | (refine Blk.old ?_ _)))) hk10
  have B8x10 : Blk w10 (w4.heap.size) #[.int .i64 0, .int .i64 0] := Blk.keep (by (repeat (first | (with_reducible assumption) | (refine blk_at _ _ ?_; simp; done) | (refine Blk.old ?_ _)))) hk10
  have B9x10 : Blk w10 (w4.heap.size + 1) #[.int .i64 3, .int .i64 0] := Blk.keep (by (repeat (first | (with_reducible assumption) | (refine blk_at _ _ ?_; simp; done) | (refine Blk.old ?_ _)))) hk10
  have B10x10 : Blk w10 (w5.heap.size) #[.int .i64 3, .int .i64 0] := Blk.keep (by (repeat (first | (with_reducible assumption) | (refine blk_at _ _ ?_; simp; done) | (refine Blk.old ?_ _)))) hk10
  have B11x10 : Blk w10 (w6.heap.size) #[.int .i64 3, .int .i64 0] := Blk.keep (by (repeat (first | (with_reducible assumption) | (refine blk_at _ _ ?_; simp; done) | (refine Blk.old ?_ _)))) hk10
  have B12x10 : Blk w10 (w7.heap.size) #[.int .i64 0, .int .i64 0] := Blk.keep (by (repeat (first | (with_reducible assumption) | (refine blk_at _ _ ?_; simp; done) | (refine Blk.old ?_ _)))) hk10
  have B13x10 : Blk w10 (w7.heap.size + 1) #[.int .i64 3, .int .i64 0] := Blk.keep (by (repeat (first | (with_reducible assumption) | (refine blk_at _ _ ?_; simp; done) | (refine Blk.old ?_ _)))) hk10
  have B14x10 : Blk w10 (w8.heap.size) #[.int .i64 0, .int .i64 0] := Blk.keep (by (repeat (first | (with_reducible assumption) | (refine blk_at _ _ ?_; simp; done) | (refine Blk.old ?_ _)))) hk10
  have B15x10 : Blk w10 (w8.heap.size + 1) #[.int .i64 3, .int .i64 0] := Blk.keep (by (repeat (first | (with_reducible assumption) | (refine blk_at _ _ ?_; simp; done) | (refine Blk.old ?_ _)))) hk10
  have B16x10 : Blk w10 (w9.heap.size) #[.int .i64 0, .int .i64 0] := Blk.keep (by (repeat (first | (with_reducible assumption) | (refine blk_at _ _ ?_; simp; done) | (refine Blk.old ?_ _)))) hk10
  have B17x10 : Blk w10 (w9.heap.size + 1) #[.int .i64 3, .int .i64 0] := Blk.keep (by (repeat (first | (with_reducible assumption) | (refine blk_at _ _ ?_; simp; done) | (refine Blk.old ?_ _)))) hk10
  clear K9 hk10 B0x9 B1x9 B2x9 B3x9 B4x9 B5x9 B6x9 B7x9 B8x9 B9x9 B10x9 B11x9 B12x9 B13x9 B14x9 B15x9 c0a c0b f0a f0b l0 m0 M0 N1 L1 c1a c1b f1a f1b l1 m1 M1
  obtain ⟨c0a, c0b, f0a, f0b, l0⟩ := B0x10.two
  have m0 : ¬ w10.heap.size = w.heap.size := by omega
  have M0 : ¬ w10.heap.size + 1 = w.heap.size := by omega
  obtain ⟨c1a, c1b, f1a, f1b, l1⟩ := B1x10.two
  have m1 : ¬ w10.heap.size = w.heap.size + 1 := by omega
  have M1 : ¬ w10.heap.size + 1 = w.heap.size + 1 := by omega
  have N1 : ¬ w10.heap.size = w.heap.size := by omega
  have L1 : w.heap.size < w10.heap.size := by omega
  obtain ⟨c2a, c2b, f2a, f2b, l2⟩ := B2x10.two
  have m2 : ¬ w10.heap.size = w1.heap.size := by omega
  have M2 : ¬ w10.heap.size + 1 = w1.heap.size := by omega
  obtain ⟨c3a, c3b, f3a, f3b, l3⟩ := B3x10.two
  have m3 : ¬ w10.heap.size = w1.heap.size + 1 := by omega
  have M3 : ¬ w10.heap.size + 1 = w1.heap.size + 1 := by omega
  have N3 : ¬ w10.heap.size = w1.heap.size := by omega
  have L3 : w1.heap.size < w10.heap.size := by omega
  obtain ⟨c4a, c4b, f4a, f4b, l4⟩ := B4x10.two
  have m4 : ¬ w10.heap.size = w2.heap.size := by omega
  have M4 : ¬ w10.heap.size + 1 = w2.heap.size := by omega
  obtain ⟨c5a, c5b, f5a, f5b, l5⟩ := B5x10.two
  have m5 : ¬ w10.heap.size = w2.heap.size + 1 := by omega
  have M5 : ¬ w10.heap.size + 1 = w2.heap.size + 1 := by omega
  have N5 : ¬ w10.heap.size = w2.heap.size := by omega
  have L5 : w2.heap.size < w10.heap.size := by omega
  obtain ⟨c6a, c6b, f6a, f6b, l6⟩ := B6x10.two
  have m6 : ¬ w10.heap.size = w3.heap.size := by omega
  have M6 : ¬ w10.heap.size + 1 = w3.heap.size := by omega
  obtain ⟨c7a, c7b, f7a, f7b, l7⟩ := B7x10.two
  have m7 : ¬ w10.heap.size = w3.heap.size + 1 := by omega
  have M7 : ¬ w10.heap.size + 1 = w3.heap.size + 1 := by omega
  have N7 : ¬ w10.heap.size = w3.heap.size := by omega
  have L7 : w3.heap.size < w10.heap.size := by omega
  obtain ⟨c8a, c8b, f8a, f8b, l8⟩ := B8x10.two
  have m8 : ¬ w10.heap.size = w4.heap.size := by omega
  have M8 : ¬ w10.heap.size + 1 = w4.heap.size := by omega
  obtain ⟨c9a, c9b, f9a, f9b, l9⟩ := B9x10.two
  have m9 : ¬ w10.heap.size = w4.heap.size + 1 := by omega
  have M9 : ¬ w10.heap.size + 1 = w4.heap.size + 1 := by omega
  have N9 : ¬ w10.heap.size = w4.heap.size := by omega
  have L9 : w4.heap.size < w10.heap.size := by omega
  obtain ⟨c10a, c10b, f10a, f10b, l10⟩ := B10x10.two
  have m10 : ¬ w10.heap.size = w5.heap.size := by omega
  have M10 : ¬ w10.heap.size + 1 = w5.heap.size := by omega
  obtain ⟨c11a, c11b, f11a, f11b, l11⟩ := B11x10.two
  have m11 : ¬ w10.heap.size = w6.heap.size := by omega
  have M11 : ¬ w10.heap.size + 1 = w6.heap.size := by omega
  obtain ⟨c12a, c12b, f12a, f12b, l12⟩ := B12x10.two
  have m12 : ¬ w10.heap.size = w7.heap.size := by omega
  have M12 : ¬ w10.heap.size + 1 = w7.heap.size := by omega
  obtain ⟨c13a, c13b, f13a, f13b, l13⟩ := B13x10.two
  have m13 : ¬ w10.heap.size = w7.heap.size + 1 := by omega
  have M13 : ¬ w10.heap.size + 1 = w7.heap.size + 1 := by omega
  have N13 : ¬ w10.heap.size = w7.heap.size := by omega
  have L13 : w7.heap.size < w10.heap.size := by omega
  obtain ⟨c14a, c14b, f14a, f14b, l14⟩ := B14x10.two
  have m14 : ¬ w10.heap.size = w8.heap.size := by omega
  have M14 : ¬ w10.heap.size + 1 = w8.heap.size := by omega
  obtain ⟨c15a, c15b, f15a, f15b, l15⟩ := B15x10.two
  have m15 : ¬ w10.heap.size = w8.heap.size + 1 := by omega
  have M15 : ¬ w10.heap.size + 1 = w8.heap.size + 1 := by omega
  have N15 : ¬ w10.heap.size = w8.heap.size := by omega
  have L15 : w8.heap.size < w10.heap.size := by omega
  obtain ⟨c16a, c16b, f16a, f16b, l16⟩ := B16x10.two
  have m16 : ¬ w10.heap.size = w9.heap.size := by omega
  have M16 : ¬ w10.heap.size + 1 = w9.heap.size := by omega
  obtain ⟨c17a, c17b, f17a, f17b, l17⟩ := B17x10.two
  have m17 : ¬ w10.heap.size = w9.heap.size + 1 := by omega
  have M17 : ¬ w10.heap.size + 1 = w9.heap.size + 1 := by omega
  have N17 : ¬ w10.heap.size = w9.heap.size := by omega
  have L17 : w9.heap.size < w10.heap.size := by omega
  rw [HOver.out]
  go_wp2_with fail
  refine (refRight_any n1 d1 _).mono ?_
  rintro e w11 ⟨rfl, hk11⟩
  have K11 : Keep NoS w w11 := Keep.trans (by (repeat' (first | (with_reducible assumption) | (with_reducible exact HK.out) | (with_reducible exact Keep.refl _ _) | (with_reducible refine Keep.alloc ?_ _) | (with_reducible refine Keep.setCell ?_ _ (fun h => absurd h (by omega))) | (with_reducible refine Keep.drewN ?_ _) | (with_reducible refine Keep.drew ?_)))) hk11 fun _ _ _ h => h
  have B0x11 : Blk w11 (w.heap.size) #[.int .i64 n1, .int .i64 d1] := Blk.keep (by (repeat (first | (with_reducible assumption) | (refine blk_at _ _ ?_; simp; done) | (refine Blk.old ?_ _)))) hk11
  have B1x11 : Blk w11 (w.heap.size + 1) #[.int .i64 n2, .int .i64 d2] := Blk.keep (by (repeat (first | (with_reducible assumption) | (refine blk_at _ _ ?_; simp; done) | (refine Blk.old ?_ _)))) hk11
  have B2x11 : Blk w11 (w1.heap.size) #[.int .i64 0, .int .i64 0] := Blk.keep (by (repeat (first | (with_reducible assumption) | (refine blk_at _ _ ?_; simp; done) | (refine Blk.old ?_ _)))) hk11
  have B3x11 : Blk w11 (w1.heap.size + 1) #[.int .i64 3, .int .i64 0] := Blk.keep (by (repeat (first | (with_reducible assumption) | (refine blk_at _ _ ?_; simp; done) | (refine Blk.old ?_ _)))) hk11
  have B4x11 : Blk w11 (w2.heap.size) #[.int .i64 0, .int .i64 0] := Blk.keep (by (repeat (first | (with_reducible assumption) | (refine blk_at _ _ ?_; simp; done) | (refine Blk.old ?_ _)))) hk11
  have B5x11 : Blk w11 (w2.heap.size + 1) #[.int .i64 3, .int .i64 0] := Blk.keep (by (repeat (first | (with_reducible assumption) | (refine blk_at _ _ ?_; simp; done) | (refine Blk.old ?_ _)))) hk11
  have B6x11 : Blk w11 (w3.heap.size) #[.int .i64 0, .int .i64 0] := Blk.keep (by (repeat (first | (with_reducible assumption) | (refine blk_at _ _ ?_; simp; done) | (refine Blk.old ?_ _)))) hk11
  have B7x11 : Blk w11 (w3.heap.size + 1) #[.int .i64 3, .int .i64 0] := Blk.keep (by (repeat (first | (with_reducible assumption) | (refine blk_at _ _ ?_; simp; done) | (refine Blk.old ?_ _)))) hk11
  have B8x11 : Blk w11 (w4.heap.size) #[.int .i64 0, .int .i64 0] := Blk.keep (by (repeat (first | (with_reducible assumption) | (refine blk_at _ _ ?_; simp; done) | (refine Blk.old ?_ _)))) hk11
  have B9x11 : Blk w11 (w4.heap.size + 1) #[.int .i64 3, .int .i64 0] := Blk.keep (by (repeat (first | (with_reducible assumption) | (refine blk_at _ _ ?_; simp; done) | (refine Blk.old ?_ _)))) hk11
  have B10x11 : Blk w11 (w5.heap.size) #[.int .i64 3, .int .i64 0] := Blk.keep (by (repeat (first | (with_reducible assumption) | (refine blk_at _ _ ?_; simp; done) | (refine Blk.old ?_ _)))) hk11
  have B11x11 : Blk w11 (w6.heap.size) #[.int .i64 3, .int .i64 0] := Blk.keep (by (repeat (first | (with_reducible assumption) | (refine blk_at _ _ ?_; simp; done) | (refine Blk.old ?_ _)))) hk11
  have B12x11 : Blk w11 (w7.heap.size) #[.int .i64 0, .int .i64 0] := Blk.keep (by (repeat (first | (with_reducible assumption) | (refine blk_at _ _ ?_; simp; done) | (refine Blk.old ?_ _)))) hk11
  have B13x11 : Blk w11 (w7.heap.size + 1) #[.int .i64 3, .int .i64 0] := Blk.keep (by (repeat (first | (with_reducible assumption) | (refine blk_at _ _ ?_; simp; done) | (refine Blk.old ?_ _)))) hk11
  have B14x11 : Blk w11 (w8.heap.size) #[.int .i64 0, .int .i64 0] := Blk.keep (by (repeat (first | (with_reducible assumption) | (refine blk_at _ _ ?_; simp; done) | (refine Blk.old ?_ _)))) hk11
  have B15x11 : Blk w11 (w8.heap.size + 1) #[.int .i64 3, .int .i64 0] := Blk.keep (by (repeat (first | (with_reducible assumption) | (refine blk_at _ _ ?_; simp; done) | (refine Blk.old ?_ _)))) hk11
  have B16x11 : Blk w11 (w9.heap.size) #[.int .i64 0, .int .i64 0] := Blk.keep (by (repeat (first | (with_reducible assumption) | (refine blk_at _ _ ?_; simp; done) | (refine Blk.old ?_ _)))) hk11
  have B17x11 : Blk w11 (w9.heap.size + 1) #[.int .i64 3, .int .i64 0] := Blk.keep (by (repeat (first | (with_reducible assumption) | (refine blk_at _ _ ?_; simp; done) | (refine Blk.old ?_ _)))) hk11
  have B18x11 : Blk w11 (w10.heap.size) #[.int .i64 0, .int .i64 0] := Blk.keep (by (repeat (first | (with_reducible assumption) | (refine blk_at _ _ ?_; simp; done) | (refine Blk.old ?_ _)))) hk11
  have B19x11 : Blk w11 (w10.heap.size + 1) #[.int .i64 3, .int .i64 0] := Blk.keep (by (repeat (first | (with_reducible assumption) | (refine blk_at _ _ ?_; simp; done) | (refine Blk.old ?_ _)))) hk11
  clear K10 hk11 B0x10 B1x10 B2x10 B3x10 B4x10 B5x10 B6x10 B7x10 B8x10 B9x10 B10x10 B11x10 B12x10 B13x10 B14x10 B15x10 B16x10 B17x10 c0a c0b f0a f0b l0 m0 M0 N1 L1 c1a c1b f1a f1b l1 m1 M1 c2a c2b f2a f2b l2 m2 M2 N3 L3 c3a c3b f3a f3b l3 m3 M3 c4a c4b f4a f4b l4 m4 M4 N5 L5 c5a c5b f5a f5b l5 m5 M5 c6a c6b f6a f6b l6 m6 M6 N7 L7 c7a c7b f7a f7b l7 m7 M7 c8a c8b f8a f8b l8 m8 M8 N9 L9 c9a c9b f9a f9b l9 m9 M9 c10a c10b f10a f10b l10 m10 M10 c11a c11b f11a f11b l11 m11 M11 c12a c12b f12a f12b l12 m12 M12 N13 L13 c13a c13b f13a f13b l13 m13 M13 c14a c14b f14a f14b l14 m14 M14 N15 L15 c15a c15b f15a f15b l15 m15 M15 c16a c16b f16a f16b l16 m16 M16 N17 L17 c17a c17b f17a f17b l17 m17 M17
  obtain ⟨c0a, c0b, f0a, f0b, l0⟩ := B0x11.two
  have m0 : ¬ w11.heap.size = w.heap.size := by omega
  have M0 : ¬ w11.heap.size + 1 = w.heap.size := by omega
  rw [E1.out]
  go_wp2_with fail
  refine (check_noK n1 d1 _ H1.out).mono ?_
  rintro e w12 ⟨rfl, hk12⟩
  have K12 : Keep NoS w w12 := Keep.trans (by (repeat' (first | (with_reducible assumption) | (with_reducible exact HK.out) | (with_reducible exact Keep.refl _ _) | (with_reducible refine Keep.alloc ?_ _) | (with_reducible refine Keep.setCell ?_ _ (fun h => absurd h (by omega))) | (with_reducible refine Keep.drewN ?_ _) | (with_reducible refine Keep.drew ?_)))) hk12 fun _ _ _ h => h
  have B0x12 : Blk w12 (w.heap.size) #[.int .i64 n1, .int .i64 d1] := Blk.keep (by (repeat (first | (with_reducible assumption) | (refine blk_at _ _ ?_; simp; done) | (refine Blk.old ?_ _)))) hk12
  have B1x12 : Blk w12 (w.heap.size + 1) #[.int .i64 n2, .int .i64 d2] := Blk.keep (by (repeat (first | (with_reducible assumption) | (refine blk_at _ _ ?_; simp; done) | (refine Blk.old ?_ _)))) hk12
  have B2x12 : Blk w12 (w1.heap.size) #[.int .i64 0, .int .i64 0] := Blk.keep (by (repeat (first | (with_reducible assumption) | (refine blk_at _ _ ?_; simp; done) | (refine Blk.old ?_ _)))) hk12
  have B3x12 : Blk w12 (w1.heap.size + 1) #[.int .i64 3, .int .i64 0] := Blk.keep (by (repeat (first | (with_reducible assumption) | (refine blk_at _ _ ?_; simp; done) | (refine Blk.old ?_ _)))) hk12
  have B4x12 : Blk w12 (w2.heap.size) #[.int .i64 0, .int .i64 0] := Blk.keep (by (repeat (first | (with_reducible assumption) | (refine blk_at _ _ ?_; simp; done) | (refine Blk.old ?_ _)))) hk12
  have B5x12 : Blk w12 (w2.heap.size + 1) #[.int .i64 3, .int .i64 0] := Blk.keep (by (repeat (first | (with_reducible assumption) | (refine blk_at _ _ ?_; simp; done) | (refine Blk.old ?_ _)))) hk12
  have B6x12 : Blk w12 (w3.heap.size) #[.int .i64 0, .int .i64 0] := Blk.keep (by (repeat (first | (with_reducible assumption) | (refine blk_at _ _ ?_; simp; done) | (refine Blk.old ?_ _)))) hk12
  have B7x12 : Blk w12 (w3.heap.size + 1) #[.int .i64 3, .int .i64 0] := Blk.keep (by (repeat (first | (with_reducible assumption) | (refine blk_at _ _ ?_; simp; done) | (refine Blk.old ?_ _)))) hk12
  have B8x12 : Blk w12 (w4.heap.size) #[.int .i64 0, .int .i64 0] := Blk.keep (by (repeat (first | (with_reducible assumption) | (refine blk_at _ _ ?_; simp; done) | (refine Blk.old ?_ _)))) hk12
  have B9x12 : Blk w12 (w4.heap.size + 1) #[.int .i64 3, .int .i64 0] := Blk.keep (by (repeat (first | (with_reducible assumption) | (refine blk_at _ _ ?_; simp; done) | (refine Blk.old ?_ _)))) hk12
  have B10x12 : Blk w12 (w5.heap.size) #[.int .i64 3, .int .i64 0] := Blk.keep (by (repeat (first | (with_reducible assumption) | (refine blk_at _ _ ?_; simp; done) | (refine Blk.old ?_ _)))) hk12
  have B11x12 : Blk w12 (w6.heap.size) #[.int .i64 3, .int .i64 0] := Blk.keep (by (repeat (first | (with_reducible assumption) | (refine blk_at _ _ ?_; simp; done) | (refine Blk.old ?_ _)))) hk12
  have B12x12 : Blk w12 (w7.heap.size) #[.int .i64 0, .int .i64 0] := Blk.keep (by (repeat (first | (with_reducible assumption) | (refine blk_at _ _ ?_; simp; done) | (refine Blk.old ?_ _)))) hk12
  have B13x12 : Blk w12 (w7.heap.size + 1) #[.int .i64 3, .int .i64 0] := Blk.keep (by (repeat (first | (with_reducible assumption) | (refine blk_at _ _ ?_; simp; done) | (refine Blk.old ?_ _)))) hk12
  have B14x12 : Blk w12 (w8.heap.size) #[.int .i64 0, .int .i64 0] := Blk.keep (by (repeat (first | (with_reducible assumption) | (refine blk_at _ _ ?_; simp; done) | (refine Blk.old ?_ _)))) hk12
  have B15x12 : Blk w12 (w8.heap.size + 1) #[.int .i64 3, .int .i64 0] := Blk.keep (by (repeat (first | (with_reducible assumption) | (refine blk_at _ _ ?_; simp; done) | (refine Blk.old ?_ _)))) hk12
  have B16x12 : Blk w12 (w9.heap.size) #[.int .i64 0, .int .i64 0] := Blk.keep (by (repeat (first | (with_reducible assumption) | (refine blk_at _ _ ?_; simp; done) | (refine Blk.old ?_ _)))) hk12
  have B17x12 : Blk w12 (w9.heap.size + 1) #[.int .i64 3, .int .i64 0] := Blk.keep (by (repeat (first | (with_reducible assumption) | (refine blk_at _ _ ?_; simp; done) | (refine Blk.old ?_ _)))) hk12
  have B18x12 : Blk w12 (w10.heap.size) #[.int .i64 0, .int .i64 0] := Blk.keep (by (repeat (first | (with_reducible assumption) | (refine blk_at _ _ ?_; simp; done) | (refine Blk.old ?_ _)))) hk12
  have B19x12 : Blk w12 (w10.heap.size + 1) #[.int .i64 3, .int .i64 0] := Blk.keep (by (repeat (first | (with_reducible assumption) | (refine blk_at _ _ ?_; simp; done) | (refine Blk.old ?_ _)))) hk12
  clear K11 hk12 B0x11 B1x11 B2x11 B3x11 B4x11 B5x11 B6x11 B7x11 B8x11 B9x11 B10x11 B11x11 B12x11 B13x11 B14x11 B15x11 B16x11 B17x11 B18x11 B19x11 c0a c0b f0a f0b l0 m0 M0
  obtain ⟨c0a, c0b, f0a, f0b, l0⟩ := B0x12.two
  have m0 : ¬ w12.heap.size = w.heap.size := by omega
  have M0 : ¬ w12.heap.size + 1 = w.heap.size := by omega
  go_wp2_with fail
  refine (check_noK n1 d1 _ H1.out).mono ?_
  rintro e w13 ⟨rfl, hk13⟩
  have K13 : Keep NoS w w13 := Keep.trans (by (repeat' (first | (with_reducible assumption) | (with_reducible exact HK.out) | (with_reducible exact Keep.refl _ _) | (with_reducible refine Keep.alloc ?_ _) | (with_reducible refine Keep.setCell ?_ _ (fun h => absurd h (by omega))) | (with_reducible refine Keep.drewN ?_ _) | (with_reducible refine Keep.drew ?_)))) hk13 fun _ _ _ h => h
  have B0x13 : Blk w13 (w.heap.size) #[.int .i64 n1, .int .i64 d1] := Blk.keep (by (repeat (first | (with_reducible assumption) | (refine blk_at _ _ ?_; simp; done) | (refine Blk.old ?_ _)))) hk13
  have B1x13 : Blk w13 (w.heap.size + 1) #[.int .i64 n2, .int .i64 d2] := Blk.keep (by (repeat (first | (with_reducible assumption) | (refine blk_at _ _ ?_; simp; done) | (refine Blk.old ?_ _)))) hk13
  have B2x13 : Blk w13 (w1.heap.size) #[.int .i64 0, .int .i64 0] := Blk.keep (by (repeat (first | (with_reducible assumption) | (refine blk_at _ _ ?_; simp; done) | (refine Blk.old ?_ _)))) hk13
  have B3x13 : Blk w13 (w1.heap.size + 1) #[.int .i64 3, .int .i64 0] := Blk.keep (by (repeat (first | (with_reducible assumption) | (refine blk_at _ _ ?_; simp; done) | (refine Blk.old ?_ _)))) hk13
  have B4x13 : Blk w13 (w2.heap.size) #[.int .i64 0, .int .i64 0] := Blk.keep (by (repeat (first | (with_reducible assumption) | (refine blk_at _ _ ?_; simp; done) | (refine Blk.old ?_ _)))) hk13
  have B5x13 : Blk w13 (w2.heap.size + 1) #[.int .i64 3, .int .i64 0] := Blk.keep (by (repeat (first | (with_reducible assumption) | (refine blk_at _ _ ?_; simp; done) | (refine Blk.old ?_ _)))) hk13
  have B6x13 : Blk w13 (w3.heap.size) #[.int .i64 0, .int .i64 0] := Blk.keep (by (repeat (first | (with_reducible assumption) | (refine blk_at _ _ ?_; simp; done) | (refine Blk.old ?_ _)))) hk13
  have B7x13 : Blk w13 (w3.heap.size + 1) #[.int .i64 3, .int .i64 0] := Blk.keep (by (repeat (first | (with_reducible assumption) | (refine blk_at _ _ ?_; simp; done) | (refine Blk.old ?_ _)))) hk13
  have B8x13 : Blk w13 (w4.heap.size) #[.int .i64 0, .int .i64 0] := Blk.keep (by (repeat (first | (with_reducible assumption) | (refine blk_at _ _ ?_; simp; done) | (refine Blk.old ?_ _)))) hk13
  have B9x13 : Blk w13 (w4.heap.size + 1) #[.int .i64 3, .int .i64 0] := Blk.keep (by (repeat (first | (with_reducible assumption) | (refine blk_at _ _ ?_; simp; done) | (refine Blk.old ?_ _)))) hk13
  have B10x13 : Blk w13 (w5.heap.size) #[.int .i64 3, .int .i64 0] := Blk.keep (by (repeat (first | (with_reducible assumption) | (refine blk_at _ _ ?_; simp; done) | (refine Blk.old ?_ _)))) hk13
  have B11x13 : Blk w13 (w6.heap.size) #[.int .i64 3, .int .i64 0] := Blk.keep (by (repeat (first | (with_reducible assumption) | (refine blk_at _ _ ?_; simp; done) | (refine Blk.old ?_ _)))) hk13
  have B12x13 : Blk w13 (w7.heap.size) #[.int .i64 0, .int .i64 0] := Blk.keep (by (repeat (first | (with_reducible assumption) | (refine blk_at _ _ ?_; simp; done) | (refine Blk.old ?_ _)))) hk13
  have B13x13 : Blk w13 (w7.heap.size + 1) #[.int .i64 3, .int .i64 0] := Blk.keep (by (repeat (first | (with_reducible assumption) | (refine blk_at _ _ ?_; simp; done) | (refine Blk.old ?_ _)))) hk13
  have B14x13 : Blk w13 (w8.heap.size) #[.int .i64 0, .int .i64 0] := Blk.keep (by (repeat (first | (with_reducible assumption) | (refine blk_at _ _ ?_; simp; done) | (refine Blk.old ?_ _)))) hk13
  have B15x13 : Blk w13 (w8.heap.size + 1) #[.int .i64 3, .int .i64 0] := Blk.keep (by (repeat (first | (with_reducible assumption) | (refine blk_at _ _ ?_; simp; done) | (refine Blk.old ?_ _)))) hk13
  have B16x13 : Blk w13 (w9.heap.size) #[.int .i64 0, .int .i64 0] := Blk.keep (by (repeat (first | (with_reducible assumption) | (refine blk_at _ _ ?_; simp; done) | (refine Blk.old ?_ _)))) hk13
  have B17x13 : Blk w13 (w9.heap.size + 1) #[.int .i64 3, .int .i64 0] := Blk.keep (by (repeat (first | (with_reducible assumption) | (refine blk_at _ _ ?_; simp; done) | (refine Blk.old ?_ _)))) hk13
  have B18x13 : Blk w13 (w10.heap.size) #[.int .i64 0, .int .i64 0] := Blk.keep (by (repeat (first | (with_reducible assumption) | (refine blk_at _ _ ?_; simp; done) | (refine Blk.old ?_ _)))) hk13
  have B19x13 : Blk w13 (w10.heap.size + 1) #[.int .i64 3, .int .i64 0] := Blk.keep (by (repeat (first | (with_reducible assumption) | (refine blk_at _ _ ?_; simp; done) | (refine Blk.old ?_ _)))) hk13
  clear K12 hk13 B0x12 B1x12 B2x12 B3x12 B4x12 B5x12 B6x12 B7x12 B8x12 B9x12 B10x12 B11x12 B12x12 B13x12 B14x12 B15x12 B16x12 B17x12 B18x12 B19x12 c0a c0b f0a f0b l0 m0 M0
  obtain ⟨c10a, c10b, f10a, f10b, l10⟩ := B10x13.two
  have m10 : ¬ w13.heap.size = w5.heap.size := by omega
  have M10 : ¬ w13.heap.size + 1 = w5.heap.size := by omega
  obtain ⟨c11a, c11b, f11a, f11b, l11⟩ := B11x13.two
  have m11 : ¬ w13.heap.size = w6.heap.size := by omega
  have M11 : ¬ w13.heap.size + 1 = w6.heap.size := by omega
  obtain ⟨c13a, c13b, f13a, f13b, l13⟩ := B13x13.two
  have m13 : ¬ w13.heap.size = w7.heap.size + 1 := by omega
  have M13 : ¬ w13.heap.size + 1 = w7.heap.size + 1 := by omega
  have N13 : ¬ w13.heap.size = w7.heap.size := by omega
  have L13 : w7.heap.size < w13.heap.size := by omega
  go_wp2
  go_returns
  exact ⟨rfl, Keep.bel (by (repeat' (first | (with_reducible assumption) | (with_reducible exact HK.out) | (with_reducible exact Keep.refl _ _) | (with_reducible refine Keep.alloc ?_ _) | (with_reducible refine Keep.setCell ?_ _ (fun h => absurd h (by omega))) | (with_reducible refine Keep.drewN ?_ _) | (with_reducible refine Keep.drew ?_))))⟩

set_option maxRecDepth 100000 in
set_option maxHeartbeats 64000000 in
theorem fracSays_B (w : World) (n1 d1 n2 d2 : Int) (h1 : FracOK n1 d1) (h2 : ¬ FracOK n2 d2) :
    Calls Try.prog 8 #[.agg #[.int .i64 n1, .int .i64 d1], .agg #[.int .i64 n2, .int .i64 d2]] w fun e w' => e = .returned (.bool true) ∧ Below w.heap.size w w' := by
  have hk : ¬ (FracOK n1 d1 ∧ FracOK n2 d2) := fun h => h2 h.2
  have hA : ckA n1 d1 n2 d2 = 1 := by simp [ckA, h1, h2]
  have HAdd := Lib.hid ((op_bad hk (n1 * d2 + n2 * d1) (d1 * d2)).trans (by rw [hA]))
  have HSub := Lib.hid ((op_bad hk (n1 * d2 - n2 * d1) (d1 * d2)).trans (by rw [hA]))
  have HTimes := Lib.hid ((op_bad hk (n1 * n2) (d1 * d2)).trans (by rw [hA]))
  have HOver := Lib.hid ((op_bad hk (n1 * d2) (d1 * n2)).trans (by rw [hA]))
  have HLess := Lib.hid ((less_bad hk).trans (by rw [hA]))
  have HFloor : Hid (floorV n1 d1 = .tuple #[.int .i64 (n1 / d1), .agg #[.int .i64 0, .int .i64 0]]) := Lib.hid (if_pos h1)
  have e1 : decide (FracOK n1 d1) = true := dec_t h1
  have e2 : decide (FracOK n2 d2) = false := dec_f h2
  have H2 := Lib.hid h2
  have H1 := Lib.hid h1
  clear h1 hk hA h2
  have E1 := Lib.hid e1
  have E2 := Lib.hid e2
  clear e1 e2
  go_enter Try.func8, Try.ntmps8
  go_wp2_with fail
  refine (op_Add n1 d1 n2 d2 _).mono ?_
  rintro e w1 ⟨rfl, hk1⟩
  have K1 : Keep NoS w w1 := Keep.trans (by (repeat' (first | (with_reducible assumption) | (with_reducible exact HK.out) | (with_reducible exact Keep.refl _ _) | (with_reducible refine Keep.alloc ?_ _) | (with_reducible refine Keep.setCell ?_ _ (fun h => absurd h (by omega))) | (with_reducible refine Keep.drewN ?_ _) | (with_reducible refine Keep.drew ?_)))) hk1 fun _ _ _ h => h
  have B0x1 : Blk w1 (w.heap.size) #[.int .i64 n1, .int .i64 d1] := Blk.keep (by (repeat (first | (with_reducible assumption) | (refine blk_at _ _ ?_; simp; done) | (refine Blk.old ?_ _)))) hk1
  have B1x1 : Blk w1 (w.heap.size + 1) #[.int .i64 n2, .int .i64 d2] := Blk.keep (by (repeat (first | (with_reducible assumption) | (refine blk_at _ _ ?_; simp; done) | (refine Blk.old ?_ _)))) hk1
  clear hk1
  obtain ⟨c0a, c0b, f0a, f0b, l0⟩ := B0x1.two
  have m0 : ¬ w1.heap.size = w.heap.size := by omega
  have M0 : ¬ w1.heap.size + 1 = w.heap.size := by omega
  obtain ⟨c1a, c1b, f1a, f1b, l1⟩ := B1x1.two
  have m1 : ¬ w1.heap.size = w.heap.size + 1 := by omega
  have M1 : ¬ w1.heap.size + 1 = w.heap.size + 1 := by omega
  have N1 : ¬ w1.heap.size = w.heap.size := by omega
  have L1 : w.heap.size < w1.heap.size := by omega
  rw [HAdd.out]
  go_wp2_with fail
  refine (op_Sub n1 d1 n2 d2 _).mono ?_
  rintro e w2 ⟨rfl, hk2⟩
  have K2 : Keep NoS w w2 := Keep.trans (by (repeat' (first | (with_reducible assumption) | (with_reducible exact HK.out) | (with_reducible exact Keep.refl _ _) | (with_reducible refine Keep.alloc ?_ _) | (with_reducible refine Keep.setCell ?_ _ (fun h => absurd h (by omega))) | (with_reducible refine Keep.drewN ?_ _) | (with_reducible refine Keep.drew ?_)))) hk2 fun _ _ _ h => h
  have B0x2 : Blk w2 (w.heap.size) #[.int .i64 n1, .int .i64 d1] := Blk.keep (by (repeat (first | (with_reducible assumption) | (refine blk_at _ _ ?_; simp; done) | (refine Blk.old ?_ _)))) hk2
  have B1x2 : Blk w2 (w.heap.size + 1) #[.int .i64 n2, .int .i64 d2] := Blk.keep (by (repeat (first | (with_reducible assumption) | (refine blk_at _ _ ?_; simp; done) | (refine Blk.old ?_ _)))) hk2
  have B2x2 : Blk w2 (w1.heap.size) #[.int .i64 0, .int .i64 0] := Blk.keep (by (repeat (first | (with_reducible assumption) | (refine blk_at _ _ ?_; simp; done) | (refine Blk.old ?_ _)))) hk2
  have B3x2 : Blk w2 (w1.heap.size + 1) #[.int .i64 3, .int .i64 1] := Blk.keep (by (repeat (first | (with_reducible assumption) | (refine blk_at _ _ ?_; simp; done) | (refine Blk.old ?_ _)))) hk2
  clear K1 hk2 B0x1 B1x1 c0a c0b f0a f0b l0 m0 M0 N1 L1 c1a c1b f1a f1b l1 m1 M1
  obtain ⟨c0a, c0b, f0a, f0b, l0⟩ := B0x2.two
  have m0 : ¬ w2.heap.size = w.heap.size := by omega
  have M0 : ¬ w2.heap.size + 1 = w.heap.size := by omega
  obtain ⟨c1a, c1b, f1a, f1b, l1⟩ := B1x2.two
  have m1 : ¬ w2.heap.size = w.heap.size + 1 := by omega
  have M1 : ¬ w2.heap.size + 1 = w.heap.size + 1 := by omega
  have N1 : ¬ w2.heap.size = w.heap.size := by omega
  have L1 : w.heap.size < w2.heap.size := by omega
  rw [HSub.out]
  go_wp2_with fail
  refine (op_Times n1 d1 n2 d2 _).mono ?_
  rintro e w3 ⟨rfl, hk3⟩
  have K3 : Keep NoS w w3 := Keep.trans (by (repeat' (first | (with_reducible assumption) | (with_reducible exact HK.out) | (with_reducible exact Keep.refl _ _) | (with_reducible refine Keep.alloc ?_ _) | (with_reducible refine Keep.setCell ?_ _ (fun h => absurd h (by omega))) | (with_reducible refine Keep.drewN ?_ _) | (with_reducible refine Keep.drew ?_)))) hk3 fun _ _ _ h => h
  have B0x3 : Blk w3 (w.heap.size) #[.int .i64 n1, .int .i64 d1] := Blk.keep (by (repeat (first | (with_reducible assumption) | (refine blk_at _ _ ?_; simp; done) | (refine Blk.old ?_ _)))) hk3
  have B1x3 : Blk w3 (w.heap.size + 1) #[.int .i64 n2, .int .i64 d2] := Blk.keep (by (repeat (first | (with_reducible assumption) | (refine blk_at _ _ ?_; simp; done) | (refine Blk.old ?_ _)))) hk3
  have B2x3 : Blk w3 (w1.heap.size) #[.int .i64 0, .int .i64 0] := Blk.keep (by (repeat (first | (with_reducible assumption) | (refine blk_at _ _ ?_; simp; done) | (refine Blk.old ?_ _)))) hk3
  have B3x3 : Blk w3 (w1.heap.size + 1) #[.int .i64 3, .int .i64 1] := Blk.keep (by (repeat (first | (with_reducible assumption) | (refine blk_at _ _ ?_; simp; done) | (refine Blk.old ?_ _)))) hk3
  have B4x3 : Blk w3 (w2.heap.size) #[.int .i64 0, .int .i64 0] := Blk.keep (by (repeat (first | (with_reducible assumption) | (refine blk_at _ _ ?_; simp; done) | (refine Blk.old ?_ _)))) hk3
  have B5x3 : Blk w3 (w2.heap.size + 1) #[.int .i64 3, .int .i64 1] := Blk.keep (by (repeat (first | (with_reducible assumption) | (refine blk_at _ _ ?_; simp; done) | (refine Blk.old ?_ _)))) hk3
  clear K2 hk3 B0x2 B1x2 B2x2 B3x2 c0a c0b f0a f0b l0 m0 M0 N1 L1 c1a c1b f1a f1b l1 m1 M1
  obtain ⟨c0a, c0b, f0a, f0b, l0⟩ := B0x3.two
  have m0 : ¬ w3.heap.size = w.heap.size := by omega
  have M0 : ¬ w3.heap.size + 1 = w.heap.size := by omega
  obtain ⟨c1a, c1b, f1a, f1b, l1⟩ := B1x3.two
  have m1 : ¬ w3.heap.size = w.heap.size + 1 := by omega
  have M1 : ¬ w3.heap.size + 1 = w.heap.size + 1 := by omega
  have N1 : ¬ w3.heap.size = w.heap.size := by omega
  have L1 : w.heap.size < w3.heap.size := by omega
  rw [HTimes.out]
  go_wp2_with fail
  refine (op_Over n1 d1 n2 d2 _).mono ?_
  rintro e w4 ⟨rfl, hk4⟩
  have K4 : Keep NoS w w4 := Keep.trans (by (repeat' (first | (with_reducible assumption) | (with_reducible exact HK.out) | (with_reducible exact Keep.refl _ _) | (with_reducible refine Keep.alloc ?_ _) | (with_reducible refine Keep.setCell ?_ _ (fun h => absurd h (by omega))) | (with_reducible refine Keep.drewN ?_ _) | (with_reducible refine Keep.drew ?_)))) hk4 fun _ _ _ h => h
  have B0x4 : Blk w4 (w.heap.size) #[.int .i64 n1, .int .i64 d1] := Blk.keep (by (repeat (first | (with_reducible assumption) | (refine blk_at _ _ ?_; simp; done) | (refine Blk.old ?_ _)))) hk4
  have B1x4 : Blk w4 (w.heap.size + 1) #[.int .i64 n2, .int .i64 d2] := Blk.keep (by (repeat (first | (with_reducible assumption) | (refine blk_at _ _ ?_; simp; done) | (refine Blk.old ?_ _)))) hk4
  have B2x4 : Blk w4 (w1.heap.size) #[.int .i64 0, .int .i64 0] := Blk.keep (by (repeat (first | (with_reducible assumption) | (refine blk_at _ _ ?_; simp; done) | (refine Blk.old ?_ _)))) hk4
  have B3x4 : Blk w4 (w1.heap.size + 1) #[.int .i64 3, .int .i64 1] := Blk.keep (by (repeat (first | (with_reducible assumption) | (refine blk_at _ _ ?_; simp; done) | (refine Blk.old ?_ _)))) hk4
  have B4x4 : Blk w4 (w2.heap.size) #[.int .i64 0, .int .i64 0] := Blk.keep (by (repeat (first | (with_reducible assumption) | (refine blk_at _ _ ?_; simp; done) | (refine Blk.old ?_ _)))) hk4
  have B5x4 : Blk w4 (w2.heap.size + 1) #[.int .i64 3, .int .i64 1] := Blk.keep (by (repeat (first | (with_reducible assumption) | (refine blk_at _ _ ?_; simp; done) | (refine Blk.old ?_ _)))) hk4
  have B6x4 : Blk w4 (w3.heap.size) #[.int .i64 0, .int .i64 0] := Blk.keep (by (repeat (first | (with_reducible assumption) | (refine blk_at _ _ ?_; simp; done) | (refine Blk.old ?_ _)))) hk4
  have B7x4 : Blk w4 (w3.heap.size + 1) #[.int .i64 3, .int .i64 1] := Blk.keep (by (repeat (first | (with_reducible assumption) | (refine blk_at _ _ ?_; simp; done) | (refine Blk.old ?_ _)))) hk4
  clear K3 hk4 B0x3 B1x3 B2x3 B3x3 B4x3 B5x3 c0a c0b f0a f0b l0 m0 M0 N1 L1 c1a c1b f1a f1b l1 m1 M1
  obtain ⟨c0a, c0b, f0a, f0b, l0⟩ := B0x4.two
  have m0 : ¬ w4.heap.size = w.heap.size := by omega
  have M0 : ¬ w4.heap.size + 1 = w.heap.size := by omega
  obtain ⟨c1a, c1b, f1a, f1b, l1⟩ := B1x4.two
  have m1 : ¬ w4.heap.size = w.heap.size + 1 := by omega
  have M1 : ¬ w4.heap.size + 1 = w.heap.size + 1 := by omega
  have N1 : ¬ w4.heap.size = w.heap.size := by omega
  have L1 : w.heap.size < w4.heap.size := by omega
  rw [HOver.out]
  go_wp2_with fail
  refine (less_any n1 d1 n2 d2 _).mono ?_
  rintro e w5 ⟨rfl, hk5⟩
  have K5 : Keep NoS w w5 := Keep.trans (by (repeat' (first | (with_reducible assumption) | (with_reducible exact HK.out) | (with_reducible exact Keep.refl _ _) | (with_reducible refine Keep.alloc ?_ _) | (with_reducible refine Keep.setCell ?_ _ (fun h => absurd h (by omega))) | (with_reducible refine Keep.drewN ?_ _) | (with_reducible refine Keep.drew ?_)))) hk5 fun _ _ _ h => h
  have B0x5 : Blk w5 (w.heap.size) #[.int .i64 n1, .int .i64 d1] := Blk.keep (by (repeat (first | (with_reducible assumption) | (refine blk_at _ _ ?_; simp; done) | (refine Blk.old ?_ _)))) hk5
  have B1x5 : Blk w5 (w.heap.size + 1) #[.int .i64 n2, .int .i64 d2] := Blk.keep (by (repeat (first | (with_reducible assumption) | (refine blk_at _ _ ?_; simp; done) | (refine Blk.old ?_ _)))) hk5
  have B2x5 : Blk w5 (w1.heap.size) #[.int .i64 0, .int .i64 0] := Blk.keep (by (repeat (first | (with_reducible assumption) | (refine blk_at _ _ ?_; simp; done) | (refine Blk.old ?_ _)))) hk5
  have B3x5 : Blk w5 (w1.heap.size + 1) #[.int .i64 3, .int .i64 1] := Blk.keep (by (repeat (first | (with_reducible assumption) | (refine blk_at _ _ ?_; simp; done) | (refine Blk.old ?_ _)))) hk5
  have B4x5 : Blk w5 (w2.heap.size) #[.int .i64 0, .int .i64 0] := Blk.keep (by (repeat (first | (with_reducible assumption) | (refine blk_at _ _ ?_; simp; done) | (refine Blk.old ?_ _)))) hk5
  have B5x5 : Blk w5 (w2.heap.size + 1) #[.int .i64 3, .int .i64 1] := Blk.keep (by (repeat (first | (with_reducible assumption) | (refine blk_at _ _ ?_; simp; done) | (refine Blk.old ?_ _)))) hk5
  have B6x5 : Blk w5 (w3.heap.size) #[.int .i64 0, .int .i64 0] := Blk.keep (by (repeat (first | (with_reducible assumption) | (refine blk_at _ _ ?_; simp; done) | (refine Blk.old ?_ _)))) hk5
  have B7x5 : Blk w5 (w3.heap.size + 1) #[.int .i64 3, .int .i64 1] := Blk.keep (by (repeat (first | (with_reducible assumption) | (refine blk_at _ _ ?_; simp; done) | (refine Blk.old ?_ _)))) hk5
  have B8x5 : Blk w5 (w4.heap.size) #[.int .i64 0, .int .i64 0] := Blk.keep (by (repeat (first | (with_reducible assumption) | (refine blk_at _ _ ?_; simp; done) | (refine Blk.old ?_ _)))) hk5
  have B9x5 : Blk w5 (w4.heap.size + 1) #[.int .i64 3, .int .i64 1] := Blk.keep (by (repeat (first | (with_reducible assumption) | (refine blk_at _ _ ?_; simp; done) | (refine Blk.old ?_ _)))) hk5
  clear K4 hk5 B0x4 B1x4 B2x4 B3x4 B4x4 B5x4 B6x4 B7x4 c0a c0b f0a f0b l0 m0 M0 N1 L1 c1a c1b f1a f1b l1 m1 M1
  obtain ⟨c0a, c0b, f0a, f0b, l0⟩ := B0x5.two
  have m0 : ¬ w5.heap.size = w.heap.size := by omega
  have M0 : ¬ w5.heap.size + 1 = w.heap.size := by omega
  rw [HLess.out]
  go_wp2_with fail
  refine (floor_any n1 d1 _).mono ?_
  rintro e w6 ⟨rfl, hk6⟩
  have K6 : Keep NoS w w6 := Keep.trans (by (repeat' (first | (with_reducible assumption) | (with_reducible exact HK.out) | (with_reducible exact Keep.refl _ _) | (with_reducible refine Keep.alloc ?_ _) | (with_reducible refine Keep.setCell ?_ _ (fun h => absurd h (by omega))) | (with_reducible refine Keep.drewN ?_ _) | (with_reducible refine Keep.drew ?_)))) hk6 fun _ _ _ h => h
  have B0x6 : Blk w6 (w.heap.size) #[.int .i64 n1, .int .i64 d1] := Blk.keep (by (repeat (first | (with_reducible assumption) | (refine blk_at _ _ ?_; simp; done) | (refine Blk.old ?_ _)))) hk6
  have B1x6 : Blk w6 (w.heap.size + 1) #[.int .i64 n2, .int .i64 d2] := Blk.keep (by (repeat (first | (with_reducible assumption) | (refine blk_at _ _ ?_; simp; done) | (refine Blk.old ?_ _)))) hk6
  have B2x6 : Blk w6 (w1.heap.size) #[.int .i64 0, .int .i64 0] := Blk.keep (by (repeat (first | (with_reducible assumption) | (refine blk_at _ _ ?_; simp; done) | (refine Blk.old ?_ _)))) hk6
  have B3x6 : Blk w6 (w1.heap.size + 1) #[.int .i64 3, .int .i64 1] := Blk.keep (by (repeat (first | (with_reducible assumption) | (refine blk_at _ _ ?_; simp; done) | (refine Blk.old ?_ _)))) hk6
  have B4x6 : Blk w6 (w2.heap.size) #[.int .i64 0, .int .i64 0] := Blk.keep (by (repeat (first | (with_reducible assumption) | (refine blk_at _ _ ?_; simp; done) | (refine Blk.old ?_ _)))) hk6
  have B5x6 : Blk w6 (w2.heap.size + 1) #[.int .i64 3, .int .i64 1] := Blk.keep (by (repeat (first | (with_reducible assumption) | (refine blk_at _ _ ?_; simp; done) | (refine Blk.old ?_ _)))) hk6
  have B6x6 : Blk w6 (w3.heap.size) #[.int .i64 0, .int .i64 0] := Blk.keep (by (repeat (first | (with_reducible assumption) | (refine blk_at _ _ ?_; simp; done) | (refine Blk.old ?_ _)))) hk6
  have B7x6 : Blk w6 (w3.heap.size + 1) #[.int .i64 3, .int .i64 1] := Blk.keep (by (repeat (first | (with_reducible assumption) | (refine blk_at _ _ ?_; simp; done) | (refine Blk.old ?_ _)))) hk6
  have B8x6 : Blk w6 (w4.heap.size) #[.int .i64 0, .int .i64 0] := Blk.keep (by (repeat (first | (with_reducible assumption) | (refine blk_at _ _ ?_; simp; done) | (refine Blk.old ?_ _)))) hk6
  have B9x6 : Blk w6 (w4.heap.size + 1) #[.int .i64 3, .int .i64 1] := Blk.keep (by (repeat (first | (with_reducible assumption) | (refine blk_at _ _ ?_; simp; done) | (refine Blk.old ?_ _)))) hk6
  have B10x6 : Blk w6 (w5.heap.size) #[.int .i64 3, .int .i64 1] := Blk.keep (by (repeat (first | (with_reducible assumption) | (refine blk_at _ _ ?_; simp; done) | (refine Blk.old ?_ _)))) hk6
  clear K5 hk6 B0x5 B1x5 B2x5 B3x5 B4x5 B5x5 B6x5 B7x5 B8x5 B9x5 c0a c0b f0a f0b l0 m0 M0
  obtain ⟨c0a, c0b, f0a, f0b, l0⟩ := B0x6.two
  have m0 : ¬ w6.heap.size = w.heap.size := by omega
  have M0 : ¬ w6.heap.size + 1 = w.heap.size := by omega
  obtain ⟨c1a, c1b, f1a, f1b, l1⟩ := B1x6.two
  have m1 : ¬ w6.heap.size = w.heap.size + 1 := by omega
  have M1 : ¬ w6.heap.size + 1 = w.heap.size + 1 := by omega
  have N1 : ¬ w6.heap.size = w.heap.size := by omega
  have L1 : w.heap.size < w6.heap.size := by omega
  rw [HFloor.out]
  go_wp2_with fail
  refine (refTwo_Add n1 d1 n2 d2 _).mono ?_
  rintro e w7 ⟨rfl, hk7⟩
  have K7 : Keep NoS w w7 := Keep.trans (by (repeat' (first | (with_reducible assumption) | (with_reducible exact HK.out) | (with_reducible exact Keep.refl _ _) | (with_reducible refine Keep.alloc ?_ _) | (with_reducible refine Keep.setCell ?_ _ (fun h => absurd h (by omega))) | (with_reducible refine Keep.drewN ?_ _) | (with_reducible refine Keep.drew ?_)))) hk7 fun _ _ _ h => h
  have B0x7 : Blk w7 (w.heap.size) #[.int .i64 n1, .int .i64 d1] := Blk.keep (by (repeat (first | (with_reducible assumption) | (refine blk_at _ _ ?_; simp; done) | (refine Blk.old ?_ _)))) hk7
  have B1x7 : Blk w7 (w.heap.size + 1) #[.int .i64 n2, .int .i64 d2] := Blk.keep (by (repeat (first | (with_reducible assumption) | (refine blk_at _ _ ?_; simp; done) | (refine Blk.old ?_ _)))) hk7
  have B2x7 : Blk w7 (w1.heap.size) #[.int .i64 0, .int .i64 0] := Blk.keep (by (repeat (first | (with_reducible assumption) | (refine blk_at _ _ ?_; simp; done) | (refine Blk.old ?_ _)))) hk7
  have B3x7 : Blk w7 (w1.heap.size + 1) #[.int .i64 3, .int .i64 1] := Blk.keep (by (repeat (first | (with_reducible assumption) | (refine blk_at _ _ ?_; simp; done) | (refine Blk.old ?_ _)))) hk7
  have B4x7 : Blk w7 (w2.heap.size) #[.int .i64 0, .int .i64 0] := Blk.keep (by (repeat (first | (with_reducible assumption) | (refine blk_at _ _ ?_; simp; done) | (refine Blk.old ?_ _)))) hk7
  have B5x7 : Blk w7 (w2.heap.size + 1) #[.int .i64 3, .int .i64 1] := Blk.keep (by (repeat (first | (with_reducible assumption) | (refine blk_at _ _ ?_; simp; done) | (refine Blk.old ?_ _)))) hk7
  have B6x7 : Blk w7 (w3.heap.size) #[.int .i64 0, .int .i64 0] := Blk.keep (by (repeat (first | (with_reducible assumption) | (refine blk_at _ _ ?_; simp; done) | (refine Blk.old ?_ _)))) hk7
  have B7x7 : Blk w7 (w3.heap.size + 1) #[.int .i64 3, .int .i64 1] := Blk.keep (by (repeat (first | (with_reducible assumption) | (refine blk_at _ _ ?_; simp; done) | (refine Blk.old ?_ _)))) hk7
  have B8x7 : Blk w7 (w4.heap.size) #[.int .i64 0, .int .i64 0] := Blk.keep (by (repeat (first | (with_reducible assumption) | (refine blk_at _ _ ?_; simp; done) | (refine Blk.old ?_ _)))) hk7
  have B9x7 : Blk w7 (w4.heap.size + 1) #[.int .i64 3, .int .i64 1] := Blk.keep (by (repeat (first | (with_reducible assumption) | (refine blk_at _ _ ?_; simp; done) | (refine Blk.old ?_ _)))) hk7
  have B10x7 : Blk w7 (w5.heap.size) #[.int .i64 3, .int .i64 1] := Blk.keep (by (repeat (first | (with_reducible assumption) | (refine blk_at _ _ ?_; simp; done) | (refine Blk.old ?_ _)))) hk7
  have B11x7 : Blk w7 (w6.heap.size) #[.int .i64 0, .int .i64 0] := Blk.keep (by (repeat (first | (with_reducible assumption) | (refine blk_at _ _ ?_; simp; done) | (refine Blk.old ?_ _)))) hk7
  clear K6 hk7 B0x6 B1x6 B2x6 B3x6 B4x6 B5x6 B6x6 B7x6 B8x6 B9x6 B10x6 c0a c0b f0a f0b l0 m0 M0 N1 L1 c1a c1b f1a f1b l1 m1 M1
  obtain ⟨c0a, c0b, f0a, f0b, l0⟩ := B0x7.two
  have m0 : ¬ w7.heap.size = w.heap.size := by omega
  have M0 : ¬ w7.heap.size + 1 = w.heap.size := by omega
  obtain ⟨c1a, c1b, f1a, f1b, l1⟩ := B1x7.two
  have m1 : ¬ w7.heap.size = w.heap.size + 1 := by omega
  have M1 : ¬ w7.heap.size + 1 = w.heap.size + 1 := by omega
  have N1 : ¬ w7.heap.size = w.heap.size := by omega
  have L1 : w.heap.size < w7.heap.size := by omega
  rw [HAdd.out]
  go_wp2_with fail
  refine (refTwo_Sub n1 d1 n2 d2 _).mono ?_
  rintro e w8 ⟨rfl, hk8⟩
  have K8 : Keep NoS w w8 := Keep.trans (by (repeat' (first | (with_reducible assumption) | (with_reducible exact HK.out) | (with_reducible exact Keep.refl _ _) | (with_reducible refine Keep.alloc ?_ _) | (with_reducible refine Keep.setCell ?_ _ (fun h => absurd h (by omega))) | (with_reducible refine Keep.drewN ?_ _) | (with_reducible refine Keep.drew ?_)))) hk8 fun _ _ _ h => h
  have B0x8 : Blk w8 (w.heap.size) #[.int .i64 n1, .int .i64 d1] := Blk.keep (by (repeat (first | (with_reducible assumption) | (refine blk_at _ _ ?_; simp; done) | (refine Blk.old ?_ _)))) hk8
  have B1x8 : Blk w8 (w.heap.size + 1) #[.int .i64 n2, .int .i64 d2] := Blk.keep (by (repeat (first | (with_reducible assumption) | (refine blk_at _ _ ?_; simp; done) | (refine Blk.old ?_ _)))) hk8
  have B2x8 : Blk w8 (w1.heap.size) #[.int .i64 0, .int .i64 0] := Blk.keep (by (repeat (first | (with_reducible assumption) | (refine blk_at _ _ ?_; simp; done) | (refine Blk.old ?_ _)))) hk8
  have B3x8 : Blk w8 (w1.heap.size + 1) #[.int .i64 3, .int .i64 1] := Blk.keep (by (repeat (first | (with_reducible assumption) | (refine blk_at _ _ ?_; simp; done) | (refine Blk.old ?_ _)))) hk8
  have B4x8 : Blk w8 (w2.heap.size) #[.int .i64 0, .int .i64 0] := Blk.keep (by (repeat (first | (with_reducible assumption) | (refine blk_at _ _ ?_; simp; done) | (refine Blk.old ?_ _)))) hk8
  have B5x8 : Blk w8 (w2.heap.size + 1) #[.int .i64 3, .int .i64 1] := Blk.keep (by (repeat (first | (with_reducible assumption) | (refine blk_at _ _ ?_; simp; done) | (refine Blk.old ?_ _)))) hk8
  have B6x8 : Blk w8 (w3.heap.size) #[.int .i64 0, .int .i64 0] := Blk.keep (by (repeat (first | (with_reducible assumption) | (refine blk_at _ _ ?_; simp; done) | (refine Blk.old ?_ _)))) hk8
  have B7x8 : Blk w8 (w3.heap.size + 1) #[.int .i64 3, .int .i64 1] := Blk.keep (by (repeat (first | (with_reducible assumption) | (refine blk_at _ _ ?_; simp; done) | (refine Blk.old ?_ _)))) hk8
  have B8x8 : Blk w8 (w4.heap.size) #[.int .i64 0, .int .i64 0] := Blk.keep (by (repeat (first | (with_reducible assumption) | (refine blk_at _ _ ?_; simp; done) | (refine Blk.old ?_ _)))) hk8
  have B9x8 : Blk w8 (w4.heap.size + 1) #[.int .i64 3, .int .i64 1] := Blk.keep (by (repeat (first | (with_reducible assumption) | (refine blk_at _ _ ?_; simp; done) | (refine Blk.old ?_ _)))) hk8
  have B10x8 : Blk w8 (w5.heap.size) #[.int .i64 3, .int .i64 1] := Blk.keep (by (repeat (first | (with_reducible assumption) | (refine blk_at _ _ ?_; simp; done) | (refine Blk.old ?_ _)))) hk8
  have B11x8 : Blk w8 (w6.heap.size) #[.int .i64 0, .int .i64 0] := Blk.keep (by (repeat (first | (with_reducible assumption) | (refine blk_at _ _ ?_; simp; done) | (refine Blk.old ?_ _)))) hk8
  have B12x8 : Blk w8 (w7.heap.size) #[.int .i64 0, .int .i64 0] := Blk.keep (by (repeat (first | (with_reducible assumption) | (refine blk_at _ _ ?_; simp; done) | (refine Blk.old ?_ _)))) hk8
  have B13x8 : Blk w8 (w7.heap.size + 1) #[.int .i64 3, .int .i64 1] := Blk.keep (by (repeat (first | (with_reducible assumption) | (refine blk_at _ _ ?_; simp; done) | (refine Blk.old ?_ _)))) hk8
  clear K7 hk8 B0x7 B1x7 B2x7 B3x7 B4x7 B5x7 B6x7 B7x7 B8x7 B9x7 B10x7 B11x7 c0a c0b f0a f0b l0 m0 M0 N1 L1 c1a c1b f1a f1b l1 m1 M1
  obtain ⟨c0a, c0b, f0a, f0b, l0⟩ := B0x8.two
  have m0 : ¬ w8.heap.size = w.heap.size := by omega
  have M0 : ¬ w8.heap.size + 1 = w.heap.size := by omega
  obtain ⟨c1a, c1b, f1a, f1b, l1⟩ := B1x8.two
  have m1 : ¬ w8.heap.size = w.heap.size + 1 := by omega
  have M1 : ¬ w8.heap.size + 1 = w.heap.size + 1 := by omega
  have N1 : ¬ w8.heap.size = w.heap.size := by omega
  have L1 : w.heap.size < w8.heap.size := by omega
  rw [HSub.out]
  go_wp2_with fail
  refine (refTwo_Times n1 d1 n2 d2 _).mono ?_
  rintro e w9 ⟨rfl, hk9⟩
  have K9 : Keep NoS w w9 := Keep.trans (by (repeat' (first | (with_reducible assumption) | (with_reducible exact HK.out) | (with_reducible exact Keep.refl _ _) | (with_reducible refine Keep.alloc ?_ _) | (with_reducible refine Keep.setCell ?_ _ (fun h => absurd h (by omega))) | (with_reducible refine Keep.drewN ?_ _) | (with_reducible refine Keep.drew ?_)))) hk9 fun _ _ _ h => h
  have B0x9 : Blk w9 (w.heap.size) #[.int .i64 n1, .int .i64 d1] := Blk.keep (by (repeat (first | (with_reducible assumption) | (refine blk_at _ _ ?_; simp; done) | (refine Blk.old ?_ _)))) hk9
  have B1x9 : Blk w9 (w.heap.size + 1) #[.int .i64 n2, .int .i64 d2] := Blk.keep (by (repeat (first | (with_reducible assumption) | (refine blk_at _ _ ?_; simp; done) | (refine Blk.old ?_ _)))) hk9
  have B2x9 : Blk w9 (w1.heap.size) #[.int .i64 0, .int .i64 0] := Blk.keep (by (repeat (first | (with_reducible assumption) | (refine blk_at _ _ ?_; simp; done) | (refine Blk.old ?_ _)))) hk9
  have B3x9 : Blk w9 (w1.heap.size + 1) #[.int .i64 3, .int .i64 1] := Blk.keep (by (repeat (first | (with_reducible assumption) | (refine blk_at _ _ ?_; simp; done) | (refine Blk.old ?_ _)))) hk9
  have B4x9 : Blk w9 (w2.heap.size) #[.int .i64 0, .int .i64 0] := Blk.keep (by (repeat (first | (with_reducible assumption) | (refine blk_at _ _ ?_; simp; done) | (refine Blk.old ?_ _)))) hk9
  have B5x9 : Blk w9 (w2.heap.size + 1) #[.int .i64 3, .int .i64 1] := Blk.keep (by (repeat (first | (with_reducible assumption) | (refine blk_at _ _ ?_; simp; done) | (refine Blk.old ?_ _)))) hk9
  have B6x9 : Blk w9 (w3.heap.size) #[.int .i64 0, .int .i64 0] := Blk.keep (by (repeat (first | (with_reducible assumption) | (refine blk_at _ _ ?_; simp; done) | (refine Blk.old ?_ _)))) hk9
  have B7x9 : Blk w9 (w3.heap.size + 1) #[.int .i64 3, .int .i64 1] := Blk.keep (by (repeat (first | (with_reducible assumption) | (refine blk_at _ _ ?_; simp; done) | (refine Blk.old ?_ _)))) hk9
  have B8x9 : Blk w9 (w4.heap.size) #[.int .i64 0, .int .i64 0] := Blk.keep (by (repeat (first | (with_reducible assumption) | (refine blk_at _ _ ?_; simp; done) | (refine Blk.old ?_ _)))) hk9
  have B9x9 : Blk w9 (w4.heap.size + 1) #[.int .i64 3, .int .i64 1] := Blk.keep (by (repeat (first | (with_reducible assumption) | (refine blk_at _ _ ?_; simp; done) | (refine Blk.old ?_ _)))) hk9
  have B10x9 : Blk w9 (w5.heap.size) #[.int .i64 3, .int .i64 1] := Blk.keep (by (repeat (first | (with_reducible assumption) | (refine blk_at _ _ ?_; simp; done) | (refine Blk.old ?_ _)))) hk9
  have B11x9 : Blk w9 (w6.heap.size) #[.int .i64 0, .int .i64 0] := Blk.keep (by (repeat (first | (with_reducible assumption) | (refine blk_at _ _ ?_; simp; done) | (refine Blk.old ?_ _)))) hk9
  have B12x9 : Blk w9 (w7.heap.size) #[.int .i64 0, .int .i64 0] := Blk.keep (by (repeat (first | (with_reducible assumption) | (refine blk_at _ _ ?_; simp; done) | (refine Blk.old ?_ _)))) hk9
  have B13x9 : Blk w9 (w7.heap.size + 1) #[.int .i64 3, .int .i64 1] := Blk.keep (by (repeat (first | (with_reducible assumption) | (refine blk_at _ _ ?_; simp; done) | (refine Blk.old ?_ _)))) hk9
  have B14x9 : Blk w9 (w8.heap.size) #[.int .i64 0, .int .i64 0] := Blk.keep (by (repeat (first | (with_reducible assumption) | (refine blk_at _ _ ?_; simp; done) | (refine Blk.old ?_ _)))) hk9
  have B15x9 : Blk w9 (w8.heap.size + 1) #[.int .i64 3, .int .i64 1] := Blk.keep (by (repeat (first | (with_reducible assumption) | (refine blk_at _ _ ?_; simp; done) | (refine Blk.old ?_ _)))) hk9
  clear K8 hk9 B0x8 B1x8 B2x8 B3x8 B4x8 B5x8 B6x8 B7x8 B8x8 B9x8 B10x8 B11x8 B12x8 B13x8 c0a c0b f0a f0b l0 m0 M0 N1 L1 c1a c1b f1a f1b l1 m1 M1
  obtain ⟨c0a, c0b, f0a, f0b, l0⟩ := B0x9.two
  have m0 : ¬ w9.heap.size = w.heap.size := by omega
  have M0 : ¬ w9.heap.size + 1 = w.heap.size := by omega
  obtain ⟨c1a, c1b, f1a, f1b, l1⟩ := B1x9.two
  have m1 : ¬ w9.heap.size = w.heap.size + 1 := by omega
  have M1 : ¬ w9.heap.size + 1 = w.heap.size + 1 := by omega
  have N1 : ¬ w9.heap.size = w.heap.size := by omega
  have L1 : w.heap.size < w9.heap.size := by omega
  rw [HTimes.out]
  go_wp2_with fail
  refine (refTwo_Over n1 d1 n2 d2 _).mono ?_
  rintro e w10 ⟨rfl, hk10⟩
  have K10 : Keep NoS w w10 := Keep.trans (by (repeat' (first | (with_reducible assumption) | (with_reducible exact HK.out) | (with_reducible exact Keep.refl _ _) | (with_reducible refine Keep.alloc ?_ _) | (with_reducible refine Keep.setCell ?_ _ (fun h => absurd h (by omega))) | (with_reducible refine Keep.drewN ?_ _) | (with_reducible refine Keep.drew ?_)))) hk10 fun _ _ _ h => h
  have B0x10 : Blk w10 (w.heap.size) #[.int .i64 n1, .int .i64 d1] := Blk.keep (by (repeat (first | (with_reducible assumption) | (refine blk_at _ _ ?_; simp; done) | (refine Blk.old ?_ _)))) hk10
  have B1x10 : Blk w10 (w.heap.size + 1) #[.int .i64 n2, .int .i64 d2] := Blk.keep (by (repeat (first | (with_reducible assumption) | (refine blk_at _ _ ?_; simp; done) | (refine Blk.old ?_ _)))) hk10
  have B2x10 : Blk w10 (w1.heap.size) #[.int .i64 0, .int .i64 0] := Blk.keep (by (repeat (first | (with_reducible assumption) | (refine blk_at _ _ ?_; simp; done) | (refine Blk.old ?_ _)))) hk10
  have B3x10 : Blk w10 (w1.heap.size + 1) #[.int .i64 3, .int .i64 1] := Blk.keep (by (repeat (first | (with_reducible assumption) | (refine blk_at _ _ ?_; simp; done) | (refine Blk.old ?_ _)))) hk10
  have B4x10 : Blk w10 (w2.heap.size) #[.int .i64 0, .int .i64 0] := Blk.keep (by (repeat (first | (with_reducible assumption) | (refine blk_at _ _ ?_; simp; done) | (refine Blk.old ?_ _)))) hk10
  have B5x10 : Blk w10 (w2.heap.size + 1) #[.int .i64 3, .int .i64 1] := Blk.keep (by (repeat (first | (with_reducible assumption) | (refine blk_at _ _ ?_; simp; done) | (refine Blk.old ?_ _)))) hk10
  have B6x10 : Blk w10 (w3.heap.size) #[.int .i64 0, .int .i64 0] := Blk.keep (by (repeat (first | (with_reducible assumption) | (refine blk_at _ _ ?_; simp; done) | (refine Blk.old ?_ _)))) hk10
  have B7x10 : Blk w10 (w3.heap.size + 1) #[.int .i64 3, .int .i64 1] := Blk.keep (by (repeat (first | (with_reducible assumption) | (refine blk_at _ _ ?_; simp; done) | (refine Blk.old ?_ _)))) hk10
  have B8x10 : Blk w10 (w4.heap.size) #[.int .i64 0, .int .i64 0] := Blk.keep (by (repeat (first | (with_reducible assumption) | (refine blk_at _ _ ?_; simp; done) | (refine Blk.old ?_ _)))) hk10
  have B9x10 : Blk w10 (w4.heap.size + 1) #[.int .i64 3, .int .i64 1] := Blk.keep (by (repeat (first | (with_reducible assumption) | (refine blk_at _ _ ?_; simp; done) | (refine Blk.old ?_ _)))) hk10
  have B10x10 : Blk w10 (w5.heap.size) #[.int .i64 3, .int .i64 1] := Blk.keep (by (repeat (first | (with_reducible assumption) | (refine blk_at _ _ ?_; simp; done) | (refine Blk.old ?_ _)))) hk10
  have B11x10 : Blk w10 (w6.heap.size) #[.int .i64 0, .int .i64 0] := Blk.keep (by (repeat (first | (with_reducible assumption) | (refine blk_at _ _ ?_; simp; done) | (refine Blk.old ?_ _)))) hk10
  have B12x10 : Blk w10 (w7.heap.size) #[.int .i64 0, .int .i64 0] := Blk.keep (by (repeat (first | (with_reducible assumption) | (refine blk_at _ _ ?_; simp; done) | (refine Blk.old ?_ _)))) hk10
  have B13x10 : Blk w10 (w7.heap.size + 1) #[.int .i64 3, .int .i64 1] := Blk.keep (by (repeat (first | (with_reducible assumption) | (refine blk_at _ _ ?_; simp; done) | (refine Blk.old ?_ _)))) hk10
  have B14x10 : Blk w10 (w8.heap.size) #[.int .i64 0, .int .i64 0] := Blk.keep (by (repeat (first | (with_reducible assumption) | (refine blk_at _ _ ?_; simp; done) | (refine Blk.old ?_ _)))) hk10
  have B15x10 : Blk w10 (w8.heap.size + 1) #[.int .i64 3, .int .i64 1] := Blk.keep (by (repeat (first | (with_reducible assumption) | (refine blk_at _ _ ?_; simp; done) | (refine Blk.old ?_ _)))) hk10
  have B16x10 : Blk w10 (w9.heap.size) #[.int .i64 0, .int .i64 0] := Blk.keep (by (repeat (first | (with_reducible assumption) | (refine blk_at _ _ ?_; simp; done) | (refine Blk.old ?_ _)))) hk10
  have B17x10 : Blk w10 (w9.heap.size + 1) #[.int .i64 3, .int .i64 1] := Blk.keep (by (repeat (first | (with_reducible assumption) | (refine blk_at _ _ ?_; simp; done) | (refine Blk.old ?_ _)))) hk10
  clear K9 hk10 B0x9 B1x9 B2x9 B3x9 B4x9 B5x9 B6x9 B7x9 B8x9 B9x9 B10x9 B11x9 B12x9 B13x9 B14x9 B15x9 c0a c0b f0a f0b l0 m0 M0 N1 L1 c1a c1b f1a f1b l1 m1 M1
  obtain ⟨c0a, c0b, f0a, f0b, l0⟩ := B0x10.two
  have m0 : ¬ w10.heap.size = w.heap.size := by omega
  have M0 : ¬ w10.heap.size + 1 = w.heap.size := by omega
  obtain ⟨c1a, c1b, f1a, f1b, l1⟩ := B1x10.two
  have m1 : ¬ w10.heap.size = w.heap.size + 1 := by omega
  have M1 : ¬ w10.heap.size + 1 = w.heap.size + 1 := by omega
  have N1 : ¬ w10.heap.size = w.heap.size := by omega
  have L1 : w.heap.size < w10.heap.size := by omega
  obtain ⟨c2a, c2b, f2a, f2b, l2⟩ := B2x10.two
  have m2 : ¬ w10.heap.size = w1.heap.size := by omega
  have M2 : ¬ w10.heap.size + 1 = w1.heap.size := by omega
  obtain ⟨c3a, c3b, f3a, f3b, l3⟩ := B3x10.two
  have m3 : ¬ w10.heap.size = w1.heap.size + 1 := by omega
  have M3 : ¬ w10.heap.size + 1 = w1.heap.size + 1 := by omega
  have N3 : ¬ w10.heap.size = w1.heap.size := by omega
  have L3 : w1.heap.size < w10.heap.size := by omega
  obtain ⟨c4a, c4b, f4a, f4b, l4⟩ := B4x10.two
  have m4 : ¬ w10.heap.size = w2.heap.size := by omega
  have M4 : ¬ w10.heap.size + 1 = w2.heap.size := by omega
  obtain ⟨c5a, c5b, f5a, f5b, l5⟩ := B5x10.two
  have m5 : ¬ w10.heap.size = w2.heap.size + 1 := by omega
  have M5 : ¬ w10.heap.size + 1 = w2.heap.size + 1 := by omega
  have N5 : ¬ w10.heap.size = w2.heap.size := by omega
  have L5 : w2.heap.size < w10.heap.size := by omega
  obtain ⟨c6a, c6b, f6a, f6b, l6⟩ := B6x10.two
  have m6 : ¬ w10.heap.size = w3.heap.size := by omega
  have M6 : ¬ w10.heap.size + 1 = w3.heap.size := by omega
  obtain ⟨c7a, c7b, f7a, f7b, l7⟩ := B7x10.two
  have m7 : ¬ w10.heap.size = w3.heap.size + 1 := by omega
  have M7 : ¬ w10.heap.size + 1 = w3.heap.size + 1 := by omega
  have N7 : ¬ w10.heap.size = w3.heap.size := by omega
  have L7 : w3.heap.size < w10.heap.size := by omega
  obtain ⟨c8a, c8b, f8a, f8b, l8⟩ := B8x10.two
  have m8 : ¬ w10.heap.size = w4.heap.size := by omega
  have M8 : ¬ w10.heap.size + 1 = w4.heap.size := by omega
  obtain ⟨c9a, c9b, f9a, f9b, l9⟩ := B9x10.two
  have m9 : ¬ w10.heap.size = w4.heap.size + 1 := by omega
  have M9 : ¬ w10.heap.size + 1 = w4.heap.size + 1 := by omega
  have N9 : ¬ w10.heap.size = w4.heap.size := by omega
  have L9 : w4.heap.size < w10.heap.size := by omega
  obtain ⟨c10a, c10b, f10a, f10b, l10⟩ := B10x10.two
  have m10 : ¬ w10.heap.size = w5.heap.size := by omega
  have M10 : ¬ w10.heap.size + 1 = w5.heap.size := by omega
  obtain ⟨c11a, c11b, f11a, f11b, l11⟩ := B11x10.two
  have m11 : ¬ w10.heap.size = w6.heap.size := by omega
  have M11 : ¬ w10.heap.size + 1 = w6.heap.size := by omega
  obtain ⟨c12a, c12b, f12a, f12b, l12⟩ := B12x10.two
  have m12 : ¬ w10.heap.size = w7.heap.size := by omega
  have M12 : ¬ w10.heap.size + 1 = w7.heap.size := by omega
  obtain ⟨c13a, c13b, f13a, f13b, l13⟩ := B13x10.two
  have m13 : ¬ w10.heap.size = w7.heap.size + 1 := by omega
  have M13 : ¬ w10.heap.size + 1 = w7.heap.size + 1 := by omega
  have N13 : ¬ w10.heap.size = w7.heap.size := by omega
  have L13 : w7.heap.size < w10.heap.size := by omega
  obtain ⟨c14a, c14b, f14a, f14b, l14⟩ := B14x10.two
  have m14 : ¬ w10.heap.size = w8.heap.size := by omega
  have M14 : ¬ w10.heap.size + 1 = w8.heap.size := by omega
  obtain ⟨c15a, c15b, f15a, f15b, l15⟩ := B15x10.two
  have m15 : ¬ w10.heap.size = w8.heap.size + 1 := by omega
  have M15 : ¬ w10.heap.size + 1 = w8.heap.size + 1 := by omega
  have N15 : ¬ w10.heap.size = w8.heap.size := by omega
  have L15 : w8.heap.size < w10.heap.size := by omega
  obtain ⟨c16a, c16b, f16a, f16b, l16⟩ := B16x10.two
  have m16 : ¬ w10.heap.size = w9.heap.size := by omega
  have M16 : ¬ w10.heap.size + 1 = w9.heap.size := by omega
  obtain ⟨c17a, c17b, f17a, f17b, l17⟩ := B17x10.two
  have m17 : ¬ w10.heap.size = w9.heap.size + 1 := by omega
  have M17 : ¬ w10.heap.size + 1 = w9.heap.size + 1 := by omega
  have N17 : ¬ w10.heap.size = w9.heap.size := by omega
  have L17 : w9.heap.size < w10.heap.size := by omega
  rw [HOver.out]
  go_wp2_with fail
  refine (refRight_any n1 d1 _).mono ?_
  rintro e w11 ⟨rfl, hk11⟩
  have K11 : Keep NoS w w11 := Keep.trans (by (repeat' (first | (with_reducible assumption) | (with_reducible exact HK.out) | (with_reducible exact Keep.refl _ _) | (with_reducible refine Keep.alloc ?_ _) | (with_reducible refine Keep.setCell ?_ _ (fun h => absurd h (by omega))) | (with_reducible refine Keep.drewN ?_ _) | (with_reducible refine Keep.drew ?_)))) hk11 fun _ _ _ h => h
  have B0x11 : Blk w11 (w.heap.size) #[.int .i64 n1, .int .i64 d1] := Blk.keep (by (repeat (first | (with_reducible assumption) | (refine blk_at _ _ ?_; simp; done) | (refine Blk.old ?_ _)))) hk11
  have B1x11 : Blk w11 (w.heap.size + 1) #[.int .i64 n2, .int .i64 d2] := Blk.keep (by (repeat (first | (with_reducible assumption) | (refine blk_at _ _ ?_; simp; done) | (refine Blk.old ?_ _)))) hk11
  have B2x11 : Blk w11 (w1.heap.size) #[.int .i64 0, .int .i64 0] := Blk.keep (by (repeat (first | (with_reducible assumption) | (refine blk_at _ _ ?_; simp; done) | (refine Blk.old ?_ _)))) hk11
  have B3x11 : Blk w11 (w1.heap.size + 1) #[.int .i64 3, .int .i64 1] := Blk.keep (by (repeat (first | (with_reducible assumption) | (refine blk_at _ _ ?_; simp; done) | (refine Blk.old ?_ _)))) hk11
  have B4x11 : Blk w11 (w2.heap.size) #[.int .i64 0, .int .i64 0] := Blk.keep (by (repeat (first | (with_reducible assumption) | (refine blk_at _ _ ?_; simp; done) | (refine Blk.old ?_ _)))) hk11
  have B5x11 : Blk w11 (w2.heap.size + 1) #[.int .i64 3, .int .i64 1] := Blk.keep (by (repeat (first | (with_reducible assumption) | (refine blk_at _ _ ?_; simp; done) | (refine Blk.old ?_ _)))) hk11
  have B6x11 : Blk w11 (w3.heap.size) #[.int .i64 0, .int .i64 0] := Blk.keep (by (repeat (first | (with_reducible assumption) | (refine blk_at _ _ ?_; simp; done) | (refine Blk.old ?_ _)))) hk11
  have B7x11 : Blk w11 (w3.heap.size + 1) #[.int .i64 3, .int .i64 1] := Blk.keep (by (repeat (first | (with_reducible assumption) | (refine blk_at _ _ ?_; simp; done) | (refine Blk.old ?_ _)))) hk11
  have B8x11 : Blk w11 (w4.heap.size) #[.int .i64 0, .int .i64 0] := Blk.keep (by (repeat (first | (with_reducible assumption) | (refine blk_at _ _ ?_; simp; done) | (refine Blk.old ?_ _)))) hk11
  have B9x11 : Blk w11 (w4.heap.size + 1) #[.int .i64 3, .int .i64 1] := Blk.keep (by (repeat (first | (with_reducible assumption) | (refine blk_at _ _ ?_; simp; done) | (refine Blk.old ?_ _)))) hk11
  have B10x11 : Blk w11 (w5.heap.size) #[.int .i64 3, .int .i64 1] := Blk.keep (by (repeat (first | (with_reducible assumption) | (refine blk_at _ _ ?_; simp; done) | (refine Blk.old ?_ _)))) hk11
  have B11x11 : Blk w11 (w6.heap.size) #[.int .i64 0, .int .i64 0] := Blk.keep (by (repeat (first | (with_reducible assumption) | (refine blk_at _ _ ?_; simp; done) | (refine Blk.old ?_ _)))) hk11
  have B12x11 : Blk w11 (w7.heap.size) #[.int .i64 0, .int .i64 0] := Blk.keep (by (repeat (first | (with_reducible assumption) | (refine blk_at _ _ ?_; simp; done) | (refine Blk.old ?_ _)))) hk11
  have B13x11 : Blk w11 (w7.heap.size + 1) #[.int .i64 3, .int .i64 1] := Blk.keep (by (repeat (first | (with_reducible assumption) | (refine blk_at _ _ ?_; simp; done) | (refine Blk.old ?_ _)))) hk11
  have B14x11 : Blk w11 (w8.heap.size) #[.int .i64 0, .int .i64 0] := Blk.keep (by (repeat (first | (with_reducible assumption) | (refine blk_at _ _ ?_; simp; done) | (refine Blk.old ?_ _)))) hk11
  have B15x11 : Blk w11 (w8.heap.size + 1) #[.int .i64 3, .int .i64 1] := Blk.keep (by (repeat (first | (with_reducible assumption) | (refine blk_at _ _ ?_; simp; done) | (refine Blk.old ?_ _)))) hk11
  have B16x11 : Blk w11 (w9.heap.size) #[.int .i64 0, .int .i64 0] := Blk.keep (by (repeat (first | (with_reducible assumption) | (refine blk_at _ _ ?_; simp; done) | (refine Blk.old ?_ _)))) hk11
  have B17x11 : Blk w11 (w9.heap.size + 1) #[.int .i64 3, .int .i64 1] := Blk.keep (by (repeat (first | (with_reducible assumption) | (refine blk_at _ _ ?_; simp; done) | (refine Blk.old ?_ _)))) hk11
  have B18x11 : Blk w11 (w10.heap.size) #[.int .i64 0, .int .i64 0] := Blk.keep (by (repeat (first | (with_reducible assumption) | (refine blk_at _ _ ?_; simp; done) | (refine Blk.old ?_ _)))) hk11
  have B19x11 : Blk w11 (w10.heap.size + 1) #[.int .i64 3, .int .i64 1] := Blk.keep (by (repeat (first | (with_reducible assumption) | (refine blk_at _ _ ?_; simp; done) | (refine Blk.old ?_ _)))) hk11
  clear K10 hk11 B0x10 B1x10 B2x10 B3x10 B4x10 B5x10 B6x10 B7x10 B8x10 B9x10 B10x10 B11x10 B12x10 B13x10 B14x10 B15x10 B16x10 B17x10 c0a c0b f0a f0b l0 m0 M0 N1 L1 c1a c1b f1a f1b l1 m1 M1 c2a c2b f2a f2b l2 m2 M2 N3 L3 c3a c3b f3a f3b l3 m3 M3 c4a c4b f4a f4b l4 m4 M4 N5 L5 c5a c5b f5a f5b l5 m5 M5 c6a c6b f6a f6b l6 m6 M6 N7 L7 c7a c7b f7a f7b l7 m7 M7 c8a c8b f8a f8b l8 m8 M8 N9 L9 c9a c9b f9a f9b l9 m9 M9 c10a c10b f10a f10b l10 m10 M10 c11a c11b f11a f11b l11 m11 M11 c12a c12b f12a f12b l12 m12 M12 N13 L13 c13a c13b f13a f13b l13 m13 M13 c14a c14b f14a f14b l14 m14 M14 N15 L15 c15a c15b f15a f15b l15 m15 M15 c16a c16b f16a f16b l16 m16 M16 N17 L17 c17a c17b f17a f17b l17 m17 M17
  obtain ⟨c0a, c0b, f0a, f0b, l0⟩ := B0x11.two
  have m0 : ¬ w11.heap.size = w.heap.size := by omega
  have M0 : ¬ w11.heap.size + 1 = w.heap.size := by omega
  rw [E1.out]
  go_wp2_with fail
  refine (check_okK n1 d1 _ H1.out).mono ?_
  rintro e w12 ⟨rfl, hk12⟩
  have K12 : Keep NoS w w12 := Keep.trans (by (repeat' (first | (with_reducible assumption) | (with_reducible exact HK.out) | (with_reducible exact Keep.refl _ _) | (with_reducible refine Keep.alloc ?_ _) | (with_reducible refine Keep.setCell ?_ _ (fun h => absurd h (by omega))) | (with_reducible refine Keep.drewN ?_ _) | (with_reducible refine Keep.drew ?_)))) hk12 fun _ _ _ h => h
  have B0x12 : Blk w12 (w.heap.size) #[.int .i64 n1, .int .i64 d1] := Blk.keep (by (repeat (first | (with_reducible assumption) | (refine blk_at _ _ ?_; simp; done) | (refine Blk.old ?_ _)))) hk12
  have B1x12 : Blk w12 (w.heap.size + 1) #[.int .i64 n2, .int .i64 d2] := Blk.keep (by (repeat (first | (with_reducible assumption) | (refine blk_at _ _ ?_; simp; done) | (refine Blk.old ?_ _)))) hk12
  have B2x12 : Blk w12 (w1.heap.size) #[.int .i64 0, .int .i64 0] := Blk.keep (by (repeat (first | (with_reducible assumption) | (refine blk_at _ _ ?_; simp; done) | (refine Blk.old ?_ _)))) hk12
  have B3x12 : Blk w12 (w1.heap.size + 1) #[.int .i64 3, .int .i64 1] := Blk.keep (by (repeat (first | (with_reducible assumption) | (refine blk_at _ _ ?_; simp; done) | (refine Blk.old ?_ _)))) hk12
  have B4x12 : Blk w12 (w2.heap.size) #[.int .i64 0, .int .i64 0] := Blk.keep (by (repeat (first | (with_reducible assumption) | (refine blk_at _ _ ?_; simp; done) | (refine Blk.old ?_ _)))) hk12
  have B5x12 : Blk w12 (w2.heap.size + 1) #[.int .i64 3, .int .i64 1] := Blk.keep (by (repeat (first | (with_reducible assumption) | (refine blk_at _ _ ?_; simp; done) | (refine Blk.old ?_ _)))) hk12
  have B6x12 : Blk w12 (w3.heap.size) #[.int .i64 0, .int .i64 0] := Blk.keep (by (repeat (first | (with_reducible assumption) | (refine blk_at _ _ ?_; simp; done) | (refine Blk.old ?_ _)))) hk12
  have B7x12 : Blk w12 (w3.heap.size + 1) #[.int .i64 3, .int .i64 1] := Blk.keep (by (repeat (first | (with_reducible assumption) | (refine blk_at _ _ ?_; simp; done) | (refine Blk.old ?_ _)))) hk12
  have B8x12 : Blk w12 (w4.heap.size) #[.int .i64 0, .int .i64 0] := Blk.keep (by (repeat (first | (with_reducible assumption) | (refine blk_at _ _ ?_; simp; done) | (refine Blk.old ?_ _)))) hk12
  have B9x12 : Blk w12 (w4.heap.size + 1) #[.int .i64 3, .int .i64 1] := Blk.keep (by (repeat (first | (with_reducible assumption) | (refine blk_at _ _ ?_; simp; done) | (refine Blk.old ?_ _)))) hk12
  have B10x12 : Blk w12 (w5.heap.size) #[.int .i64 3, .int .i64 1] := Blk.keep (by (repeat (first | (with_reducible assumption) | (refine blk_at _ _ ?_; simp; done) | (refine Blk.old ?_ _)))) hk12
  have B11x12 : Blk w12 (w6.heap.size) #[.int .i64 0, .int .i64 0] := Blk.keep (by (repeat (first | (with_reducible assumption) | (refine blk_at _ _ ?_; simp; done) | (refine Blk.old ?_ _)))) hk12
  have B12x12 : Blk w12 (w7.heap.size) #[.int .i64 0, .int .i64 0] := Blk.keep (by (repeat (first | (with_reducible assumption) | (refine blk_at _ _ ?_; simp; done) | (refine Blk.old ?_ _)))) hk12
  have B13x12 : Blk w12 (w7.heap.size + 1) #[.int .i64 3, .int .i64 1] := Blk.keep (by (repeat (first | (with_reducible assumption) | (refine blk_at _ _ ?_; simp; done) | (refine Blk.old ?_ _)))) hk12
  have B14x12 : Blk w12 (w8.heap.size) #[.int .i64 0, .int .i64 0] := Blk.keep (by (repeat (first | (with_reducible assumption) | (refine blk_at _ _ ?_; simp; done) | (refine Blk.old ?_ _)))) hk12
  have B15x12 : Blk w12 (w8.heap.size + 1) #[.int .i64 3, .int .i64 1] := Blk.keep (by (repeat (first | (with_reducible assumption) | (refine blk_at _ _ ?_; simp; done) | (refine Blk.old ?_ _)))) hk12
  have B16x12 : Blk w12 (w9.heap.size) #[.int .i64 0, .int .i64 0] := Blk.keep (by (repeat (first | (with_reducible assumption) | (refine blk_at _ _ ?_; simp; done) | (refine Blk.old ?_ _)))) hk12
  have B17x12 : Blk w12 (w9.heap.size + 1) #[.int .i64 3, .int .i64 1] := Blk.keep (by (repeat (first | (with_reducible assumption) | (refine blk_at _ _ ?_; simp; done) | (refine Blk.old ?_ _)))) hk12
  have B18x12 : Blk w12 (w10.heap.size) #[.int .i64 0, .int .i64 0] := Blk.keep (by (repeat (first | (with_reducible assumption) | (refine blk_at _ _ ?_; simp; done) | (refine Blk.old ?_ _)))) hk12
  have B19x12 : Blk w12 (w10.heap.size + 1) #[.int .i64 3, .int .i64 1] := Blk.keep (by (repeat (first | (with_reducible assumption) | (refine blk_at _ _ ?_; simp; done) | (refine Blk.old ?_ _)))) hk12
  clear K11 hk12 B0x11 B1x11 B2x11 B3x11 B4x11 B5x11 B6x11 B7x11 B8x11 B9x11 B10x11 B11x11 B12x11 B13x11 B14x11 B15x11 B16x11 B17x11 B18x11 B19x11 c0a c0b f0a f0b l0 m0 M0
  obtain ⟨c0a, c0b, f0a, f0b, l0⟩ := B0x12.two
  have m0 : ¬ w12.heap.size = w.heap.size := by omega
  have M0 : ¬ w12.heap.size + 1 = w.heap.size := by omega
  obtain ⟨c11a, c11b, f11a, f11b, l11⟩ := B11x12.two
  have m11 : ¬ w12.heap.size = w6.heap.size := by omega
  have M11 : ¬ w12.heap.size + 1 = w6.heap.size := by omega
  go_wp2_with fail
  refine (refFloor_any n1 d1 _ H1.out).mono ?_
  rintro e w13 ⟨rfl, hk13⟩
  have K13 : Keep NoS w w13 := Keep.trans (by (repeat' (first | (with_reducible assumption) | (with_reducible exact HK.out) | (with_reducible exact Keep.refl _ _) | (with_reducible refine Keep.alloc ?_ _) | (with_reducible refine Keep.setCell ?_ _ (fun h => absurd h (by omega))) | (with_reducible refine Keep.drewN ?_ _) | (with_reducible refine Keep.drew ?_)))) hk13 fun _ _ _ h => h
  have B0x13 : Blk w13 (w.heap.size) #[.int .i64 n1, .int .i64 d1] := Blk.keep (by (repeat (first | (with_reducible assumption) | (refine blk_at _ _ ?_; simp; done) | (refine Blk.old ?_ _)))) hk13
  have B1x13 : Blk w13 (w.heap.size + 1) #[.int .i64 n2, .int .i64 d2] := Blk.keep (by (repeat (first | (with_reducible assumption) | (refine blk_at _ _ ?_; simp; done) | (refine Blk.old ?_ _)))) hk13
  have B2x13 : Blk w13 (w1.heap.size) #[.int .i64 0, .int .i64 0] := Blk.keep (by (repeat (first | (with_reducible assumption) | (refine blk_at _ _ ?_; simp; done) | (refine Blk.old ?_ _)))) hk13
  have B3x13 : Blk w13 (w1.heap.size + 1) #[.int .i64 3, .int .i64 1] := Blk.keep (by (repeat (first | (with_reducible assumption) | (refine blk_at _ _ ?_; simp; done) | (refine Blk.old ?_ _)))) hk13
  have B4x13 : Blk w13 (w2.heap.size) #[.int .i64 0, .int .i64 0] := Blk.keep (by (repeat (first | (with_reducible assumption) | (refine blk_at _ _ ?_; simp; done) | (refine Blk.old ?_ _)))) hk13
  have B5x13 : Blk w13 (w2.heap.size + 1) #[.int .i64 3, .int .i64 1] := Blk.keep (by (repeat (first | (with_reducible assumption) | (refine blk_at _ _ ?_; simp; done) | (refine Blk.old ?_ _)))) hk13
  have B6x13 : Blk w13 (w3.heap.size) #[.int .i64 0, .int .i64 0] := Blk.keep (by (repeat (first | (with_reducible assumption) | (refine blk_at _ _ ?_; simp; done) | (refine Blk.old ?_ _)))) hk13
  have B7x13 : Blk w13 (w3.heap.size + 1) #[.int .i64 3, .int .i64 1] := Blk.keep (by (repeat (first | (with_reducible assumption) | (refine blk_at _ _ ?_; simp; done) | (refine Blk.old ?_ _)))) hk13
  have B8x13 : Blk w13 (w4.heap.size) #[.int .i64 0, .int .i64 0] := Blk.keep (by (repeat (first | (with_reducible assumption) | (refine blk_at _ _ ?_; simp; done) | (refine Blk.old ?_ _)))) hk13
  have B9x13 : Blk w13 (w4.heap.size + 1) #[.int .i64 3, .int .i64 1] := Blk.keep (by (repeat (first | (with_reducible assumption) | (refine blk_at _ _ ?_; simp; done) | (refine Blk.old ?_ _)))) hk13
  have B10x13 : Blk w13 (w5.heap.size) #[.int .i64 3, .int .i64 1] := Blk.keep (by (repeat (first | (with_reducible assumption) | (refine blk_at _ _ ?_; simp; done) | (refine Blk.old ?_ _)))) hk13
  have B11x13 : Blk w13 (w6.heap.size) #[.int .i64 0, .int .i64 0] := Blk.keep (by (repeat (first | (with_reducible assumption) | (refine blk_at _ _ ?_; simp; done) | (refine Blk.old ?_ _)))) hk13
  have B12x13 : Blk w13 (w7.heap.size) #[.int .i64 0, .int .i64 0] := Blk.keep (by (repeat (first | (with_reducible assumption) | (refine blk_at _ _ ?_; simp; done) | (refine Blk.old ?_ _)))) hk13
  have B13x13 : Blk w13 (w7.heap.size + 1) #[.int .i64 3, .int .i64 1] := Blk.keep (by (repeat (first | (with_reducible assumption) | (refine blk_at _ _ ?_; simp; done) | (refine Blk.old ?_ _)))) hk13
  have B14x13 : Blk w13 (w8.heap.size) #[.int .i64 0, .int .i64 0] := Blk.keep (by (repeat (first | (with_reducible assumption) | (refine blk_at _ _ ?_; simp; done) | (refine Blk.old ?_ _)))) hk13
  have B15x13 : Blk w13 (w8.heap.size + 1) #[.int .i64 3, .int .i64 1] := Blk.keep (by (repeat (first | (with_reducible assumption) | (refine blk_at _ _ ?_; simp; done) | (refine Blk.old ?_ _)))) hk13
  have B16x13 : Blk w13 (w9.heap.size) #[.int .i64 0, .int .i64 0] := Blk.keep (by (repeat (first | (with_reducible assumption) | (refine blk_at _ _ ?_; simp; done) | (refine Blk.old ?_ _)))) hk13
  have B17x13 : Blk w13 (w9.heap.size + 1) #[.int .i64 3, .int .i64 1] := Blk.keep (by (repeat (first | (with_reducible assumption) | (refine blk_at _ _ ?_; simp; done) | (refine Blk.old ?_ _)))) hk13
  have B18x13 : Blk w13 (w10.heap.size) #[.int .i64 0, .int .i64 0] := Blk.keep (by (repeat (first | (with_reducible assumption) | (refine blk_at _ _ ?_; simp; done) | (refine Blk.old ?_ _)))) hk13
  have B19x13 : Blk w13 (w10.heap.size + 1) #[.int .i64 3, .int .i64 1] := Blk.keep (by (repeat (first | (with_reducible assumption) | (refine blk_at _ _ ?_; simp; done) | (refine Blk.old ?_ _)))) hk13
  clear K12 hk13 B0x12 B1x12 B2x12 B3x12 B4x12 B5x12 B6x12 B7x12 B8x12 B9x12 B10x12 B11x12 B12x12 B13x12 B14x12 B15x12 B16x12 B17x12 B18x12 B19x12 c0a c0b f0a f0b l0 m0 M0 c11a c11b f11a f11b l11 m11 M11
  obtain ⟨c1a, c1b, f1a, f1b, l1⟩ := B1x13.two
  have m1 : ¬ w13.heap.size = w.heap.size + 1 := by omega
  have M1 : ¬ w13.heap.size + 1 = w.heap.size + 1 := by omega
  have N1 : ¬ w13.heap.size = w.heap.size := by omega
  have L1 : w.heap.size < w13.heap.size := by omega
  go_wp2_with fail
  refine (refRight_any n2 d2 _).mono ?_
  rintro e w14 ⟨rfl, hk14⟩
  have K14 : Keep NoS w w14 := Keep.trans (by (repeat' (first | (with_reducible assumption) | (with_reducible exact HK.out) | (with_reducible exact Keep.refl _ _) | (with_reducible refine Keep.alloc ?_ _) | (with_reducible refine Keep.setCell ?_ _ (fun h => absurd h (by omega))) | (with_reducible refine Keep.drewN ?_ _) | (with_reducible refine Keep.drew ?_)))) hk14 fun _ _ _ h => h
  have B0x14 : Blk w14 (w.heap.size) #[.int .i64 n1, .int .i64 d1] := Blk.keep (by (repeat (first | (with_reducible assumption) | (refine blk_at _ _ ?_; simp; done) | (refine Blk.old ?_ _)))) hk14
  have B1x14 : Blk w14 (w.heap.size + 1) #[.int .i64 n2, .int .i64 d2] := Blk.keep (by (repeat (first | (with_reducible assumption) | (refine blk_at _ _ ?_; simp; done) | (refine Blk.old ?_ _)))) hk14
  have B2x14 : Blk w14 (w1.heap.size) #[.int .i64 0, .int .i64 0] := Blk.keep (by (repeat (first | (with_reducible assumption) | (refine blk_at _ _ ?_; simp; done) | (refine Blk.old ?_ _)))) hk14
  have B3x14 : Blk w14 (w1.heap.size + 1) #[.int .i64 3, .int .i64 1] := Blk.keep (by (repeat (first | (with_reducible assumption) | (refine blk_at _ _ ?_; simp; done) | (refine Blk.old ?_ _)))) hk14
  have B4x14 : Blk w14 (w2.heap.size) #[.int .i64 0, .int .i64 0] := Blk.keep (by (repeat (first | (with_reducible assumption) | (refine blk_at _ _ ?_; simp; done) | (refine Blk.old ?_ _)))) hk14
  have B5x14 : Blk w14 (w2.heap.size + 1) #[.int .i64 3, .int .i64 1] := Blk.keep (by (repeat (first | (with_reducible assumption) | (refine blk_at _ _ ?_; simp; done) | (refine Blk.old ?_ _)))) hk14
  have B6x14 : Blk w14 (w3.heap.size) #[.int .i64 0, .int .i64 0] := Blk.keep (by (repeat (first | (with_reducible assumption) | (refine blk_at _ _ ?_; simp; done) | (refine Blk.old ?_ _)))) hk14
  have B7x14 : Blk w14 (w3.heap.size + 1) #[.int .i64 3, .int .i64 1] := Blk.keep (by (repeat (first | (with_reducible assumption) | (refine blk_at _ _ ?_; simp; done) | (refine Blk.old ?_ _)))) hk14
  have B8x14 : Blk w14 (w4.heap.size) #[.int .i64 0, .int .i64 0] := Blk.keep (by (repeat (first | (with_reducible assumption) | (refine blk_at _ _ ?_; simp; done) | (refine Blk.old ?_ _)))) hk14
  have B9x14 : Blk w14 (w4.heap.size + 1) #[.int .i64 3, .int .i64 1] := Blk.keep (by (repeat (first | (with_reducible assumption) | (refine blk_at _ _ ?_; simp; done) | (refine Blk.old ?_ _)))) hk14
  have B10x14 : Blk w14 (w5.heap.size) #[.int .i64 3, .int .i64 1] := Blk.keep (by (repeat (first | (with_reducible assumption) | (refine blk_at _ _ ?_; simp; done) | (refine Blk.old ?_ _)))) hk14
  have B11x14 : Blk w14 (w6.heap.size) #[.int .i64 0, .int .i64 0] := Blk.keep (by (repeat (first | (with_reducible assumption) | (refine blk_at _ _ ?_; simp; done) | (refine Blk.old ?_ _)))) hk14
  have B12x14 : Blk w14 (w7.heap.size) #[.int .i64 0, .int .i64 0] := Blk.keep (by (repeat (first | (with_reducible assumption) | (refine blk_at _ _ ?_; simp; done) | (refine Blk.old ?_ _)))) hk14
  have B13x14 : Blk w14 (w7.heap.size + 1) #[.int .i64 3, .int .i64 1] := Blk.keep (by (repeat (first | (with_reducible assumption) | (refine blk_at _ _ ?_; simp; done) | (refine Blk.old ?_ _)))) hk14
  have B14x14 : Blk w14 (w8.heap.size) #[.int .i64 0, .int .i64 0] := Blk.keep (by (repeat (first | (with_reducible assumption) | (refine blk_at _ _ ?_; simp; done) | (refine Blk.old ?_ _)))) hk14
  have B15x14 : Blk w14 (w8.heap.size + 1) #[.int .i64 3, .int .i64 1] := Blk.keep (by (repeat (first | (with_reducible assumption) | (refine blk_at _ _ ?_; simp; done) | (refine Blk.old ?_ _)))) hk14
  have B16x14 : Blk w14 (w9.heap.size) #[.int .i64 0, .int .i64 0] := Blk.keep (by (repeat (first | (with_reducible assumption) | (refine blk_at _ _ ?_; simp; done) | (refine Blk.old ?_ _)))) hk14
  have B17x14 : Blk w14 (w9.heap.size + 1) #[.int .i64 3, .int .i64 1] := Blk.keep (by (repeat (first | (with_reducible assumption) | (refine blk_at _ _ ?_; simp; done) | (refine Blk.old ?_ _)))) hk14
  have B18x14 : Blk w14 (w10.heap.size) #[.int .i64 0, .int .i64 0] := Blk.keep (by (repeat (first | (with_reducible assumption) | (refine blk_at _ _ ?_; simp; done) | (refine Blk.old ?_ _)))) hk14
  have B19x14 : Blk w14 (w10.heap.size + 1) #[.int .i64 3, .int .i64 1] := Blk.keep (by (repeat (first | (with_reducible assumption) | (refine blk_at _ _ ?_; simp; done) | (refine Blk.old ?_ _)))) hk14
  clear K13 hk14 B0x13 B1x13 B2x13 B3x13 B4x13 B5x13 B6x13 B7x13 B8x13 B9x13 B10x13 B11x13 B12x13 B13x13 B14x13 B15x13 B16x13 B17x13 B18x13 B19x13 N1 L1 c1a c1b f1a f1b l1 m1 M1
  obtain ⟨c10a, c10b, f10a, f10b, l10⟩ := B10x14.two
  have m10 : ¬ w14.heap.size = w5.heap.size := by omega
  have M10 : ¬ w14.heap.size + 1 = w5.heap.size := by omega
  obtain ⟨c13a, c13b, f13a, f13b, l13⟩ := B13x14.two
  have m13 : ¬ w14.heap.size = w7.heap.size + 1 := by omega
  have M13 : ¬ w14.heap.size + 1 = w7.heap.size + 1 := by omega
  have N13 : ¬ w14.heap.size = w7.heap.size := by omega
  have L13 : w7.heap.size < w14.heap.size := by omega
  rw [E2.out]
  go_wp2
  go_returns
  exact ⟨rfl, Keep.bel (by (repeat' (first | (with_reducible assumption) | (with_reducible exact HK.out) | (with_reducible exact Keep.refl _ _) | (with_reducible refine Keep.alloc ?_ _) | (with_reducible refine Keep.setCell ?_ _ (fun h => absurd h (by omega))) | (with_reducible refine Keep.drewN ?_ _) | (with_reducible refine Keep.drew ?_))))⟩

set_option maxRecDepth 100000 in
set_option maxHeartbeats 64000000 in
theorem fracSays_C (w : World) (n1 d1 n2 d2 : Int) (h1 : FracOK n1 d1) (h2 : FracOK n2 d2) :
    Calls Try.prog 8 #[.agg #[.int .i64 n1, .int .i64 d1], .agg #[.int .i64 n2, .int .i64 d2]] w fun e w' => e = .returned (.bool true) ∧ Below w.heap.size w w' := by
  have TB := Lib.hid (twoB h1 h2)
  have HV : Hid ((decide (fr n1 d1 < fr n2 d2) == decide ((fr n1 d1 - fr n2 d2).num < 0)) = true) := Lib.hid (by rw [beq_iff_eq, decide_eq_decide, lt_iff_sign, Int.sign_neg_iff])
  have HLess := Lib.hid (less_made h1 h2)
  generalize decide (fr n1 d1 < fr n2 d2) = lb at *
  obtain ⟨xn, xd, xc, hx, _⟩ := made_form (fr n1 d1 + fr n2 d2)
  have HAdd := Lib.hid ((add_made h1 h2).trans hx)
  clear hx
  obtain ⟨yn, yd, yc, hy, _⟩ := made_form (fr n1 d1 - fr n2 d2)
  have HSub := Lib.hid ((sub_made h1 h2).trans hy)
  clear hy
  obtain ⟨pn, pd, pc, hp, _⟩ := made_form (fr n1 d1 * fr n2 d2)
  have HTimes := Lib.hid ((mul_made h1 h2).trans hp)
  clear hp
  obtain ⟨qn, qd, qc, hq⟩ : ∃ qn qd qc, opV n1 d1 n2 d2 (n1 * d2) (d1 * n2) = .tuple #[.agg #[.int .i64 qn, .int .i64 qd], .agg #[.int .i64 qc, .int .i64 0]] := by
    by_cases h0 : n2 = 0
    · exact ⟨_, _, _, over_zero h1 h2 h0⟩
    · obtain ⟨a, b, c, h, _⟩ := made_form (fr n1 d1 / fr n2 d2)
      exact ⟨a, b, c, (over_made h1 h2 h0).trans h⟩
  have HOver := Lib.hid hq
  clear hq
  have HFloor : Hid (floorV n1 d1 = .tuple #[.int .i64 (n1 / d1), .agg #[.int .i64 0, .int .i64 0]]) := Lib.hid (if_pos h1)
  have E1 : Hid (decide (FracOK n1 d1) = true) := Lib.hid (dec_t h1)
  have E2 : Hid (decide (FracOK n2 d2) = true) := Lib.hid (dec_t h2)
  have H1 := Lib.hid h1
  have H2 := Lib.hid h2
  clear h1 h2
  go_enter Try.func8, Try.ntmps8
  go_wp2_with fail
  refine (op_Add n1 d1 n2 d2 _).mono ?_
  rintro e w1 ⟨rfl, hk1⟩
  have K1 : Keep NoS w w1 := Keep.trans (by (repeat' (first | (with_reducible assumption) | (with_reducible exact HK.out) | (with_reducible exact Keep.refl _ _) | (with_reducible refine Keep.alloc ?_ _) | (with_reducible refine Keep.setCell ?_ _ (fun h => absurd h (by omega))) | (with_reducible refine Keep.drewN ?_ _) | (with_reducible refine Keep.drew ?_)))) hk1 fun _ _ _ h => h
  have B0x1 : Blk w1 (w.heap.size) #[.int .i64 n1, .int .i64 d1] := Blk.keep (by (repeat (first | (with_reducible assumption) | (refine blk_at _ _ ?_; simp; done) | (refine Blk.old ?_ _)))) hk1
  have B1x1 : Blk w1 (w.heap.size + 1) #[.int .i64 n2, .int .i64 d2] := Blk.keep (by (repeat (first | (with_reducible assumption) | (refine blk_at _ _ ?_; simp; done) | (refine Blk.old ?_ _)))) hk1
  clear hk1
  obtain ⟨c0a, c0b, f0a, f0b, l0⟩ := B0x1.two
  have m0 : ¬ w1.heap.size = w.heap.size := by omega
  have M0 : ¬ w1.heap.size + 1 = w.heap.size := by omega
  obtain ⟨c1a, c1b, f1a, f1b, l1⟩ := B1x1.two
  have m1 : ¬ w1.heap.size = w.heap.size + 1 := by omega
  have M1 : ¬ w1.heap.size + 1 = w.heap.size + 1 := by omega
  have N1 : ¬ w1.heap.size = w.heap.size := by omega
  have L1 : w.heap.size < w1.heap.size := by omega
  rw [HAdd.out]
  go_wp2_with fail
  refine (op_Sub n1 d1 n2 d2 _).mono ?_
  rintro e w2 ⟨rfl, hk2⟩
  have K2 : Keep NoS w w2 := Keep.trans (by (repeat' (first | (with_reducible assumption) | (with_reducible exact HK.out) | (with_reducible exact Keep.refl _ _) | (with_reducible refine Keep.alloc ?_ _) | (with_reducible refine Keep.setCell ?_ _ (fun h => absurd h (by omega))) | (with_reducible refine Keep.drewN ?_ _) | (with_reducible refine Keep.drew ?_)))) hk2 fun _ _ _ h => h
  have B0x2 : Blk w2 (w.heap.size) #[.int .i64 n1, .int .i64 d1] := Blk.keep (by (repeat (first | (with_reducible assumption) | (refine blk_at _ _ ?_; simp; done) | (refine Blk.old ?_ _)))) hk2
  have B1x2 : Blk w2 (w.heap.size + 1) #[.int .i64 n2, .int .i64 d2] := Blk.keep (by (repeat (first | (with_reducible assumption) | (refine blk_at _ _ ?_; simp; done) | (refine Blk.old ?_ _)))) hk2
  have B2x2 : Blk w2 (w1.heap.size) #[.int .i64 xn, .int .i64 xd] := Blk.keep (by (repeat (first | (with_reducible assumption) | (refine blk_at _ _ ?_; simp; done) | (refine Blk.old ?_ _)))) hk2
  have B3x2 : Blk w2 (w1.heap.size + 1) #[.int .i64 xc, .int .i64 0] := Blk.keep (by (repeat (first | (with_reducible assumption) | (refine blk_at _ _ ?_; simp; done) | (refine Blk.old ?_ _)))) hk2
  clear K1 hk2 B0x1 B1x1 c0a c0b f0a f0b l0 m0 M0 N1 L1 c1a c1b f1a f1b l1 m1 M1
  obtain ⟨c0a, c0b, f0a, f0b, l0⟩ := B0x2.two
  have m0 : ¬ w2.heap.size = w.heap.size := by omega
  have M0 : ¬ w2.heap.size + 1 = w.heap.size := by omega
  obtain ⟨c1a, c1b, f1a, f1b, l1⟩ := B1x2.two
  have m1 : ¬ w2.heap.size = w.heap.size + 1 := by omega
  have M1 : ¬ w2.heap.size + 1 = w.heap.size + 1 := by omega
  have N1 : ¬ w2.heap.size = w.heap.size := by omega
  have L1 : w.heap.size < w2.heap.size := by omega
  rw [HSub.out]
  go_wp2_with fail
  refine (op_Times n1 d1 n2 d2 _).mono ?_
  rintro e w3 ⟨rfl, hk3⟩
  have K3 : Keep NoS w w3 := Keep.trans (by (repeat' (first | (with_reducible assumption) | (with_reducible exact HK.out) | (with_reducible exact Keep.refl _ _) | (with_reducible refine Keep.alloc ?_ _) | (with_reducible refine Keep.setCell ?_ _ (fun h => absurd h (by omega))) | (with_reducible refine Keep.drewN ?_ _) | (with_reducible refine Keep.drew ?_)))) hk3 fun _ _ _ h => h
  have B0x3 : Blk w3 (w.heap.size) #[.int .i64 n1, .int .i64 d1] := Blk.keep (by (repeat (first | (with_reducible assumption) | (refine blk_at _ _ ?_; simp; done) | (refine Blk.old ?_ _)))) hk3
  have B1x3 : Blk w3 (w.heap.size + 1) #[.int .i64 n2, .int .i64 d2] := Blk.keep (by (repeat (first | (with_reducible assumption) | (refine blk_at _ _ ?_; simp; done) | (refine Blk.old ?_ _)))) hk3
  have B2x3 : Blk w3 (w1.heap.size) #[.int .i64 xn, .int .i64 xd] := Blk.keep (by (repeat (first | (with_reducible assumption) | (refine blk_at _ _ ?_; simp; done) | (refine Blk.old ?_ _)))) hk3
  have B3x3 : Blk w3 (w1.heap.size + 1) #[.int .i64 xc, .int .i64 0] := Blk.keep (by (repeat (first | (with_reducible assumption) | (refine blk_at _ _ ?_; simp; done) | (refine Blk.old ?_ _)))) hk3
  have B4x3 : Blk w3 (w2.heap.size) #[.int .i64 yn, .int .i64 yd] := Blk.keep (by (repeat (first | (with_reducible assumption) | (refine blk_at _ _ ?_; simp; done) | (refine Blk.old ?_ _)))) hk3
  have B5x3 : Blk w3 (w2.heap.size + 1) #[.int .i64 yc, .int .i64 0] := Blk.keep (by (repeat (first | (with_reducible assumption) | (refine blk_at _ _ ?_; simp; done) | (refine Blk.old ?_ _)))) hk3
  clear K2 hk3 B0x2 B1x2 B2x2 B3x2 c0a c0b f0a f0b l0 m0 M0 N1 L1 c1a c1b f1a f1b l1 m1 M1
  obtain ⟨c0a, c0b, f0a, f0b, l0⟩ := B0x3.two
  have m0 : ¬ w3.heap.size = w.heap.size := by omega
  have M0 : ¬ w3.heap.size + 1 = w.heap.size := by omega
  obtain ⟨c1a, c1b, f1a, f1b, l1⟩ := B1x3.two
  have m1 : ¬ w3.heap.size = w.heap.size + 1 := by omega
  have M1 : ¬ w3.heap.size + 1 = w.heap.size + 1 := by omega
  have N1 : ¬ w3.heap.size = w.heap.size := by omega
  have L1 : w.heap.size < w3.heap.size := by omega
  rw [HTimes.out]
  go_wp2_with fail
  refine (op_Over n1 d1 n2 d2 _).mono ?_
  rintro e w4 ⟨rfl, hk4⟩
  have K4 : Keep NoS w w4 := Keep.trans (by (repeat' (first | (with_reducible assumption) | (with_reducible exact HK.out) | (with_reducible exact Keep.refl _ _) | (with_reducible refine Keep.alloc ?_ _) | (with_reducible refine Keep.setCell ?_ _ (fun h => absurd h (by omega))) | (with_reducible refine Keep.drewN ?_ _) | (with_reducible refine Keep.drew ?_)))) hk4 fun _ _ _ h => h
  have B0x4 : Blk w4 (w.heap.size) #[.int .i64 n1, .int .i64 d1] := Blk.keep (by (repeat (first | (with_reducible assumption) | (refine blk_at _ _ ?_; simp; done) | (refine Blk.old ?_ _)))) hk4
  have B1x4 : Blk w4 (w.heap.size + 1) #[.int .i64 n2, .int .i64 d2] := Blk.keep (by (repeat (first | (with_reducible assumption) | (refine blk_at _ _ ?_; simp; done) | (refine Blk.old ?_ _)))) hk4
  have B2x4 : Blk w4 (w1.heap.size) #[.int .i64 xn, .int .i64 xd] := Blk.keep (by (repeat (first | (with_reducible assumption) | (refine blk_at _ _ ?_; simp; done) | (refine Blk.old ?_ _)))) hk4
  have B3x4 : Blk w4 (w1.heap.size + 1) #[.int .i64 xc, .int .i64 0] := Blk.keep (by (repeat (first | (with_reducible assumption) | (refine blk_at _ _ ?_; simp; done) | (refine Blk.old ?_ _)))) hk4
  have B4x4 : Blk w4 (w2.heap.size) #[.int .i64 yn, .int .i64 yd] := Blk.keep (by (repeat (first | (with_reducible assumption) | (refine blk_at _ _ ?_; simp; done) | (refine Blk.old ?_ _)))) hk4
  have B5x4 : Blk w4 (w2.heap.size + 1) #[.int .i64 yc, .int .i64 0] := Blk.keep (by (repeat (first | (with_reducible assumption) | (refine blk_at _ _ ?_; simp; done) | (refine Blk.old ?_ _)))) hk4
  have B6x4 : Blk w4 (w3.heap.size) #[.int .i64 pn, .int .i64 pd] := Blk.keep (by (repeat (first | (with_reducible assumption) | (refine blk_at _ _ ?_; simp; done) | (refine Blk.old ?_ _)))) hk4
  have B7x4 : Blk w4 (w3.heap.size + 1) #[.int .i64 pc, .int .i64 0] := Blk.keep (by (repeat (first | (with_reducible assumption) | (refine blk_at _ _ ?_; simp; done) | (refine Blk.old ?_ _)))) hk4
  clear K3 hk4 B0x3 B1x3 B2x3 B3x3 B4x3 B5x3 c0a c0b f0a f0b l0 m0 M0 N1 L1 c1a c1b f1a f1b l1 m1 M1
  obtain ⟨c0a, c0b, f0a, f0b, l0⟩ := B0x4.two
  have m0 : ¬ w4.heap.size = w.heap.size := by omega
  have M0 : ¬ w4.heap.size + 1 = w.heap.size := by omega
  obtain ⟨c1a, c1b, f1a, f1b, l1⟩ := B1x4.two
  have m1 : ¬ w4.heap.size = w.heap.size + 1 := by omega
  have M1 : ¬ w4.heap.size + 1 = w.heap.size + 1 := by omega
  have N1 : ¬ w4.heap.size = w.heap.size := by omega
  have L1 : w.heap.size < w4.heap.size := by omega
  rw [HOver.out]
  go_wp2_with fail
  refine (less_any n1 d1 n2 d2 _).mono ?_
  rintro e w5 ⟨rfl, hk5⟩
  have K5 : Keep NoS w w5 := Keep.trans (by (repeat' (first | (with_reducible assumption) | (with_reducible exact HK.out) | (with_reducible exact Keep.refl _ _) | (with_reducible refine Keep.alloc ?_ _) | (with_reducible refine Keep.setCell ?_ _ (fun h => absurd h (by omega))) | (with_reducible refine Keep.drewN ?_ _) | (with_reducible refine Keep.drew ?_)))) hk5 fun _ _ _ h => h
  have B0x5 : Blk w5 (w.heap.size) #[.int .i64 n1, .int .i64 d1] := Blk.keep (by (repeat (first | (with_reducible assumption) | (refine blk_at _ _ ?_; simp; done) | (refine Blk.old ?_ _)))) hk5
  have B1x5 : Blk w5 (w.heap.size + 1) #[.int .i64 n2, .int .i64 d2] := Blk.keep (by (repeat (first | (with_reducible assumption) | (refine blk_at _ _ ?_; simp; done) | (refine Blk.old ?_ _)))) hk5
  have B2x5 : Blk w5 (w1.heap.size) #[.int .i64 xn, .int .i64 xd] := Blk.keep (by (repeat (first | (with_reducible assumption) | (refine blk_at _ _ ?_; simp; done) | (refine Blk.old ?_ _)))) hk5
  have B3x5 : Blk w5 (w1.heap.size + 1) #[.int .i64 xc, .int .i64 0] := Blk.keep (by (repeat (first | (with_reducible assumption) | (refine blk_at _ _ ?_; simp; done) | (refine Blk.old ?_ _)))) hk5
  have B4x5 : Blk w5 (w2.heap.size) #[.int .i64 yn, .int .i64 yd] := Blk.keep (by (repeat (first | (with_reducible assumption) | (refine blk_at _ _ ?_; simp; done) | (refine Blk.old ?_ _)))) hk5
  have B5x5 : Blk w5 (w2.heap.size + 1) #[.int .i64 yc, .int .i64 0] := Blk.keep (by (repeat (first | (with_reducible assumption) | (refine blk_at _ _ ?_; simp; done) | (refine Blk.old ?_ _)))) hk5
  have B6x5 : Blk w5 (w3.heap.size) #[.int .i64 pn, .int .i64 pd] := Blk.keep (by (repeat (first | (with_reducible assumption) | (refine blk_at _ _ ?_; simp; done) | (refine Blk.old ?_ _)))) hk5
  have B7x5 : Blk w5 (w3.heap.size + 1) #[.int .i64 pc, .int .i64 0] := Blk.keep (by (repeat (first | (with_reducible assumption) | (refine blk_at _ _ ?_; simp; done) | (refine Blk.old ?_ _)))) hk5
  have B8x5 : Blk w5 (w4.heap.size) #[.int .i64 qn, .int .i64 qd] := Blk.keep (by (repeat (first | (with_reducible assumption) | (refine blk_at _ _ ?_; simp; done) | (refine Blk.old ?_ _)))) hk5
  have B9x5 : Blk w5 (w4.heap.size + 1) #[.int .i64 qc, .int .i64 0] := Blk.keep (by (repeat (first | (with_reducible assumption) | (refine blk_at _ _ ?_; simp; done) | (refine Blk.old ?_ _)))) hk5
  clear K4 hk5 B0x4 B1x4 B2x4 B3x4 B4x4 B5x4 B6x4 B7x4 c0a c0b f0a f0b l0 m0 M0 N1 L1 c1a c1b f1a f1b l1 m1 M1
  obtain ⟨c0a, c0b, f0a, f0b, l0⟩ := B0x5.two
  have m0 : ¬ w5.heap.size = w.heap.size := by omega
  have M0 : ¬ w5.heap.size + 1 = w.heap.size := by omega
  rw [HLess.out]
  go_wp2_with fail
  refine (floor_any n1 d1 _).mono ?_
  rintro e w6 ⟨rfl, hk6⟩
  have K6 : Keep NoS w w6 := Keep.trans (by (repeat' (first | (with_reducible assumption) | (with_reducible exact HK.out) | (with_reducible exact Keep.refl _ _) | (with_reducible refine Keep.alloc ?_ _) | (with_reducible refine Keep.setCell ?_ _ (fun h => absurd h (by omega))) | (with_reducible refine Keep.drewN ?_ _) | (with_reducible refine Keep.drew ?_)))) hk6 fun _ _ _ h => h
  have B0x6 : Blk w6 (w.heap.size) #[.int .i64 n1, .int .i64 d1] := Blk.keep (by (repeat (first | (with_reducible assumption) | (refine blk_at _ _ ?_; simp; done) | (refine Blk.old ?_ _)))) hk6
  have B1x6 : Blk w6 (w.heap.size + 1) #[.int .i64 n2, .int .i64 d2] := Blk.keep (by (repeat (first | (with_reducible assumption) | (refine blk_at _ _ ?_; simp; done) | (refine Blk.old ?_ _)))) hk6
  have B2x6 : Blk w6 (w1.heap.size) #[.int .i64 xn, .int .i64 xd] := Blk.keep (by (repeat (first | (with_reducible assumption) | (refine blk_at _ _ ?_; simp; done) | (refine Blk.old ?_ _)))) hk6
  have B3x6 : Blk w6 (w1.heap.size + 1) #[.int .i64 xc, .int .i64 0] := Blk.keep (by (repeat (first | (with_reducible assumption) | (refine blk_at _ _ ?_; simp; done) | (refine Blk.old ?_ _)))) hk6
  have B4x6 : Blk w6 (w2.heap.size) #[.int .i64 yn, .int .i64 yd] := Blk.keep (by (repeat (first | (with_reducible assumption) | (refine blk_at _ _ ?_; simp; done) | (refine Blk.old ?_ _)))) hk6
  have B5x6 : Blk w6 (w2.heap.size + 1) #[.int .i64 yc, .int .i64 0] := Blk.keep (by (repeat (first | (with_reducible assumption) | (refine blk_at _ _ ?_; simp; done) | (refine Blk.old ?_ _)))) hk6
  have B6x6 : Blk w6 (w3.heap.size) #[.int .i64 pn, .int .i64 pd] := Blk.keep (by (repeat (first | (with_reducible assumption) | (refine blk_at _ _ ?_; simp; done) | (refine Blk.old ?_ _)))) hk6
  have B7x6 : Blk w6 (w3.heap.size + 1) #[.int .i64 pc, .int .i64 0] := Blk.keep (by (repeat (first | (with_reducible assumption) | (refine blk_at _ _ ?_; simp; done) | (refine Blk.old ?_ _)))) hk6
  have B8x6 : Blk w6 (w4.heap.size) #[.int .i64 qn, .int .i64 qd] := Blk.keep (by (repeat (first | (with_reducible assumption) | (refine blk_at _ _ ?_; simp; done) | (refine Blk.old ?_ _)))) hk6
  have B9x6 : Blk w6 (w4.heap.size + 1) #[.int .i64 qc, .int .i64 0] := Blk.keep (by (repeat (first | (with_reducible assumption) | (refine blk_at _ _ ?_; simp; done) | (refine Blk.old ?_ _)))) hk6
  have B10x6 : Blk w6 (w5.heap.size) #[.int .i64 0, .int .i64 0] := Blk.keep (by (repeat (first | (with_reducible assumption) | (refine blk_at _ _ ?_; simp; done) | (refine Blk.old ?_ _)))) hk6
  clear K5 hk6 B0x5 B1x5 B2x5 B3x5 B4x5 B5x5 B6x5 B7x5 B8x5 B9x5 c0a c0b f0a f0b l0 m0 M0
  obtain ⟨c0a, c0b, f0a, f0b, l0⟩ := B0x6.two
  have m0 : ¬ w6.heap.size = w.heap.size := by omega
  have M0 : ¬ w6.heap.size + 1 = w.heap.size := by omega
  obtain ⟨c1a, c1b, f1a, f1b, l1⟩ := B1x6.two
  have m1 : ¬ w6.heap.size = w.heap.size + 1 := by omega
  have M1 : ¬ w6.heap.size + 1 = w.heap.size + 1 := by omega
  have N1 : ¬ w6.heap.size = w.heap.size := by omega
  have L1 : w.heap.size < w6.heap.size := by omega
  rw [HFloor.out]
  go_wp2_with fail
  refine (refTwo_Add n1 d1 n2 d2 _).mono ?_
  rintro e w7 ⟨rfl, hk7⟩
  have K7 : Keep NoS w w7 := Keep.trans (by (repeat' (first | (with_reducible assumption) | (with_reducible exact HK.out) | (with_reducible exact Keep.refl _ _) | (with_reducible refine Keep.alloc ?_ _) | (with_reducible refine Keep.setCell ?_ _ (fun h => absurd h (by omega))) | (with_reducible refine Keep.drewN ?_ _) | (with_reducible refine Keep.drew ?_)))) hk7 fun _ _ _ h => h
  have B0x7 : Blk w7 (w.heap.size) #[.int .i64 n1, .int .i64 d1] := Blk.keep (by (repeat (first | (with_reducible assumption) | (refine blk_at _ _ ?_; simp; done) | (refine Blk.old ?_ _)))) hk7
  have B1x7 : Blk w7 (w.heap.size + 1) #[.int .i64 n2, .int .i64 d2] := Blk.keep (by (repeat (first | (with_reducible assumption) | (refine blk_at _ _ ?_; simp; done) | (refine Blk.old ?_ _)))) hk7
  have B2x7 : Blk w7 (w1.heap.size) #[.int .i64 xn, .int .i64 xd] := Blk.keep (by (repeat (first | (with_reducible assumption) | (refine blk_at _ _ ?_; simp; done) | (refine Blk.old ?_ _)))) hk7
  have B3x7 : Blk w7 (w1.heap.size + 1) #[.int .i64 xc, .int .i64 0] := Blk.keep (by (repeat (first | (with_reducible assumption) | (refine blk_at _ _ ?_; simp; done) | (refine Blk.old ?_ _)))) hk7
  have B4x7 : Blk w7 (w2.heap.size) #[.int .i64 yn, .int .i64 yd] := Blk.keep (by (repeat (first | (with_reducible assumption) | (refine blk_at _ _ ?_; simp; done) | (refine Blk.old ?_ _)))) hk7
  have B5x7 : Blk w7 (w2.heap.size + 1) #[.int .i64 yc, .int .i64 0] := Blk.keep (by (repeat (first | (with_reducible assumption) | (refine blk_at _ _ ?_; simp; done) | (refine Blk.old ?_ _)))) hk7
  have B6x7 : Blk w7 (w3.heap.size) #[.int .i64 pn, .int .i64 pd] := Blk.keep (by (repeat (first | (with_reducible assumption) | (refine blk_at _ _ ?_; simp; done) | (refine Blk.old ?_ _)))) hk7
  have B7x7 : Blk w7 (w3.heap.size + 1) #[.int .i64 pc, .int .i64 0] := Blk.keep (by (repeat (first | (with_reducible assumption) | (refine blk_at _ _ ?_; simp; done) | (refine Blk.old ?_ _)))) hk7
  have B8x7 : Blk w7 (w4.heap.size) #[.int .i64 qn, .int .i64 qd] := Blk.keep (by (repeat (first | (with_reducible assumption) | (refine blk_at _ _ ?_; simp; done) | (refine Blk.old ?_ _)))) hk7
  have B9x7 : Blk w7 (w4.heap.size + 1) #[.int .i64 qc, .int .i64 0] := Blk.keep (by (repeat (first | (with_reducible assumption) | (refine blk_at _ _ ?_; simp; done) | (refine Blk.old ?_ _)))) hk7
  have B10x7 : Blk w7 (w5.heap.size) #[.int .i64 0, .int .i64 0] := Blk.keep (by (repeat (first | (with_reducible assumption) | (refine blk_at _ _ ?_; simp; done) | (refine Blk.old ?_ _)))) hk7
  have B11x7 : Blk w7 (w6.heap.size) #[.int .i64 0, .int .i64 0] := Blk.keep (by (repeat (first | (with_reducible assumption) | (refine blk_at _ _ ?_; simp; done) | (refine Blk.old ?_ _)))) hk7
  clear K6 hk7 B0x6 B1x6 B2x6 B3x6 B4x6 B5x6 B6x6 B7x6 B8x6 B9x6 B10x6 c0a c0b f0a f0b l0 m0 M0 N1 L1 c1a c1b f1a f1b l1 m1 M1
  obtain ⟨c0a, c0b, f0a, f0b, l0⟩ := B0x7.two
  have m0 : ¬ w7.heap.size = w.heap.size := by omega
  have M0 : ¬ w7.heap.size + 1 = w.heap.size := by omega
  obtain ⟨c1a, c1b, f1a, f1b, l1⟩ := B1x7.two
  have m1 : ¬ w7.heap.size = w.heap.size + 1 := by omega
  have M1 : ¬ w7.heap.size + 1 = w.heap.size + 1 := by omega
  have N1 : ¬ w7.heap.size = w.heap.size := by omega
  have L1 : w.heap.size < w7.heap.size := by omega
  rw [HAdd.out]
  go_wp2_with fail
  refine (refTwo_Sub n1 d1 n2 d2 _).mono ?_
  rintro e w8 ⟨rfl, hk8⟩
  have K8 : Keep NoS w w8 := Keep.trans (by (repeat' (first | (with_reducible assumption) | (with_reducible exact HK.out) | (with_reducible exact Keep.refl _ _) | (with_reducible refine Keep.alloc ?_ _) | (with_reducible refine Keep.setCell ?_ _ (fun h => absurd h (by omega))) | (with_reducible refine Keep.drewN ?_ _) | (with_reducible refine Keep.drew ?_)))) hk8 fun _ _ _ h => h
  have B0x8 : Blk w8 (w.heap.size) #[.int .i64 n1, .int .i64 d1] := Blk.keep (by (repeat (first | (with_reducible assumption) | (refine blk_at _ _ ?_; simp; done) | (refine Blk.old ?_ _)))) hk8
  have B1x8 : Blk w8 (w.heap.size + 1) #[.int .i64 n2, .int .i64 d2] := Blk.keep (by (repeat (first | (with_reducible assumption) | (refine blk_at _ _ ?_; simp; done) | (refine Blk.old ?_ _)))) hk8
  have B2x8 : Blk w8 (w1.heap.size) #[.int .i64 xn, .int .i64 xd] := Blk.keep (by (repeat (first | (with_reducible assumption) | (refine blk_at _ _ ?_; simp; done) | (refine Blk.old ?_ _)))) hk8
  have B3x8 : Blk w8 (w1.heap.size + 1) #[.int .i64 xc, .int .i64 0] := Blk.keep (by (repeat (first | (with_reducible assumption) | (refine blk_at _ _ ?_; simp; done) | (refine Blk.old ?_ _)))) hk8
  have B4x8 : Blk w8 (w2.heap.size) #[.int .i64 yn, .int .i64 yd] := Blk.keep (by (repeat (first | (with_reducible assumption) | (refine blk_at _ _ ?_; simp; done) | (refine Blk.old ?_ _)))) hk8
  have B5x8 : Blk w8 (w2.heap.size + 1) #[.int .i64 yc, .int .i64 0] := Blk.keep (by (repeat (first | (with_reducible assumption) | (refine blk_at _ _ ?_; simp; done) | (refine Blk.old ?_ _)))) hk8
  have B6x8 : Blk w8 (w3.heap.size) #[.int .i64 pn, .int .i64 pd] := Blk.keep (by (repeat (first | (with_reducible assumption) | (refine blk_at _ _ ?_; simp; done) | (refine Blk.old ?_ _)))) hk8
  have B7x8 : Blk w8 (w3.heap.size + 1) #[.int .i64 pc, .int .i64 0] := Blk.keep (by (repeat (first | (with_reducible assumption) | (refine blk_at _ _ ?_; simp; done) | (refine Blk.old ?_ _)))) hk8
  have B8x8 : Blk w8 (w4.heap.size) #[.int .i64 qn, .int .i64 qd] := Blk.keep (by (repeat (first | (with_reducible assumption) | (refine blk_at _ _ ?_; simp; done) | (refine Blk.old ?_ _)))) hk8
  have B9x8 : Blk w8 (w4.heap.size + 1) #[.int .i64 qc, .int .i64 0] := Blk.keep (by (repeat (first | (with_reducible assumption) | (refine blk_at _ _ ?_; simp; done) | (refine Blk.old ?_ _)))) hk8
  have B10x8 : Blk w8 (w5.heap.size) #[.int .i64 0, .int .i64 0] := Blk.keep (by (repeat (first | (with_reducible assumption) | (refine blk_at _ _ ?_; simp; done) | (refine Blk.old ?_ _)))) hk8
  have B11x8 : Blk w8 (w6.heap.size) #[.int .i64 0, .int .i64 0] := Blk.keep (by (repeat (first | (with_reducible assumption) | (refine blk_at _ _ ?_; simp; done) | (refine Blk.old ?_ _)))) hk8
  have B12x8 : Blk w8 (w7.heap.size) #[.int .i64 xn, .int .i64 xd] := Blk.keep (by (repeat (first | (with_reducible assumption) | (refine blk_at _ _ ?_; simp; done) | (refine Blk.old ?_ _)))) hk8
  have B13x8 : Blk w8 (w7.heap.size + 1) #[.int .i64 xc, .int .i64 0] := Blk.keep (by (repeat (first | (with_reducible assumption) | (refine blk_at _ _ ?_; simp; done) | (refine Blk.old ?_ _)))) hk8
  clear K7 hk8 B0x7 B1x7 B2x7 B3x7 B4x7 B5x7 B6x7 B7x7 B8x7 B9x7 B10x7 B11x7 c0a c0b f0a f0b l0 m0 M0 N1 L1 c1a c1b f1a f1b l1 m1 M1
  obtain ⟨c0a, c0b, f0a, f0b, l0⟩ := B0x8.two
  have m0 : ¬ w8.heap.size = w.heap.size := by omega
  have M0 : ¬ w8.heap.size + 1 = w.heap.size := by omega
  obtain ⟨c1a, c1b, f1a, f1b, l1⟩ := B1x8.two
  have m1 : ¬ w8.heap.size = w.heap.size + 1 := by omega
  have M1 : ¬ w8.heap.size + 1 = w.heap.size + 1 := by omega
  have N1 : ¬ w8.heap.size = w.heap.size := by omega
  have L1 : w.heap.size < w8.heap.size := by omega
  rw [HSub.out]
  go_wp2_with fail
  refine (refTwo_Times n1 d1 n2 d2 _).mono ?_
  rintro e w9 ⟨rfl, hk9⟩
  have K9 : Keep NoS w w9 := Keep.trans (by (repeat' (first | (with_reducible assumption) | (with_reducible exact HK.out) | (with_reducible exact Keep.refl _ _) | (with_reducible refine Keep.alloc ?_ _) | (with_reducible refine Keep.setCell ?_ _ (fun h => absurd h (by omega))) | (with_reducible refine Keep.drewN ?_ _) | (with_reducible refine Keep.drew ?_)))) hk9 fun _ _ _ h => h
  have B0x9 : Blk w9 (w.heap.size) #[.int .i64 n1, .int .i64 d1] := Blk.keep (by (repeat (first | (with_reducible assumption) | (refine blk_at _ _ ?_; simp; done) | (refine Blk.old ?_ _)))) hk9
  have B1x9 : Blk w9 (w.heap.size + 1) #[.int .i64 n2, .int .i64 d2] := Blk.keep (by (repeat (first | (with_reducible assumption) | (refine blk_at _ _ ?_; simp; done) | (refine Blk.old ?_ _)))) hk9
  have B2x9 : Blk w9 (w1.heap.size) #[.int .i64 xn, .int .i64 xd] := Blk.keep (by (repeat (first | (with_reducible assumption) | (refine blk_at _ _ ?_; simp; done) | (refine Blk.old ?_ _)))) hk9
  have B3x9 : Blk w9 (w1.heap.size + 1) #[.int .i64 xc, .int .i64 0] := Blk.keep (by (repeat (first | (with_reducible assumption) | (refine blk_at _ _ ?_; simp; done) | (refine Blk.old ?_ _)))) hk9
  have B4x9 : Blk w9 (w2.heap.size) #[.int .i64 yn, .int .i64 yd] := Blk.keep (by (repeat (first | (with_reducible assumption) | (refine blk_at _ _ ?_; simp; done) | (refine Blk.old ?_ _)))) hk9
  have B5x9 : Blk w9 (w2.heap.size + 1) #[.int .i64 yc, .int .i64 0] := Blk.keep (by (repeat (first | (with_reducible assumption) | (refine blk_at _ _ ?_; simp; done) | (refine Blk.old ?_ _)))) hk9
  have B6x9 : Blk w9 (w3.heap.size) #[.int .i64 pn, .int .i64 pd] := Blk.keep (by (repeat (first | (with_reducible assumption) | (refine blk_at _ _ ?_; simp; done) | (refine Blk.old ?_ _)))) hk9
  have B7x9 : Blk w9 (w3.heap.size + 1) #[.int .i64 pc, .int .i64 0] := Blk.keep (by (repeat (first | (with_reducible assumption) | (refine blk_at _ _ ?_; simp; done) | (refine Blk.old ?_ _)))) hk9
  have B8x9 : Blk w9 (w4.heap.size) #[.int .i64 qn, .int .i64 qd] := Blk.keep (by (repeat (first | (with_reducible assumption) | (refine blk_at _ _ ?_; simp; done) | (refine Blk.old ?_ _)))) hk9
  have B9x9 : Blk w9 (w4.heap.size + 1) #[.int .i64 qc, .int .i64 0] := Blk.keep (by (repeat (first | (with_reducible assumption) | (refine blk_at _ _ ?_; simp; done) | (refine Blk.old ?_ _)))) hk9
  have B10x9 : Blk w9 (w5.heap.size) #[.int .i64 0, .int .i64 0] := Blk.keep (by (repeat (first | (with_reducible assumption) | (refine blk_at _ _ ?_; simp; done) | (refine Blk.old ?_ _)))) hk9
  have B11x9 : Blk w9 (w6.heap.size) #[.int .i64 0, .int .i64 0] := Blk.keep (by (repeat (first | (with_reducible assumption) | (refine blk_at _ _ ?_; simp; done) | (refine Blk.old ?_ _)))) hk9
  have B12x9 : Blk w9 (w7.heap.size) #[.int .i64 xn, .int .i64 xd] := Blk.keep (by (repeat (first | (with_reducible assumption) | (refine blk_at _ _ ?_; simp; done) | (refine Blk.old ?_ _)))) hk9
  have B13x9 : Blk w9 (w7.heap.size + 1) #[.int .i64 xc, .int .i64 0] := Blk.keep (by (repeat (first | (with_reducible assumption) | (refine blk_at _ _ ?_; simp; done) | (refine Blk.old ?_ _)))) hk9
  have B14x9 : Blk w9 (w8.heap.size) #[.int .i64 yn, .int .i64 yd] := Blk.keep (by (repeat (first | (with_reducible assumption) | (refine blk_at _ _ ?_; simp; done) | (refine Blk.old ?_ _)))) hk9
  have B15x9 : Blk w9 (w8.heap.size + 1) #[.int .i64 yc, .int .i64 0] := Blk.keep (by (repeat (first | (with_reducible assumption) | (refine blk_at _ _ ?_; simp; done) | (refine Blk.old ?_ _)))) hk9
  clear K8 hk9 B0x8 B1x8 B2x8 B3x8 B4x8 B5x8 B6x8 B7x8 B8x8 B9x8 B10x8 B11x8 B12x8 B13x8 c0a c0b f0a f0b l0 m0 M0 N1 L1 c1a c1b f1a f1b l1 m1 M1
  obtain ⟨c0a, c0b, f0a, f0b, l0⟩ := B0x9.two
  have m0 : ¬ w9.heap.size = w.heap.size := by omega
  have M0 : ¬ w9.heap.size + 1 = w.heap.size := by omega
  obtain ⟨c1a, c1b, f1a, f1b, l1⟩ := B1x9.two
  have m1 : ¬ w9.heap.size = w.heap.size + 1 := by omega
  have M1 : ¬ w9.heap.size + 1 = w.heap.size + 1 := by omega
  have N1 : ¬ w9.heap.size = w.heap.size := by omega
  have L1 : w.heap.size < w9.heap.size := by omega
  rw [HTimes.out]
  go_wp2_with fail
  refine (refTwo_Over n1 d1 n2 d2 _).mono ?_
  rintro e w10 ⟨rfl, hk10⟩
  have K10 : Keep NoS w w10 := Keep.trans (by (repeat' (first | (with_reducible assumption) | (with_reducible exact HK.out) | (with_reducible exact Keep.refl _ _) | (with_reducible refine Keep.alloc ?_ _) | (with_reducible refine Keep.setCell ?_ _ (fun h => absurd h (by omega))) | (with_reducible refine Keep.drewN ?_ _) | (with_reducible refine Keep.drew ?_)))) hk10 fun _ _ _ h => h
  have B0x10 : Blk w10 (w.heap.size) #[.int .i64 n1, .int .i64 d1] := Blk.keep (by (repeat (first | (with_reducible assumption) | (refine blk_at _ _ ?_; simp; done) | (refine Blk.old ?_ _)))) hk10
  have B1x10 : Blk w10 (w.heap.size + 1) #[.int .i64 n2, .int .i64 d2] := Blk.keep (by (repeat (first | (with_reducible assumption) | (refine blk_at _ _ ?_; simp; done) | (refine Blk.old ?_ _)))) hk10
  have B2x10 : Blk w10 (w1.heap.size) #[.int .i64 xn, .int .i64 xd] := Blk.keep (by (repeat (first | (with_reducible assumption) | (refine blk_at _ _ ?_; simp; done) | (refine Blk.old ?_ _)))) hk10
  have B3x10 : Blk w10 (w1.heap.size + 1) #[.int .i64 xc, .int .i64 0] := Blk.keep (by (repeat (first | (with_reducible assumption) | (refine blk_at _ _ ?_; simp; done) | (refine Blk.old ?_ _)))) hk10
  have B4x10 : Blk w10 (w2.heap.size) #[.int .i64 yn, .int .i64 yd] := Blk.keep (by (repeat (first | (with_reducible assumption) | (refine blk_at _ _ ?_; simp; done) | (refine Blk.old ?_ _)))) hk10
  have B5x10 : Blk w10 (w2.heap.size + 1) #[.int .i64 yc, .int .i64 0] := Blk.keep (by (repeat (first | (with_reducible assumption) | (refine blk_at _ _ ?_; simp; done) | (refine Blk.old ?_ _)))) hk10
  have B6x10 : Blk w10 (w3.heap.size) #[.int .i64 pn, .int .i64 pd] := Blk.keep (by (repeat (first | (with_reducible assumption) | (refine blk_at _ _ ?_; simp; done) | (refine Blk.old ?_ _)))) hk10
  have B7x10 : Blk w10 (w3.heap.size + 1) #[.int .i64 pc, .int .i64 0] := Blk.keep (by (repeat (first | (with_reducible assumption) | (refine blk_at _ _ ?_; simp; done) | (refine Blk.old ?_ _)))) hk10
  have B8x10 : Blk w10 (w4.heap.size) #[.int .i64 qn, .int .i64 qd] := Blk.keep (by (repeat (first | (with_reducible assumption) | (refine blk_at _ _ ?_; simp; done) | (refine Blk.old ?_ _)))) hk10
  have B9x10 : Blk w10 (w4.heap.size + 1) #[.int .i64 qc, .int .i64 0] := Blk.keep (by (repeat (first | (with_reducible assumption) | (refine blk_at _ _ ?_; simp; done) | (refine Blk.old ?_ _)))) hk10
  have B10x10 : Blk w10 (w5.heap.size) #[.int .i64 0, .int .i64 0] := Blk.keep (by (repeat (first | (with_reducible assumption) | (refine blk_at _ _ ?_; simp; done) | (refine Blk.old ?_ _)))) hk10
  have B11x10 : Blk w10 (w6.heap.size) #[.int .i64 0, .int .i64 0] := Blk.keep (by (repeat (first | (with_reducible assumption) | (refine blk_at _ _ ?_; simp; done) | (refine Blk.old ?_ _)))) hk10
  have B12x10 : Blk w10 (w7.heap.size) #[.int .i64 xn, .int .i64 xd] := Blk.keep (by (repeat (first | (with_reducible assumption) | (refine blk_at _ _ ?_; simp; done) | (refine Blk.old ?_ _)))) hk10
  have B13x10 : Blk w10 (w7.heap.size + 1) #[.int .i64 xc, .int .i64 0] := Blk.keep (by (repeat (first | (with_reducible assumption) | (refine blk_at _ _ ?_; simp; done) | (refine Blk.old ?_ _)))) hk10
  have B14x10 : Blk w10 (w8.heap.size) #[.int .i64 yn, .int .i64 yd] := Blk.keep (by (repeat (first | (with_reducible assumption) | (refine blk_at _ _ ?_; simp; done) | (refine Blk.old ?_ _)))) hk10
  have B15x10 : Blk w10 (w8.heap.size + 1) #[.int .i64 yc, .int .i64 0] := Blk.keep (by (repeat (first | (with_reducible assumption) | (refine blk_at _ _ ?_; simp; done) | (refine Blk.old ?_ _)))) hk10
  have B16x10 : Blk w10 (w9.heap.size) #[.int .i64 pn, .int .i64 pd] := Blk.keep (by (repeat (first | (with_reducible assumption) | (refine blk_at _ _ ?_; simp; done) | (refine Blk.old ?_ _)))) hk10
  have B17x10 : Blk w10 (w9.heap.size + 1) #[.int .i64 pc, .int .i64 0] := Blk.keep (by (repeat (first | (with_reducible assumption) | (refine blk_at _ _ ?_; simp; done) | (refine Blk.old ?_ _)))) hk10
  clear K9 hk10 B0x9 B1x9 B2x9 B3x9 B4x9 B5x9 B6x9 B7x9 B8x9 B9x9 B10x9 B11x9 B12x9 B13x9 B14x9 B15x9 c0a c0b f0a f0b l0 m0 M0 N1 L1 c1a c1b f1a f1b l1 m1 M1
  obtain ⟨c0a, c0b, f0a, f0b, l0⟩ := B0x10.two
  have m0 : ¬ w10.heap.size = w.heap.size := by omega
  have M0 : ¬ w10.heap.size + 1 = w.heap.size := by omega
  obtain ⟨c1a, c1b, f1a, f1b, l1⟩ := B1x10.two
  have m1 : ¬ w10.heap.size = w.heap.size + 1 := by omega
  have M1 : ¬ w10.heap.size + 1 = w.heap.size + 1 := by omega
  have N1 : ¬ w10.heap.size = w.heap.size := by omega
  have L1 : w.heap.size < w10.heap.size := by omega
  obtain ⟨c2a, c2b, f2a, f2b, l2⟩ := B2x10.two
  have m2 : ¬ w10.heap.size = w1.heap.size := by omega
  have M2 : ¬ w10.heap.size + 1 = w1.heap.size := by omega
  obtain ⟨c3a, c3b, f3a, f3b, l3⟩ := B3x10.two
  have m3 : ¬ w10.heap.size = w1.heap.size + 1 := by omega
  have M3 : ¬ w10.heap.size + 1 = w1.heap.size + 1 := by omega
  have N3 : ¬ w10.heap.size = w1.heap.size := by omega
  have L3 : w1.heap.size < w10.heap.size := by omega
  obtain ⟨c4a, c4b, f4a, f4b, l4⟩ := B4x10.two
  have m4 : ¬ w10.heap.size = w2.heap.size := by omega
  have M4 : ¬ w10.heap.size + 1 = w2.heap.size := by omega
  obtain ⟨c5a, c5b, f5a, f5b, l5⟩ := B5x10.two
  have m5 : ¬ w10.heap.size = w2.heap.size + 1 := by omega
  have M5 : ¬ w10.heap.size + 1 = w2.heap.size + 1 := by omega
  have N5 : ¬ w10.heap.size = w2.heap.size := by omega
  have L5 : w2.heap.size < w10.heap.size := by omega
  obtain ⟨c6a, c6b, f6a, f6b, l6⟩ := B6x10.two
  have m6 : ¬ w10.heap.size = w3.heap.size := by omega
  have M6 : ¬ w10.heap.size + 1 = w3.heap.size := by omega
  obtain ⟨c7a, c7b, f7a, f7b, l7⟩ := B7x10.two
  have m7 : ¬ w10.heap.size = w3.heap.size + 1 := by omega
  have M7 : ¬ w10.heap.size + 1 = w3.heap.size + 1 := by omega
  have N7 : ¬ w10.heap.size = w3.heap.size := by omega
  have L7 : w3.heap.size < w10.heap.size := by omega
  obtain ⟨c8a, c8b, f8a, f8b, l8⟩ := B8x10.two
  have m8 : ¬ w10.heap.size = w4.heap.size := by omega
  have M8 : ¬ w10.heap.size + 1 = w4.heap.size := by omega
  obtain ⟨c9a, c9b, f9a, f9b, l9⟩ := B9x10.two
  have m9 : ¬ w10.heap.size = w4.heap.size + 1 := by omega
  have M9 : ¬ w10.heap.size + 1 = w4.heap.size + 1 := by omega
  have N9 : ¬ w10.heap.size = w4.heap.size := by omega
  have L9 : w4.heap.size < w10.heap.size := by omega
  obtain ⟨c10a, c10b, f10a, f10b, l10⟩ := B10x10.two
  have m10 : ¬ w10.heap.size = w5.heap.size := by omega
  have M10 : ¬ w10.heap.size + 1 = w5.heap.size := by omega
  obtain ⟨c11a, c11b, f11a, f11b, l11⟩ := B11x10.two
  have m11 : ¬ w10.heap.size = w6.heap.size := by omega
  have M11 : ¬ w10.heap.size + 1 = w6.heap.size := by omega
  obtain ⟨c12a, c12b, f12a, f12b, l12⟩ := B12x10.two
  have m12 : ¬ w10.heap.size = w7.heap.size := by omega
  have M12 : ¬ w10.heap.size + 1 = w7.heap.size := by omega
  obtain ⟨c13a, c13b, f13a, f13b, l13⟩ := B13x10.two
  have m13 : ¬ w10.heap.size = w7.heap.size + 1 := by omega
  have M13 : ¬ w10.heap.size + 1 = w7.heap.size + 1 := by omega
  have N13 : ¬ w10.heap.size = w7.heap.size := by omega
  have L13 : w7.heap.size < w10.heap.size := by omega
  obtain ⟨c14a, c14b, f14a, f14b, l14⟩ := B14x10.two
  have m14 : ¬ w10.heap.size = w8.heap.size := by omega
  have M14 : ¬ w10.heap.size + 1 = w8.heap.size := by omega
  obtain ⟨c15a, c15b, f15a, f15b, l15⟩ := B15x10.two
  have m15 : ¬ w10.heap.size = w8.heap.size + 1 := by omega
  have M15 : ¬ w10.heap.size + 1 = w8.heap.size + 1 := by omega
  have N15 : ¬ w10.heap.size = w8.heap.size := by omega
  have L15 : w8.heap.size < w10.heap.size := by omega
  obtain ⟨c16a, c16b, f16a, f16b, l16⟩ := B16x10.two
  have m16 : ¬ w10.heap.size = w9.heap.size := by omega
  have M16 : ¬ w10.heap.size + 1 = w9.heap.size := by omega
  obtain ⟨c17a, c17b, f17a, f17b, l17⟩ := B17x10.two
  have m17 : ¬ w10.heap.size = w9.heap.size + 1 := by omega
  have M17 : ¬ w10.heap.size + 1 = w9.heap.size + 1 := by omega
  have N17 : ¬ w10.heap.size = w9.heap.size := by omega
  have L17 : w9.heap.size < w10.heap.size := by omega
  rw [HOver.out]
  go_wp2_with fail
  refine (refRight_any n1 d1 _).mono ?_
  rintro e w11 ⟨rfl, hk11⟩
  have K11 : Keep NoS w w11 := Keep.trans (by (repeat' (first | (with_reducible assumption) | (with_reducible exact HK.out) | (with_reducible exact Keep.refl _ _) | (with_reducible refine Keep.alloc ?_ _) | (with_reducible refine Keep.setCell ?_ _ (fun h => absurd h (by omega))) | (with_reducible refine Keep.drewN ?_ _) | (with_reducible refine Keep.drew ?_)))) hk11 fun _ _ _ h => h
  have B0x11 : Blk w11 (w.heap.size) #[.int .i64 n1, .int .i64 d1] := Blk.keep (by (repeat (first | (with_reducible assumption) | (refine blk_at _ _ ?_; simp; done) | (refine Blk.old ?_ _)))) hk11
  have B1x11 : Blk w11 (w.heap.size + 1) #[.int .i64 n2, .int .i64 d2] := Blk.keep (by (repeat (first | (with_reducible assumption) | (refine blk_at _ _ ?_; simp; done) | (refine Blk.old ?_ _)))) hk11
  have B2x11 : Blk w11 (w1.heap.size) #[.int .i64 xn, .int .i64 xd] := Blk.keep (by (repeat (first | (with_reducible assumption) | (refine blk_at _ _ ?_; simp; done) | (refine Blk.old ?_ _)))) hk11
  have B3x11 : Blk w11 (w1.heap.size + 1) #[.int .i64 xc, .int .i64 0] := Blk.keep (by (repeat (first | (with_reducible assumption) | (refine blk_at _ _ ?_; simp; done) | (refine Blk.old ?_ _)))) hk11
  have B4x11 : Blk w11 (w2.heap.size) #[.int .i64 yn, .int .i64 yd] := Blk.keep (by (repeat (first | (with_reducible assumption) | (refine blk_at _ _ ?_; simp; done) | (refine Blk.old ?_ _)))) hk11
  have B5x11 : Blk w11 (w2.heap.size + 1) #[.int .i64 yc, .int .i64 0] := Blk.keep (by (repeat (first | (with_reducible assumption) | (refine blk_at _ _ ?_; simp; done) | (refine Blk.old ?_ _)))) hk11
  have B6x11 : Blk w11 (w3.heap.size) #[.int .i64 pn, .int .i64 pd] := Blk.keep (by (repeat (first | (with_reducible assumption) | (refine blk_at _ _ ?_; simp; done) | (refine Blk.old ?_ _)))) hk11
  have B7x11 : Blk w11 (w3.heap.size + 1) #[.int .i64 pc, .int .i64 0] := Blk.keep (by (repeat (first | (with_reducible assumption) | (refine blk_at _ _ ?_; simp; done) | (refine Blk.old ?_ _)))) hk11
  have B8x11 : Blk w11 (w4.heap.size) #[.int .i64 qn, .int .i64 qd] := Blk.keep (by (repeat (first | (with_reducible assumption) | (refine blk_at _ _ ?_; simp; done) | (refine Blk.old ?_ _)))) hk11
  have B9x11 : Blk w11 (w4.heap.size + 1) #[.int .i64 qc, .int .i64 0] := Blk.keep (by (repeat (first | (with_reducible assumption) | (refine blk_at _ _ ?_; simp; done) | (refine Blk.old ?_ _)))) hk11
  have B10x11 : Blk w11 (w5.heap.size) #[.int .i64 0, .int .i64 0] := Blk.keep (by (repeat (first | (with_reducible assumption) | (refine blk_at _ _ ?_; simp; done) | (refine Blk.old ?_ _)))) hk11
  have B11x11 : Blk w11 (w6.heap.size) #[.int .i64 0, .int .i64 0] := Blk.keep (by (repeat (first | (with_reducible assumption) | (refine blk_at _ _ ?_; simp; done) | (refine Blk.old ?_ _)))) hk11
  have B12x11 : Blk w11 (w7.heap.size) #[.int .i64 xn, .int .i64 xd] := Blk.keep (by (repeat (first | (with_reducible assumption) | (refine blk_at _ _ ?_; simp; done) | (refine Blk.old ?_ _)))) hk11
  have B13x11 : Blk w11 (w7.heap.size + 1) #[.int .i64 xc, .int .i64 0] := Blk.keep (by (repeat (first | (with_reducible assumption) | (refine blk_at _ _ ?_; simp; done) | (refine Blk.old ?_ _)))) hk11
  have B14x11 : Blk w11 (w8.heap.size) #[.int .i64 yn, .int .i64 yd] := Blk.keep (by (repeat (first | (with_reducible assumption) | (refine blk_at _ _ ?_; simp; done) | (refine Blk.old ?_ _)))) hk11
  have B15x11 : Blk w11 (w8.heap.size + 1) #[.int .i64 yc, .int .i64 0] := Blk.keep (by (repeat (first | (with_reducible assumption) | (refine blk_at _ _ ?_; simp; done) | (refine Blk.old ?_ _)))) hk11
  have B16x11 : Blk w11 (w9.heap.size) #[.int .i64 pn, .int .i64 pd] := Blk.keep (by (repeat (first | (with_reducible assumption) | (refine blk_at _ _ ?_; simp; done) | (refine Blk.old ?_ _)))) hk11
  have B17x11 : Blk w11 (w9.heap.size + 1) #[.int .i64 pc, .int .i64 0] := Blk.keep (by (repeat (first | (with_reducible assumption) | (refine blk_at _ _ ?_; simp; done) | (refine Blk.old ?_ _)))) hk11
  have B18x11 : Blk w11 (w10.heap.size) #[.int .i64 qn, .int .i64 qd] := Blk.keep (by (repeat (first | (with_reducible assumption) | (refine blk_at _ _ ?_; simp; done) | (refine Blk.old ?_ _)))) hk11
  have B19x11 : Blk w11 (w10.heap.size + 1) #[.int .i64 qc, .int .i64 0] := Blk.keep (by (repeat (first | (with_reducible assumption) | (refine blk_at _ _ ?_; simp; done) | (refine Blk.old ?_ _)))) hk11
  clear K10 hk11 B0x10 B1x10 B2x10 B3x10 B4x10 B5x10 B6x10 B7x10 B8x10 B9x10 B10x10 B11x10 B12x10 B13x10 B14x10 B15x10 B16x10 B17x10 c0a c0b f0a f0b l0 m0 M0 N1 L1 c1a c1b f1a f1b l1 m1 M1 c2a c2b f2a f2b l2 m2 M2 N3 L3 c3a c3b f3a f3b l3 m3 M3 c4a c4b f4a f4b l4 m4 M4 N5 L5 c5a c5b f5a f5b l5 m5 M5 c6a c6b f6a f6b l6 m6 M6 N7 L7 c7a c7b f7a f7b l7 m7 M7 c8a c8b f8a f8b l8 m8 M8 N9 L9 c9a c9b f9a f9b l9 m9 M9 c10a c10b f10a f10b l10 m10 M10 c11a c11b f11a f11b l11 m11 M11 c12a c12b f12a f12b l12 m12 M12 N13 L13 c13a c13b f13a f13b l13 m13 M13 c14a c14b f14a f14b l14 m14 M14 N15 L15 c15a c15b f15a f15b l15 m15 M15 c16a c16b f16a f16b l16 m16 M16 N17 L17 c17a c17b f17a f17b l17 m17 M17
  obtain ⟨c0a, c0b, f0a, f0b, l0⟩ := B0x11.two
  have m0 : ¬ w11.heap.size = w.heap.size := by omega
  have M0 : ¬ w11.heap.size + 1 = w.heap.size := by omega
  rw [E1.out]
  go_wp2_with fail
  refine (check_okK n1 d1 _ H1.out).mono ?_
  rintro e w12 ⟨rfl, hk12⟩
  have K12 : Keep NoS w w12 := Keep.trans (by (repeat' (first | (with_reducible assumption) | (with_reducible exact HK.out) | (with_reducible exact Keep.refl _ _) | (with_reducible refine Keep.alloc ?_ _) | (with_reducible refine Keep.setCell ?_ _ (fun h => absurd h (by omega))) | (with_reducible refine Keep.drewN ?_ _) | (with_reducible refine Keep.drew ?_)))) hk12 fun _ _ _ h => h
  have B0x12 : Blk w12 (w.heap.size) #[.int .i64 n1, .int .i64 d1] := Blk.keep (by (repeat (first | (with_reducible assumption) | (refine blk_at _ _ ?_; simp; done) | (refine Blk.old ?_ _)))) hk12
  have B1x12 : Blk w12 (w.heap.size + 1) #[.int .i64 n2, .int .i64 d2] := Blk.keep (by (repeat (first | (with_reducible assumption) | (refine blk_at _ _ ?_; simp; done) | (refine Blk.old ?_ _)))) hk12
  have B2x12 : Blk w12 (w1.heap.size) #[.int .i64 xn, .int .i64 xd] := Blk.keep (by (repeat (first | (with_reducible assumption) | (refine blk_at _ _ ?_; simp; done) | (refine Blk.old ?_ _)))) hk12
  have B3x12 : Blk w12 (w1.heap.size + 1) #[.int .i64 xc, .int .i64 0] := Blk.keep (by (repeat (first | (with_reducible assumption) | (refine blk_at _ _ ?_; simp; done) | (refine Blk.old ?_ _)))) hk12
  have B4x12 : Blk w12 (w2.heap.size) #[.int .i64 yn, .int .i64 yd] := Blk.keep (by (repeat (first | (with_reducible assumption) | (refine blk_at _ _ ?_; simp; done) | (refine Blk.old ?_ _)))) hk12
  have B5x12 : Blk w12 (w2.heap.size + 1) #[.int .i64 yc, .int .i64 0] := Blk.keep (by (repeat (first | (with_reducible assumption) | (refine blk_at _ _ ?_; simp; done) | (refine Blk.old ?_ _)))) hk12
  have B6x12 : Blk w12 (w3.heap.size) #[.int .i64 pn, .int .i64 pd] := Blk.keep (by (repeat (first | (with_reducible assumption) | (refine blk_at _ _ ?_; simp; done) | (refine Blk.old ?_ _)))) hk12
  have B7x12 : Blk w12 (w3.heap.size + 1) #[.int .i64 pc, .int .i64 0] := Blk.keep (by (repeat (first | (with_reducible assumption) | (refine blk_at _ _ ?_; simp; done) | (refine Blk.old ?_ _)))) hk12
  have B8x12 : Blk w12 (w4.heap.size) #[.int .i64 qn, .int .i64 qd] := Blk.keep (by (repeat (first | (with_reducible assumption) | (refine blk_at _ _ ?_; simp; done) | (refine Blk.old ?_ _)))) hk12
  have B9x12 : Blk w12 (w4.heap.size + 1) #[.int .i64 qc, .int .i64 0] := Blk.keep (by (repeat (first | (with_reducible assumption) | (refine blk_at _ _ ?_; simp; done) | (refine Blk.old ?_ _)))) hk12
  have B10x12 : Blk w12 (w5.heap.size) #[.int .i64 0, .int .i64 0] := Blk.keep (by (repeat (first | (with_reducible assumption) | (refine blk_at _ _ ?_; simp; done) | (refine Blk.old ?_ _)))) hk12
  have B11x12 : Blk w12 (w6.heap.size) #[.int .i64 0, .int .i64 0] := Blk.keep (by (repeat (first | (with_reducible assumption) | (refine blk_at _ _ ?_; simp; done) | (refine Blk.old ?_ _)))) hk12
  have B12x12 : Blk w12 (w7.heap.size) #[.int .i64 xn, .int .i64 xd] := Blk.keep (by (repeat (first | (with_reducible assumption) | (refine blk_at _ _ ?_; simp; done) | (refine Blk.old ?_ _)))) hk12
  have B13x12 : Blk w12 (w7.heap.size + 1) #[.int .i64 xc, .int .i64 0] := Blk.keep (by (repeat (first | (with_reducible assumption) | (refine blk_at _ _ ?_; simp; done) | (refine Blk.old ?_ _)))) hk12
  have B14x12 : Blk w12 (w8.heap.size) #[.int .i64 yn, .int .i64 yd] := Blk.keep (by (repeat (first | (with_reducible assumption) | (refine blk_at _ _ ?_; simp; done) | (refine Blk.old ?_ _)))) hk12
  have B15x12 : Blk w12 (w8.heap.size + 1) #[.int .i64 yc, .int .i64 0] := Blk.keep (by (repeat (first | (with_reducible assumption) | (refine blk_at _ _ ?_; simp; done) | (refine Blk.old ?_ _)))) hk12
  have B16x12 : Blk w12 (w9.heap.size) #[.int .i64 pn, .int .i64 pd] := Blk.keep (by (repeat (first | (with_reducible assumption) | (refine blk_at _ _ ?_; simp; done) | (refine Blk.old ?_ _)))) hk12
  have B17x12 : Blk w12 (w9.heap.size + 1) #[.int .i64 pc, .int .i64 0] := Blk.keep (by (repeat (first | (with_reducible assumption) | (refine blk_at _ _ ?_; simp; done) | (refine Blk.old ?_ _)))) hk12
  have B18x12 : Blk w12 (w10.heap.size) #[.int .i64 qn, .int .i64 qd] := Blk.keep (by (repeat (first | (with_reducible assumption) | (refine blk_at _ _ ?_; simp; done) | (refine Blk.old ?_ _)))) hk12
  have B19x12 : Blk w12 (w10.heap.size + 1) #[.int .i64 qc, .int .i64 0] := Blk.keep (by (repeat (first | (with_reducible assumption) | (refine blk_at _ _ ?_; simp; done) | (refine Blk.old ?_ _)))) hk12
  clear K11 hk12 B0x11 B1x11 B2x11 B3x11 B4x11 B5x11 B6x11 B7x11 B8x11 B9x11 B10x11 B11x11 B12x11 B13x11 B14x11 B15x11 B16x11 B17x11 B18x11 B19x11 c0a c0b f0a f0b l0 m0 M0
  obtain ⟨c0a, c0b, f0a, f0b, l0⟩ := B0x12.two
  have m0 : ¬ w12.heap.size = w.heap.size := by omega
  have M0 : ¬ w12.heap.size + 1 = w.heap.size := by omega
  obtain ⟨c11a, c11b, f11a, f11b, l11⟩ := B11x12.two
  have m11 : ¬ w12.heap.size = w6.heap.size := by omega
  have M11 : ¬ w12.heap.size + 1 = w6.heap.size := by omega
  go_wp2_with fail
  refine (refFloor_any n1 d1 _ H1.out).mono ?_
  rintro e w13 ⟨rfl, hk13⟩
  have K13 : Keep NoS w w13 := Keep.trans (by (repeat' (first | (with_reducible assumption) | (with_reducible exact HK.out) | (with_reducible exact Keep.refl _ _) | (with_reducible refine Keep.alloc ?_ _) | (with_reducible refine Keep.setCell ?_ _ (fun h => absurd h (by omega))) | (with_reducible refine Keep.drewN ?_ _) | (with_reducible refine Keep.drew ?_)))) hk13 fun _ _ _ h => h
  have B0x13 : Blk w13 (w.heap.size) #[.int .i64 n1, .int .i64 d1] := Blk.keep (by (repeat (first | (with_reducible assumption) | (refine blk_at _ _ ?_; simp; done) | (refine Blk.old ?_ _)))) hk13
  have B1x13 : Blk w13 (w.heap.size + 1) #[.int .i64 n2, .int .i64 d2] := Blk.keep (by (repeat (first | (with_reducible assumption) | (refine blk_at _ _ ?_; simp; done) | (refine Blk.old ?_ _)))) hk13
  have B2x13 : Blk w13 (w1.heap.size) #[.int .i64 xn, .int .i64 xd] := Blk.keep (by (repeat (first | (with_reducible assumption) | (refine blk_at _ _ ?_; simp; done) | (refine Blk.old ?_ _)))) hk13
  have B3x13 : Blk w13 (w1.heap.size + 1) #[.int .i64 xc, .int .i64 0] := Blk.keep (by (repeat (first | (with_reducible assumption) | (refine blk_at _ _ ?_; simp; done) | (refine Blk.old ?_ _)))) hk13
  have B4x13 : Blk w13 (w2.heap.size) #[.int .i64 yn, .int .i64 yd] := Blk.keep (by (repeat (first | (with_reducible assumption) | (refine blk_at _ _ ?_; simp; done) | (refine Blk.old ?_ _)))) hk13
  have B5x13 : Blk w13 (w2.heap.size + 1) #[.int .i64 yc, .int .i64 0] := Blk.keep (by (repeat (first | (with_reducible assumption) | (refine blk_at _ _ ?_; simp; done) | (refine Blk.old ?_ _)))) hk13
  have B6x13 : Blk w13 (w3.heap.size) #[.int .i64 pn, .int .i64 pd] := Blk.keep (by (repeat (first | (with_reducible assumption) | (refine blk_at _ _ ?_; simp; done) | (refine Blk.old ?_ _)))) hk13
  have B7x13 : Blk w13 (w3.heap.size + 1) #[.int .i64 pc, .int .i64 0] := Blk.keep (by (repeat (first | (with_reducible assumption) | (refine blk_at _ _ ?_; simp; done) | (refine Blk.old ?_ _)))) hk13
  have B8x13 : Blk w13 (w4.heap.size) #[.int .i64 qn, .int .i64 qd] := Blk.keep (by (repeat (first | (with_reducible assumption) | (refine blk_at _ _ ?_; simp; done) | (refine Blk.old ?_ _)))) hk13
  have B9x13 : Blk w13 (w4.heap.size + 1) #[.int .i64 qc, .int .i64 0] := Blk.keep (by (repeat (first | (with_reducible assumption) | (refine blk_at _ _ ?_; simp; done) | (refine Blk.old ?_ _)))) hk13
  have B10x13 : Blk w13 (w5.heap.size) #[.int .i64 0, .int .i64 0] := Blk.keep (by (repeat (first | (with_reducible assumption) | (refine blk_at _ _ ?_; simp; done) | (refine Blk.old ?_ _)))) hk13
  have B11x13 : Blk w13 (w6.heap.size) #[.int .i64 0, .int .i64 0] := Blk.keep (by (repeat (first | (with_reducible assumption) | (refine blk_at _ _ ?_; simp; done) | (refine Blk.old ?_ _)))) hk13
  have B12x13 : Blk w13 (w7.heap.size) #[.int .i64 xn, .int .i64 xd] := Blk.keep (by (repeat (first | (with_reducible assumption) | (refine blk_at _ _ ?_; simp; done) | (refine Blk.old ?_ _)))) hk13
  have B13x13 : Blk w13 (w7.heap.size + 1) #[.int .i64 xc, .int .i64 0] := Blk.keep (by (repeat (first | (with_reducible assumption) | (refine blk_at _ _ ?_; simp; done) | (refine Blk.old ?_ _)))) hk13
  have B14x13 : Blk w13 (w8.heap.size) #[.int .i64 yn, .int .i64 yd] := Blk.keep (by (repeat (first | (with_reducible assumption) | (refine blk_at _ _ ?_; simp; done) | (refine Blk.old ?_ _)))) hk13
  have B15x13 : Blk w13 (w8.heap.size + 1) #[.int .i64 yc, .int .i64 0] := Blk.keep (by (repeat (first | (with_reducible assumption) | (refine blk_at _ _ ?_; simp; done) | (refine Blk.old ?_ _)))) hk13
  have B16x13 : Blk w13 (w9.heap.size) #[.int .i64 pn, .int .i64 pd] := Blk.keep (by (repeat (first | (with_reducible assumption) | (refine blk_at _ _ ?_; simp; done) | (refine Blk.old ?_ _)))) hk13
  have B17x13 : Blk w13 (w9.heap.size + 1) #[.int .i64 pc, .int .i64 0] := Blk.keep (by (repeat (first | (with_reducible assumption) | (refine blk_at _ _ ?_; simp; done) | (refine Blk.old ?_ _)))) hk13
  have B18x13 : Blk w13 (w10.heap.size) #[.int .i64 qn, .int .i64 qd] := Blk.keep (by (repeat (first | (with_reducible assumption) | (refine blk_at _ _ ?_; simp; done) | (refine Blk.old ?_ _)))) hk13
  have B19x13 : Blk w13 (w10.heap.size + 1) #[.int .i64 qc, .int .i64 0] := Blk.keep (by (repeat (first | (with_reducible assumption) | (refine blk_at _ _ ?_; simp; done) | (refine Blk.old ?_ _)))) hk13
  clear K12 hk13 B0x12 B1x12 B2x12 B3x12 B4x12 B5x12 B6x12 B7x12 B8x12 B9x12 B10x12 B11x12 B12x12 B13x12 B14x12 B15x12 B16x12 B17x12 B18x12 B19x12 c0a c0b f0a f0b l0 m0 M0 c11a c11b f11a f11b l11 m11 M11
  obtain ⟨c1a, c1b, f1a, f1b, l1⟩ := B1x13.two
  have m1 : ¬ w13.heap.size = w.heap.size + 1 := by omega
  have M1 : ¬ w13.heap.size + 1 = w.heap.size + 1 := by omega
  have N1 : ¬ w13.heap.size = w.heap.size := by omega
  have L1 : w.heap.size < w13.heap.size := by omega
  go_wp2_with fail
  refine (refRight_any n2 d2 _).mono ?_
  rintro e w14 ⟨rfl, hk14⟩
  have K14 : Keep NoS w w14 := Keep.trans (by (repeat' (first | (with_reducible assumption) | (with_reducible exact HK.out) | (with_reducible exact Keep.refl _ _) | (with_reducible refine Keep.alloc ?_ _) | (with_reducible refine Keep.setCell ?_ _ (fun h => absurd h (by omega))) | (with_reducible refine Keep.drewN ?_ _) | (with_reducible refine Keep.drew ?_)))) hk14 fun _ _ _ h => h
  have B0x14 : Blk w14 (w.heap.size) #[.int .i64 n1, .int .i64 d1] := Blk.keep (by (repeat (first | (with_reducible assumption) | (refine blk_at _ _ ?_; simp; done) | (refine Blk.old ?_ _)))) hk14
  have B1x14 : Blk w14 (w.heap.size + 1) #[.int .i64 n2, .int .i64 d2] := Blk.keep (by (repeat (first | (with_reducible assumption) | (refine blk_at _ _ ?_; simp; done) | (refine Blk.old ?_ _)))) hk14
  have B2x14 : Blk w14 (w1.heap.size) #[.int .i64 xn, .int .i64 xd] := Blk.keep (by (repeat (first | (with_reducible assumption) | (refine blk_at _ _ ?_; simp; done) | (refine Blk.old ?_ _)))) hk14
  have B3x14 : Blk w14 (w1.heap.size + 1) #[.int .i64 xc, .int .i64 0] := Blk.keep (by (repeat (first | (with_reducible assumption) | (refine blk_at _ _ ?_; simp; done) | (refine Blk.old ?_ _)))) hk14
  have B4x14 : Blk w14 (w2.heap.size) #[.int .i64 yn, .int .i64 yd] := Blk.keep (by (repeat (first | (with_reducible assumption) | (refine blk_at _ _ ?_; simp; done) | (refine Blk.old ?_ _)))) hk14
  have B5x14 : Blk w14 (w2.heap.size + 1) #[.int .i64 yc, .int .i64 0] := Blk.keep (by (repeat (first | (with_reducible assumption) | (refine blk_at _ _ ?_; simp; done) | (refine Blk.old ?_ _)))) hk14
  have B6x14 : Blk w14 (w3.heap.size) #[.int .i64 pn, .int .i64 pd] := Blk.keep (by (repeat (first | (with_reducible assumption) | (refine blk_at _ _ ?_; simp; done) | (refine Blk.old ?_ _)))) hk14
  have B7x14 : Blk w14 (w3.heap.size + 1) #[.int .i64 pc, .int .i64 0] := Blk.keep (by (repeat (first | (with_reducible assumption) | (refine blk_at _ _ ?_; simp; done) | (refine Blk.old ?_ _)))) hk14
  have B8x14 : Blk w14 (w4.heap.size) #[.int .i64 qn, .int .i64 qd] := Blk.keep (by (repeat (first | (with_reducible assumption) | (refine blk_at _ _ ?_; simp; done) | (refine Blk.old ?_ _)))) hk14
  have B9x14 : Blk w14 (w4.heap.size + 1) #[.int .i64 qc, .int .i64 0] := Blk.keep (by (repeat (first | (with_reducible assumption) | (refine blk_at _ _ ?_; simp; done) | (refine Blk.old ?_ _)))) hk14
  have B10x14 : Blk w14 (w5.heap.size) #[.int .i64 0, .int .i64 0] := Blk.keep (by (repeat (first | (with_reducible assumption) | (refine blk_at _ _ ?_; simp; done) | (refine Blk.old ?_ _)))) hk14
  have B11x14 : Blk w14 (w6.heap.size) #[.int .i64 0, .int .i64 0] := Blk.keep (by (repeat (first | (with_reducible assumption) | (refine blk_at _ _ ?_; simp; done) | (refine Blk.old ?_ _)))) hk14
  have B12x14 : Blk w14 (w7.heap.size) #[.int .i64 xn, .int .i64 xd] := Blk.keep (by (repeat (first | (with_reducible assumption) | (refine blk_at _ _ ?_; simp; done) | (refine Blk.old ?_ _)))) hk14
  have B13x14 : Blk w14 (w7.heap.size + 1) #[.int .i64 xc, .int .i64 0] := Blk.keep (by (repeat (first | (with_reducible assumption) | (refine blk_at _ _ ?_; simp; done) | (refine Blk.old ?_ _)))) hk14
  have B14x14 : Blk w14 (w8.heap.size) #[.int .i64 yn, .int .i64 yd] := Blk.keep (by (repeat (first | (with_reducible assumption) | (refine blk_at _ _ ?_; simp; done) | (refine Blk.old ?_ _)))) hk14
  have B15x14 : Blk w14 (w8.heap.size + 1) #[.int .i64 yc, .int .i64 0] := Blk.keep (by (repeat (first | (with_reducible assumption) | (refine blk_at _ _ ?_; simp; done) | (refine Blk.old ?_ _)))) hk14
  have B16x14 : Blk w14 (w9.heap.size) #[.int .i64 pn, .int .i64 pd] := Blk.keep (by (repeat (first | (with_reducible assumption) | (refine blk_at _ _ ?_; simp; done) | (refine Blk.old ?_ _)))) hk14
  have B17x14 : Blk w14 (w9.heap.size + 1) #[.int .i64 pc, .int .i64 0] := Blk.keep (by (repeat (first | (with_reducible assumption) | (refine blk_at _ _ ?_; simp; done) | (refine Blk.old ?_ _)))) hk14
  have B18x14 : Blk w14 (w10.heap.size) #[.int .i64 qn, .int .i64 qd] := Blk.keep (by (repeat (first | (with_reducible assumption) | (refine blk_at _ _ ?_; simp; done) | (refine Blk.old ?_ _)))) hk14
  have B19x14 : Blk w14 (w10.heap.size + 1) #[.int .i64 qc, .int .i64 0] := Blk.keep (by (repeat (first | (with_reducible assumption) | (refine blk_at _ _ ?_; simp; done) | (refine Blk.old ?_ _)))) hk14
  clear K13 hk14 B0x13 B1x13 B2x13 B3x13 B4x13 B5x13 B6x13 B7x13 B8x13 B9x13 B10x13 B11x13 B12x13 B13x13 B14x13 B15x13 B16x13 B17x13 B18x13 B19x13 N1 L1 c1a c1b f1a f1b l1 m1 M1
  obtain ⟨c0a, c0b, f0a, f0b, l0⟩ := B0x14.two
  have m0 : ¬ w14.heap.size = w.heap.size := by omega
  have M0 : ¬ w14.heap.size + 1 = w.heap.size := by omega
  obtain ⟨c1a, c1b, f1a, f1b, l1⟩ := B1x14.two
  have m1 : ¬ w14.heap.size = w.heap.size + 1 := by omega
  have M1 : ¬ w14.heap.size + 1 = w.heap.size + 1 := by omega
  have N1 : ¬ w14.heap.size = w.heap.size := by omega
  have L1 : w.heap.size < w14.heap.size := by omega
  obtain ⟨c10a, c10b, f10a, f10b, l10⟩ := B10x14.two
  have m10 : ¬ w14.heap.size = w5.heap.size := by omega
  have M10 : ¬ w14.heap.size + 1 = w5.heap.size := by omega
  rw [E2.out]
  go_wp2_with fail
  refine wp_region_by (fun w' => Keep NoS w14 w') [] [([0, 1, 2, 3, 4, 5, 7], 6), ([], 8), ([], 9)] [10, 11, 12, 13] (by kernel_rfl) (by kernel_rfl) (by (repeat' (first | (with_reducible assumption) | (with_reducible exact HK.out) | (with_reducible exact Keep.refl _ _) | (with_reducible refine Keep.alloc ?_ _) | (with_reducible refine Keep.setCell ?_ _ (fun h => absurd h (by omega))) | (with_reducible refine Keep.drewN ?_ _) | (with_reducible refine Keep.drew ?_)))) ?_
  intro X W hne hF hcl
  have HCL := Lib.hid hcl
  have hx0 := fun x => ((hF x).cell l0).trans c0a
  have hx1 := fun x => ((hF x).cell l0).trans c0b
  have hy0 := fun x => ((hF x).cell l1).trans c1a
  have hy1 := fun x => ((hF x).cell l1).trans c1b
  have hz0 := fun x => ((hF x).cell l10).trans c10a
  have hz1 := fun x => ((hF x).cell l10).trans c10b
  have a1 := H1.out.1
  have a2 := H1.out.2.1
  have a3 := H1.out.2.2.1
  have a4 := H1.out.2.2.2.1
  have b1 := H2.out.1
  have b2 := H2.out.2.1
  have b3 := H2.out.2.2.1
  have b4 := H2.out.2.2.2.1
  clear hF hcl
  simp only [wpPlan, pickOps, List.getElem?_toArray, List.getElem?_cons_zero, List.getElem?_cons_succ, clsOf, Bool.false_eq_true, if_false]
  (repeat (quiet_step (fail))); refine wpQuiet_nil ?_
  refine wpOp_wanted (by simp only [List.getElem?_toArray, List.getElem?_cons_zero, List.getElem?_cons_succ]; rfl) (by rfl) (fun K hK => ?_)
  go_simp
  refine (refRat_any n1 d1 _ (by omega) (by omega) (by omega) (by omega) (by omega)).mono ?_
  rintro e u1 ⟨bx, hbx, rfl, hk1, hi1⟩
  have U1 := Lib.hid (show Keep NoS w14 u1 from (by (repeat' (first | (with_reducible assumption) | (with_reducible exact HK.out) | (with_reducible exact Keep.refl _ _) | (with_reducible refine Keep.alloc ?_ _) | (with_reducible refine Keep.setCell ?_ _ (fun h => absurd h (by omega))) | (with_reducible refine Keep.drewN ?_ _) | (with_reducible refine Keep.drew ?_))) : Keep NoS w14 w14.drew).both hk1)
  have HX1 := Lib.hid hi1
  refine hK _ _ ⟨fun _ => HCL.out _ U1.out, ?_⟩
  clear hK K hk1 hi1 hbx
  (repeat (quiet_step (fail))); refine wpQuiet_nil ?_
  refine wpOp_wanted (by simp only [List.getElem?_toArray, List.getElem?_cons_zero, List.getElem?_cons_succ]; rfl) (by rfl) (fun K hK => ?_)
  go_simp
  refine (refRat_any n2 d2 _ (by omega) (by omega) (by omega) (by omega) (by omega)).mono ?_
  rintro e u2 ⟨by', hby, rfl, hk2, hi2⟩
  have U2 := Lib.hid (U1.out.both hk2)
  have HX2 := Lib.hid (HX1.out.ofNewer hk2)
  have HY2 := Lib.hid hi2
  refine hK _ _ ⟨fun _ => HCL.out _ U2.out, ?_⟩
  clear hK K hk2 hi2 hby HX1
  (repeat (quiet_step (fail))); refine wpQuiet_nil ?_
  refine wpOp_wanted (by simp only [List.getElem?_toArray, List.getElem?_cons_zero, List.getElem?_cons_succ]; rfl) (by rfl) (fun K hK => ?_)
  go_simp
  refine (ratCmp_of small_le_BIG setOK_small u2 bx 0 by' 0 (fr n1 d1) (fr n2 d2) HX2.out HY2.out (TB.out.rx.mono small_le_BIG) TB.out.ry TB.out.sub TB.out.den (Nat.lt_of_lt_of_le TB.out.l small_le_BIG) (Nat.lt_of_lt_of_le TB.out.r small_le_BIG)).mono ?_
  rintro e u3 ⟨rfl, hk3⟩
  have U3 := Lib.hid (U2.out.both hk3)
  refine hK _ _ ⟨fun _ => HCL.out _ U3.out, ?_⟩
  clear hK K hk3 HX2 HY2
  (repeat (quiet_step (fail))); refine wpQuiet_nil ?_
  refine NoPanic.normal ?_
  have UK := Lib.hid (K14.both U3.out)
  clear hx0 hx1 hy0 hy1 hz0 hz1 HCL B0x14 B1x14 B2x14 B3x14 B4x14 B5x14 B6x14 B7x14 B8x14 B9x14 B10x14 B11x14 B12x14 B13x14 B14x14 B15x14 B16x14 B17x14 B18x14 B19x14 c0a c0b f0a f0b l0 m0 M0 N1 L1 c1a c1b f1a f1b l1 m1 M1 c10a c10b f10a f10b l10 m10 M10 K14 U1 U2 U3
  go_wp2
  go_ret
  refine ⟨?_, Keep.bel UK.out⟩
  exact congrArg (fun b : Bool => Ending.returned (.bool b)) HV.out

theorem fracSays_walk (w : World) (n1 d1 n2 d2 : Int) (_h1 : I64 n1 ∧ I64 d1) (_h2 : I64 n2 ∧ I64 d2) :
    Calls Try.prog 8 #[.agg #[.int .i64 n1, .int .i64 d1], .agg #[.int .i64 n2, .int .i64 d2]] w fun e w' => e = .returned (.bool true) ∧ Below w.heap.size w w' := by
  by_cases h1 : FracOK n1 d1
  · by_cases h2 : FracOK n2 d2
    · exact fracSays_C w n1 d1 n2 d2 h1 h2
    · exact fracSays_B w n1 d1 n2 d2 h1 h2
  · exact fracSays_A w n1 d1 n2 d2 h1

end Go.Proofs.Ytnmklgigmmlgeaa
