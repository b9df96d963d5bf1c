/- The closed fact of the laws on fractions; and the operations as Lean's own fractions. -/
import Derived.Test.YtnmklgigmmlgeaaFracApply
import Derived.Test.YtnmklgigmmlgeaaFracLess
import Derived.Test.YtnmklgigmmlgeaaFracMakesW
namespace Go.Proofs.Ytnmklgigmmlgeaa
open Go.ChangeShapes Go.WideShapes Go.RowKit
set_option linter.unusedVariables false
set_option linter.unusedSimpArgs false

theorem fact_add : opV 1 2 1 3 (1 * 3 + 1 * 2) (2 * 3) = .tuple #[.agg #[.int .i64 5, .int .i64 6], .agg #[.int .i64 0, .int .i64 0]] := by kernel_rfl
theorem fact_floor : floorV (-7) 2 = .tuple #[.int .i64 (-4), .agg #[.int .i64 0, .int .i64 0]] := by kernel_rfl
theorem fact_less : lessV 1 3 1 2 = .tuple #[.bool true, .agg #[.int .i64 0, .int .i64 0]] := by kernel_rfl

set_option maxRecDepth 100000 in
set_option maxHeartbeats 16000000 in
theorem fracFact_any (w : World) : Calls Try.prog 25 #[] w fun e w' => e = .returned (.bool true) ∧ Keep NoS w w' := by
  go_enter Try.func25, Try.ntmps25
  go_wp2_with fail
  refine (op_Add 1 2 1 3 _).mono ?_
  rintro e w1 ⟨rfl, hk1⟩
  rw [fact_add]
  go_wp2_with fail
  refine (floor_any (-7) 2 _).mono ?_
  rintro e w2 ⟨rfl, hk2⟩
  have K2 : Keep NoS w w2 := Keep.trans (by (repeat' (first | (with_reducible assumption) | (with_reducible exact HK.out) | (with_reducible exact Keep.refl _ _) | (with_reducible refine Keep.alloc ?_ _) | (with_reducible refine Keep.setCell ?_ _ (fun h => absurd h (by omega))) | (with_reducible refine Keep.drewN ?_ _) | (with_reducible refine Keep.drew ?_)))) hk2 fun _ _ _ h => h
  have A1 : Blk w2 w1.heap.size #[.int .i64 5, .int .i64 6] := Blk.keep (by (repeat (first | (with_reducible assumption) | (refine blk_at _ _ ?_; simp; done) | (refine Blk.old ?_ _)))) hk2
  have A2 : Blk w2 (w1.heap.size + 1) #[.int .i64 0, .int .i64 0] := Blk.keep (by (repeat (first | (with_reducible assumption) | (refine blk_at _ _ ?_; simp; done) | (refine Blk.old ?_ _)))) hk2
  clear hk1 hk2
  rw [fact_floor]
  go_wp2_with fail
  refine (less_any 1 3 1 2 _).mono ?_
  rintro e w3 ⟨rfl, hk3⟩
  have HK := Lib.hid (show Keep NoS w w3 from Keep.trans (by (repeat' (first | (with_reducible assumption) | (with_reducible exact HK.out) | (with_reducible exact Keep.refl _ _) | (with_reducible refine Keep.alloc ?_ _) | (with_reducible refine Keep.setCell ?_ _ (fun h => absurd h (by omega))) | (with_reducible refine Keep.drewN ?_ _) | (with_reducible refine Keep.drew ?_)))) hk3 fun _ _ _ h => h)
  have B1 : Blk w3 w1.heap.size #[.int .i64 5, .int .i64 6] := Blk.keep (by (repeat (first | (with_reducible assumption) | (refine blk_at _ _ ?_; simp; done) | (refine Blk.old ?_ _)))) hk3
  have B2 : Blk w3 (w1.heap.size + 1) #[.int .i64 0, .int .i64 0] := Blk.keep (by (repeat (first | (with_reducible assumption) | (refine blk_at _ _ ?_; simp; done) | (refine Blk.old ?_ _)))) hk3
  have B3 : Blk w3 w2.heap.size #[.int .i64 0, .int .i64 0] := Blk.keep (by (repeat (first | (with_reducible assumption) | (refine blk_at _ _ ?_; simp; done) | (refine Blk.old ?_ _)))) hk3
  obtain ⟨c10, c11, _, _, l1⟩ := B1.two
  obtain ⟨c20, c21, _, _, l2⟩ := B2.two
  obtain ⟨c30, c31, _, _, l3⟩ := B3.two
  clear A1 A2 B1 B2 B3 K2 hk3
  have m1 : ¬ w3.heap.size = w1.heap.size := by omega
  have m2 : ¬ w3.heap.size = w1.heap.size + 1 := by omega
  have m3 : ¬ w3.heap.size = w2.heap.size := by omega
  rw [fact_less]
  go_wp2
  go_returns
  exact ⟨rfl, by (repeat' (first | (with_reducible assumption) | (with_reducible exact HK.out) | (with_reducible exact Keep.refl _ _) | (with_reducible refine Keep.alloc ?_ _) | (with_reducible refine Keep.setCell ?_ _ (fun h => absurd h (by omega))) | (with_reducible refine Keep.drewN ?_ _) | (with_reducible refine Keep.drew ?_)))⟩

end Go.Proofs.Ytnmklgigmmlgeaa
