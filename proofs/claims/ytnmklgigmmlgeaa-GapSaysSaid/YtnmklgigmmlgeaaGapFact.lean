/- umpiragelaw5.gapFact: two closed systems of gaps. -/
import Derived.Test.YtnmklgigmmlgeaaSameInts
import Derived.Test.YtnmklgigmmlgeaaGapDo
namespace Go.Proofs.Ytnmklgigmmlgeaa
open Go.ChangeShapes Go.WideShapes Go.RowKit
set_option linter.unusedVariables false
set_option linter.unusedSimpArgs false

theorem Blk.gap2 {w : World} {b : Nat} {x y z x' y' z' : Int} (h : Blk w b #[.int .i64 x, .int .i64 y, .int .i64 z, .int .i64 x', .int .i64 y', .int .i64 z']) (hx : I64 x ∧ I64 y ∧ I64 z) (hx' : I64 x' ∧ I64 y' ∧ I64 z') :
    IsGaps w (.slice (some ⟨b, 0, none⟩) 2 2) [⟨x, y, z⟩, ⟨x', y', z'⟩] := by
  refine ⟨_, 2, rfl, by simp [maxLen], by simpa using ⟨hx, hx'⟩, fun _ => ⟨b, 0, rfl, h.lt, fun i g hg => ?_⟩⟩
  rcases i with _ | _ | i
  · simp at hg
    subst hg
    exact ⟨by simpa using h.cell 0, by simpa using h.cell 1, by simpa using h.cell 2⟩
  · simp at hg
    subst hg
    exact ⟨by simpa using h.cell 3, by simpa using h.cell 4, by simpa using h.cell 5⟩
  · simp at hg
theorem Blk.int2 {w : World} {b : Nat} {x y : Int} (h : Blk w b #[.int .i64 x, .int .i64 y]) (hx : I64 x ∧ I64 y) : IsInts w (.slice (some ⟨b, 0, none⟩) 2 2) [x, y] := by
  refine ⟨_, 2, rfl, by simp [maxLen], by simpa using hx, fun _ => ⟨b, 0, rfl, h.lt, fun i g hg => ?_⟩⟩
  rcases i with _ | _ | i
  · simp at hg
    subst hg
    simpa using h.cell 0
  · simp at hg
    subst hg
    simpa using h.cell 1
  · simp at hg

theorem IsInts.form {w : World} {v : Value} {l : List Int} (h : IsInts w v l) {n : Nat} (hn : n = l.length) : ∃ oa cap, v = .slice oa n cap := by
  obtain ⟨oa, cap, rfl, _⟩ := h
  exact ⟨oa, cap, by rw [hn]⟩

def fact1 : List Gp := [⟨0, 1, -3⟩]
def fact2 : List Gp := [⟨0, 1, -3⟩, ⟨1, 0, 2⟩]

theorem fact_do1 {w' : World} {v : Value} (h : DoRes 2 fact1 w' v) : ∃ oa cap, IsInts w' (.slice oa 2 cap) [-3, 0] ∧ v = .tuple #[.slice oa 2 cap, .slice none 0 0, .agg #[.int .i64 0, .int .i64 0]] := by
  rcases h with ⟨c, a, e, hc, _⟩ | ⟨_, N, hN, h⟩
  · have h0 : gapsW 2 fact1 = (0, 0) := by decide
    rw [h0] at e
    exact absurd (congrArg Prod.fst e).symm hc
  · obtain rfl : N = 2 := by omega
    rcases h with ⟨t, ht, hneg, vv, hv, rfl⟩ | ⟨hall, _⟩
    · have hvals : (rnds 2 fact1 (t + 1)).vals = [-3, 0] := by
        have h3 : t = 0 ∨ t = 1 ∨ t = 2 := by omega
        rcases h3 with rfl | rfl | rfl
        · exact absurd hneg (by decide)
        · decide
        · decide
      rw [hvals] at hv
      obtain ⟨oa, cap, rfl⟩ := hv.form (n := 2) rfl
      exact ⟨oa, cap, hv, rfl⟩
    · exact absurd (hall 1 (by omega)) (by decide)

theorem fact_do2 {w' : World} {v : Value} (h : DoRes 2 fact2 w' v) : ∃ oa cap, v = .tuple #[.slice none 0 0, .slice oa 2 cap, .agg #[.int .i64 0, .int .i64 0]] := by
  rcases h with ⟨c, a, e, hc, _⟩ | ⟨_, N, hN, h⟩
  · have h0 : gapsW 2 fact2 = (0, 0) := by decide
    rw [h0] at e
    exact absurd (congrArg Prod.fst e).symm hc
  · obtain rfl : N = 2 := by omega
    rcases h with ⟨t, ht, hneg, vv, hv, rfl⟩ | ⟨hall, vr, hc, rfl⟩
    · have h3 : t = 0 ∨ t = 1 ∨ t = 2 := by omega
      rcases h3 with rfl | rfl | rfl <;> exact absurd hneg (by decide)
    · rcases hc with ⟨⟨j, hj, hn⟩, _⟩ | ⟨_, p, p0, p2, pc, _, _, hv⟩
      · have h3 : j = 0 ∨ j = 1 := by omega
        rcases h3 with rfl | rfl <;> exact absurd hn (by decide)
      · have h3 : p = 1 ∨ p = 2 := by omega
        rcases h3 with rfl | rfl
        · exact absurd pc (by decide)
        · obtain ⟨oa, cap, rfl⟩ := hv.form (n := 2) (by rw [List.length_reverse, backs_len])
          exact ⟨oa, cap, rfl⟩

set_option maxRecDepth 100000 in
set_option maxHeartbeats 16000000 in
theorem gapFact_any (w : World) : Calls Try.prog 22 #[] w fun e w' => e = .returned (.bool true) ∧ Keep NoS w w' := by
  go_enter Try.func22, Try.ntmps22
  go_wp2_with fail
  refine (do_any _ 2 _ fact1 (Blk.gap1 (by (repeat (first | (with_reducible assumption) | (refine blk_at _ _ ?_; simp; done) | (refine Blk.old ?_ _)))) (by unfold I64; omega))).mono ?_
  rintro e w1 ⟨v1, rfl, hk1, hd1⟩
  have K1 : Keep NoS w w1 := Keep.trans (by (repeat' (first | (with_reducible assumption) | (with_reducible exact HK.out) | (with_reducible exact Keep.refl _ _) | (with_reducible refine Keep.alloc ?_ _) | (with_reducible refine Keep.setCell ?_ _ (fun h => absurd h (by omega))) | (with_reducible refine Keep.drewN ?_ _) | (with_reducible refine Keep.drew ?_)))) hk1 fun _ _ _ h => h
  obtain ⟨oa, cap, hi1, rfl⟩ := fact_do1 hd1
  have HI1 := Lib.hid hi1
  clear hk1 hd1 hi1
  go_wp2_with fail
  refine (do_any _ 2 _ fact2 (Blk.gap2 (by (repeat (first | (with_reducible assumption) | (refine blk_at _ _ ?_; simp; done) | (refine Blk.old ?_ _)))) (by unfold I64; omega) (by unfold I64; omega))).mono ?_
  rintro e w2 ⟨v2, rfl, hk2, hd2⟩
  have K2 : Keep NoS w w2 := Keep.trans (by (repeat' (first | (with_reducible assumption) | (with_reducible exact HK.out) | (with_reducible exact Keep.refl _ _) | (with_reducible refine Keep.alloc ?_ _) | (with_reducible refine Keep.setCell ?_ _ (fun h => absurd h (by omega))) | (with_reducible refine Keep.drewN ?_ _) | (with_reducible refine Keep.drew ?_)))) hk2 fun _ _ _ h => h
  have B2 : Blk w2 w1.heap.size #[.int .i64 0, .int .i64 0] := Blk.keep (by (repeat (first | (with_reducible assumption) | (refine blk_at _ _ ?_; simp; done) | (refine Blk.old ?_ _)))) hk2
  have I2 := HI1.out.keep (Keep.trans (by (repeat' (first | (with_reducible assumption) | (with_reducible exact HK.out) | (with_reducible exact Keep.refl _ _) | (with_reducible refine Keep.alloc ?_ _) | (with_reducible refine Keep.setCell ?_ _ (fun h => absurd h (by omega))) | (with_reducible refine Keep.drewN ?_ _) | (with_reducible refine Keep.drew ?_)))) hk2 fun _ _ _ h => h)
  obtain ⟨oa2, cap2, rfl⟩ := fact_do2 hd2
  have hl2 := B2.lt
  have HB2 := Lib.hid B2
  have HI2 := Lib.hid I2
  obtain ⟨c0, c1, f0, f1, l0⟩ := B2.two
  have m0 : ¬ w2.heap.size = w1.heap.size := by omega
  clear hk2 hd2 B2 I2 K1 HI1
  go_wp2_with fail
  refine (sameInts_any _ _ [-3, 0] _ [-3, 0] (HI2.out.keep (by (repeat' (first | (with_reducible assumption) | (with_reducible exact HK.out) | (with_reducible exact Keep.refl _ _) | (with_reducible refine Keep.alloc ?_ _) | (with_reducible refine Keep.setCell ?_ _ (fun h => absurd h (by omega))) | (with_reducible refine Keep.drewN ?_ _) | (with_reducible refine Keep.drew ?_))))) (Blk.int2 (by (repeat (first | (with_reducible assumption) | (refine blk_at _ _ ?_; simp; done) | (refine Blk.old ?_ _)))) (by unfold I64; omega))).mono ?_
  rintro e w3 ⟨rfl, hk3⟩
  have K3 : Keep NoS w w3 := Keep.trans (by (repeat' (first | (with_reducible assumption) | (with_reducible exact HK.out) | (with_reducible exact Keep.refl _ _) | (with_reducible refine Keep.alloc ?_ _) | (with_reducible refine Keep.setCell ?_ _ (fun h => absurd h (by omega))) | (with_reducible refine Keep.drewN ?_ _) | (with_reducible refine Keep.drew ?_)))) hk3 fun _ _ _ h => h
  clear hk3
  rw [show decide (([-3, 0] : List Int) = [-3, 0]) = true from by decide]
  go_wp2
  go_ret
  exact ⟨rfl, K3⟩
end Go.Proofs.Ytnmklgigmmlgeaa
