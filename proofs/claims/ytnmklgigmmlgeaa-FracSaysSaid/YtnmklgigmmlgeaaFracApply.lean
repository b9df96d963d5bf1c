/- Contracts of frac.apply at its four operations. -/
import Derived.Test.YtnmklgigmmlgeaaFracOps
namespace Go.Proofs.Ytnmklgigmmlgeaa
open Go.ChangeShapes Go.WideShapes Go.RowKit
set_option linter.unusedVariables false
set_option linter.unusedSimpArgs false

set_option maxRecDepth 100000 in
set_option maxHeartbeats 16000000 in
theorem apply_Add (n1 d1 n2 d2 : Int) (w : World) :
    Calls Try.prog 52 #[.agg #[.int .i64 n1, .int .i64 d1], .agg #[.int .i64 n2, .int .i64 d2], .func (.func 53) #[] #[]] w fun e w' => e = .returned (opV n1 d1 n2 d2 (n1 * d2 + n2 * d1) (d1 * d2)) ∧ Keep NoS w w' := by
  by_cases hk : FracOK n1 d1 ∧ FracOK n2 d2
  · obtain ⟨hc, ha⟩ := ck_ok hk.1 hk.2
    have HV : Hid (faultV (ckC n1 d1 n2 d2) (ckA n1 d1 n2 d2) = .agg #[.int .i64 0, .int .i64 0]) := Lib.hid (by rw [hc, ha]; rfl)
    obtain ⟨mN, mD, mC, hm⟩ : ∃ N D C, makeV (n1 * d2 + n2 * d1) (d1 * d2) = .tuple #[.agg #[.int .i64 N, .int .i64 D], .agg #[.int .i64 C, .int .i64 0]] := ⟨_, _, _, rfl⟩
    have HE : Hid (opV n1 d1 n2 d2 (n1 * d2 + n2 * d1) (d1 * d2) = .tuple #[.agg #[.int .i64 mN, .int .i64 mD], .agg #[.int .i64 mC, .int .i64 0]]) := Lib.hid (by unfold opV; rw [if_pos hc, hm])
    have HM := Lib.hid hm
    have HK0 := Lib.hid hk
    have HBd := Lib.hid (Add_bd n1 d1 n2 d2 hk.1 hk.2)
    clear hk hc ha hm
    go_enter Try.func52, Try.ntmps52
    go_wp2_with fail
    have k0 : Keep NoS w (((((w.alloc (.cells #[.int .i64 n1, .int .i64 d1] 23)).alloc (.cells #[.int .i64 n2, .int .i64 d2] 23)).alloc (.cells #[.int .i64 0, .int .i64 0] 23)).alloc (.cells #[.int .i64 0, .int .i64 0] 25)).alloc (.cells #[.int .i64 n1, .int .i64 d1, .int .i64 n2, .int .i64 d2] 23)) := by (repeat' (first | (with_reducible assumption) | (with_reducible exact HK.out) | (with_reducible exact Keep.refl _ _) | (with_reducible refine Keep.alloc ?_ _) | (with_reducible refine Keep.setCell ?_ _ (fun h => absurd h (by omega))) | (with_reducible refine Keep.drewN ?_ _) | (with_reducible refine Keep.drew ?_)))
    refine (checked_two _ (w.heap.size + 1 + 1 + 1 + 1) n1 d1 n2 d2 (by simp [go_sem]) (by simp [go_sem]) (by simp [go_sem]) (by simp [go_sem])).mono ?_
    rintro e w1 ⟨rfl, hk1⟩
    have B0 := (show Blk _ w.heap.size #[.int .i64 n1, .int .i64 d1] by (repeat (first | (refine blk_at _ _ ?_; simp; done) | (refine Blk.old ?_ _)))).keep hk1
    have B1 := (show Blk _ (w.heap.size + 1) #[.int .i64 n2, .int .i64 d2] by (repeat (first | (refine blk_at _ _ ?_; simp; done) | (refine Blk.old ?_ _)))).keep hk1
    have B2 := (show Blk _ (w.heap.size + 1 + 1) #[.int .i64 0, .int .i64 0] by (repeat (first | (refine blk_at _ _ ?_; simp; done) | (refine Blk.old ?_ _)))).keep hk1
    have B3 := (show Blk _ (w.heap.size + 1 + 1 + 1) #[.int .i64 0, .int .i64 0] by (repeat (first | (refine blk_at _ _ ?_; simp; done) | (refine Blk.old ?_ _)))).keep hk1
    have hs' : w.heap.size + 5 ≤ w1.heap.size := by have := hk1.size; simpa using this
    have HK := Lib.hid (k0.trans hk1 fun _ _ _ h => h)
    obtain ⟨a0, a1, _, _, _⟩ := B0.two
    obtain ⟨b0, b1, _, _, _⟩ := B1.two
    obtain ⟨r0, r1, r2, r3, _⟩ := B2.two
    obtain ⟨s0, s1, s2, s3, _⟩ := B3.two
    have HB2 := Lib.hid B2
    have HB3 := Lib.hid B3
    have m0 : ¬ w1.heap.size = w.heap.size := by omega
    have m1 : ¬ w1.heap.size = w.heap.size + 1 := by omega
    have m2 : ¬ w1.heap.size = w.heap.size + 1 + 1 := by omega
    have m3 : ¬ w1.heap.size = w.heap.size + 1 + 1 + 1 := by omega
    have l0 : w.heap.size < w1.heap.size := by omega
    have l1 : w.heap.size + 1 < w1.heap.size := by omega
    have l2 : w.heap.size + 1 + 1 < w1.heap.size := by omega
    have l3 : w.heap.size + 1 + 1 + 1 < w1.heap.size := by omega
    clear B0 B1 B2 B3 hk1 k0
    rw [HV.out]
    go_wp2_with fail
    refine (Add_do n1 d1 n2 d2 HK0.out.1 HK0.out.2 _).mono ?_
    rintro e w2 ⟨rfl, hk2⟩
    have k2 : Keep NoS w1 w2 := ((Keep.refl NoS w1).alloc _).trans hk2 fun _ _ _ h => h
    have HK2 := Lib.hid (HK.out.trans k2 fun _ _ _ h => h)
    have Hl2 := Lib.hid k2.size
    have HB2' := Lib.hid (HB2.out.keep k2)
    have HB3' := Lib.hid (HB3.out.keep k2)
    clear hk2 k2 a0 a1 b0 b1 r0 r1 r2 r3 s0 s1 s2 s3 m0 m1 m2 m3
    go_wp2_with fail
    refine (make_any _ _ _ HBd.out.1.1 HBd.out.1.2 HBd.out.2.1 HBd.out.2.2).mono ?_
    rintro e w3 ⟨rfl, hb3⟩
    have k3 := Below.keep hb3
    have HK := Lib.hid (HK2.out.trans k3 fun _ _ _ h => h)
    obtain ⟨r0, r1, r2, r3, _⟩ := (HB2'.out.keep k3).two
    obtain ⟨s0, s1, s2, s3, _⟩ := (HB3'.out.keep k3).two
    clear hb3 k3
    rw [HM.out]
    go_wp2
    rw [HE.out]
    refine bodyPost_ret (by simp [results, Try.results52, go_sem, r0, r1, s0, s1]; rfl) rfl ?_
    exact ⟨rfl, by (repeat' (first | (with_reducible assumption) | (with_reducible exact HK.out) | (with_reducible exact Keep.refl _ _) | (with_reducible refine Keep.alloc ?_ _) | (with_reducible refine Keep.setCell ?_ _ (fun h => absurd h (by omega))) | (with_reducible refine Keep.drewN ?_ _) | (with_reducible refine Keep.drew ?_)))⟩
  · have hc := ck_no hk
    have HE : Hid (opV n1 d1 n2 d2 (n1 * d2 + n2 * d1) (d1 * d2) = .tuple #[.agg #[.int .i64 0, .int .i64 0], .agg #[.int .i64 3, .int .i64 (ckA n1 d1 n2 d2)]]) := Lib.hid (by unfold opV; rw [if_neg (by rw [hc]; omega), hc]; rfl)
    have HV : Hid (faultV (ckC n1 d1 n2 d2) (ckA n1 d1 n2 d2) = .agg #[.int .i64 3, .int .i64 (ckA n1 d1 n2 d2)]) := Lib.hid (by rw [hc]; rfl)
    clear hk hc
    go_enter Try.func52, Try.ntmps52
    go_wp2_with fail
    have k0 : Keep NoS w (((((w.alloc (.cells #[.int .i64 n1, .int .i64 d1] 23)).alloc (.cells #[.int .i64 n2, .int .i64 d2] 23)).alloc (.cells #[.int .i64 0, .int .i64 0] 23)).alloc (.cells #[.int .i64 0, .int .i64 0] 25)).alloc (.cells #[.int .i64 n1, .int .i64 d1, .int .i64 n2, .int .i64 d2] 23)) := by (repeat' (first | (with_reducible assumption) | (with_reducible exact HK.out) | (with_reducible exact Keep.refl _ _) | (with_reducible refine Keep.alloc ?_ _) | (with_reducible refine Keep.setCell ?_ _ (fun h => absurd h (by omega))) | (with_reducible refine Keep.drewN ?_ _) | (with_reducible refine Keep.drew ?_)))
    refine (checked_two _ (w.heap.size + 1 + 1 + 1 + 1) n1 d1 n2 d2 (by simp [go_sem]) (by simp [go_sem]) (by simp [go_sem]) (by simp [go_sem])).mono ?_
    rintro e w1 ⟨rfl, hk1⟩
    have B0 := (show Blk _ w.heap.size #[.int .i64 n1, .int .i64 d1] by (repeat (first | (refine blk_at _ _ ?_; simp; done) | (refine Blk.old ?_ _)))).keep hk1
    have B1 := (show Blk _ (w.heap.size + 1) #[.int .i64 n2, .int .i64 d2] by (repeat (first | (refine blk_at _ _ ?_; simp; done) | (refine Blk.old ?_ _)))).keep hk1
    have B2 := (show Blk _ (w.heap.size + 1 + 1) #[.int .i64 0, .int .i64 0] by (repeat (first | (refine blk_at _ _ ?_; simp; done) | (refine Blk.old ?_ _)))).keep hk1
    have B3 := (show Blk _ (w.heap.size + 1 + 1 + 1) #[.int .i64 0, .int .i64 0] by (repeat (first | (refine blk_at _ _ ?_; simp; done) | (refine Blk.old ?_ _)))).keep hk1
    have hs' : w.heap.size + 5 ≤ w1.heap.size := by have := hk1.size; simpa using this
    have HK := Lib.hid (k0.trans hk1 fun _ _ _ h => h)
    obtain ⟨a0, a1, _, _, _⟩ := B0.two
    obtain ⟨b0, b1, _, _, _⟩ := B1.two
    obtain ⟨r0, r1, r2, r3, _⟩ := B2.two
    obtain ⟨s0, s1, s2, s3, _⟩ := B3.two
    have HB2 := Lib.hid B2
    have HB3 := Lib.hid B3
    have m0 : ¬ w1.heap.size = w.heap.size := by omega
    have m1 : ¬ w1.heap.size = w.heap.size + 1 := by omega
    have m2 : ¬ w1.heap.size = w.heap.size + 1 + 1 := by omega
    have m3 : ¬ w1.heap.size = w.heap.size + 1 + 1 + 1 := by omega
    have l0 : w.heap.size < w1.heap.size := by omega
    have l1 : w.heap.size + 1 < w1.heap.size := by omega
    have l2 : w.heap.size + 1 + 1 < w1.heap.size := by omega
    have l3 : w.heap.size + 1 + 1 + 1 < w1.heap.size := by omega
    clear B0 B1 B2 B3 hk1 k0
    rw [HV.out]
    go_wp2_with fail
    go_region
    go_wp2
    rw [HE.out]
    refine bodyPost_ret (by simp [results, Try.results52, go_sem, r0, r1, s0, s1, l0, l1, l2, l3, m0, m1, m2, m3]; rfl) rfl ?_
    exact ⟨rfl, by (repeat' (first | (with_reducible assumption) | (with_reducible exact HK.out) | (with_reducible exact Keep.refl _ _) | (with_reducible refine Keep.alloc ?_ _) | (with_reducible refine Keep.setCell ?_ _ (fun h => absurd h (by omega))) | (with_reducible refine Keep.drewN ?_ _) | (with_reducible refine Keep.drew ?_)))⟩

set_option maxRecDepth 100000 in
set_option maxHeartbeats 16000000 in
theorem op_Add (n1 d1 n2 d2 : Int) (w : World) :
    Calls Try.prog 28 #[.agg #[.int .i64 n1, .int .i64 d1], .agg #[.int .i64 n2, .int .i64 d2]] w fun e w' => e = .returned (opV n1 d1 n2 d2 (n1 * d2 + n2 * d1) (d1 * d2)) ∧ Keep NoS w w' := by
  obtain ⟨mN, mD, mC, mA, hm⟩ : ∃ N D C A, opV n1 d1 n2 d2 (n1 * d2 + n2 * d1) (d1 * d2) = .tuple #[.agg #[.int .i64 N, .int .i64 D], .agg #[.int .i64 C, .int .i64 A]] := by
    unfold opV; split
    · exact ⟨_, _, _, _, rfl⟩
    · exact ⟨_, _, _, _, rfl⟩
  have HM := Lib.hid hm
  clear hm
  go_enter Try.func28, Try.ntmps28
  go_wp2_with fail
  have k0 : Keep NoS w ((((w.alloc (.cells #[.int .i64 n1, .int .i64 d1] 23)).alloc (.cells #[.int .i64 n2, .int .i64 d2] 23)).alloc (.cells #[.int .i64 0, .int .i64 0] 23)).alloc (.cells #[.int .i64 0, .int .i64 0] 25)) := by (repeat' (first | (with_reducible assumption) | (with_reducible exact HK.out) | (with_reducible exact Keep.refl _ _) | (with_reducible refine Keep.alloc ?_ _) | (with_reducible refine Keep.setCell ?_ _ (fun h => absurd h (by omega))) | (with_reducible refine Keep.drewN ?_ _) | (with_reducible refine Keep.drew ?_)))
  refine (apply_Add n1 d1 n2 d2 _).mono ?_
  rintro e w1 ⟨rfl, hk1⟩
  have B2 := (show Blk _ (w.heap.size + 1 + 1) #[.int .i64 0, .int .i64 0] by (repeat (first | (refine blk_at _ _ ?_; simp; done) | (refine Blk.old ?_ _)))).keep hk1
  have B3 := (show Blk _ (w.heap.size + 1 + 1 + 1) #[.int .i64 0, .int .i64 0] by (repeat (first | (refine blk_at _ _ ?_; simp; done) | (refine Blk.old ?_ _)))).keep hk1
  obtain ⟨r0, r1, r2, r3, _⟩ := B2.two
  obtain ⟨s0, s1, s2, s3, _⟩ := B3.two
  have HK := Lib.hid (k0.trans hk1 fun _ _ _ h => h)
  clear B2 B3 hk1 k0
  rw [HM.out]
  go_wp2
  rw [HM.out]
  refine bodyPost_ret (by simp [results, Try.results28, go_sem, r0, r1, s0, s1]; rfl) rfl ?_
  exact ⟨rfl, by (repeat' (first | (with_reducible assumption) | (with_reducible exact HK.out) | (with_reducible exact Keep.refl _ _) | (with_reducible refine Keep.alloc ?_ _) | (with_reducible refine Keep.setCell ?_ _ (fun h => absurd h (by omega))) | (with_reducible refine Keep.drewN ?_ _) | (with_reducible refine Keep.drew ?_)))⟩

set_option maxRecDepth 100000 in
set_option maxHeartbeats 16000000 in
theorem apply_Sub (n1 d1 n2 d2 : Int) (w : World) :
    Calls Try.prog 52 #[.agg #[.int .i64 n1, .int .i64 d1], .agg #[.int .i64 n2, .int .i64 d2], .func (.func 55) #[] #[]] w fun e w' => e = .returned (opV n1 d1 n2 d2 (n1 * d2 - n2 * d1) (d1 * d2)) ∧ Keep NoS w w' := by
  by_cases hk : FracOK n1 d1 ∧ FracOK n2 d2
  · obtain ⟨hc, ha⟩ := ck_ok hk.1 hk.2
    have HV : Hid (faultV (ckC n1 d1 n2 d2) (ckA n1 d1 n2 d2) = .agg #[.int .i64 0, .int .i64 0]) := Lib.hid (by rw [hc, ha]; rfl)
    obtain ⟨mN, mD, mC, hm⟩ : ∃ N D C, makeV (n1 * d2 - n2 * d1) (d1 * d2) = .tuple #[.agg #[.int .i64 N, .int .i64 D], .agg #[.int .i64 C, .int .i64 0]] := ⟨_, _, _, rfl⟩
    have HE : Hid (opV n1 d1 n2 d2 (n1 * d2 - n2 * d1) (d1 * d2) = .tuple #[.agg #[.int .i64 mN, .int .i64 mD], .agg #[.int .i64 mC, .int .i64 0]]) := Lib.hid (by unfold opV; rw [if_pos hc, hm])
    have HM := Lib.hid hm
    have HK0 := Lib.hid hk
    have HBd := Lib.hid (Sub_bd n1 d1 n2 d2 hk.1 hk.2)
    clear hk hc ha hm
    go_enter Try.func52, Try.ntmps52
    go_wp2_with fail
    have k0 : Keep NoS w (((((w.alloc (.cells #[.int .i64 n1, .int .i64 d1] 23)).alloc (.cells #[.int .i64 n2, .int .i64 d2] 23)).alloc (.cells #[.int .i64 0, .int .i64 0] 23)).alloc (.cells #[.int .i64 0, .int .i64 0] 25)).alloc (.cells #[.int .i64 n1, .int .i64 d1, .int .i64 n2, .int .i64 d2] 23)) := by (repeat' (first | (with_reducible assumption) | (with_reducible exact HK.out) | (with_reducible exact Keep.refl _ _) | (with_reducible refine Keep.alloc ?_ _) | (with_reducible refine Keep.setCell ?_ _ (fun h => absurd h (by omega))) | (with_reducible refine Keep.drewN ?_ _) | (with_reducible refine Keep.drew ?_)))
    refine (checked_two _ (w.heap.size + 1 + 1 + 1 + 1) n1 d1 n2 d2 (by simp [go_sem]) (by simp [go_sem]) (by simp [go_sem]) (by simp [go_sem])).mono ?_
    rintro e w1 ⟨rfl, hk1⟩
    have B0 := (show Blk _ w.heap.size #[.int .i64 n1, .int .i64 d1] by (repeat (first | (refine blk_at _ _ ?_; simp; done) | (refine Blk.old ?_ _)))).keep hk1
    have B1 := (show Blk _ (w.heap.size + 1) #[.int .i64 n2, .int .i64 d2] by (repeat (first | (refine blk_at _ _ ?_; simp; done) | (refine Blk.old ?_ _)))).keep hk1
    have B2 := (show Blk _ (w.heap.size + 1 + 1) #[.int .i64 0, .int .i64 0] by (repeat (first | (refine blk_at _ _ ?_; simp; done) | (refine Blk.old ?_ _)))).keep hk1
    have B3 := (show Blk _ (w.heap.size + 1 + 1 + 1) #[.int .i64 0, .int .i64 0] by (repeat (first | (refine blk_at _ _ ?_; simp; done) | (refine Blk.old ?_ _)))).keep hk1
    have hs' : w.heap.size + 5 ≤ w1.heap.size := by have := hk1.size; simpa using this
    have HK := Lib.hid (k0.trans hk1 fun _ _ _ h => h)
    obtain ⟨a0, a1, _, _, _⟩ := B0.two
    obtain ⟨b0, b1, _, _, _⟩ := B1.two
    obtain ⟨r0, r1, r2, r3, _⟩ := B2.two
    obtain ⟨s0, s1, s2, s3, _⟩ := B3.two
    have HB2 := Lib.hid B2
    have HB3 := Lib.hid B3
    have m0 : ¬ w1.heap.size = w.heap.size := by omega
    have m1 : ¬ w1.heap.size = w.heap.size + 1 := by omega
    have m2 : ¬ w1.heap.size = w.heap.size + 1 + 1 := by omega
    have m3 : ¬ w1.heap.size = w.heap.size + 1 + 1 + 1 := by omega
    have l0 : w.heap.size < w1.heap.size := by omega
    have l1 : w.heap.size + 1 < w1.heap.size := by omega
    have l2 : w.heap.size + 1 + 1 < w1.heap.size := by omega
    have l3 : w.heap.size + 1 + 1 + 1 < w1.heap.size := by omega
    clear B0 B1 B2 B3 hk1 k0
    rw [HV.out]
    go_wp2_with fail
    refine (Sub_do n1 d1 n2 d2 HK0.out.1 HK0.out.2 _).mono ?_
    rintro e w2 ⟨rfl, hk2⟩
    have k2 : Keep NoS w1 w2 := ((Keep.refl NoS w1).alloc _).trans hk2 fun _ _ _ h => h
    have HK2 := Lib.hid (HK.out.trans k2 fun _ _ _ h => h)
    have Hl2 := Lib.hid k2.size
    have HB2' := Lib.hid (HB2.out.keep k2)
    have HB3' := Lib.hid (HB3.out.keep k2)
    clear hk2 k2 a0 a1 b0 b1 r0 r1 r2 r3 s0 s1 s2 s3 m0 m1 m2 m3
    go_wp2_with fail
    refine (make_any _ _ _ HBd.out.1.1 HBd.out.1.2 HBd.out.2.1 HBd.out.2.2).mono ?_
    rintro e w3 ⟨rfl, hb3⟩
    have k3 := Below.keep hb3
    have HK := Lib.hid (HK2.out.trans k3 fun _ _ _ h => h)
    obtain ⟨r0, r1, r2, r3, _⟩ := (HB2'.out.keep k3).two
    obtain ⟨s0, s1, s2, s3, _⟩ := (HB3'.out.keep k3).two
    clear hb3 k3
    rw [HM.out]
    go_wp2
    rw [HE.out]
    refine bodyPost_ret (by simp [results, Try.results52, go_sem, r0, r1, s0, s1]; rfl) rfl ?_
    exact ⟨rfl, by (repeat' (first | (with_reducible assumption) | (with_reducible exact HK.out) | (with_reducible exact Keep.refl _ _) | (with_reducible refine Keep.alloc ?_ _) | (with_reducible refine Keep.setCell ?_ _ (fun h => absurd h (by omega))) | (with_reducible refine Keep.drewN ?_ _) | (with_reducible refine Keep.drew ?_)))⟩
  · have hc := ck_no hk
    have HE : Hid (opV n1 d1 n2 d2 (n1 * d2 - n2 * d1) (d1 * d2) = .tuple #[.agg #[.int .i64 0, .int .i64 0], .agg #[.int .i64 3, .int .i64 (ckA n1 d1 n2 d2)]]) := Lib.hid (by unfold opV; rw [if_neg (by rw [hc]; omega), hc]; rfl)
    have HV : Hid (faultV (ckC n1 d1 n2 d2) (ckA n1 d1 n2 d2) = .agg #[.int .i64 3, .int .i64 (ckA n1 d1 n2 d2)]) := Lib.hid (by rw [hc]; rfl)
    clear hk hc
    go_enter Try.func52, Try.ntmps52
    go_wp2_with fail
    have k0 : Keep NoS w (((((w.alloc (.cells #[.int .i64 n1, .int .i64 d1] 23)).alloc (.cells #[.int .i64 n2, .int .i64 d2] 23)).alloc (.cells #[.int .i64 0, .int .i64 0] 23)).alloc (.cells #[.int .i64 0, .int .i64 0] 25)).alloc (.cells #[.int .i64 n1, .int .i64 d1, .int .i64 n2, .int .i64 d2] 23)) := by (repeat' (first | (with_reducible assumption) | (with_reducible exact HK.out) | (with_reducible exact Keep.refl _ _) | (with_reducible refine Keep.alloc ?_ _) | (with_reducible refine Keep.setCell ?_ _ (fun h => absurd h (by omega))) | (with_reducible refine Keep.drewN ?_ _) | (with_reducible refine Keep.drew ?_)))
    refine (checked_two _ (w.heap.size + 1 + 1 + 1 + 1) n1 d1 n2 d2 (by simp [go_sem]) (by simp [go_sem]) (by simp [go_sem]) (by simp [go_sem])).mono ?_
    rintro e w1 ⟨rfl, hk1⟩
    have B0 := (show Blk _ w.heap.size #[.int .i64 n1, .int .i64 d1] by (repeat (first | (refine blk_at _ _ ?_; simp; done) | (refine Blk.old ?_ _)))).keep hk1
    have B1 := (show Blk _ (w.heap.size + 1) #[.int .i64 n2, .int .i64 d2] by (repeat (first | (refine blk_at _ _ ?_; simp; done) | (refine Blk.old ?_ _)))).keep hk1
    have B2 := (show Blk _ (w.heap.size + 1 + 1) #[.int .i64 0, .int .i64 0] by (repeat (first | (refine blk_at _ _ ?_; simp; done) | (refine Blk.old ?_ _)))).keep hk1
    have B3 := (show Blk _ (w.heap.size + 1 + 1 + 1) #[.int .i64 0, .int .i64 0] by (repeat (first | (refine blk_at _ _ ?_; simp; done) | (refine Blk.old ?_ _)))).keep hk1
    have hs' : w.heap.size + 5 ≤ w1.heap.size := by have := hk1.size; simpa using this
    have HK := Lib.hid (k0.trans hk1 fun _ _ _ h => h)
    obtain ⟨a0, a1, _, _, _⟩ := B0.two
    obtain ⟨b0, b1, _, _, _⟩ := B1.two
    obtain ⟨r0, r1, r2, r3, _⟩ := B2.two
    obtain ⟨s0, s1, s2, s3, _⟩ := B3.two
    have HB2 := Lib.hid B2
    have HB3 := Lib.hid B3
    have m0 : ¬ w1.heap.size = w.heap.size := by omega
    have m1 : ¬ w1.heap.size = w.heap.size + 1 := by omega
    have m2 : ¬ w1.heap.size = w.heap.size + 1 + 1 := by omega
    have m3 : ¬ w1.heap.size = w.heap.size + 1 + 1 + 1 := by omega
    have l0 : w.heap.size < w1.heap.size := by omega
    have l1 : w.heap.size + 1 < w1.heap.size := by omega
    have l2 : w.heap.size + 1 + 1 < w1.heap.size := by omega
    have l3 : w.heap.size + 1 + 1 + 1 < w1.heap.size := by omega
    clear B0 B1 B2 B3 hk1 k0
    rw [HV.out]
    go_wp2_with fail
    go_region
    go_wp2
    rw [HE.out]
    refine bodyPost_ret (by simp [results, Try.results52, go_sem, r0, r1, s0, s1, l0, l1, l2, l3, m0, m1, m2, m3]; rfl) rfl ?_
    exact ⟨rfl, by (repeat' (first | (with_reducible assumption) | (with_reducible exact HK.out) | (with_reducible exact Keep.refl _ _) | (with_reducible refine Keep.alloc ?_ _) | (with_reducible refine Keep.setCell ?_ _ (fun h => absurd h (by omega))) | (with_reducible refine Keep.drewN ?_ _) | (with_reducible refine Keep.drew ?_)))⟩

set_option maxRecDepth 100000 in
set_option maxHeartbeats 16000000 in
theorem op_Sub (n1 d1 n2 d2 : Int) (w : World) :
    Calls Try.prog 30 #[.agg #[.int .i64 n1, .int .i64 d1], .agg #[.int .i64 n2, .int .i64 d2]] w fun e w' => e = .returned (opV n1 d1 n2 d2 (n1 * d2 - n2 * d1) (d1 * d2)) ∧ Keep NoS w w' := by
  obtain ⟨mN, mD, mC, mA, hm⟩ : ∃ N D C A, opV n1 d1 n2 d2 (n1 * d2 - n2 * d1) (d1 * d2) = .tuple #[.agg #[.int .i64 N, .int .i64 D], .agg #[.int .i64 C, .int .i64 A]] := by
    unfold opV; split
    · exact ⟨_, _, _, _, rfl⟩
    · exact ⟨_, _, _, _, rfl⟩
  have HM := Lib.hid hm
  clear hm
  go_enter Try.func30, Try.ntmps30
  go_wp2_with fail
  have k0 : Keep NoS w ((((w.alloc (.cells #[.int .i64 n1, .int .i64 d1] 23)).alloc (.cells #[.int .i64 n2, .int .i64 d2] 23)).alloc (.cells #[.int .i64 0, .int .i64 0] 23)).alloc (.cells #[.int .i64 0, .int .i64 0] 25)) := by (repeat' (first | (with_reducible assumption) | (with_reducible exact HK.out) | (with_reducible exact Keep.refl _ _) | (with_reducible refine Keep.alloc ?_ _) | (with_reducible refine Keep.setCell ?_ _ (fun h => absurd h (by omega))) | (with_reducible refine Keep.drewN ?_ _) | (with_reducible refine Keep.drew ?_)))
  refine (apply_Sub n1 d1 n2 d2 _).mono ?_
  rintro e w1 ⟨rfl, hk1⟩
  have B2 := (show Blk _ (w.heap.size + 1 + 1) #[.int .i64 0, .int .i64 0] by (repeat (first | (refine blk_at _ _ ?_; simp; done) | (refine Blk.old ?_ _)))).keep hk1
  have B3 := (show Blk _ (w.heap.size + 1 + 1 + 1) #[.int .i64 0, .int .i64 0] by (repeat (first | (refine blk_at _ _ ?_; simp; done) | (refine Blk.old ?_ _)))).keep hk1
  obtain ⟨r0, r1, r2, r3, _⟩ := B2.two
  obtain ⟨s0, s1, s2, s3, _⟩ := B3.two
  have HK := Lib.hid (k0.trans hk1 fun _ _ _ h => h)
  clear B2 B3 hk1 k0
  rw [HM.out]
  go_wp2
  rw [HM.out]
  refine bodyPost_ret (by simp [results, Try.results30, go_sem, r0, r1, s0, s1]; rfl) rfl ?_
  exact ⟨rfl, by (repeat' (first | (with_reducible assumption) | (with_reducible exact HK.out) | (with_reducible exact Keep.refl _ _) | (with_reducible refine Keep.alloc ?_ _) | (with_reducible refine Keep.setCell ?_ _ (fun h => absurd h (by omega))) | (with_reducible refine Keep.drewN ?_ _) | (with_reducible refine Keep.drew ?_)))⟩

set_option maxRecDepth 100000 in
set_option maxHeartbeats 16000000 in
theorem apply_Times (n1 d1 n2 d2 : Int) (w : World) :
    Calls Try.prog 52 #[.agg #[.int .i64 n1, .int .i64 d1], .agg #[.int .i64 n2, .int .i64 d2], .func (.func 54) #[] #[]] w fun e w' => e = .returned (opV n1 d1 n2 d2 (n1 * n2) (d1 * d2)) ∧ Keep NoS w w' := by
  by_cases hk : FracOK n1 d1 ∧ FracOK n2 d2
  · obtain ⟨hc, ha⟩ := ck_ok hk.1 hk.2
    have HV : Hid (faultV (ckC n1 d1 n2 d2) (ckA n1 d1 n2 d2) = .agg #[.int .i64 0, .int .i64 0]) := Lib.hid (by rw [hc, ha]; rfl)
    obtain ⟨mN, mD, mC, hm⟩ : ∃ N D C, makeV (n1 * n2) (d1 * d2) = .tuple #[.agg #[.int .i64 N, .int .i64 D], .agg #[.int .i64 C, .int .i64 0]] := ⟨_, _, _, rfl⟩
    have HE : Hid (opV n1 d1 n2 d2 (n1 * n2) (d1 * d2) = .tuple #[.agg #[.int .i64 mN, .int .i64 mD], .agg #[.int .i64 mC, .int .i64 0]]) := Lib.hid (by unfold opV; rw [if_pos hc, hm])
    have HM := Lib.hid hm
    have HK0 := Lib.hid hk
    have HBd := Lib.hid (Times_bd n1 d1 n2 d2 hk.1 hk.2)
    clear hk hc ha hm
    go_enter Try.func52, Try.ntmps52
    go_wp2_with fail
    have k0 : Keep NoS w (((((w.alloc (.cells #[.int .i64 n1, .int .i64 d1] 23)).alloc (.cells #[.int .i64 n2, .int .i64 d2] 23)).alloc (.cells #[.int .i64 0, .int .i64 0] 23)).alloc (.cells #[.int .i64 0, .int .i64 0] 25)).alloc (.cells #[.int .i64 n1, .int .i64 d1, .int .i64 n2, .int .i64 d2] 23)) := by (repeat' (first | (with_reducible assumption) | (with_reducible exact HK.out) | (with_reducible exact Keep.refl _ _) | (with_reducible refine Keep.alloc ?_ _) | (with_reducible refine Keep.setCell ?_ _ (fun h => absurd h (by omega))) | (with_reducible refine Keep.drewN ?_ _) | (with_reducible refine Keep.drew ?_)))
    refine (checked_two _ (w.heap.size + 1 + 1 + 1 + 1) n1 d1 n2 d2 (by simp [go_sem]) (by simp [go_sem]) (by simp [go_sem]) (by simp [go_sem])).mono ?_
    rintro e w1 ⟨rfl, hk1⟩
    have B0 := (show Blk _ w.heap.size #[.int .i64 n1, .int .i64 d1] by (repeat (first | (refine blk_at _ _ ?_; simp; done) | (refine Blk.old ?_ _)))).keep hk1
    have B1 := (show Blk _ (w.heap.size + 1) #[.int .i64 n2, .int .i64 d2] by (repeat (first | (refine blk_at _ _ ?_; simp; done) | (refine Blk.old ?_ _)))).keep hk1
    have B2 := (show Blk _ (w.heap.size + 1 + 1) #[.int .i64 0, .int .i64 0] by (repeat (first | (refine blk_at _ _ ?_; simp; done) | (refine Blk.old ?_ _)))).keep hk1
    have B3 := (show Blk _ (w.heap.size + 1 + 1 + 1) #[.int .i64 0, .int .i64 0] by (repeat (first | (refine blk_at _ _ ?_; simp; done) | (refine Blk.old ?_ _)))).keep hk1
    have hs' : w.heap.size + 5 ≤ w1.heap.size := by have := hk1.size; simpa using this
    have HK := Lib.hid (k0.trans hk1 fun _ _ _ h => h)
    obtain ⟨a0, a1, _, _, _⟩ := B0.two
    obtain ⟨b0, b1, _, _, _⟩ := B1.two
    obtain ⟨r0, r1, r2, r3, _⟩ := B2.two
    obtain ⟨s0, s1, s2, s3, _⟩ := B3.two
    have HB2 := Lib.hid B2
    have HB3 := Lib.hid B3
    have m0 : ¬ w1.heap.size = w.heap.size := by omega
    have m1 : ¬ w1.heap.size = w.heap.size + 1 := by omega
    have m2 : ¬ w1.heap.size = w.heap.size + 1 + 1 := by omega
    have m3 : ¬ w1.heap.size = w.heap.size + 1 + 1 + 1 := by omega
    have l0 : w.heap.size < w1.heap.size := by omega
    have l1 : w.heap.size + 1 < w1.heap.size := by omega
    have l2 : w.heap.size + 1 + 1 < w1.heap.size := by omega
    have l3 : w.heap.size + 1 + 1 + 1 < w1.heap.size := by omega
    clear B0 B1 B2 B3 hk1 k0
    rw [HV.out]
    go_wp2_with fail
    refine (Times_do n1 d1 n2 d2 HK0.out.1 HK0.out.2 _).mono ?_
    rintro e w2 ⟨rfl, hk2⟩
    have k2 : Keep NoS w1 w2 := ((Keep.refl NoS w1).alloc _).trans hk2 fun _ _ _ h => h
    have HK2 := Lib.hid (HK.out.trans k2 fun _ _ _ h => h)
    have Hl2 := Lib.hid k2.size
    have HB2' := Lib.hid (HB2.out.keep k2)
    have HB3' := Lib.hid (HB3.out.keep k2)
    clear hk2 k2 a0 a1 b0 b1 r0 r1 r2 r3 s0 s1 s2 s3 m0 m1 m2 m3
    go_wp2_with fail
    refine (make_any _ _ _ HBd.out.1.1 HBd.out.1.2 HBd.out.2.1 HBd.out.2.2).mono ?_
    rintro e w3 ⟨rfl, hb3⟩
    have k3 := Below.keep hb3
    have HK := Lib.hid (HK2.out.trans k3 fun _ _ _ h => h)
    obtain ⟨r0, r1, r2, r3, _⟩ := (HB2'.out.keep k3).two
    obtain ⟨s0, s1, s2, s3, _⟩ := (HB3'.out.keep k3).two
    clear hb3 k3
    rw [HM.out]
    go_wp2
    rw [HE.out]
    refine bodyPost_ret (by simp [results, Try.results52, go_sem, r0, r1, s0, s1]; rfl) rfl ?_
    exact ⟨rfl, by (repeat' (first | (with_reducible assumption) | (with_reducible exact HK.out) | (with_reducible exact Keep.refl _ _) | (with_reducible refine Keep.alloc ?_ _) | (with_reducible refine Keep.setCell ?_ _ (fun h => absurd h (by omega))) | (with_reducible refine Keep.drewN ?_ _) | (with_reducible refine Keep.drew ?_)))⟩
  · have hc := ck_no hk
    have HE : Hid (opV n1 d1 n2 d2 (n1 * n2) (d1 * d2) = .tuple #[.agg #[.int .i64 0, .int .i64 0], .agg #[.int .i64 3, .int .i64 (ckA n1 d1 n2 d2)]]) := Lib.hid (by unfold opV; rw [if_neg (by rw [hc]; omega), hc]; rfl)
    have HV : Hid (faultV (ckC n1 d1 n2 d2) (ckA n1 d1 n2 d2) = .agg #[.int .i64 3, .int .i64 (ckA n1 d1 n2 d2)]) := Lib.hid (by rw [hc]; rfl)
    clear hk hc
    go_enter Try.func52, Try.ntmps52
    go_wp2_with fail
    have k0 : Keep NoS w (((((w.alloc (.cells #[.int .i64 n1, .int .i64 d1] 23)).alloc (.cells #[.int .i64 n2, .int .i64 d2] 23)).alloc (.cells #[.int .i64 0, .int .i64 0] 23)).alloc (.cells #[.int .i64 0, .int .i64 0] 25)).alloc (.cells #[.int .i64 n1, .int .i64 d1, .int .i64 n2, .int .i64 d2] 23)) := by (repeat' (first | (with_reducible assumption) | (with_reducible exact HK.out) | (with_reducible exact Keep.refl _ _) | (with_reducible refine Keep.alloc ?_ _) | (with_reducible refine Keep.setCell ?_ _ (fun h => absurd h (by omega))) | (with_reducible refine Keep.drewN ?_ _) | (with_reducible refine Keep.drew ?_)))
    refine (checked_two _ (w.heap.size + 1 + 1 + 1 + 1) n1 d1 n2 d2 (by simp [go_sem]) (by simp [go_sem]) (by simp [go_sem]) (by simp [go_sem])).mono ?_
    rintro e w1 ⟨rfl, hk1⟩
    have B0 := (show Blk _ w.heap.size #[.int .i64 n1, .int .i64 d1] by (repeat (first | (refine blk_at _ _ ?_; simp; done) | (refine Blk.old ?_ _)))).keep hk1
    have B1 := (show Blk _ (w.heap.size + 1) #[.int .i64 n2, .int .i64 d2] by (repeat (first | (refine blk_at _ _ ?_; simp; done) | (refine Blk.old ?_ _)))).keep hk1
    have B2 := (show Blk _ (w.heap.size + 1 + 1) #[.int .i64 0, .int .i64 0] by (repeat (first | (refine blk_at _ _ ?_; simp; done) | (refine Blk.old ?_ _)))).keep hk1
    have B3 := (show Blk _ (w.heap.size + 1 + 1 + 1) #[.int .i64 0, .int .i64 0] by (repeat (first | (refine blk_at _ _ ?_; simp; done) | (refine Blk.old ?_ _)))).keep hk1
    have hs' : w.heap.size + 5 ≤ w1.heap.size := by have := hk1.size; simpa using this
    have HK := Lib.hid (k0.trans hk1 fun _ _ _ h => h)
    obtain ⟨a0, a1, _, _, _⟩ := B0.two
    obtain ⟨b0, b1, _, _, _⟩ := B1.two
    obtain ⟨r0, r1, r2, r3, _⟩ := B2.two
    obtain ⟨s0, s1, s2, s3, _⟩ := B3.two
    have HB2 := Lib.hid B2
    have HB3 := Lib.hid B3
    have m0 : ¬ w1.heap.size = w.heap.size := by omega
    have m1 : ¬ w1.heap.size = w.heap.size + 1 := by omega
    have m2 : ¬ w1.heap.size = w.heap.size + 1 + 1 := by omega
    have m3 : ¬ w1.heap.size = w.heap.size + 1 + 1 + 1 := by omega
    have l0 : w.heap.size < w1.heap.size := by omega
    have l1 : w.heap.size + 1 < w1.heap.size := by omega
    have l2 : w.heap.size + 1 + 1 < w1.heap.size := by omega
    have l3 : w.heap.size + 1 + 1 + 1 < w1.heap.size := by omega
    clear B0 B1 B2 B3 hk1 k0
    rw [HV.out]
    go_wp2_with fail
    go_region
    go_wp2
    rw [HE.out]
    refine bodyPost_ret (by simp [results, Try.results52, go_sem, r0, r1, s0, s1, l0, l1, l2, l3, m0, m1, m2, m3]; rfl) rfl ?_
    exact ⟨rfl, by (repeat' (first | (with_reducible assumption) | (with_reducible exact HK.out) | (with_reducible exact Keep.refl _ _) | (with_reducible refine Keep.alloc ?_ _) | (with_reducible refine Keep.setCell ?_ _ (fun h => absurd h (by omega))) | (with_reducible refine Keep.drewN ?_ _) | (with_reducible refine Keep.drew ?_)))⟩

set_option maxRecDepth 100000 in
set_option maxHeartbeats 16000000 in
theorem op_Times (n1 d1 n2 d2 : Int) (w : World) :
    Calls Try.prog 29 #[.agg #[.int .i64 n1, .int .i64 d1], .agg #[.int .i64 n2, .int .i64 d2]] w fun e w' => e = .returned (opV n1 d1 n2 d2 (n1 * n2) (d1 * d2)) ∧ Keep NoS w w' := by
  obtain ⟨mN, mD, mC, mA, hm⟩ : ∃ N D C A, opV n1 d1 n2 d2 (n1 * n2) (d1 * d2) = .tuple #[.agg #[.int .i64 N, .int .i64 D], .agg #[.int .i64 C, .int .i64 A]] := by
    unfold opV; split
    · exact ⟨_, _, _, _, rfl⟩
    · exact ⟨_, _, _, _, rfl⟩
  have HM := Lib.hid hm
  clear hm
  go_enter Try.func29, Try.ntmps29
  go_wp2_with fail
  have k0 : Keep NoS w ((((w.alloc (.cells #[.int .i64 n1, .int .i64 d1] 23)).alloc (.cells #[.int .i64 n2, .int .i64 d2] 23)).alloc (.cells #[.int .i64 0, .int .i64 0] 23)).alloc (.cells #[.int .i64 0, .int .i64 0] 25)) := by (repeat' (first | (with_reducible assumption) | (with_reducible exact HK.out) | (with_reducible exact Keep.refl _ _) | (with_reducible refine Keep.alloc ?_ _) | (with_reducible refine Keep.setCell ?_ _ (fun h => absurd h (by omega))) | (with_reducible refine Keep.drewN ?_ _) | (with_reducible refine Keep.drew ?_)))
  refine (apply_Times n1 d1 n2 d2 _).mono ?_
  rintro e w1 ⟨rfl, hk1⟩
  have B2 := (show Blk _ (w.heap.size + 1 + 1) #[.int .i64 0, .int .i64 0] by (repeat (first | (refine blk_at _ _ ?_; simp; done) | (refine Blk.old ?_ _)))).keep hk1
  have B3 := (show Blk _ (w.heap.size + 1 + 1 + 1) #[.int .i64 0, .int .i64 0] by (repeat (first | (refine blk_at _ _ ?_; simp; done) | (refine Blk.old ?_ _)))).keep hk1
  obtain ⟨r0, r1, r2, r3, _⟩ := B2.two
  obtain ⟨s0, s1, s2, s3, _⟩ := B3.two
  have HK := Lib.hid (k0.trans hk1 fun _ _ _ h => h)
  clear B2 B3 hk1 k0
  rw [HM.out]
  go_wp2
  rw [HM.out]
  refine bodyPost_ret (by simp [results, Try.results29, go_sem, r0, r1, s0, s1]; rfl) rfl ?_
  exact ⟨rfl, by (repeat' (first | (with_reducible assumption) | (with_reducible exact HK.out) | (with_reducible exact Keep.refl _ _) | (with_reducible refine Keep.alloc ?_ _) | (with_reducible refine Keep.setCell ?_ _ (fun h => absurd h (by omega))) | (with_reducible refine Keep.drewN ?_ _) | (with_reducible refine Keep.drew ?_)))⟩

set_option maxRecDepth 100000 in
set_option maxHeartbeats 16000000 in
theorem apply_Over (n1 d1 n2 d2 : Int) (w : World) :
    Calls Try.prog 52 #[.agg #[.int .i64 n1, .int .i64 d1], .agg #[.int .i64 n2, .int .i64 d2], .func (.func 56) #[] #[]] w fun e w' => e = .returned (opV n1 d1 n2 d2 (n1 * d2) (d1 * n2)) ∧ Keep NoS w w' := by
  by_cases hk : FracOK n1 d1 ∧ FracOK n2 d2
  · obtain ⟨hc, ha⟩ := ck_ok hk.1 hk.2
    have HV : Hid (faultV (ckC n1 d1 n2 d2) (ckA n1 d1 n2 d2) = .agg #[.int .i64 0, .int .i64 0]) := Lib.hid (by rw [hc, ha]; rfl)
    obtain ⟨mN, mD, mC, hm⟩ : ∃ N D C, makeV (n1 * d2) (d1 * n2) = .tuple #[.agg #[.int .i64 N, .int .i64 D], .agg #[.int .i64 C, .int .i64 0]] := ⟨_, _, _, rfl⟩
    have HE : Hid (opV n1 d1 n2 d2 (n1 * d2) (d1 * n2) = .tuple #[.agg #[.int .i64 mN, .int .i64 mD], .agg #[.int .i64 mC, .int .i64 0]]) := Lib.hid (by unfold opV; rw [if_pos hc, hm])
    have HM := Lib.hid hm
    have HK0 := Lib.hid hk
    have HBd := Lib.hid (Over_bd n1 d1 n2 d2 hk.1 hk.2)
    clear hk hc ha hm
    go_enter Try.func52, Try.ntmps52
    go_wp2_with fail
    have k0 : Keep NoS w (((((w.alloc (.cells #[.int .i64 n1, .int .i64 d1] 23)).alloc (.cells #[.int .i64 n2, .int .i64 d2] 23)).alloc (.cells #[.int .i64 0, .int .i64 0] 23)).alloc (.cells #[.int .i64 0, .int .i64 0] 25)).alloc (.cells #[.int .i64 n1, .int .i64 d1, .int .i64 n2, .int .i64 d2] 23)) := by (repeat' (first | (with_reducible assumption) | (with_reducible exact HK.out) | (with_reducible exact Keep.refl _ _) | (with_reducible refine Keep.alloc ?_ _) | (with_reducible refine Keep.setCell ?_ _ (fun h => absurd h (by omega))) | (with_reducible refine Keep.drewN ?_ _) | (with_reducible refine Keep.drew ?_)))
    refine (checked_two _ (w.heap.size + 1 + 1 + 1 + 1) n1 d1 n2 d2 (by simp [go_sem]) (by simp [go_sem]) (by simp [go_sem]) (by simp [go_sem])).mono ?_
    rintro e w1 ⟨rfl, hk1⟩
    have B0 := (show Blk _ w.heap.size #[.int .i64 n1, .int .i64 d1] by (repeat (first | (refine blk_at _ _ ?_; simp; done) | (refine Blk.old ?_ _)))).keep hk1
    have B1 := (show Blk _ (w.heap.size + 1) #[.int .i64 n2, .int .i64 d2] by (repeat (first | (refine blk_at _ _ ?_; simp; done) | (refine Blk.old ?_ _)))).keep hk1
    have B2 := (show Blk _ (w.heap.size + 1 + 1) #[.int .i64 0, .int .i64 0] by (repeat (first | (refine blk_at _ _ ?_; simp; done) | (refine Blk.old ?_ _)))).keep hk1
    have B3 := (show Blk _ (w.heap.size + 1 + 1 + 1) #[.int .i64 0, .int .i64 0] by (repeat (first | (refine blk_at _ _ ?_; simp; done) | (refine Blk.old ?_ _)))).keep hk1
    have hs' : w.heap.size + 5 ≤ w1.heap.size := by have := hk1.size; simpa using this
    have HK := Lib.hid (k0.trans hk1 fun _ _ _ h => h)
    obtain ⟨a0, a1, _, _, _⟩ := B0.two
    obtain ⟨b0, b1, _, _, _⟩ := B1.two
    obtain ⟨r0, r1, r2, r3, _⟩ := B2.two
    obtain ⟨s0, s1, s2, s3, _⟩ := B3.two
    have HB2 := Lib.hid B2
    have HB3 := Lib.hid B3
    have m0 : ¬ w1.heap.size = w.heap.size := by omega
    have m1 : ¬ w1.heap.size = w.heap.size + 1 := by omega
    have m2 : ¬ w1.heap.size = w.heap.size + 1 + 1 := by omega
    have m3 : ¬ w1.heap.size = w.heap.size + 1 + 1 + 1 := by omega
    have l0 : w.heap.size < w1.heap.size := by omega
    have l1 : w.heap.size + 1 < w1.heap.size := by omega
    have l2 : w.heap.size + 1 + 1 < w1.heap.size := by omega
    have l3 : w.heap.size + 1 + 1 + 1 < w1.heap.size := by omega
    clear B0 B1 B2 B3 hk1 k0
    rw [HV.out]
    go_wp2_with fail
    refine (Over_do n1 d1 n2 d2 HK0.out.1 HK0.out.2 _).mono ?_
    rintro e w2 ⟨rfl, hk2⟩
    have k2 : Keep NoS w1 w2 := ((Keep.refl NoS w1).alloc _).trans hk2 fun _ _ _ h => h
    have HK2 := Lib.hid (HK.out.trans k2 fun _ _ _ h => h)
    have Hl2 := Lib.hid k2.size
    have HB2' := Lib.hid (HB2.out.keep k2)
    have HB3' := Lib.hid (HB3.out.keep k2)
    clear hk2 k2 a0 a1 b0 b1 r0 r1 r2 r3 s0 s1 s2 s3 m0 m1 m2 m3
    go_wp2_with fail
    refine (make_any _ _ _ HBd.out.1.1 HBd.out.1.2 HBd.out.2.1 HBd.out.2.2).mono ?_
    rintro e w3 ⟨rfl, hb3⟩
    have k3 := Below.keep hb3
    have HK := Lib.hid (HK2.out.trans k3 fun _ _ _ h => h)
    obtain ⟨r0, r1, r2, r3, _⟩ := (HB2'.out.keep k3).two
    obtain ⟨s0, s1, s2, s3, _⟩ := (HB3'.out.keep k3).two
    clear hb3 k3
    rw [HM.out]
    go_wp2
    rw [HE.out]
    refine bodyPost_ret (by simp [results, Try.results52, go_sem, r0, r1, s0, s1]; rfl) rfl ?_
    exact ⟨rfl, by (repeat' (first | (with_reducible assumption) | (with_reducible exact HK.out) | (with_reducible exact Keep.refl _ _) | (with_reducible refine Keep.alloc ?_ _) | (with_reducible refine Keep.setCell ?_ _ (fun h => absurd h (by omega))) | (with_reducible refine Keep.drewN ?_ _) | (with_reducible refine Keep.drew ?_)))⟩
  · have hc := ck_no hk
    have HE : Hid (opV n1 d1 n2 d2 (n1 * d2) (d1 * n2) = .tuple #[.agg #[.int .i64 0, .int .i64 0], .agg #[.int .i64 3, .int .i64 (ckA n1 d1 n2 d2)]]) := Lib.hid (by unfold opV; rw [if_neg (by rw [hc]; omega), hc]; rfl)
    have HV : Hid (faultV (ckC n1 d1 n2 d2) (ckA n1 d1 n2 d2) = .agg #[.int .i64 3, .int .i64 (ckA n1 d1 n2 d2)]) := Lib.hid (by rw [hc]; rfl)
    clear hk hc
    go_enter Try.func52, Try.ntmps52
    go_wp2_with fail
    have k0 : Keep NoS w (((((w.alloc (.cells #[.int .i64 n1, .int .i64 d1] 23)).alloc (.cells #[.int .i64 n2, .int .i64 d2] 23)).alloc (.cells #[.int .i64 0, .int .i64 0] 23)).alloc (.cells #[.int .i64 0, .int .i64 0] 25)).alloc (.cells #[.int .i64 n1, .int .i64 d1, .int .i64 n2, .int .i64 d2] 23)) := by (repeat' (first | (with_reducible assumption) | (with_reducible exact HK.out) | (with_reducible exact Keep.refl _ _) | (with_reducible refine Keep.alloc ?_ _) | (with_reducible refine Keep.setCell ?_ _ (fun h => absurd h (by omega))) | (with_reducible refine Keep.drewN ?_ _) | (with_reducible refine Keep.drew ?_)))
    refine (checked_two _ (w.heap.size + 1 + 1 + 1 + 1) n1 d1 n2 d2 (by simp [go_sem]) (by simp [go_sem]) (by simp [go_sem]) (by simp [go_sem])).mono ?_
    rintro e w1 ⟨rfl, hk1⟩
    have B0 := (show Blk _ w.heap.size #[.int .i64 n1, .int .i64 d1] by (repeat (first | (refine blk_at _ _ ?_; simp; done) | (refine Blk.old ?_ _)))).keep hk1
    have B1 := (show Blk _ (w.heap.size + 1) #[.int .i64 n2, .int .i64 d2] by (repeat (first | (refine blk_at _ _ ?_; simp; done) | (refine Blk.old ?_ _)))).keep hk1
    have B2 := (show Blk _ (w.heap.size + 1 + 1) #[.int .i64 0, .int .i64 0] by (repeat (first | (refine blk_at _ _ ?_; simp; done) | (refine Blk.old ?_ _)))).keep hk1
    have B3 := (show Blk _ (w.heap.size + 1 + 1 + 1) #[.int .i64 0, .int .i64 0] by (repeat (first | (refine blk_at _ _ ?_; simp; done) | (refine Blk.old ?_ _)))).keep hk1
    have hs' : w.heap.size + 5 ≤ w1.heap.size := by have := hk1.size; simpa using this
    have HK := Lib.hid (k0.trans hk1 fun _ _ _ h => h)
    obtain ⟨a0, a1, _, _, _⟩ := B0.two
    obtain ⟨b0, b1, _, _, _⟩ := B1.two
    obtain ⟨r0, r1, r2, r3, _⟩ := B2.two
    obtain ⟨s0, s1, s2, s3, _⟩ := B3.two
    have HB2 := Lib.hid B2
    have HB3 := Lib.hid B3
    have m0 : ¬ w1.heap.size = w.heap.size := by omega
    have m1 : ¬ w1.heap.size = w.heap.size + 1 := by omega
    have m2 : ¬ w1.heap.size = w.heap.size + 1 + 1 := by omega
    have m3 : ¬ w1.heap.size = w.heap.size + 1 + 1 + 1 := by omega
    have l0 : w.heap.size < w1.heap.size := by omega
    have l1 : w.heap.size + 1 < w1.heap.size := by omega
    have l2 : w.heap.size + 1 + 1 < w1.heap.size := by omega
    have l3 : w.heap.size + 1 + 1 + 1 < w1.heap.size := by omega
    clear B0 B1 B2 B3 hk1 k0
    rw [HV.out]
    go_wp2_with fail
    go_region
    go_wp2
    rw [HE.out]
    refine bodyPost_ret (by simp [results, Try.results52, go_sem, r0, r1, s0, s1, l0, l1, l2, l3, m0, m1, m2, m3]; rfl) rfl ?_
    exact ⟨rfl, by (repeat' (first | (with_reducible assumption) | (with_reducible exact HK.out) | (with_reducible exact Keep.refl _ _) | (with_reducible refine Keep.alloc ?_ _) | (with_reducible refine Keep.setCell ?_ _ (fun h => absurd h (by omega))) | (with_reducible refine Keep.drewN ?_ _) | (with_reducible refine Keep.drew ?_)))⟩

set_option maxRecDepth 100000 in
set_option maxHeartbeats 16000000 in
theorem op_Over (n1 d1 n2 d2 : Int) (w : World) :
    Calls Try.prog 31 #[.agg #[.int .i64 n1, .int .i64 d1], .agg #[.int .i64 n2, .int .i64 d2]] w fun e w' => e = .returned (opV n1 d1 n2 d2 (n1 * d2) (d1 * n2)) ∧ Keep NoS w w' := by
  obtain ⟨mN, mD, mC, mA, hm⟩ : ∃ N D C A, opV n1 d1 n2 d2 (n1 * d2) (d1 * n2) = .tuple #[.agg #[.int .i64 N, .int .i64 D], .agg #[.int .i64 C, .int .i64 A]] := by
    unfold opV; split
    · exact ⟨_, _, _, _, rfl⟩
    · exact ⟨_, _, _, _, rfl⟩
  have HM := Lib.hid hm
  clear hm
  go_enter Try.func31, Try.ntmps31
  go_wp2_with fail
  have k0 : Keep NoS w ((((w.alloc (.cells #[.int .i64 n1, .int .i64 d1] 23)).alloc (.cells #[.int .i64 n2, .int .i64 d2] 23)).alloc (.cells #[.int .i64 0, .int .i64 0] 23)).alloc (.cells #[.int .i64 0, .int .i64 0] 25)) := by (repeat' (first | (with_reducible assumption) | (with_reducible exact HK.out) | (with_reducible exact Keep.refl _ _) | (with_reducible refine Keep.alloc ?_ _) | (with_reducible refine Keep.setCell ?_ _ (fun h => absurd h (by omega))) | (with_reducible refine Keep.drewN ?_ _) | (with_reducible refine Keep.drew ?_)))
  refine (apply_Over n1 d1 n2 d2 _).mono ?_
  rintro e w1 ⟨rfl, hk1⟩
  have B2 := (show Blk _ (w.heap.size + 1 + 1) #[.int .i64 0, .int .i64 0] by (repeat (first | (refine blk_at _ _ ?_; simp; done) | (refine Blk.old ?_ _)))).keep hk1
  have B3 := (show Blk _ (w.heap.size + 1 + 1 + 1) #[.int .i64 0, .int .i64 0] by (repeat (first | (refine blk_at _ _ ?_; simp; done) | (refine Blk.old ?_ _)))).keep hk1
  obtain ⟨r0, r1, r2, r3, _⟩ := B2.two
  obtain ⟨s0, s1, s2, s3, _⟩ := B3.two
  have HK := Lib.hid (k0.trans hk1 fun _ _ _ h => h)
  clear B2 B3 hk1 k0
  rw [HM.out]
  go_wp2
  rw [HM.out]
  refine bodyPost_ret (by simp [results, Try.results31, go_sem, r0, r1, s0, s1]; rfl) rfl ?_
  exact ⟨rfl, by (repeat' (first | (with_reducible assumption) | (with_reducible exact HK.out) | (with_reducible exact Keep.refl _ _) | (with_reducible refine Keep.alloc ?_ _) | (with_reducible refine Keep.setCell ?_ _ (fun h => absurd h (by omega))) | (with_reducible refine Keep.drewN ?_ _) | (with_reducible refine Keep.drew ?_)))⟩

end Go.Proofs.Ytnmklgigmmlgeaa
