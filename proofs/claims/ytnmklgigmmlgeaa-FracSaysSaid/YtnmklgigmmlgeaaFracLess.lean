/- Contracts of frac.Less and frac.Floor. -/
import Derived.Test.YtnmklgigmmlgeaaFracOps
namespace Go.Proofs.Ytnmklgigmmlgeaa
open Go.ChangeShapes Go.WideShapes Go.RowKit
set_option linter.unusedVariables false
set_option linter.unusedSimpArgs false

def lessB (n1 d1 n2 d2 : Int) : Bool := if ckC n1 d1 n2 d2 = 0 then decide (n1 * d2 < n2 * d1) else false
def lessV (n1 d1 n2 d2 : Int) : Value := .tuple #[.bool (lessB n1 d1 n2 d2), faultV (ckC n1 d1 n2 d2) (ckA n1 d1 n2 d2)]

set_option maxRecDepth 100000 in
set_option maxHeartbeats 16000000 in
theorem less_any (n1 d1 n2 d2 : Int) (w : World) :
    Calls Try.prog 27 #[.agg #[.int .i64 n1, .int .i64 d1], .agg #[.int .i64 n2, .int .i64 d2]] w fun e w' => e = .returned (lessV n1 d1 n2 d2) ∧ Keep NoS w w' := by
  by_cases hk : FracOK n1 d1 ∧ FracOK n2 d2
  · obtain ⟨hc, ha⟩ := ck_ok hk.1 hk.2
    have HV : Hid (faultV (ckC n1 d1 n2 d2) (ckA n1 d1 n2 d2) = .agg #[.int .i64 0, .int .i64 0]) := Lib.hid (by rw [hc, ha]; rfl)
    have HE : Hid (lessV n1 d1 n2 d2 = .tuple #[.bool (decide (n1 * d2 < n2 * d1)), .agg #[.int .i64 0, .int .i64 0]]) := Lib.hid (by unfold lessV lessB; rw [if_pos hc, hc, ha]; rfl)
    obtain ⟨⟨a1, a2, a3, a4, _⟩, b1, b2, b3, b4, _⟩ := hk
    obtain ⟨m11, m12⟩ := mul_bd n1 d2 ⟨a3, a4⟩ ⟨by omega, b2⟩
    obtain ⟨m21, m22⟩ := mul_bd n2 d1 ⟨b3, b4⟩ ⟨by omega, a2⟩
    clear hc ha
    go_enter Try.func27, Try.ntmps27
    go_wp2_with fail
    have k0 : Keep NoS w ((((w.alloc (.cells #[.int .i64 n1, .int .i64 d1] 23)).alloc (.cells #[.int .i64 n2, .int .i64 d2] 23)).alloc (.cells #[.int .i64 0, .int .i64 0] 25)).alloc (.cells #[.int .i64 n1, .int .i64 d1, .int .i64 n2, .int .i64 d2] 23)) := by (repeat' (first | (with_reducible assumption) | (with_reducible exact HK.out) | (with_reducible exact Keep.refl _ _) | (with_reducible refine Keep.alloc ?_ _) | (with_reducible refine Keep.setCell ?_ _ (fun h => absurd h (by omega))) | (with_reducible refine Keep.drewN ?_ _) | (with_reducible refine Keep.drew ?_)))
    refine (checked_two _ (w.heap.size + 1 + 1 + 1) n1 d1 n2 d2 (by simp [go_sem]) (by simp [go_sem]) (by simp [go_sem]) (by simp [go_sem])).mono ?_
    rintro e w1 ⟨rfl, hk1⟩
    have B0 := (show Blk _ w.heap.size #[.int .i64 n1, .int .i64 d1] by (repeat (first | (refine blk_at _ _ ?_; simp; done) | (refine Blk.old ?_ _)))).keep hk1
    have B1 := (show Blk _ (w.heap.size + 1) #[.int .i64 n2, .int .i64 d2] by (repeat (first | (refine blk_at _ _ ?_; simp; done) | (refine Blk.old ?_ _)))).keep hk1
    have B2 := (show Blk _ (w.heap.size + 1 + 1) #[.int .i64 0, .int .i64 0] by (repeat (first | (refine blk_at _ _ ?_; simp; done) | (refine Blk.old ?_ _)))).keep hk1
    have hs' : w.heap.size + 4 ≤ w1.heap.size := by have := hk1.size; simpa using this
    have HK := Lib.hid (k0.trans hk1 fun _ _ _ h => h)
    obtain ⟨p0, p1, _, _, _⟩ := B0.two
    obtain ⟨q0, q1, _, _, _⟩ := B1.two
    obtain ⟨r0, r1, r2, r3, _⟩ := B2.two
    have l0 : w.heap.size < w1.heap.size := by omega
    have l1 : w.heap.size + 1 < w1.heap.size := by omega
    have l2 : w.heap.size + 1 + 1 < w1.heap.size := by omega
    have m0 : ¬ w1.heap.size = w.heap.size := by omega
    have m1 : ¬ w1.heap.size = w.heap.size + 1 := by omega
    have m2 : ¬ w1.heap.size = w.heap.size + 1 + 1 := by omega
    clear B0 B1 B2 hk1 k0
    rw [HV.out]
    go_wp2
    rw [HE.out]
    refine bodyPost_ret (by simp [results, Try.results27, go_sem, r0, r1, l0, l1, l2, m0, m1, m2]; rfl) rfl ?_
    exact ⟨rfl, by (repeat' (first | (with_reducible assumption) | (with_reducible exact HK.out) | (with_reducible exact Keep.refl _ _) | (with_reducible refine Keep.alloc ?_ _) | (with_reducible refine Keep.setCell ?_ _ (fun h => absurd h (by omega))) | (with_reducible refine Keep.drewN ?_ _) | (with_reducible refine Keep.drew ?_)))⟩
  · have hc := ck_no hk
    have HE : Hid (lessV n1 d1 n2 d2 = .tuple #[.bool false, .agg #[.int .i64 3, .int .i64 (ckA n1 d1 n2 d2)]]) := Lib.hid (by unfold lessV lessB; rw [if_neg (by rw [hc]; omega), hc]; rfl)
    have HV : Hid (faultV (ckC n1 d1 n2 d2) (ckA n1 d1 n2 d2) = .agg #[.int .i64 3, .int .i64 (ckA n1 d1 n2 d2)]) := Lib.hid (by rw [hc]; rfl)
    clear hk hc
    go_enter Try.func27, Try.ntmps27
    go_wp2_with fail
    have k0 : Keep NoS w ((((w.alloc (.cells #[.int .i64 n1, .int .i64 d1] 23)).alloc (.cells #[.int .i64 n2, .int .i64 d2] 23)).alloc (.cells #[.int .i64 0, .int .i64 0] 25)).alloc (.cells #[.int .i64 n1, .int .i64 d1, .int .i64 n2, .int .i64 d2] 23)) := by (repeat' (first | (with_reducible assumption) | (with_reducible exact HK.out) | (with_reducible exact Keep.refl _ _) | (with_reducible refine Keep.alloc ?_ _) | (with_reducible refine Keep.setCell ?_ _ (fun h => absurd h (by omega))) | (with_reducible refine Keep.drewN ?_ _) | (with_reducible refine Keep.drew ?_)))
    refine (checked_two _ (w.heap.size + 1 + 1 + 1) n1 d1 n2 d2 (by simp [go_sem]) (by simp [go_sem]) (by simp [go_sem]) (by simp [go_sem])).mono ?_
    rintro e w1 ⟨rfl, hk1⟩
    have B2 := (show Blk _ (w.heap.size + 1 + 1) #[.int .i64 0, .int .i64 0] by (repeat (first | (refine blk_at _ _ ?_; simp; done) | (refine Blk.old ?_ _)))).keep hk1
    have hs' : w.heap.size + 4 ≤ w1.heap.size := by have := hk1.size; simpa using this
    have HK := Lib.hid (k0.trans hk1 fun _ _ _ h => h)
    obtain ⟨r0, r1, r2, r3, _⟩ := B2.two
    have l2 : w.heap.size + 1 + 1 < w1.heap.size := by omega
    have m2 : ¬ w1.heap.size = w.heap.size + 1 + 1 := by omega
    clear B2 hk1 k0
    rw [HV.out]
    go_wp2_with fail
    go_region
    go_wp2
    rw [HE.out]
    refine bodyPost_ret (by simp [results, Try.results27, go_sem, r0, r1, l2, m2]; rfl) rfl ?_
    exact ⟨rfl, by (repeat' (first | (with_reducible assumption) | (with_reducible exact HK.out) | (with_reducible exact Keep.refl _ _) | (with_reducible refine Keep.alloc ?_ _) | (with_reducible refine Keep.setCell ?_ _ (fun h => absurd h (by omega))) | (with_reducible refine Keep.drewN ?_ _) | (with_reducible refine Keep.drew ?_)))⟩

def floorV (n d : Int) : Value := if FracOK n d then .tuple #[.int .i64 (n / d), faultV 0 0] else .tuple #[.int .i64 0, faultV 3 0]

theorem floor_pos (n d : Int) (hd : 0 < d) (h : ¬ n.tmod d < 0) : n.tdiv d = n / d := by
  have h1 := Int.mul_tdiv_add_tmod n d
  have h3 := Int.tmod_lt_of_pos n hd
  have h4 := Int.ediv_emod_unique hd (a := n) (r := n.tmod d) (q := n.tdiv d)
  exact (h4.2 ⟨by rw [Int.add_comm]; omega, by omega, h3⟩).1.symm

theorem floor_neg (n d : Int) (hd : 0 < d) (h : n.tmod d < 0) : n.tdiv d - 1 = n / d := by
  have h1 := Int.mul_tdiv_add_tmod n d
  have h3 : -d < n.tmod d := by
    have h5 : (n.tmod d).natAbs = n.natAbs % d.natAbs := Int.natAbs_tmod n d
    have h6 : n.natAbs % d.natAbs < d.natAbs := Nat.mod_lt _ (by omega)
    omega
  have h4 := Int.ediv_emod_unique hd (a := n) (r := n.tmod d + d) (q := n.tdiv d - 1)
  exact (h4.2 ⟨by rw [Int.mul_sub, Int.mul_one]; omega, by omega, by omega⟩).1.symm

set_option maxRecDepth 100000 in
set_option maxHeartbeats 16000000 in
theorem floor_any (n d : Int) (w : World) :
    Calls Try.prog 26 #[.agg #[.int .i64 n, .int .i64 d]] w fun e w' => e = .returned (floorV n d) ∧ Keep NoS w w' := by
  by_cases hk : FracOK n d
  · have HE : Hid (floorV n d = .tuple #[.int .i64 (n / d), .agg #[.int .i64 0, .int .i64 0]]) := Lib.hid (if_pos hk)
    have HO := Lib.hid hk
    obtain ⟨a1, a2, a3, a4, _⟩ := hk
    have d1 : -1073741824 ≤ n.tdiv d ∧ n.tdiv d ≤ 1073741824 := by
      have h : (n.tdiv d).natAbs ≤ n.natAbs := by rw [Int.natAbs_tdiv]; exact Nat.div_le_self _ _
      omega
    obtain ⟨d2, d3⟩ := d1
    have hd0 : ¬ d = 0 := by omega
    go_enter Try.func26, Try.ntmps26
    go_wp2_with fail
    have k0 : Keep NoS w ((w.alloc (.cells #[.int .i64 n, .int .i64 d] 23)).alloc (.cells #[.int .i64 0, .int .i64 0] 25)) := by (repeat' (first | (with_reducible assumption) | (with_reducible exact HK.out) | (with_reducible exact Keep.refl _ _) | (with_reducible refine Keep.alloc ?_ _) | (with_reducible refine Keep.setCell ?_ _ (fun h => absurd h (by omega))) | (with_reducible refine Keep.drewN ?_ _) | (with_reducible refine Keep.drew ?_)))
    refine (check_ok n d _ HO.out).mono ?_
    rintro e w1 ⟨rfl, hb1⟩
    have hk1 := Below.keep hb1
    have B0 := (show Blk _ w.heap.size #[.int .i64 n, .int .i64 d] by (repeat (first | (refine blk_at _ _ ?_; simp; done) | (refine Blk.old ?_ _)))).keep hk1
    have B2 := (show Blk _ (w.heap.size + 1) #[.int .i64 0, .int .i64 0] by (repeat (first | (refine blk_at _ _ ?_; simp; done) | (refine Blk.old ?_ _)))).keep hk1
    have hs' : w.heap.size + 2 ≤ w1.heap.size := by have := hk1.size; simpa using this
    have HK := Lib.hid (k0.trans hk1 fun _ _ _ h => h)
    obtain ⟨p0, p1, _, _, _⟩ := B0.two
    obtain ⟨r0, r1, r2, r3, _⟩ := B2.two
    have l0 : w.heap.size < w1.heap.size := by omega
    have l1 : w.heap.size + 1 < w1.heap.size := by omega
    have m0 : ¬ w1.heap.size = w.heap.size := by omega
    have m1 : ¬ w1.heap.size = w.heap.size + 1 := by omega
    clear B0 B2 hk1 k0 hb1
    by_cases hm : n.tmod d < 0
    · have e1 := dec_t hm
      have HF := Lib.hid (floor_neg n d (by omega) hm)
      clear hm
      go_wp2
      rw [HE.out]
      refine bodyPost_ret (by simp [results, Try.results26, go_sem, r0, r1, l0, l1, m0, m1]; rfl) rfl ?_
      exact ⟨by rw [HF.out], by (repeat' (first | (with_reducible assumption) | (with_reducible exact HK.out) | (with_reducible exact Keep.refl _ _) | (with_reducible refine Keep.alloc ?_ _) | (with_reducible refine Keep.setCell ?_ _ (fun h => absurd h (by omega))) | (with_reducible refine Keep.drewN ?_ _) | (with_reducible refine Keep.drew ?_)))⟩
    · have e1 := dec_f hm
      have HF := Lib.hid (floor_pos n d (by omega) hm)
      clear hm
      go_wp2
      rw [HE.out]
      refine bodyPost_ret (by simp [results, Try.results26, go_sem, r0, r1, l0, l1, m0, m1]; rfl) rfl ?_
      exact ⟨by rw [HF.out], by (repeat' (first | (with_reducible assumption) | (with_reducible exact HK.out) | (with_reducible exact Keep.refl _ _) | (with_reducible refine Keep.alloc ?_ _) | (with_reducible refine Keep.setCell ?_ _ (fun h => absurd h (by omega))) | (with_reducible refine Keep.drewN ?_ _) | (with_reducible refine Keep.drew ?_)))⟩
  · have HE : Hid (floorV n d = .tuple #[.int .i64 0, .agg #[.int .i64 3, .int .i64 0]]) := Lib.hid (if_neg hk)
    have HO := Lib.hid hk
    clear hk
    go_enter Try.func26, Try.ntmps26
    go_wp2_with fail
    have k0 : Keep NoS w ((w.alloc (.cells #[.int .i64 n, .int .i64 d] 23)).alloc (.cells #[.int .i64 0, .int .i64 0] 25)) := by (repeat' (first | (with_reducible assumption) | (with_reducible exact HK.out) | (with_reducible exact Keep.refl _ _) | (with_reducible refine Keep.alloc ?_ _) | (with_reducible refine Keep.setCell ?_ _ (fun h => absurd h (by omega))) | (with_reducible refine Keep.drewN ?_ _) | (with_reducible refine Keep.drew ?_)))
    refine (check_no n d _ HO.out).mono ?_
    rintro e w1 ⟨rfl, hb1⟩
    have hk1 := Below.keep hb1
    have B2 := (show Blk _ (w.heap.size + 1) #[.int .i64 0, .int .i64 0] by (repeat (first | (refine blk_at _ _ ?_; simp; done) | (refine Blk.old ?_ _)))).keep hk1
    have hs' : w.heap.size + 2 ≤ w1.heap.size := by have := hk1.size; simpa using this
    have HK := Lib.hid (k0.trans hk1 fun _ _ _ h => h)
    obtain ⟨r0, r1, r2, r3, _⟩ := B2.two
    have l1 : w.heap.size + 1 < w1.heap.size := by omega
    have m1 : ¬ w1.heap.size = w.heap.size + 1 := by omega
    clear B2 hk1 k0 hb1
    go_wp2_with fail
    go_region
    go_wp2
    rw [HE.out]
    refine bodyPost_ret (by simp [results, Try.results26, go_sem, r0, r1, l1, m1]; rfl) rfl ?_
    exact ⟨rfl, by (repeat' (first | (with_reducible assumption) | (with_reducible exact HK.out) | (with_reducible exact Keep.refl _ _) | (with_reducible refine Keep.alloc ?_ _) | (with_reducible refine Keep.setCell ?_ _ (fun h => absurd h (by omega))) | (with_reducible refine Keep.drewN ?_ _) | (with_reducible refine Keep.drew ?_)))⟩

end Go.Proofs.Ytnmklgigmmlgeaa
