/- The reference's FracFloor, FracRight, Rat; what they answer. -/
import Derived.Test.YtnmklgigmmlgeaaRegionT
import Derived.Test.YtnmklgigmmlgeaaIntOps
import Derived.Test.YtnmklgigmmlgeaaFracFloorsW
import Derived.Test.YtnmklgigmmlgeaaFracRat
namespace Go.Proofs.Ytnmklgigmmlgeaa
open Go.ChangeShapes Go.WideShapes Go.RowKit
set_option linter.unusedVariables false
set_option linter.unusedSimpArgs false


set_option maxRecDepth 100000 in
set_option maxHeartbeats 16000000 in
theorem refFloor_any (n d : Int) (w : World) (h : FracOK n d) :
    Calls Try.prog 35 #[.agg #[.int .i64 n, .int .i64 d]] w fun e w' => e = .returned (.int .i64 (n / d)) ∧ Keep NoS w w' := by
  obtain ⟨q1, q2, _, _⟩ := floor_bd n d h
  obtain ⟨a1, a2, a3, a4, _⟩ := h
  have HD0 : Hid (d ≠ 0) := Lib.hid (by omega)
  go_enter Try.func35, Try.ntmps35
  go_wp2
  have B := (show Blk (w.alloc (.cells #[.int .i64 n, .int .i64 d] 23)) w.heap.size #[.int .i64 n, .int .i64 d] by (repeat (first | (refine blk_at _ _ ?_; simp; done) | (refine Blk.old ?_ _))))
  have HK0 := Lib.hid (show Keep NoS w (w.alloc (.cells #[.int .i64 n, .int .i64 d] 23)) by (repeat' (first | (with_reducible assumption) | (with_reducible exact HK.out) | (with_reducible exact Keep.refl _ _) | (with_reducible refine Keep.alloc ?_ _) | (with_reducible refine Keep.setCell ?_ _ (fun h => absurd h (by omega))) | (with_reducible refine Keep.drewN ?_ _) | (with_reducible refine Keep.drew ?_))))
  have hlt := B.lt
  generalize hw0 : w.alloc (.cells #[.int .i64 n, .int .i64 d] 23) = w0 at *
  clear hw0
  obtain ⟨p0, p1, _, _, _⟩ := B.two
  refine wp_region_tree (fun w' => Keep NoS w0 w') (.two [1, 2, 4, 5] 0 (.one [] 3 (.one [] 6 (.one [] 7 (.one [] 8 (.fin [9]))))) 3 (.two [] 0 (.one [] 6 (.one [] 7 (.one [] 8 (.fin [9])))) 6 (.one [] 0 (.one [] 7 (.one [] 8 (.fin [9])))))) (by kernel_rfl) (by kernel_rfl) (by (repeat' (first | (with_reducible assumption) | (with_reducible exact HK.out) | (with_reducible exact Keep.refl _ _) | (with_reducible refine Keep.alloc ?_ _) | (with_reducible refine Keep.setCell ?_ _ (fun h => absurd h (by omega))) | (with_reducible refine Keep.drewN ?_ _) | (with_reducible refine Keep.drew ?_)))) ?_
  intro X W hne hF hcl
  have HCL := Lib.hid hcl
  have hx0 := fun x => ((hF x).cell hlt).trans p0
  have hx1 := fun x => ((hF x).cell hlt).trans p1
  have hs0 := hlt
  clear hF hcl
  simp only [wpPlanT, pickOps, List.getElem?_toArray, List.getElem?_cons_zero, List.getElem?_cons_succ, clsOf, Bool.false_eq_true, if_false]
  (repeat (quiet_step (fail))); refine wpQuiet_nil ?_
  refine ⟨?_, ?_⟩
  · refine wpOp_at (by simp only [List.getElem?_toArray, List.getElem?_cons_zero, List.getElem?_cons_succ]; rfl) (by rfl) (fun K hK => ?_)
    go_simp
    have k1 : Keep NoS w0 ((w0.alloc (.cells intCells 32)).drew) := by (repeat' (first | (with_reducible assumption) | (with_reducible exact HK.out) | (with_reducible exact Keep.refl _ _) | (with_reducible refine Keep.alloc ?_ _) | (with_reducible refine Keep.setCell ?_ _ (fun h => absurd h (by omega))) | (with_reducible refine Keep.drewN ?_ _) | (with_reducible refine Keep.drew ?_)))
    refine hK _ _ ⟨HCL.out _ k1, ?_⟩
    have HA : Hid (IsHdr ((w0.alloc (.cells intCells 32)).drew) w0.heap.size 0) := Lib.hid (hdr_new (w0.drew))
    have K1 := Lib.hid k1
    clear hK K k1
    generalize hbA : w0.heap.size = bA at HA ⊢
    have hA0 : w0.heap.size ≤ bA := by rw [← hbA]; exact Nat.le_refl _
    clear hbA
    generalize (w0.alloc (.cells intCells 32)).drew = v1 at *
    (repeat (quiet_step (fail))); refine wpQuiet_nil ?_
    refine wpOp_at (by simp only [List.getElem?_toArray, List.getElem?_cons_zero, List.getElem?_cons_succ]; rfl) (by rfl) (fun K hK => ?_)
    go_simp
    refine (newInt_any _ n (by omega) (by omega)).mono ?_
    rintro e v2 ⟨b1, hb1, rfl, hk, hi⟩
    have K2 := Lib.hid (K1.out.both hk)
    have HI1 := Lib.hid hi
    have HA := Lib.hid (IsHdr.ofNewer HA.out hk)
    refine hK _ _ ⟨HCL.out _ K2.out, ?_⟩
    clear hK K hk hi hb1
    (repeat (quiet_step (fail))); refine wpQuiet_nil ?_
    refine wpOp_at (by simp only [List.getElem?_toArray, List.getElem?_cons_zero, List.getElem?_cons_succ]; rfl) (by rfl) (fun K hK => ?_)
    go_simp
    refine (newInt_any _ d (by omega) (by omega)).mono ?_
    rintro e v3 ⟨b2, hb2, rfl, hk, hi⟩
    have K3 := Lib.hid (K2.out.both hk)
    have HI2 := Lib.hid hi
    have HA := Lib.hid (IsHdr.ofNewer HA.out hk)
    have HI1 := Lib.hid (HI1.out.ofNewer hk)
    refine hK _ _ ⟨HCL.out _ K3.out, ?_⟩
    clear hK K hk hi hb2
    (repeat (quiet_step (fail))); refine wpQuiet_nil ?_
    refine wpOp_at (by simp only [List.getElem?_toArray, List.getElem?_cons_zero, List.getElem?_cons_succ]; rfl) (by rfl) (fun K hK => ?_)
    go_simp
    refine (div_of small_le_BIG qrOK_small v3 bA 0 b1 0 b2 0 n d HA.out HI1.out HI2.out HD0.out (by omega) (by omega)).mono ?_
    rintro e v4 ⟨rfl, hk, hi⟩
    have K4 := Lib.hid (K3.out.trans hk fun k i hk h => absurd h.1 (by omega))
    have HI4 := Lib.hid hi
    refine hK _ _ ⟨HCL.out _ K4.out, ?_⟩
    clear hK K hk hi
    (repeat (quiet_step (fail))); refine wpQuiet_nil ?_
    refine wpOp_at (by simp only [List.getElem?_toArray, List.getElem?_cons_zero, List.getElem?_cons_succ]; rfl) (by rfl) (fun K hK => ?_)
    go_simp
    refine (int64_any v4 bA 0 (n / d) HI4.out (by omega) (by omega)).mono ?_
    rintro e v5 ⟨rfl, rfl⟩
    refine hK _ _ ⟨HCL.out _ K4.out, ?_⟩
    clear hK K
    (repeat (quiet_step (fail))); refine wpQuiet_nil ?_
    refine NoPanic.normal ?_
    go_wp2
    go_ret
    exact ⟨rfl, HK0.out.both K4.out⟩
  · refine wpOp_at (by simp only [List.getElem?_toArray, List.getElem?_cons_zero, List.getElem?_cons_succ]; rfl) (by rfl) (fun K hK => ?_)
    go_simp
    refine (newInt_any _ n (by omega) (by omega)).mono ?_
    rintro e v1 ⟨b1, hb1, rfl, hk, hi⟩
    have K1 := Lib.hid ((show Keep NoS w0 (w0.drew) by (repeat' (first | (with_reducible assumption) | (with_reducible exact HK.out) | (with_reducible exact Keep.refl _ _) | (with_reducible refine Keep.alloc ?_ _) | (with_reducible refine Keep.setCell ?_ _ (fun h => absurd h (by omega))) | (with_reducible refine Keep.drewN ?_ _) | (with_reducible refine Keep.drew ?_)))).both hk)
    have HI1 := Lib.hid hi
    refine hK _ _ ⟨HCL.out _ K1.out, ?_⟩
    clear hK K hk hi hb1
    (repeat (quiet_step (fail))); refine wpQuiet_nil ?_
    refine ⟨?_, ?_⟩
    · refine wpOp_at (by simp only [List.getElem?_toArray, List.getElem?_cons_zero, List.getElem?_cons_succ]; rfl) (by rfl) (fun K hK => ?_)
      go_simp
      have k2 : Keep NoS w0 (v1.alloc (.cells intCells 32)) := K1.out.alloc _
      refine hK _ _ ⟨HCL.out _ k2, ?_⟩
      have HA : Hid (IsHdr (v1.alloc (.cells intCells 32)) v1.heap.size 0) := Lib.hid (hdr_new (v1))
      have K2 := Lib.hid k2
      have HI1 := Lib.hid (HI1.out.ofNewer ((Keep.refl NoS v1).alloc (.cells intCells 32)))
      clear hK K k2
      generalize hbA : v1.heap.size = bA at HA ⊢
      have hA0 : w0.heap.size ≤ bA := by rw [← hbA]; exact K1.out.size
      clear hbA
      generalize v1.alloc (.cells intCells 32) = v2 at *
      (repeat (quiet_step (fail))); refine wpQuiet_nil ?_
      refine wpOp_at (by simp only [List.getElem?_toArray, List.getElem?_cons_zero, List.getElem?_cons_succ]; rfl) (by rfl) (fun K hK => ?_)
      go_simp
      refine (newInt_any _ d (by omega) (by omega)).mono ?_
      rintro e v3 ⟨b2, hb2, rfl, hk, hi⟩
      have K3 := Lib.hid (K2.out.both hk)
      have HI2 := Lib.hid hi
      have HA := Lib.hid (IsHdr.ofNewer HA.out hk)
      have HI1 := Lib.hid (HI1.out.ofNewer hk)
      refine hK _ _ ⟨HCL.out _ K3.out, ?_⟩
      clear hK K hk hi hb2
      (repeat (quiet_step (fail))); refine wpQuiet_nil ?_
      refine wpOp_at (by simp only [List.getElem?_toArray, List.getElem?_cons_zero, List.getElem?_cons_succ]; rfl) (by rfl) (fun K hK => ?_)
      go_simp
      refine (div_of small_le_BIG qrOK_small v3 bA 0 b1 0 b2 0 n d HA.out HI1.out HI2.out HD0.out (by omega) (by omega)).mono ?_
      rintro e v4 ⟨rfl, hk, hi⟩
      have K4 := Lib.hid (K3.out.trans hk fun k i hk h => absurd h.1 (by omega))
      have HI4 := Lib.hid hi
      refine hK _ _ ⟨HCL.out _ K4.out, ?_⟩
      clear hK K hk hi
      (repeat (quiet_step (fail))); refine wpQuiet_nil ?_
      refine wpOp_at (by simp only [List.getElem?_toArray, List.getElem?_cons_zero, List.getElem?_cons_succ]; rfl) (by rfl) (fun K hK => ?_)
      go_simp
      refine (int64_any v4 bA 0 (n / d) HI4.out (by omega) (by omega)).mono ?_
      rintro e v5 ⟨rfl, rfl⟩
      refine hK _ _ ⟨HCL.out _ K4.out, ?_⟩
      clear hK K
      (repeat (quiet_step (fail))); refine wpQuiet_nil ?_
      refine NoPanic.normal ?_
      go_wp2
      go_ret
      exact ⟨rfl, HK0.out.both K4.out⟩
    · refine wpOp_at (by simp only [List.getElem?_toArray, List.getElem?_cons_zero, List.getElem?_cons_succ]; rfl) (by rfl) (fun K hK => ?_)
      go_simp
      refine (newInt_any _ d (by omega) (by omega)).mono ?_
      rintro e v2 ⟨b2, hb2, rfl, hk, hi⟩
      have K2 := Lib.hid (K1.out.both hk)
      have HI2 := Lib.hid hi
      have HI1 := Lib.hid (HI1.out.ofNewer hk)
      refine hK _ _ ⟨HCL.out _ K2.out, ?_⟩
      clear hK K hk hi hb2
      (repeat (quiet_step (fail))); refine wpQuiet_nil ?_
      refine wpOp_at (by simp only [List.getElem?_toArray, List.getElem?_cons_zero, List.getElem?_cons_succ]; rfl) (by rfl) (fun K hK => ?_)
      go_simp
      have k3 : Keep NoS w0 (v2.alloc (.cells intCells 32)) := K2.out.alloc _
      refine hK _ _ ⟨HCL.out _ k3, ?_⟩
      have HA : Hid (IsHdr (v2.alloc (.cells intCells 32)) v2.heap.size 0) := Lib.hid (hdr_new (v2))
      have K3 := Lib.hid k3
      have HI1 := Lib.hid (HI1.out.ofNewer ((Keep.refl NoS v2).alloc (.cells intCells 32)))
      have HI2 := Lib.hid (HI2.out.ofNewer ((Keep.refl NoS v2).alloc (.cells intCells 32)))
      clear hK K k3
      generalize hbA : v2.heap.size = bA at HA ⊢
      have hA0 : w0.heap.size ≤ bA := by rw [← hbA]; exact K2.out.size
      clear hbA
      generalize v2.alloc (.cells intCells 32) = v3 at *
      (repeat (quiet_step (fail))); refine wpQuiet_nil ?_
      refine wpOp_at (by simp only [List.getElem?_toArray, List.getElem?_cons_zero, List.getElem?_cons_succ]; rfl) (by rfl) (fun K hK => ?_)
      go_simp
      refine (div_of small_le_BIG qrOK_small v3 bA 0 b1 0 b2 0 n d HA.out HI1.out HI2.out HD0.out (by omega) (by omega)).mono ?_
      rintro e v4 ⟨rfl, hk, hi⟩
      have K4 := Lib.hid (K3.out.trans hk fun k i hk h => absurd h.1 (by omega))
      have HI4 := Lib.hid hi
      refine hK _ _ ⟨HCL.out _ K4.out, ?_⟩
      clear hK K hk hi
      (repeat (quiet_step (fail))); refine wpQuiet_nil ?_
      refine wpOp_at (by simp only [List.getElem?_toArray, List.getElem?_cons_zero, List.getElem?_cons_succ]; rfl) (by rfl) (fun K hK => ?_)
      go_simp
      refine (int64_any v4 bA 0 (n / d) HI4.out (by omega) (by omega)).mono ?_
      rintro e v5 ⟨rfl, rfl⟩
      refine hK _ _ ⟨HCL.out _ K4.out, ?_⟩
      clear hK K
      (repeat (quiet_step (fail))); refine wpQuiet_nil ?_
      refine NoPanic.normal ?_
      go_wp2
      go_ret
      exact ⟨rfl, HK0.out.both K4.out⟩

theorem right_true (n d : Int) (h1 : 1 ≤ d) (h2 : d ≤ 1073741824) (h3 : -1073741824 ≤ n) (h4 : n ≤ 1073741824) : ((((Nat.gcd n.natAbs d.natAbs : Nat) : Int) - 1).sign == 0) = decide (FracOK n d) := by
  by_cases h : Nat.gcd n.natAbs d.natAbs = 1
  · rw [dec_t ⟨h1, h2, h3, h4, h⟩, h]; rfl
  · rw [dec_f (fun hk => h hk.2.2.2.2), beq_eq_false_iff_ne]
    intro h0
    rw [Int.sign_eq_zero_iff_zero] at h0
    omega

set_option maxRecDepth 100000 in
set_option maxHeartbeats 16000000 in
theorem refRight_in (n d : Int) (w : World) (a1 : 1 ≤ d) (a2 : d ≤ 1073741824) (a3 : -1073741824 ≤ n) (a4 : n ≤ 1073741824) :
    Calls Try.prog 33 #[.agg #[.int .i64 n, .int .i64 d]] w fun e w' => e = .returned (.bool (decide (FracOK n d))) ∧ Keep NoS w w' := by
  have e1 : decide (d < 1) = false := dec_f (by omega)
  have e2 : decide (1073741824 < d) = false := dec_f (by omega)
  have e3 : decide (n < -1073741824) = false := dec_f (by omega)
  have e4 : decide (1073741824 < n) = false := dec_f (by omega)
  have HV := Lib.hid (right_true n d a1 a2 a3 a4)
  go_enter Try.func33, Try.ntmps33
  go_wp2
  have B := (show Blk (w.alloc (.cells #[.int .i64 n, .int .i64 d] 23)) w.heap.size #[.int .i64 n, .int .i64 d] by (repeat (first | (refine blk_at _ _ ?_; simp; done) | (refine Blk.old ?_ _))))
  have HK0 := Lib.hid (show Keep NoS w (w.alloc (.cells #[.int .i64 n, .int .i64 d] 23)) by (repeat' (first | (with_reducible assumption) | (with_reducible exact HK.out) | (with_reducible exact Keep.refl _ _) | (with_reducible refine Keep.alloc ?_ _) | (with_reducible refine Keep.setCell ?_ _ (fun h => absurd h (by omega))) | (with_reducible refine Keep.drewN ?_ _) | (with_reducible refine Keep.drew ?_))))
  have hlt := B.lt
  generalize hw0 : w.alloc (.cells #[.int .i64 n, .int .i64 d] 23) = w0 at *
  clear hw0
  obtain ⟨p0, p1, _, _, _⟩ := B.two
  refine wp_region_tree (fun w' => Keep NoS w0 w') (.two [1, 2, 4, 5] 0 (.one [] 3 (.one [] 6 (.one [] 7 (.fin [8])))) 3 (.two [] 0 (.one [] 6 (.one [] 7 (.fin [8]))) 6 (.one [] 0 (.one [] 7 (.fin [8]))))) (by kernel_rfl) (by kernel_rfl) (by (repeat' (first | (with_reducible assumption) | (with_reducible exact HK.out) | (with_reducible exact Keep.refl _ _) | (with_reducible refine Keep.alloc ?_ _) | (with_reducible refine Keep.setCell ?_ _ (fun h => absurd h (by omega))) | (with_reducible refine Keep.drewN ?_ _) | (with_reducible refine Keep.drew ?_)))) ?_
  intro X W hne hF hcl
  have HCL := Lib.hid hcl
  have hx0 := fun x => ((hF x).cell hlt).trans p0
  have hx1 := fun x => ((hF x).cell hlt).trans p1
  have hs0 := hlt
  clear hF hcl
  simp only [wpPlanT, pickOps, List.getElem?_toArray, List.getElem?_cons_zero, List.getElem?_cons_succ, clsOf, Bool.false_eq_true, if_false]
  (repeat (quiet_step (fail))); refine wpQuiet_nil ?_
  refine ⟨?_, ?_⟩
  · refine wpOp_at (by simp only [List.getElem?_toArray, List.getElem?_cons_zero, List.getElem?_cons_succ]; rfl) (by rfl) (fun K hK => ?_)
    go_simp
    have k1 : Keep NoS w0 ((w0.alloc (.cells intCells 32)).drew) := by (repeat' (first | (with_reducible assumption) | (with_reducible exact HK.out) | (with_reducible exact Keep.refl _ _) | (with_reducible refine Keep.alloc ?_ _) | (with_reducible refine Keep.setCell ?_ _ (fun h => absurd h (by omega))) | (with_reducible refine Keep.drewN ?_ _) | (with_reducible refine Keep.drew ?_)))
    refine hK _ _ ⟨HCL.out _ k1, ?_⟩
    have HA : Hid (IsHdr ((w0.alloc (.cells intCells 32)).drew) w0.heap.size 0) := Lib.hid (hdr_new (w0.drew))
    have K1 := Lib.hid k1
    clear hK K k1
    generalize hbA : w0.heap.size = bA at HA ⊢
    have hA0 : w0.heap.size ≤ bA := by rw [← hbA]; exact Nat.le_refl _
    clear hbA
    generalize (w0.alloc (.cells intCells 32)).drew = v1 at *
    (repeat (quiet_step (fail))); refine wpQuiet_nil ?_
    refine wpOp_at (by simp only [List.getElem?_toArray, List.getElem?_cons_zero, List.getElem?_cons_succ]; rfl) (by rfl) (fun K hK => ?_)
    go_simp
    refine (newInt_any _ n (by omega) (by omega)).mono ?_
    rintro e v2 ⟨b1, hb1, rfl, hk, hi⟩
    have K2 := Lib.hid (K1.out.both hk)
    have HI1 := Lib.hid hi
    have HA := Lib.hid (IsHdr.ofNewer HA.out hk)
    refine hK _ _ ⟨HCL.out _ K2.out, ?_⟩
    clear hK K hk hi hb1
    (repeat (quiet_step (fail))); refine wpQuiet_nil ?_
    refine wpOp_at (by simp only [List.getElem?_toArray, List.getElem?_cons_zero, List.getElem?_cons_succ]; rfl) (by rfl) (fun K hK => ?_)
    go_simp
    refine (newInt_any _ d (by omega) (by omega)).mono ?_
    rintro e v3 ⟨b2, hb2, rfl, hk, hi⟩
    have K3 := Lib.hid (K2.out.both hk)
    have HI2 := Lib.hid hi
    have HA := Lib.hid (IsHdr.ofNewer HA.out hk)
    have HI1 := Lib.hid (HI1.out.ofNewer hk)
    refine hK _ _ ⟨HCL.out _ K3.out, ?_⟩
    clear hK K hk hi hb2
    (repeat (quiet_step (fail))); refine wpQuiet_nil ?_
    refine wpOp_at (by simp only [List.getElem?_toArray, List.getElem?_cons_zero, List.getElem?_cons_succ]; rfl) (by rfl) (fun K hK => ?_)
    go_simp
    refine (gcdI_small v3 bA 0 b1 0 b2 0 n d HA.out HI1.out HI2.out (by omega) (by omega)).mono ?_
    rintro e v4 ⟨rfl, hk, hi⟩
    have K4 := Lib.hid (K3.out.trans hk fun k i hk h => absurd h.1 (by omega))
    have HI4 := Lib.hid hi
    refine hK _ _ ⟨HCL.out _ K4.out, ?_⟩
    clear hK K hk hi
    (repeat (quiet_step (fail))); refine wpQuiet_nil ?_
    refine NoPanic.normal ?_
    go_wp2_with fail
    refine (newInt_any v4 1 (by omega) (by omega)).mono ?_
    rintro e v5 ⟨b5, hb5, rfl, hk5, hi5⟩
    have K5 := Lib.hid (K4.out.both hk5)
    have HI45 := Lib.hid (HI4.out.ofNewer hk5)
    have HI5 := Lib.hid hi5
    clear hk5 hi5 hb5
    go_wp2_with fail
    refine (intCmp_any v5 bA 0 b5 0 _ _ HI45.out HI5.out).mono ?_
    rintro e v6 ⟨rfl, nd, rfl⟩
    have K6 := Lib.hid (K5.out.both (keep_drewN v5 nd))
    go_wp2
    go_ret
    refine ⟨?_, HK0.out.both K6.out⟩
    exact congrArg (fun b : Bool => Ending.returned (.bool b)) HV.out
  · refine wpOp_at (by simp only [List.getElem?_toArray, List.getElem?_cons_zero, List.getElem?_cons_succ]; rfl) (by rfl) (fun K hK => ?_)
    go_simp
    refine (newInt_any _ n (by omega) (by omega)).mono ?_
    rintro e v1 ⟨b1, hb1, rfl, hk, hi⟩
    have K1 := Lib.hid ((show Keep NoS w0 (w0.drew) by (repeat' (first | (with_reducible assumption) | (with_reducible exact HK.out) | (with_reducible exact Keep.refl _ _) | (with_reducible refine Keep.alloc ?_ _) | (with_reducible refine Keep.setCell ?_ _ (fun h => absurd h (by omega))) | (with_reducible refine Keep.drewN ?_ _) | (with_reducible refine Keep.drew ?_)))).both hk)
    have HI1 := Lib.hid hi
    refine hK _ _ ⟨HCL.out _ K1.out, ?_⟩
    clear hK K hk hi hb1
    (repeat (quiet_step (fail))); refine wpQuiet_nil ?_
    refine ⟨?_, ?_⟩
    · refine wpOp_at (by simp only [List.getElem?_toArray, List.getElem?_cons_zero, List.getElem?_cons_succ]; rfl) (by rfl) (fun K hK => ?_)
      go_simp
      have k2 : Keep NoS w0 (v1.alloc (.cells intCells 32)) := K1.out.alloc _
      refine hK _ _ ⟨HCL.out _ k2, ?_⟩
      have HA : Hid (IsHdr (v1.alloc (.cells intCells 32)) v1.heap.size 0) := Lib.hid (hdr_new (v1))
      have K2 := Lib.hid k2
      have HI1 := Lib.hid (HI1.out.ofNewer ((Keep.refl NoS v1).alloc (.cells intCells 32)))
      clear hK K k2
      generalize hbA : v1.heap.size = bA at HA ⊢
      have hA0 : w0.heap.size ≤ bA := by rw [← hbA]; exact K1.out.size
      clear hbA
      generalize v1.alloc (.cells intCells 32) = v2 at *
      (repeat (quiet_step (fail))); refine wpQuiet_nil ?_
      refine wpOp_at (by simp only [List.getElem?_toArray, List.getElem?_cons_zero, List.getElem?_cons_succ]; rfl) (by rfl) (fun K hK => ?_)
      go_simp
      refine (newInt_any _ d (by omega) (by omega)).mono ?_
      rintro e v3 ⟨b2, hb2, rfl, hk, hi⟩
      have K3 := Lib.hid (K2.out.both hk)
      have HI2 := Lib.hid hi
      have HA := Lib.hid (IsHdr.ofNewer HA.out hk)
      have HI1 := Lib.hid (HI1.out.ofNewer hk)
      refine hK _ _ ⟨HCL.out _ K3.out, ?_⟩
      clear hK K hk hi hb2
      (repeat (quiet_step (fail))); refine wpQuiet_nil ?_
      refine wpOp_at (by simp only [List.getElem?_toArray, List.getElem?_cons_zero, List.getElem?_cons_succ]; rfl) (by rfl) (fun K hK => ?_)
      go_simp
      refine (gcdI_small v3 bA 0 b1 0 b2 0 n d HA.out HI1.out HI2.out (by omega) (by omega)).mono ?_
      rintro e v4 ⟨rfl, hk, hi⟩
      have K4 := Lib.hid (K3.out.trans hk fun k i hk h => absurd h.1 (by omega))
      have HI4 := Lib.hid hi
      refine hK _ _ ⟨HCL.out _ K4.out, ?_⟩
      clear hK K hk hi
      (repeat (quiet_step (fail))); refine wpQuiet_nil ?_
      refine NoPanic.normal ?_
      go_wp2_with fail
      refine (newInt_any v4 1 (by omega) (by omega)).mono ?_
      rintro e v5 ⟨b5, hb5, rfl, hk5, hi5⟩
      have K5 := Lib.hid (K4.out.both hk5)
      have HI45 := Lib.hid (HI4.out.ofNewer hk5)
      have HI5 := Lib.hid hi5
      clear hk5 hi5 hb5
      go_wp2_with fail
      refine (intCmp_any v5 bA 0 b5 0 _ _ HI45.out HI5.out).mono ?_
      rintro e v6 ⟨rfl, nd, rfl⟩
      have K6 := Lib.hid (K5.out.both (keep_drewN v5 nd))
      go_wp2
      go_ret
      refine ⟨?_, HK0.out.both K6.out⟩
      exact congrArg (fun b : Bool => Ending.returned (.bool b)) HV.out
    · refine wpOp_at (by simp only [List.getElem?_toArray, List.getElem?_cons_zero, List.getElem?_cons_succ]; rfl) (by rfl) (fun K hK => ?_)
      go_simp
      refine (newInt_any _ d (by omega) (by omega)).mono ?_
      rintro e v2 ⟨b2, hb2, rfl, hk, hi⟩
      have K2 := Lib.hid (K1.out.both hk)
      have HI2 := Lib.hid hi
      have HI1 := Lib.hid (HI1.out.ofNewer hk)
      refine hK _ _ ⟨HCL.out _ K2.out, ?_⟩
      clear hK K hk hi hb2
      (repeat (quiet_step (fail))); refine wpQuiet_nil ?_
      refine wpOp_at (by simp only [List.getElem?_toArray, List.getElem?_cons_zero, List.getElem?_cons_succ]; rfl) (by rfl) (fun K hK => ?_)
      go_simp
      have k3 : Keep NoS w0 (v2.alloc (.cells intCells 32)) := K2.out.alloc _
      refine hK _ _ ⟨HCL.out _ k3, ?_⟩
      have HA : Hid (IsHdr (v2.alloc (.cells intCells 32)) v2.heap.size 0) := Lib.hid (hdr_new (v2))
      have K3 := Lib.hid k3
      have HI1 := Lib.hid (HI1.out.ofNewer ((Keep.refl NoS v2).alloc (.cells intCells 32)))
      have HI2 := Lib.hid (HI2.out.ofNewer ((Keep.refl NoS v2).alloc (.cells intCells 32)))
      clear hK K k3
      generalize hbA : v2.heap.size = bA at HA ⊢
      have hA0 : w0.heap.size ≤ bA := by rw [← hbA]; exact K2.out.size
      clear hbA
      generalize v2.alloc (.cells intCells 32) = v3 at *
      (repeat (quiet_step (fail))); refine wpQuiet_nil ?_
      refine wpOp_at (by simp only [List.getElem?_toArray, List.getElem?_cons_zero, List.getElem?_cons_succ]; rfl) (by rfl) (fun K hK => ?_)
      go_simp
      refine (gcdI_small v3 bA 0 b1 0 b2 0 n d HA.out HI1.out HI2.out (by omega) (by omega)).mono ?_
      rintro e v4 ⟨rfl, hk, hi⟩
      have K4 := Lib.hid (K3.out.trans hk fun k i hk h => absurd h.1 (by omega))
      have HI4 := Lib.hid hi
      refine hK _ _ ⟨HCL.out _ K4.out, ?_⟩
      clear hK K hk hi
      (repeat (quiet_step (fail))); refine wpQuiet_nil ?_
      refine NoPanic.normal ?_
      go_wp2_with fail
      refine (newInt_any v4 1 (by omega) (by omega)).mono ?_
      rintro e v5 ⟨b5, hb5, rfl, hk5, hi5⟩
      have K5 := Lib.hid (K4.out.both hk5)
      have HI45 := Lib.hid (HI4.out.ofNewer hk5)
      have HI5 := Lib.hid hi5
      clear hk5 hi5 hb5
      go_wp2_with fail
      refine (intCmp_any v5 bA 0 b5 0 _ _ HI45.out HI5.out).mono ?_
      rintro e v6 ⟨rfl, nd, rfl⟩
      have K6 := Lib.hid (K5.out.both (keep_drewN v5 nd))
      go_wp2
      go_ret
      refine ⟨?_, HK0.out.both K6.out⟩
      exact congrArg (fun b : Bool => Ending.returned (.bool b)) HV.out

set_option maxRecDepth 100000 in
set_option maxHeartbeats 4000000 in
theorem refRight_any (n d : Int) (w : World) : Calls Try.prog 33 #[.agg #[.int .i64 n, .int .i64 d]] w fun e w' => e = .returned (.bool (decide (FracOK n d))) ∧ Keep NoS w w' := by
  by_cases h : 1 ≤ d ∧ d ≤ 1073741824 ∧ -1073741824 ≤ n ∧ n ≤ 1073741824
  · exact refRight_in n d w h.1 h.2.1 h.2.2.1 h.2.2.2
  have hno : decide (FracOK n d) = false := dec_f fun hk => h ⟨hk.1, hk.2.1, hk.2.2.1, hk.2.2.2.1⟩
  rw [hno]
  clear hno
  by_cases h1 : d < 1
  · have e1 : decide (d < 1) = true := dec_t h1
    clear h
    go_enter Try.func33, Try.ntmps33
    go_wp2
    go_ret
    exact ⟨rfl, by (repeat' (first | (with_reducible assumption) | (with_reducible exact HK.out) | (with_reducible exact Keep.refl _ _) | (with_reducible refine Keep.alloc ?_ _) | (with_reducible refine Keep.setCell ?_ _ (fun h => absurd h (by omega))) | (with_reducible refine Keep.drewN ?_ _) | (with_reducible refine Keep.drew ?_)))⟩
  have e1 : decide (d < 1) = false := dec_f h1
  by_cases h2 : 1073741824 < d
  · have e2 : decide (1073741824 < d) = true := dec_t h2
    clear h
    go_enter Try.func33, Try.ntmps33
    go_wp2
    go_ret
    exact ⟨rfl, by (repeat' (first | (with_reducible assumption) | (with_reducible exact HK.out) | (with_reducible exact Keep.refl _ _) | (with_reducible refine Keep.alloc ?_ _) | (with_reducible refine Keep.setCell ?_ _ (fun h => absurd h (by omega))) | (with_reducible refine Keep.drewN ?_ _) | (with_reducible refine Keep.drew ?_)))⟩
  have e2 : decide (1073741824 < d) = false := dec_f h2
  by_cases h3 : n < -1073741824
  · have e3 : decide (n < -1073741824) = true := dec_t h3
    clear h
    go_enter Try.func33, Try.ntmps33
    go_wp2
    go_ret
    exact ⟨rfl, by (repeat' (first | (with_reducible assumption) | (with_reducible exact HK.out) | (with_reducible exact Keep.refl _ _) | (with_reducible refine Keep.alloc ?_ _) | (with_reducible refine Keep.setCell ?_ _ (fun h => absurd h (by omega))) | (with_reducible refine Keep.drewN ?_ _) | (with_reducible refine Keep.drew ?_)))⟩
  have e3 : decide (n < -1073741824) = false := dec_f h3
  have e4 : decide (1073741824 < n) = true := dec_t (by omega)
  clear h
  go_enter Try.func33, Try.ntmps33
  go_wp2
  go_ret
  exact ⟨rfl, by (repeat' (first | (with_reducible assumption) | (with_reducible exact HK.out) | (with_reducible exact Keep.refl _ _) | (with_reducible refine Keep.alloc ?_ _) | (with_reducible refine Keep.setCell ?_ _ (fun h => absurd h (by omega))) | (with_reducible refine Keep.drewN ?_ _) | (with_reducible refine Keep.drew ?_)))⟩

set_option maxHeartbeats 4000000 in
theorem refRat_any (n d : Int) (w : World) (hb : d ≠ 0) (a1 : -9223372036854775808 ≤ n) (a2 : n ≤ 9223372036854775807) (b1 : -9223372036854775808 ≤ d) (b2 : d ≤ 9223372036854775807) :
    Calls Try.prog 36 #[.agg #[.int .i64 n, .int .i64 d]] w (NewR (Rat.divInt n d) w) := by
  have HB := Lib.hid hb
  have HA : Hid (-9223372036854775808 ≤ n ∧ n ≤ 9223372036854775807 ∧ -9223372036854775808 ≤ d ∧ d ≤ 9223372036854775807) := Lib.hid ⟨a1, a2, b1, b2⟩
  clear hb a1 a2 b1 b2
  go_enter Try.func36, Try.ntmps36
  go_wp2_with fail
  have k1 : Keep NoS w (w.alloc (.cells #[.int .i64 n, .int .i64 d] 23)) := (Keep.refl _ _).alloc _
  refine (newRat_any _ n d HB.out HA.out.1 HA.out.2.1 HA.out.2.2.1 HA.out.2.2.2).mono ?_
  rintro e w1 ⟨b, hb, rfl, hk, hi⟩
  have K1 := Lib.hid (k1.both hk)
  have HI := Lib.hid hi
  have hb' : w.heap.size ≤ b := by simp at hb; omega
  clear k1 hk hi hb
  go_wp2
  go_returns
  exact ⟨_, hb', rfl, K1.out, HI.out⟩


end Go.Proofs.Ytnmklgigmmlgeaa
