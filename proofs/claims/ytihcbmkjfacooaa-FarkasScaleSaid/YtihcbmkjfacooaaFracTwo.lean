/- The reference's FracTwo: what two fractions come to. -/
import Derived.Test.YtihcbmkjfacooaaBaseB
namespace Go.Proofs.Ytihcbmkjfacooaa
open Go.ChangeShapes Go.WideShapes Go.RowKit
set_option linter.unusedVariables false
set_option linter.unusedSimpArgs false

/-- Made in lowest terms it is no greater. -/
theorem divInt_le (a b : Int) (hb : b ≠ 0) : (Rat.divInt a b).num.natAbs ≤ a.natAbs ∧ (Rat.divInt a b).den ≤ b.natAbs := by
  rcases Int.lt_or_gt_of_ne hb with h | h
  · obtain ⟨h1, h2⟩ := rat_neg a b h
    refine ⟨by rw [h1, Int.natAbs_neg]; exact natAbs_tdiv_le _ _, ?_⟩
    have := natAbs_tdiv_le b (Nat.gcd a.natAbs b.natAbs)
    omega
  · obtain ⟨h1, h2⟩ := rat_pos a b h
    refine ⟨by rw [h1]; exact natAbs_tdiv_le _ _, ?_⟩
    have := natAbs_tdiv_le b (Nat.gcd a.natAbs b.natAbs)
    omega

theorem below63 {x : Int} (h1 : -4611686018427387904 ≤ x) (h2 : x ≤ 4611686018427387904) : x.natAbs < 18446744073709551616 := by omega

/-- All bounds that two valid fractions' reckoning wants. -/
structure TwoB (x y : Rat) : Prop where
  rx : RB 18446744073709551616 x
  ry : RB 18446744073709551616 y
  add : (x.num * y.den + y.num * x.den).natAbs < 18446744073709551616
  sub : (x.num * y.den - y.num * x.den).natAbs < 18446744073709551616
  mul : (x.num * y.num).natAbs < 18446744073709551616
  den : x.den * y.den < 18446744073709551616
  l : (x.num * y.den).natAbs < 18446744073709551616
  r : (y.num * x.den).natAbs < 18446744073709551616
  q : x.den * y.num.natAbs < 18446744073709551616

theorem twoB {n1 d1 n2 d2 : Int} (h1 : FracOK n1 d1) (h2 : FracOK n2 d2) : TwoB (fr n1 d1) (fr n2 d2) := by
  obtain ⟨e1, f1⟩ := fr_parts h1
  obtain ⟨e2, f2⟩ := fr_parts h2
  obtain ⟨a1, a2, a3, a4, _⟩ := h1
  obtain ⟨b1, b2, b3, b4, _⟩ := h2
  obtain ⟨m1, m2⟩ := mul_bd n1 d2 ⟨a3, a4⟩ ⟨by omega, b2⟩
  obtain ⟨m3, m4⟩ := mul_bd n2 d1 ⟨b3, b4⟩ ⟨by omega, a2⟩
  obtain ⟨m5, m6⟩ := mul_bd d1 d2 ⟨by omega, a2⟩ ⟨by omega, b2⟩
  obtain ⟨m7, m8⟩ := mul_bd n1 n2 ⟨a3, a4⟩ ⟨b3, b4⟩
  have hd : (fr n1 d1).den * (fr n2 d2).den < 18446744073709551616 := by
    have : (((fr n1 d1).den * (fr n2 d2).den : Nat) : Int) = d1 * d2 := by rw [Int.natCast_mul, f1, f2]
    omega
  have hq : (fr n1 d1).den * (fr n2 d2).num.natAbs < 18446744073709551616 := by
    have : ((fr n1 d1).den * (fr n2 d2).num.natAbs : Nat) = (n2 * d1).natAbs := by rw [e2, Int.natAbs_mul, Nat.mul_comm]; congr 1; omega
    omega
  refine ⟨⟨by rw [e1]; omega, by omega⟩, ⟨by rw [e2]; omega, by omega⟩, ?_, ?_, ?_, hd, ?_, ?_, hq⟩
  all_goals (simp only [e1, e2, f1, f2]; omega)


theorem four_blocks {w w1 : World} {n1 d1 n2 d2 : Int} (k : Keep NoS ((((w.alloc (.cells #[.int .i64 n1, .int .i64 d1] 38)).alloc (.cells #[.int .i64 n2, .int .i64 d2] 38)).alloc (.cells #[.int .i64 0, .int .i64 0] 38)).alloc (.cells #[.int .i64 0, .int .i64 0] 26)) w1) :
    Blk w1 w.heap.size #[.int .i64 n1, .int .i64 d1] ∧ Blk w1 (w.heap.size + 1) #[.int .i64 n2, .int .i64 d2] ∧ Blk w1 (w.heap.size + 1 + 1) #[.int .i64 0, .int .i64 0] ∧ Blk w1 (w.heap.size + 1 + 1 + 1) #[.int .i64 0, .int .i64 0] ∧ Keep NoS w w1 := by
  refine ⟨Blk.keep (by (repeat (first | (refine blk_at _ _ ?_; simp; done) | (refine Blk.old ?_ _)))) k, Blk.keep (by (repeat (first | (refine blk_at _ _ ?_; simp; done) | (refine Blk.old ?_ _)))) k, Blk.keep (by (repeat (first | (refine blk_at _ _ ?_; simp; done) | (refine Blk.old ?_ _)))) k, Blk.keep (by (repeat (first | (refine blk_at _ _ ?_; simp; done) | (refine Blk.old ?_ _)))) k, (show Keep NoS w ((((w.alloc (.cells #[.int .i64 n1, .int .i64 d1] 38)).alloc (.cells #[.int .i64 n2, .int .i64 d2] 38)).alloc (.cells #[.int .i64 0, .int .i64 0] 38)).alloc (.cells #[.int .i64 0, .int .i64 0] 26)) by (repeat' (first | (with_reducible assumption) | (with_reducible exact HK.out) | (with_reducible exact Keep.refl _ _) | (with_reducible refine Keep.alloc ?_ _) | (with_reducible refine Keep.setCell ?_ _ (fun h => absurd h (by omega))) | (with_reducible refine Keep.drewN ?_ _) | (with_reducible refine Keep.drew ?_)))).both k⟩


set_option maxRecDepth 100000 in
set_option maxHeartbeats 8000000 in
theorem two_bad1 (k n1 d1 n2 d2 : Int) (w : World) (h : ¬ FracOK n1 d1) :
    Calls Try.prog 35 #[.int .i64 k, .agg #[.int .i64 n1, .int .i64 d1], .agg #[.int .i64 n2, .int .i64 d2]] w fun e w' => e = .returned (.tuple #[.agg #[.int .i64 0, .int .i64 0], .agg #[.int .i64 3, .int .i64 0]]) ∧ Keep NoS w w' := by
  have e0 : decide (FracOK n1 d1) = false := dec_f h
  go_enter Try.func35, Try.ntmps35
  go_wp2_with fail
  refine (refRight_any n1 d1 _).mono ?_
  rintro e w1 ⟨rfl, hk1⟩
  obtain ⟨B0, B1, B2, B3, hk⟩ := four_blocks hk1
  have HK := Lib.hid hk
  clear hk1 hk
  rw [e0]
  clear e0 h
  obtain ⟨p0, p1, _, _, l0⟩ := B0.two
  obtain ⟨q0, q1, _, _, l1⟩ := B1.two
  obtain ⟨r0, r1, r2, r3, l2⟩ := B2.two
  obtain ⟨s0, s1, s2, s3, l3⟩ := B3.two
  clear B0 B1 B2 B3
  go_wp2
  refine bodyPost_ret (by simp [results, Try.results35, go_sem, r0, r1, s0, s1, l2, l3]; rfl) rfl ?_
  exact ⟨rfl, by (repeat' (first | (with_reducible assumption) | (with_reducible exact HK.out) | (with_reducible exact Keep.refl _ _) | (with_reducible refine Keep.alloc ?_ _) | (with_reducible refine Keep.setCell ?_ _ (fun h => absurd h (by omega))) | (with_reducible refine Keep.drewN ?_ _) | (with_reducible refine Keep.drew ?_)))⟩

set_option maxRecDepth 100000 in
set_option maxHeartbeats 8000000 in
theorem two_bad2 (k n1 d1 n2 d2 : Int) (w : World) (h : FracOK n1 d1) (h' : ¬ FracOK n2 d2) :
    Calls Try.prog 35 #[.int .i64 k, .agg #[.int .i64 n1, .int .i64 d1], .agg #[.int .i64 n2, .int .i64 d2]] w fun e w' => e = .returned (.tuple #[.agg #[.int .i64 0, .int .i64 0], .agg #[.int .i64 3, .int .i64 1]]) ∧ Keep NoS w w' := by
  have e0 : decide (FracOK n1 d1) = true := dec_t h
  have e1 : decide (FracOK n2 d2) = false := dec_f h'
  go_enter Try.func35, Try.ntmps35
  go_wp2_with fail
  refine (refRight_any n1 d1 _).mono ?_
  rintro e w1 ⟨rfl, hk1⟩
  obtain ⟨B0, B1, B2, B3, hk⟩ := four_blocks hk1
  have HK := Lib.hid hk
  clear hk1 hk
  rw [e0]
  clear e0 h h'
  obtain ⟨p0, p1, _, _, l0⟩ := B0.two
  obtain ⟨q0, q1, _, _, l1⟩ := B1.two
  obtain ⟨r0, r1, r2, r3, l2⟩ := B2.two
  obtain ⟨s0, s1, s2, s3, l3⟩ := B3.two
  go_wp2_with fail
  refine (refRight_any n2 d2 _).mono ?_
  rintro e w2 ⟨rfl, hk2⟩
  rw [e1]
  clear e1 p0 p1 q0 q1 r0 r1 r2 r3 s0 s1 s2 s3 l0 l1 l2 l3
  replace HK := Lib.hid (HK.out.both hk2)
  replace B0 := B0.keep hk2
  replace B1 := B1.keep hk2
  replace B2 := B2.keep hk2
  replace B3 := B3.keep hk2
  clear hk2
  obtain ⟨p0, p1, _, _, l0⟩ := B0.two
  obtain ⟨q0, q1, _, _, l1⟩ := B1.two
  obtain ⟨r0, r1, r2, r3, l2⟩ := B2.two
  obtain ⟨s0, s1, s2, s3, l3⟩ := B3.two
  clear B0 B1 B2 B3
  go_wp2
  refine bodyPost_ret (by simp [results, Try.results35, go_sem, r0, r1, s0, s1, l2, l3]; rfl) rfl ?_
  exact ⟨rfl, by (repeat' (first | (with_reducible assumption) | (with_reducible exact HK.out) | (with_reducible exact Keep.refl _ _) | (with_reducible refine Keep.alloc ?_ _) | (with_reducible refine Keep.setCell ?_ _ (fun h => absurd h (by omega))) | (with_reducible refine Keep.drewN ?_ _) | (with_reducible refine Keep.drew ?_)))⟩


set_option maxRecDepth 100000 in
set_option maxHeartbeats 16000000 in
theorem two_add (n1 d1 n2 d2 : Int) (w : World) (h1 : FracOK n1 d1) (h2 : FracOK n2 d2) :
    Calls Try.prog 35 #[.int .i64 1, .agg #[.int .i64 n1, .int .i64 d1], .agg #[.int .i64 n2, .int .i64 d2]] w fun e w' => e = .returned (opV n1 d1 n2 d2 (n1 * d2 + n2 * d1) (d1 * d2)) ∧ Keep NoS w w' := by
  have e0 : decide (FracOK n1 d1) = true := dec_t h1
  have e1 : decide (FracOK n2 d2) = true := dec_t h2
  have TB := Lib.hid (twoB h1 h2)
  obtain ⟨N, D, C, hf, _⟩ := made_form (fr n1 d1 + fr n2 d2)
  have HE : Hid (opV n1 d1 n2 d2 (n1 * d2 + n2 * d1) (d1 * d2) = fracMadeV (fr n1 d1 + fr n2 d2)) := Lib.hid (add_made h1 h2)
  have HF := Lib.hid hf
  have a1 := h1.1
  have a2 := h1.2.1
  have a3 := h1.2.2.1
  have a4 := h1.2.2.2.1
  have b1 := h2.1
  have b2 := h2.2.1
  have b3 := h2.2.2.1
  have b4 := h2.2.2.2.1
  have HB : Hid ((fr n1 d1 + fr n2 d2).num.natAbs < BIG ∧ (fr n1 d1 + fr n2 d2).den < BIG) := Lib.hid (by
    rw [← rat_add]
    have tb := twoB h1 h2
    have hl := divInt_le ((fr n1 d1).num * (fr n2 d2).den + (fr n2 d2).num * (fr n1 d1).den) ((fr n1 d1).den * (fr n2 d2).den) (Int.mul_ne_zero (den_ne (fr n1 d1)) (den_ne (fr n2 d2)))
    refine ⟨Nat.lt_of_lt_of_le (Nat.lt_of_le_of_lt hl.1 (tb.add)) small_le_BIG, Nat.lt_of_lt_of_le (Nat.lt_of_le_of_lt hl.2 (by rw [Int.natAbs_mul]; exact tb.den)) small_le_BIG⟩)
  clear hf h1 h2
  go_enter Try.func35, Try.ntmps35
  go_wp2_with fail
  refine (refRight_any n1 d1 _).mono ?_
  rintro e w1 ⟨rfl, hk1⟩
  obtain ⟨B0, B1, B2, B3, hk⟩ := four_blocks hk1
  have HK := Lib.hid hk
  clear hk1 hk
  rw [e0]
  clear e0
  obtain ⟨p0, p1, _, _, l0⟩ := B0.two
  obtain ⟨q0, q1, _, _, l1⟩ := B1.two
  obtain ⟨r0, r1, r2, r3, l2⟩ := B2.two
  obtain ⟨s0, s1, s2, s3, l3⟩ := B3.two
  go_wp2_with fail
  refine (refRight_any n2 d2 _).mono ?_
  rintro e w2 ⟨rfl, hk2⟩
  rw [e1]
  clear e1 p0 p1 q0 q1 r0 r1 r2 r3 s0 s1 s2 s3 l0 l1 l2 l3
  replace HK := Lib.hid (HK.out.both hk2)
  replace B0 := B0.keep hk2
  replace B1 := B1.keep hk2
  replace B2 := B2.keep hk2
  replace B3 := B3.keep hk2
  clear hk2
  obtain ⟨p0, p1, _, _, l0⟩ := B0.two
  obtain ⟨q0, q1, _, _, l1⟩ := B1.two
  obtain ⟨r0, r1, r2, r3, l2⟩ := B2.two
  obtain ⟨s0, s1, s2, s3, l3⟩ := B3.two
  go_wp2_with fail
  refine wp_region_by (fun w' => Keep NoS w2 w') [] [([0, 2], 1), ([], 3)] [4, 5] (by kernel_rfl) (by kernel_rfl) (by (repeat' (first | (with_reducible assumption) | (with_reducible exact HK.out) | (with_reducible exact Keep.refl _ _) | (with_reducible refine Keep.alloc ?_ _) | (with_reducible refine Keep.setCell ?_ _ (fun h => absurd h (by omega))) | (with_reducible refine Keep.drewN ?_ _) | (with_reducible refine Keep.drew ?_)))) ?_
  intro X W hne hF hcl
  have HCL := Lib.hid hcl
  have hx0 := fun x => ((hF x).cell l0).trans p0
  have hx1 := fun x => ((hF x).cell l0).trans p1
  have hy0 := fun x => ((hF x).cell l1).trans q0
  have hy1 := fun x => ((hF x).cell l1).trans q1
  clear hF hcl
  simp only [wpPlan, pickOps, List.getElem?_toArray, List.getElem?_cons_zero, List.getElem?_cons_succ, clsOf, Bool.false_eq_true, if_false]
  (repeat (quiet_step (fail))); refine wpQuiet_nil ?_
  refine wpOp_at (by simp only [List.getElem?_toArray, List.getElem?_cons_zero, List.getElem?_cons_succ]; rfl) (by rfl) (fun K hK => ?_)
  go_simp
  refine (refRat_any n1 d1 _ (by omega) (by omega) (by omega) (by omega) (by omega)).mono ?_
  rintro e w3 ⟨bx, hbx, rfl, hk3, hi3⟩
  have K3 := Lib.hid (show Keep NoS w2 w3 from (by (repeat' (first | (with_reducible assumption) | (with_reducible exact HK.out) | (with_reducible exact Keep.refl _ _) | (with_reducible refine Keep.alloc ?_ _) | (with_reducible refine Keep.setCell ?_ _ (fun h => absurd h (by omega))) | (with_reducible refine Keep.drewN ?_ _) | (with_reducible refine Keep.drew ?_))) : Keep NoS w2 w2.drew).both hk3)
  have HX3 := Lib.hid hi3
  refine hK _ _ ⟨fun _ => HCL.out _ K3.out, ?_⟩
  clear hK K hk3 hi3 hbx
  (repeat (quiet_step (fail))); refine wpQuiet_nil ?_
  refine wpOp_at (by simp only [List.getElem?_toArray, List.getElem?_cons_zero, List.getElem?_cons_succ]; rfl) (by rfl) (fun K hK => ?_)
  go_simp
  refine (refRat_any n2 d2 _ (by omega) (by omega) (by omega) (by omega) (by omega)).mono ?_
  rintro e w4 ⟨by', hby, rfl, hk4, hi4⟩
  have K4 := Lib.hid (K3.out.both hk4)
  have HX4 := Lib.hid (HX3.out.ofNewer hk4)
  have HY4 := Lib.hid hi4
  refine hK _ _ ⟨fun _ => HCL.out _ K4.out, ?_⟩
  clear hK K hk4 hi4 hby HX3 K3 hx0 hx1 hy0 hy1 HCL
  (repeat (quiet_step (fail))); refine wpQuiet_nil ?_
  refine NoPanic.normal ?_
  have k5 : Keep NoS w4 (w4.alloc (.cells ratCells 76)) := (Keep.refl _ _).alloc _
  have B15 := ((B1.keep K4.out).keep k5).two
  have HK5 := Lib.hid (K4.out.both k5)
  have HZ := Lib.hid (rhdr_new w4)
  have HX5 := Lib.hid (HX4.out.ofNewer k5)
  have HY5 := Lib.hid (HY4.out.ofNewer k5)
  have hz5 : w2.heap.size ≤ w4.heap.size := K4.out.size
  obtain ⟨t0, t1, _, _, m1⟩ := B15
  clear k5 HX4 HY4 p0 p1 q0 q1 r0 r1 r2 r3 s0 s1 s2 s3 l0 l1 l2 l3 K4
  go_wp2_with fail
  refine (ratAdd_of small_le_BIG setOK_small _ w4.heap.size 0 bx 0 by' 0 (fr n1 d1) (fr n2 d2) HZ.out HX5.out HY5.out (TB.out.rx.mono small_le_BIG) (TB.out.ry.mono small_le_BIG) TB.out.add TB.out.den (Nat.lt_of_lt_of_le TB.out.l small_le_BIG) (Nat.lt_of_lt_of_le TB.out.r small_le_BIG)).mono ?_
  rintro e w6 ⟨rfl, hk6, hi6⟩
  have HK6 := Lib.hid (HK5.out.newerR hk6 hz5)
  have HI6 := Lib.hid hi6
  clear hk6 hi6 t0 t1 m1 HX5 HY5 HZ HK5
  go_wp2_with fail
  refine (fracMade_any w6 w4.heap.size 0 _ HI6.out HB.out.1 HB.out.2).mono ?_
  rintro e w7 ⟨rfl, hk7⟩
  have hk := HK6.out.both hk7
  replace HK := Lib.hid (HK.out.both hk)
  replace B0 := B0.keep hk
  replace B1 := B1.keep hk
  replace B2 := B2.keep hk
  replace B3 := B3.keep hk
  clear hk hk7 HI6 HK6
  obtain ⟨p0, p1, _, _, l0⟩ := B0.two
  obtain ⟨q0, q1, _, _, l1⟩ := B1.two
  obtain ⟨r0, r1, r2, r3, l2⟩ := B2.two
  obtain ⟨s0, s1, s2, s3, l3⟩ := B3.two
  clear B0 B1 B2 B3
  rw [HF.out]
  go_wp2
  rw [HE.out, HF.out]
  refine bodyPost_ret (by simp [results, Try.results35, go_sem, r0, r1, s0, s1, l2, l3]; rfl) rfl ?_
  exact ⟨rfl, by (repeat' (first | (with_reducible assumption) | (with_reducible exact HK.out) | (with_reducible exact Keep.refl _ _) | (with_reducible refine Keep.alloc ?_ _) | (with_reducible refine Keep.setCell ?_ _ (fun h => absurd h (by omega))) | (with_reducible refine Keep.drewN ?_ _) | (with_reducible refine Keep.drew ?_)))⟩


set_option maxRecDepth 100000 in
set_option maxHeartbeats 16000000 in
theorem two_sub (n1 d1 n2 d2 : Int) (w : World) (h1 : FracOK n1 d1) (h2 : FracOK n2 d2) :
    Calls Try.prog 35 #[.int .i64 2, .agg #[.int .i64 n1, .int .i64 d1], .agg #[.int .i64 n2, .int .i64 d2]] w fun e w' => e = .returned (opV n1 d1 n2 d2 (n1 * d2 - n2 * d1) (d1 * d2)) ∧ Keep NoS w w' := by
  have e0 : decide (FracOK n1 d1) = true := dec_t h1
  have e1 : decide (FracOK n2 d2) = true := dec_t h2
  have TB := Lib.hid (twoB h1 h2)
  obtain ⟨N, D, C, hf, _⟩ := made_form (fr n1 d1 - fr n2 d2)
  have HE : Hid (opV n1 d1 n2 d2 (n1 * d2 - n2 * d1) (d1 * d2) = fracMadeV (fr n1 d1 - fr n2 d2)) := Lib.hid (sub_made h1 h2)
  have HF := Lib.hid hf
  have a1 := h1.1
  have a2 := h1.2.1
  have a3 := h1.2.2.1
  have a4 := h1.2.2.2.1
  have b1 := h2.1
  have b2 := h2.2.1
  have b3 := h2.2.2.1
  have b4 := h2.2.2.2.1
  have HB : Hid ((fr n1 d1 - fr n2 d2).num.natAbs < BIG ∧ (fr n1 d1 - fr n2 d2).den < BIG) := Lib.hid (by
    rw [← rat_sub]
    have tb := twoB h1 h2
    have hl := divInt_le ((fr n1 d1).num * (fr n2 d2).den - (fr n2 d2).num * (fr n1 d1).den) ((fr n1 d1).den * (fr n2 d2).den) (Int.mul_ne_zero (den_ne (fr n1 d1)) (den_ne (fr n2 d2)))
    refine ⟨Nat.lt_of_lt_of_le (Nat.lt_of_le_of_lt hl.1 (tb.sub)) small_le_BIG, Nat.lt_of_lt_of_le (Nat.lt_of_le_of_lt hl.2 (by rw [Int.natAbs_mul]; exact tb.den)) small_le_BIG⟩)
  clear hf h1 h2
  go_enter Try.func35, Try.ntmps35
  go_wp2_with fail
  refine (refRight_any n1 d1 _).mono ?_
  rintro e w1 ⟨rfl, hk1⟩
  obtain ⟨B0, B1, B2, B3, hk⟩ := four_blocks hk1
  have HK := Lib.hid hk
  clear hk1 hk
  rw [e0]
  clear e0
  obtain ⟨p0, p1, _, _, l0⟩ := B0.two
  obtain ⟨q0, q1, _, _, l1⟩ := B1.two
  obtain ⟨r0, r1, r2, r3, l2⟩ := B2.two
  obtain ⟨s0, s1, s2, s3, l3⟩ := B3.two
  go_wp2_with fail
  refine (refRight_any n2 d2 _).mono ?_
  rintro e w2 ⟨rfl, hk2⟩
  rw [e1]
  clear e1 p0 p1 q0 q1 r0 r1 r2 r3 s0 s1 s2 s3 l0 l1 l2 l3
  replace HK := Lib.hid (HK.out.both hk2)
  replace B0 := B0.keep hk2
  replace B1 := B1.keep hk2
  replace B2 := B2.keep hk2
  replace B3 := B3.keep hk2
  clear hk2
  obtain ⟨p0, p1, _, _, l0⟩ := B0.two
  obtain ⟨q0, q1, _, _, l1⟩ := B1.two
  obtain ⟨r0, r1, r2, r3, l2⟩ := B2.two
  obtain ⟨s0, s1, s2, s3, l3⟩ := B3.two
  go_wp2_with fail
  refine wp_region_by (fun w' => Keep NoS w2 w') [] [([0, 2], 1), ([], 3)] [4, 5] (by kernel_rfl) (by kernel_rfl) (by (repeat' (first | (with_reducible assumption) | (with_reducible exact HK.out) | (with_reducible exact Keep.refl _ _) | (with_reducible refine Keep.alloc ?_ _) | (with_reducible refine Keep.setCell ?_ _ (fun h => absurd h (by omega))) | (with_reducible refine Keep.drewN ?_ _) | (with_reducible refine Keep.drew ?_)))) ?_
  intro X W hne hF hcl
  have HCL := Lib.hid hcl
  have hx0 := fun x => ((hF x).cell l0).trans p0
  have hx1 := fun x => ((hF x).cell l0).trans p1
  have hy0 := fun x => ((hF x).cell l1).trans q0
  have hy1 := fun x => ((hF x).cell l1).trans q1
  clear hF hcl
  simp only [wpPlan, pickOps, List.getElem?_toArray, List.getElem?_cons_zero, List.getElem?_cons_succ, clsOf, Bool.false_eq_true, if_false]
  (repeat (quiet_step (fail))); refine wpQuiet_nil ?_
  refine wpOp_at (by simp only [List.getElem?_toArray, List.getElem?_cons_zero, List.getElem?_cons_succ]; rfl) (by rfl) (fun K hK => ?_)
  go_simp
  refine (refRat_any n1 d1 _ (by omega) (by omega) (by omega) (by omega) (by omega)).mono ?_
  rintro e w3 ⟨bx, hbx, rfl, hk3, hi3⟩
  have K3 := Lib.hid (show Keep NoS w2 w3 from (by (repeat' (first | (with_reducible assumption) | (with_reducible exact HK.out) | (with_reducible exact Keep.refl _ _) | (with_reducible refine Keep.alloc ?_ _) | (with_reducible refine Keep.setCell ?_ _ (fun h => absurd h (by omega))) | (with_reducible refine Keep.drewN ?_ _) | (with_reducible refine Keep.drew ?_))) : Keep NoS w2 w2.drew).both hk3)
  have HX3 := Lib.hid hi3
  refine hK _ _ ⟨fun _ => HCL.out _ K3.out, ?_⟩
  clear hK K hk3 hi3 hbx
  (repeat (quiet_step (fail))); refine wpQuiet_nil ?_
  refine wpOp_at (by simp only [List.getElem?_toArray, List.getElem?_cons_zero, List.getElem?_cons_succ]; rfl) (by rfl) (fun K hK => ?_)
  go_simp
  refine (refRat_any n2 d2 _ (by omega) (by omega) (by omega) (by omega) (by omega)).mono ?_
  rintro e w4 ⟨by', hby, rfl, hk4, hi4⟩
  have K4 := Lib.hid (K3.out.both hk4)
  have HX4 := Lib.hid (HX3.out.ofNewer hk4)
  have HY4 := Lib.hid hi4
  refine hK _ _ ⟨fun _ => HCL.out _ K4.out, ?_⟩
  clear hK K hk4 hi4 hby HX3 K3 hx0 hx1 hy0 hy1 HCL
  (repeat (quiet_step (fail))); refine wpQuiet_nil ?_
  refine NoPanic.normal ?_
  have k5 : Keep NoS w4 (w4.alloc (.cells ratCells 76)) := (Keep.refl _ _).alloc _
  have B15 := ((B1.keep K4.out).keep k5).two
  have HK5 := Lib.hid (K4.out.both k5)
  have HZ := Lib.hid (rhdr_new w4)
  have HX5 := Lib.hid (HX4.out.ofNewer k5)
  have HY5 := Lib.hid (HY4.out.ofNewer k5)
  have hz5 : w2.heap.size ≤ w4.heap.size := K4.out.size
  obtain ⟨t0, t1, _, _, m1⟩ := B15
  clear k5 HX4 HY4 p0 p1 q0 q1 r0 r1 r2 r3 s0 s1 s2 s3 l0 l1 l2 l3 K4
  go_wp2_with fail
  refine (ratSub_of small_le_BIG setOK_small _ w4.heap.size 0 bx 0 by' 0 (fr n1 d1) (fr n2 d2) HZ.out HX5.out HY5.out (TB.out.rx.mono small_le_BIG) TB.out.ry TB.out.sub TB.out.den (Nat.lt_of_lt_of_le TB.out.l small_le_BIG) (Nat.lt_of_lt_of_le TB.out.r small_le_BIG)).mono ?_
  rintro e w6 ⟨rfl, hk6, hi6⟩
  have HK6 := Lib.hid (HK5.out.newerR hk6 hz5)
  have HI6 := Lib.hid hi6
  clear hk6 hi6 t0 t1 m1 HX5 HY5 HZ HK5
  go_wp2_with fail
  refine (fracMade_any w6 w4.heap.size 0 _ HI6.out HB.out.1 HB.out.2).mono ?_
  rintro e w7 ⟨rfl, hk7⟩
  have hk := HK6.out.both hk7
  replace HK := Lib.hid (HK.out.both hk)
  replace B0 := B0.keep hk
  replace B1 := B1.keep hk
  replace B2 := B2.keep hk
  replace B3 := B3.keep hk
  clear hk hk7 HI6 HK6
  obtain ⟨p0, p1, _, _, l0⟩ := B0.two
  obtain ⟨q0, q1, _, _, l1⟩ := B1.two
  obtain ⟨r0, r1, r2, r3, l2⟩ := B2.two
  obtain ⟨s0, s1, s2, s3, l3⟩ := B3.two
  clear B0 B1 B2 B3
  rw [HF.out]
  go_wp2
  rw [HE.out, HF.out]
  refine bodyPost_ret (by simp [results, Try.results35, go_sem, r0, r1, s0, s1, l2, l3]; rfl) rfl ?_
  exact ⟨rfl, by (repeat' (first | (with_reducible assumption) | (with_reducible exact HK.out) | (with_reducible exact Keep.refl _ _) | (with_reducible refine Keep.alloc ?_ _) | (with_reducible refine Keep.setCell ?_ _ (fun h => absurd h (by omega))) | (with_reducible refine Keep.drewN ?_ _) | (with_reducible refine Keep.drew ?_)))⟩


set_option maxRecDepth 100000 in
set_option maxHeartbeats 16000000 in
theorem two_mul (n1 d1 n2 d2 : Int) (w : World) (h1 : FracOK n1 d1) (h2 : FracOK n2 d2) :
    Calls Try.prog 35 #[.int .i64 3, .agg #[.int .i64 n1, .int .i64 d1], .agg #[.int .i64 n2, .int .i64 d2]] w fun e w' => e = .returned (opV n1 d1 n2 d2 (n1 * n2) (d1 * d2)) ∧ Keep NoS w w' := by
  have e0 : decide (FracOK n1 d1) = true := dec_t h1
  have e1 : decide (FracOK n2 d2) = true := dec_t h2
  have TB := Lib.hid (twoB h1 h2)
  obtain ⟨N, D, C, hf, _⟩ := made_form (fr n1 d1 * fr n2 d2)
  have HE : Hid (opV n1 d1 n2 d2 (n1 * n2) (d1 * d2) = fracMadeV (fr n1 d1 * fr n2 d2)) := Lib.hid (mul_made h1 h2)
  have HF := Lib.hid hf
  have a1 := h1.1
  have a2 := h1.2.1
  have a3 := h1.2.2.1
  have a4 := h1.2.2.2.1
  have b1 := h2.1
  have b2 := h2.2.1
  have b3 := h2.2.2.1
  have b4 := h2.2.2.2.1
  have HB : Hid ((fr n1 d1 * fr n2 d2).num.natAbs < BIG ∧ (fr n1 d1 * fr n2 d2).den < BIG) := Lib.hid (by
    rw [← rat_mul]
    have tb := twoB h1 h2
    have hl := divInt_le ((fr n1 d1).num * (fr n2 d2).num) ((fr n1 d1).den * (fr n2 d2).den) (Int.mul_ne_zero (den_ne (fr n1 d1)) (den_ne (fr n2 d2)))
    refine ⟨Nat.lt_of_lt_of_le (Nat.lt_of_le_of_lt hl.1 (tb.mul)) small_le_BIG, Nat.lt_of_lt_of_le (Nat.lt_of_le_of_lt hl.2 (by rw [Int.natAbs_mul]; exact tb.den)) small_le_BIG⟩)
  clear hf h1 h2
  go_enter Try.func35, Try.ntmps35
  go_wp2_with fail
  refine (refRight_any n1 d1 _).mono ?_
  rintro e w1 ⟨rfl, hk1⟩
  obtain ⟨B0, B1, B2, B3, hk⟩ := four_blocks hk1
  have HK := Lib.hid hk
  clear hk1 hk
  rw [e0]
  clear e0
  obtain ⟨p0, p1, _, _, l0⟩ := B0.two
  obtain ⟨q0, q1, _, _, l1⟩ := B1.two
  obtain ⟨r0, r1, r2, r3, l2⟩ := B2.two
  obtain ⟨s0, s1, s2, s3, l3⟩ := B3.two
  go_wp2_with fail
  refine (refRight_any n2 d2 _).mono ?_
  rintro e w2 ⟨rfl, hk2⟩
  rw [e1]
  clear e1 p0 p1 q0 q1 r0 r1 r2 r3 s0 s1 s2 s3 l0 l1 l2 l3
  replace HK := Lib.hid (HK.out.both hk2)
  replace B0 := B0.keep hk2
  replace B1 := B1.keep hk2
  replace B2 := B2.keep hk2
  replace B3 := B3.keep hk2
  clear hk2
  obtain ⟨p0, p1, _, _, l0⟩ := B0.two
  obtain ⟨q0, q1, _, _, l1⟩ := B1.two
  obtain ⟨r0, r1, r2, r3, l2⟩ := B2.two
  obtain ⟨s0, s1, s2, s3, l3⟩ := B3.two
  go_wp2_with fail
  refine wp_region_by (fun w' => Keep NoS w2 w') [] [([0, 2], 1), ([], 3)] [4, 5] (by kernel_rfl) (by kernel_rfl) (by (repeat' (first | (with_reducible assumption) | (with_reducible exact HK.out) | (with_reducible exact Keep.refl _ _) | (with_reducible refine Keep.alloc ?_ _) | (with_reducible refine Keep.setCell ?_ _ (fun h => absurd h (by omega))) | (with_reducible refine Keep.drewN ?_ _) | (with_reducible refine Keep.drew ?_)))) ?_
  intro X W hne hF hcl
  have HCL := Lib.hid hcl
  have hx0 := fun x => ((hF x).cell l0).trans p0
  have hx1 := fun x => ((hF x).cell l0).trans p1
  have hy0 := fun x => ((hF x).cell l1).trans q0
  have hy1 := fun x => ((hF x).cell l1).trans q1
  clear hF hcl
  simp only [wpPlan, pickOps, List.getElem?_toArray, List.getElem?_cons_zero, List.getElem?_cons_succ, clsOf, Bool.false_eq_true, if_false]
  (repeat (quiet_step (fail))); refine wpQuiet_nil ?_
  refine wpOp_at (by simp only [List.getElem?_toArray, List.getElem?_cons_zero, List.getElem?_cons_succ]; rfl) (by rfl) (fun K hK => ?_)
  go_simp
  refine (refRat_any n1 d1 _ (by omega) (by omega) (by omega) (by omega) (by omega)).mono ?_
  rintro e w3 ⟨bx, hbx, rfl, hk3, hi3⟩
  have K3 := Lib.hid (show Keep NoS w2 w3 from (by (repeat' (first | (with_reducible assumption) | (with_reducible exact HK.out) | (with_reducible exact Keep.refl _ _) | (with_reducible refine Keep.alloc ?_ _) | (with_reducible refine Keep.setCell ?_ _ (fun h => absurd h (by omega))) | (with_reducible refine Keep.drewN ?_ _) | (with_reducible refine Keep.drew ?_))) : Keep NoS w2 w2.drew).both hk3)
  have HX3 := Lib.hid hi3
  refine hK _ _ ⟨fun _ => HCL.out _ K3.out, ?_⟩
  clear hK K hk3 hi3 hbx
  (repeat (quiet_step (fail))); refine wpQuiet_nil ?_
  refine wpOp_at (by simp only [List.getElem?_toArray, List.getElem?_cons_zero, List.getElem?_cons_succ]; rfl) (by rfl) (fun K hK => ?_)
  go_simp
  refine (refRat_any n2 d2 _ (by omega) (by omega) (by omega) (by omega) (by omega)).mono ?_
  rintro e w4 ⟨by', hby, rfl, hk4, hi4⟩
  have K4 := Lib.hid (K3.out.both hk4)
  have HX4 := Lib.hid (HX3.out.ofNewer hk4)
  have HY4 := Lib.hid hi4
  refine hK _ _ ⟨fun _ => HCL.out _ K4.out, ?_⟩
  clear hK K hk4 hi4 hby HX3 K3 hx0 hx1 hy0 hy1 HCL
  (repeat (quiet_step (fail))); refine wpQuiet_nil ?_
  refine NoPanic.normal ?_
  have k5 : Keep NoS w4 (w4.alloc (.cells ratCells 76)) := (Keep.refl _ _).alloc _
  have B15 := ((B1.keep K4.out).keep k5).two
  have HK5 := Lib.hid (K4.out.both k5)
  have HZ := Lib.hid (rhdr_new w4)
  have HX5 := Lib.hid (HX4.out.ofNewer k5)
  have HY5 := Lib.hid (HY4.out.ofNewer k5)
  have hz5 : w2.heap.size ≤ w4.heap.size := K4.out.size
  obtain ⟨t0, t1, _, _, m1⟩ := B15
  clear k5 HX4 HY4 p0 p1 q0 q1 r0 r1 r2 r3 s0 s1 s2 s3 l0 l1 l2 l3 K4
  go_wp2_with fail
  refine (ratMul_of small_le_BIG setOK_small _ w4.heap.size 0 bx 0 by' 0 (fr n1 d1) (fr n2 d2) HZ.out HX5.out HY5.out (TB.out.rx.mono small_le_BIG) (TB.out.ry.mono small_le_BIG) TB.out.mul TB.out.den).mono ?_
  rintro e w6 ⟨rfl, hk6, hi6⟩
  have HK6 := Lib.hid (HK5.out.newerR hk6 hz5)
  have HI6 := Lib.hid hi6
  clear hk6 hi6 t0 t1 m1 HX5 HY5 HZ HK5
  go_wp2_with fail
  refine (fracMade_any w6 w4.heap.size 0 _ HI6.out HB.out.1 HB.out.2).mono ?_
  rintro e w7 ⟨rfl, hk7⟩
  have hk := HK6.out.both hk7
  replace HK := Lib.hid (HK.out.both hk)
  replace B0 := B0.keep hk
  replace B1 := B1.keep hk
  replace B2 := B2.keep hk
  replace B3 := B3.keep hk
  clear hk hk7 HI6 HK6
  obtain ⟨p0, p1, _, _, l0⟩ := B0.two
  obtain ⟨q0, q1, _, _, l1⟩ := B1.two
  obtain ⟨r0, r1, r2, r3, l2⟩ := B2.two
  obtain ⟨s0, s1, s2, s3, l3⟩ := B3.two
  clear B0 B1 B2 B3
  rw [HF.out]
  go_wp2
  rw [HE.out, HF.out]
  refine bodyPost_ret (by simp [results, Try.results35, go_sem, r0, r1, s0, s1, l2, l3]; rfl) rfl ?_
  exact ⟨rfl, by (repeat' (first | (with_reducible assumption) | (with_reducible exact HK.out) | (with_reducible exact Keep.refl _ _) | (with_reducible refine Keep.alloc ?_ _) | (with_reducible refine Keep.setCell ?_ _ (fun h => absurd h (by omega))) | (with_reducible refine Keep.drewN ?_ _) | (with_reducible refine Keep.drew ?_)))⟩


set_option maxRecDepth 100000 in
set_option maxHeartbeats 16000000 in
theorem two_quo (n1 d1 n2 d2 : Int) (w : World) (h1 : FracOK n1 d1) (h2 : FracOK n2 d2) (hn0 : n2 ≠ 0) :
    Calls Try.prog 35 #[.int .i64 4, .agg #[.int .i64 n1, .int .i64 d1], .agg #[.int .i64 n2, .int .i64 d2]] w fun e w' => e = .returned (opV n1 d1 n2 d2 (n1 * d2) (d1 * n2)) ∧ Keep NoS w w' := by
  have e0 : decide (FracOK n1 d1) = true := dec_t h1
  have e1 : decide (FracOK n2 d2) = true := dec_t h2
  have e4 : (n2 == 0) = false := by rw [beq_eq_false_iff_ne]; exact hn0
  have HNZ : Hid (fr n2 d2 ≠ 0) := Lib.hid (fun h => hn0 ((fr_zero h2).1 h))
  have TB := Lib.hid (twoB h1 h2)
  obtain ⟨N, D, C, hf, _⟩ := made_form (fr n1 d1 / fr n2 d2)
  have HE : Hid (opV n1 d1 n2 d2 (n1 * d2) (d1 * n2) = fracMadeV (fr n1 d1 / fr n2 d2)) := Lib.hid (over_made h1 h2 hn0)
  have HF := Lib.hid hf
  have a1 := h1.1
  have a2 := h1.2.1
  have a3 := h1.2.2.1
  have a4 := h1.2.2.2.1
  have b1 := h2.1
  have b2 := h2.2.1
  have b3 := h2.2.2.1
  have b4 := h2.2.2.2.1
  have HB : Hid ((fr n1 d1 / fr n2 d2).num.natAbs < BIG ∧ (fr n1 d1 / fr n2 d2).den < BIG) := Lib.hid (by
    rw [← rat_quo HNZ.out]
    have tb := twoB h1 h2
    have hl := divInt_le ((fr n1 d1).num * (fr n2 d2).den) ((fr n1 d1).den * (fr n2 d2).num) (Int.mul_ne_zero (den_ne (fr n1 d1)) (fun h => HNZ.out (Rat.num_eq_zero.1 h)))
    refine ⟨Nat.lt_of_lt_of_le (Nat.lt_of_le_of_lt hl.1 (tb.l)) small_le_BIG, Nat.lt_of_lt_of_le (Nat.lt_of_le_of_lt hl.2 (by rw [Int.natAbs_mul]; exact tb.q)) small_le_BIG⟩)
  clear hf h1 h2
  go_enter Try.func35, Try.ntmps35
  go_wp2_with fail
  refine (refRight_any n1 d1 _).mono ?_
  rintro e w1 ⟨rfl, hk1⟩
  obtain ⟨B0, B1, B2, B3, hk⟩ := four_blocks hk1
  have HK := Lib.hid hk
  clear hk1 hk
  rw [e0]
  clear e0
  obtain ⟨p0, p1, _, _, l0⟩ := B0.two
  obtain ⟨q0, q1, _, _, l1⟩ := B1.two
  obtain ⟨r0, r1, r2, r3, l2⟩ := B2.two
  obtain ⟨s0, s1, s2, s3, l3⟩ := B3.two
  go_wp2_with fail
  refine (refRight_any n2 d2 _).mono ?_
  rintro e w2 ⟨rfl, hk2⟩
  rw [e1]
  clear e1 p0 p1 q0 q1 r0 r1 r2 r3 s0 s1 s2 s3 l0 l1 l2 l3
  replace HK := Lib.hid (HK.out.both hk2)
  replace B0 := B0.keep hk2
  replace B1 := B1.keep hk2
  replace B2 := B2.keep hk2
  replace B3 := B3.keep hk2
  clear hk2
  obtain ⟨p0, p1, _, _, l0⟩ := B0.two
  obtain ⟨q0, q1, _, _, l1⟩ := B1.two
  obtain ⟨r0, r1, r2, r3, l2⟩ := B2.two
  obtain ⟨s0, s1, s2, s3, l3⟩ := B3.two
  go_wp2_with fail
  refine wp_region_by (fun w' => Keep NoS w2 w') [] [([0, 2], 1), ([], 3)] [4, 5] (by kernel_rfl) (by kernel_rfl) (by (repeat' (first | (with_reducible assumption) | (with_reducible exact HK.out) | (with_reducible exact Keep.refl _ _) | (with_reducible refine Keep.alloc ?_ _) | (with_reducible refine Keep.setCell ?_ _ (fun h => absurd h (by omega))) | (with_reducible refine Keep.drewN ?_ _) | (with_reducible refine Keep.drew ?_)))) ?_
  intro X W hne hF hcl
  have HCL := Lib.hid hcl
  have hx0 := fun x => ((hF x).cell l0).trans p0
  have hx1 := fun x => ((hF x).cell l0).trans p1
  have hy0 := fun x => ((hF x).cell l1).trans q0
  have hy1 := fun x => ((hF x).cell l1).trans q1
  clear hF hcl
  simp only [wpPlan, pickOps, List.getElem?_toArray, List.getElem?_cons_zero, List.getElem?_cons_succ, clsOf, Bool.false_eq_true, if_false]
  (repeat (quiet_step (fail))); refine wpQuiet_nil ?_
  refine wpOp_at (by simp only [List.getElem?_toArray, List.getElem?_cons_zero, List.getElem?_cons_succ]; rfl) (by rfl) (fun K hK => ?_)
  go_simp
  refine (refRat_any n1 d1 _ (by omega) (by omega) (by omega) (by omega) (by omega)).mono ?_
  rintro e w3 ⟨bx, hbx, rfl, hk3, hi3⟩
  have K3 := Lib.hid (show Keep NoS w2 w3 from (by (repeat' (first | (with_reducible assumption) | (with_reducible exact HK.out) | (with_reducible exact Keep.refl _ _) | (with_reducible refine Keep.alloc ?_ _) | (with_reducible refine Keep.setCell ?_ _ (fun h => absurd h (by omega))) | (with_reducible refine Keep.drewN ?_ _) | (with_reducible refine Keep.drew ?_))) : Keep NoS w2 w2.drew).both hk3)
  have HX3 := Lib.hid hi3
  refine hK _ _ ⟨fun _ => HCL.out _ K3.out, ?_⟩
  clear hK K hk3 hi3 hbx
  (repeat (quiet_step (fail))); refine wpQuiet_nil ?_
  refine wpOp_at (by simp only [List.getElem?_toArray, List.getElem?_cons_zero, List.getElem?_cons_succ]; rfl) (by rfl) (fun K hK => ?_)
  go_simp
  refine (refRat_any n2 d2 _ (by omega) (by omega) (by omega) (by omega) (by omega)).mono ?_
  rintro e w4 ⟨by', hby, rfl, hk4, hi4⟩
  have K4 := Lib.hid (K3.out.both hk4)
  have HX4 := Lib.hid (HX3.out.ofNewer hk4)
  have HY4 := Lib.hid hi4
  refine hK _ _ ⟨fun _ => HCL.out _ K4.out, ?_⟩
  clear hK K hk4 hi4 hby HX3 K3 hx0 hx1 hy0 hy1 HCL
  (repeat (quiet_step (fail))); refine wpQuiet_nil ?_
  refine NoPanic.normal ?_
  have k5 : Keep NoS w4 (w4.alloc (.cells ratCells 76)) := (Keep.refl _ _).alloc _
  have B15 := ((B1.keep K4.out).keep k5).two
  have HK5 := Lib.hid (K4.out.both k5)
  have HZ := Lib.hid (rhdr_new w4)
  have HX5 := Lib.hid (HX4.out.ofNewer k5)
  have HY5 := Lib.hid (HY4.out.ofNewer k5)
  have hz5 : w2.heap.size ≤ w4.heap.size := K4.out.size
  obtain ⟨t0, t1, _, _, m1⟩ := B15
  clear k5 HX4 HY4 p0 p1 q0 q1 r0 r1 r2 r3 s0 s1 s2 s3 l0 l1 l2 l3 K4
  go_wp2_with fail
  refine (ratQuo_of small_le_BIG setOK_small _ w4.heap.size 0 bx 0 by' 0 (fr n1 d1) (fr n2 d2) HZ.out HX5.out HY5.out HNZ.out (TB.out.rx.mono small_le_BIG) TB.out.ry TB.out.l TB.out.q).mono ?_
  rintro e w6 ⟨rfl, hk6, hi6⟩
  have HK6 := Lib.hid (HK5.out.newerR hk6 hz5)
  have HI6 := Lib.hid hi6
  clear hk6 hi6 t0 t1 m1 HX5 HY5 HZ HK5
  go_wp2_with fail
  refine (fracMade_any w6 w4.heap.size 0 _ HI6.out HB.out.1 HB.out.2).mono ?_
  rintro e w7 ⟨rfl, hk7⟩
  have hk := HK6.out.both hk7
  replace HK := Lib.hid (HK.out.both hk)
  replace B0 := B0.keep hk
  replace B1 := B1.keep hk
  replace B2 := B2.keep hk
  replace B3 := B3.keep hk
  clear hk hk7 HI6 HK6
  obtain ⟨p0, p1, _, _, l0⟩ := B0.two
  obtain ⟨q0, q1, _, _, l1⟩ := B1.two
  obtain ⟨r0, r1, r2, r3, l2⟩ := B2.two
  obtain ⟨s0, s1, s2, s3, l3⟩ := B3.two
  clear B0 B1 B2 B3
  rw [HF.out]
  go_wp2
  rw [HE.out, HF.out]
  refine bodyPost_ret (by simp [results, Try.results35, go_sem, r0, r1, s0, s1, l2, l3]; rfl) rfl ?_
  exact ⟨rfl, by (repeat' (first | (with_reducible assumption) | (with_reducible exact HK.out) | (with_reducible exact Keep.refl _ _) | (with_reducible refine Keep.alloc ?_ _) | (with_reducible refine Keep.setCell ?_ _ (fun h => absurd h (by omega))) | (with_reducible refine Keep.drewN ?_ _) | (with_reducible refine Keep.drew ?_)))⟩


set_option maxRecDepth 100000 in
set_option maxHeartbeats 16000000 in
theorem two_zero (n1 d1 d2 : Int) (w : World) (h1 : FracOK n1 d1) (h2 : FracOK 0 d2) :
    Calls Try.prog 35 #[.int .i64 4, .agg #[.int .i64 n1, .int .i64 d1], .agg #[.int .i64 0, .int .i64 d2]] w fun e w' => e = .returned (.tuple #[.agg #[.int .i64 0, .int .i64 0], .agg #[.int .i64 6, .int .i64 0]]) ∧ Keep NoS w w' := by
  obtain ⟨n2, hn2⟩ : ∃ n : Int, n = 0 := ⟨_, rfl⟩
  rw [← hn2] at h2
  have e4 : (n2 == 0) = true := by simp [hn2]
  suffices H : Calls Try.prog 35 #[.int .i64 4, .agg #[.int .i64 n1, .int .i64 d1], .agg #[.int .i64 n2, .int .i64 d2]] w fun e w' => e = .returned (.tuple #[.agg #[.int .i64 0, .int .i64 0], .agg #[.int .i64 6, .int .i64 0]]) ∧ Keep NoS w w' by rw [← hn2]; rw [hn2] at H ⊢; exact H
  have e0 : decide (FracOK n1 d1) = true := dec_t h1
  have e1 : decide (FracOK n2 d2) = true := dec_t h2
  have a1 := h1.1
  have a2 := h1.2.1
  have a3 := h1.2.2.1
  have a4 := h1.2.2.2.1
  have b1 := h2.1
  have b2 := h2.2.1
  have b3 := h2.2.2.1
  have b4 := h2.2.2.2.1
  clear h1 h2 hn2
  go_enter Try.func35, Try.ntmps35
  go_wp2_with fail
  refine (refRight_any n1 d1 _).mono ?_
  rintro e w1 ⟨rfl, hk1⟩
  obtain ⟨B0, B1, B2, B3, hk⟩ := four_blocks hk1
  have HK := Lib.hid hk
  clear hk1 hk
  rw [e0]
  clear e0
  obtain ⟨p0, p1, _, _, l0⟩ := B0.two
  obtain ⟨q0, q1, _, _, l1⟩ := B1.two
  obtain ⟨r0, r1, r2, r3, l2⟩ := B2.two
  obtain ⟨s0, s1, s2, s3, l3⟩ := B3.two
  go_wp2_with fail
  refine (refRight_any n2 d2 _).mono ?_
  rintro e w2 ⟨rfl, hk2⟩
  rw [e1]
  clear e1 p0 p1 q0 q1 r0 r1 r2 r3 s0 s1 s2 s3 l0 l1 l2 l3
  replace HK := Lib.hid (HK.out.both hk2)
  replace B0 := B0.keep hk2
  replace B1 := B1.keep hk2
  replace B2 := B2.keep hk2
  replace B3 := B3.keep hk2
  clear hk2
  obtain ⟨p0, p1, _, _, l0⟩ := B0.two
  obtain ⟨q0, q1, _, _, l1⟩ := B1.two
  obtain ⟨r0, r1, r2, r3, l2⟩ := B2.two
  obtain ⟨s0, s1, s2, s3, l3⟩ := B3.two
  go_wp2_with fail
  refine wp_region_by (fun w' => Keep NoS w2 w') [] [([0, 2], 1), ([], 3)] [4, 5] (by kernel_rfl) (by kernel_rfl) (by (repeat' (first | (with_reducible assumption) | (with_reducible exact HK.out) | (with_reducible exact Keep.refl _ _) | (with_reducible refine Keep.alloc ?_ _) | (with_reducible refine Keep.setCell ?_ _ (fun h => absurd h (by omega))) | (with_reducible refine Keep.drewN ?_ _) | (with_reducible refine Keep.drew ?_)))) ?_
  intro X W hne hF hcl
  have HCL := Lib.hid hcl
  have hx0 := fun x => ((hF x).cell l0).trans p0
  have hx1 := fun x => ((hF x).cell l0).trans p1
  have hy0 := fun x => ((hF x).cell l1).trans q0
  have hy1 := fun x => ((hF x).cell l1).trans q1
  clear hF hcl
  simp only [wpPlan, pickOps, List.getElem?_toArray, List.getElem?_cons_zero, List.getElem?_cons_succ, clsOf, Bool.false_eq_true, if_false]
  (repeat (quiet_step (fail))); refine wpQuiet_nil ?_
  refine wpOp_at (by simp only [List.getElem?_toArray, List.getElem?_cons_zero, List.getElem?_cons_succ]; rfl) (by rfl) (fun K hK => ?_)
  go_simp
  refine (refRat_any n1 d1 _ (by omega) (by omega) (by omega) (by omega) (by omega)).mono ?_
  rintro e w3 ⟨bx, hbx, rfl, hk3, hi3⟩
  have K3 := Lib.hid (show Keep NoS w2 w3 from (by (repeat' (first | (with_reducible assumption) | (with_reducible exact HK.out) | (with_reducible exact Keep.refl _ _) | (with_reducible refine Keep.alloc ?_ _) | (with_reducible refine Keep.setCell ?_ _ (fun h => absurd h (by omega))) | (with_reducible refine Keep.drewN ?_ _) | (with_reducible refine Keep.drew ?_))) : Keep NoS w2 w2.drew).both hk3)
  refine hK _ _ ⟨fun _ => HCL.out _ K3.out, ?_⟩
  clear hK K hk3 hi3 hbx
  (repeat (quiet_step (fail))); refine wpQuiet_nil ?_
  refine wpOp_at (by simp only [List.getElem?_toArray, List.getElem?_cons_zero, List.getElem?_cons_succ]; rfl) (by rfl) (fun K hK => ?_)
  go_simp
  refine (refRat_any n2 d2 _ (by omega) (by omega) (by omega) (by omega) (by omega)).mono ?_
  rintro e w4 ⟨by', hby, rfl, hk4, hi4⟩
  have K4 := Lib.hid (K3.out.both hk4)
  refine hK _ _ ⟨fun _ => HCL.out _ K4.out, ?_⟩
  clear hK K hk4 hi4 hby K3 hx0 hx1 hy0 hy1 HCL
  (repeat (quiet_step (fail))); refine wpQuiet_nil ?_
  refine NoPanic.normal ?_
  have hk := K4.out
  replace HK := Lib.hid (HK.out.both hk)
  replace B0 := B0.keep hk
  replace B1 := B1.keep hk
  replace B2 := B2.keep hk
  replace B3 := B3.keep hk
  clear hk p0 p1 q0 q1 r0 r1 r2 r3 s0 s1 s2 s3 l0 l1 l2 l3
  obtain ⟨p0, p1, _, _, l0⟩ := B0.two
  obtain ⟨q0, q1, _, _, l1⟩ := B1.two
  obtain ⟨r0, r1, r2, r3, l2⟩ := B2.two
  obtain ⟨s0, s1, s2, s3, l3⟩ := B3.two
  clear B0 B1 B2 B3
  have m2 : ¬ w4.heap.size = w.heap.size + 1 + 1 := by omega
  have m3 : ¬ w4.heap.size = w.heap.size + 1 + 1 + 1 := by omega
  have m1 : ¬ w4.heap.size = w.heap.size + 1 := by omega
  go_wp2
  refine bodyPost_ret (by simp [results, Try.results35, go_sem, r0, r1, s0, s1, l2, l3, m2, m3]; rfl) rfl ?_
  exact ⟨rfl, by (repeat' (first | (with_reducible assumption) | (with_reducible exact HK.out) | (with_reducible exact Keep.refl _ _) | (with_reducible refine Keep.alloc ?_ _) | (with_reducible refine Keep.setCell ?_ _ (fun h => absurd h (by omega))) | (with_reducible refine Keep.drewN ?_ _) | (with_reducible refine Keep.drew ?_)))⟩

end Go.Proofs.Ytihcbmkjfacooaa
