/- The walk of the law RowForms, of rows of equals. -/
import Derived.Test.YtihcbmkjfacooaaRowFormsU
import Derived.Test.YtihcbmkjfacooaaRegG
namespace Go.Proofs.Ytihcbmkjfacooaa
open Go.ChangeShapes Go.WideShapes Go.RowKit
set_option linter.unusedVariables false
set_option linter.unusedSimpArgs false

set_option maxRecDepth 100000 in
set_option maxHeartbeats 16000000 in
theorem forms_same (w : World) (v : Value) (r : Rw) (h : IsRow w v r) (hz : chkRow r 12 = (0, 0)) (h3 : r.kind = 3) : Calls Try.prog 3 #[v] w fun e w' => e = .returned (.bool true) ∧ Keep NoS w w' := by
  have HZ := Lib.hid hz
  have HNS : Hid (notS r = (nilRw, (4, 0))) := Lib.hid (by unfold notS; rw [hz, if_pos rfl, if_pos h3])
  have H3 := Lib.hid h3
  clear hz h3
  have H := Lib.hid h
  obtain ⟨sv, rfl, hi, _, _⟩ := h
  obtain ⟨oa, cap, rfl, hm⟩ := hi.len
  have HI := Lib.hid hi
  clear hi
  have HTS := Lib.hid (tidy_any (r := ⟨r.of, r.kind, r.to⟩))
  obtain ⟨⟨tof, tk, tto⟩, hT⟩ : ∃ S, tidyS r = S := ⟨_, rfl⟩
  obtain ⟨⟨⟨xof, xk, xto⟩, xc, xa⟩, hW⟩ : ∃ S, wholeS r = S := ⟨_, rfl⟩
  obtain ⟨⟨⟨nof, nk, nto⟩, nc, na⟩, hN⟩ : ∃ S, notS r = S := ⟨_, rfl⟩
  obtain ⟨⟨c, a⟩, hE⟩ : ∃ S, chkRow r 12 = S := ⟨_, rfl⟩
  have HT := Lib.hid hT
  have HW := Lib.hid hW
  have HN := Lib.hid hN
  have HE := Lib.hid hE
  clear hT hW hN hE HTS
  obtain ⟨of, kind, tt⟩ := r
  simp only at *
  go_enter Try.func3, Try.ntmps3
  go_wp2_with fail
  refine (tidy_any _ _ ⟨of, kind, tt⟩ (H.out.keep (by (repeat' (first | (with_reducible assumption) | (with_reducible exact HK.out) | (with_reducible exact Keep.refl _ _) | (with_reducible refine Keep.alloc ?_ _) | (with_reducible refine Keep.setCell ?_ _ (fun h => absurd h (by omega))) | (with_reducible refine Keep.drewN ?_ _) | (with_reducible refine Keep.drew ?_)))))).mono ?_
  rintro e w1 ⟨sv1, rfl, hi1, hc1, hk1⟩
  rw [show tidyF ⟨of, kind, tt⟩ = (c, a) from HE.out]
  rw [HT.out] at hi1 ⊢
  simp only at hi1 ⊢
  obtain ⟨o1, c1, rfl, _⟩ := hi1.len
  have k1 : Keep NoS w w1 := Keep.both (by (repeat' (first | (with_reducible assumption) | (with_reducible exact HK.out) | (with_reducible exact Keep.refl _ _) | (with_reducible refine Keep.alloc ?_ _) | (with_reducible refine Keep.setCell ?_ _ (fun h => absurd h (by omega))) | (with_reducible refine Keep.drewN ?_ _) | (with_reducible refine Keep.drew ?_)))) hk1
  have b1 : Blk w1 w.heap.size #[.slice oa of.length cap, .int .i64 kind, .int .i64 tt] := Blk.keep (by (repeat (first | (refine blk_at _ _ ?_; simp; done) | (refine Blk.old ?_ _)))) hk1
  obtain ⟨p0, p1, p2, _, _, _, pl⟩ := b1.three
  have HB1 := Lib.hid b1
  have K1 := Lib.hid k1
  have HI1 := Lib.hid hi1
  unfold fV
  clear b1 k1 hi1 hc1 hk1
  go_wp2_with fail
  refine (whole_all _ _ ⟨of, kind, tt⟩ (H.out.keep (K1.out.both (by (repeat' (first | (with_reducible assumption) | (with_reducible exact HK.out) | (with_reducible exact Keep.refl _ _) | (with_reducible refine Keep.alloc ?_ _) | (with_reducible refine Keep.setCell ?_ _ (fun h => absurd h (by omega))) | (with_reducible refine Keep.drewN ?_ _) | (with_reducible refine Keep.drew ?_))))))).mono ?_
  rintro e w2 ⟨sv2, rfl, hi2, hc2, hk2⟩
  rw [HW.out] at hi2 ⊢
  simp only at hi2 ⊢
  obtain ⟨o2, c2, rfl, _⟩ := hi2.len
  obtain ⟨bt, bf, k2⟩ := blk2 hk2
  have HBT := Lib.hid bt
  have HBF := Lib.hid bf
  have HB1 := Lib.hid (HB1.out.keep k2)
  have K2 := Lib.hid (K1.out.both k2)
  have HI1 := Lib.hid (HI1.out.keep k2)
  have HI2 := Lib.hid hi2
  obtain ⟨p0, p1, p2, _, _, _, pl⟩ := HB1.out.three
  clear bt bf k2 hi2 hc2 hk2 K1
  unfold fV
  go_wp2_with fail
  refine (not_any _ _ ⟨of, kind, tt⟩ (H.out.keep (K2.out.both (by (repeat' (first | (with_reducible assumption) | (with_reducible exact HK.out) | (with_reducible exact Keep.refl _ _) | (with_reducible refine Keep.alloc ?_ _) | (with_reducible refine Keep.setCell ?_ _ (fun h => absurd h (by omega))) | (with_reducible refine Keep.drewN ?_ _) | (with_reducible refine Keep.drew ?_))))))).mono ?_
  rintro e w3 ⟨sv3, rfl, hi3, hc3, hk3⟩
  rw [HN.out] at hi3 ⊢
  simp only at hi3 ⊢
  obtain ⟨o3, c3, rfl, _⟩ := hi3.len
  obtain ⟨bt, bf, k3⟩ := blk2 hk3
  have HBW := Lib.hid bt
  have HBG := Lib.hid bf
  have HB1 := Lib.hid (HB1.out.keep k3)
  have HBT := Lib.hid (HBT.out.keep k3)
  have HBF := Lib.hid (HBF.out.keep k3)
  have K3 := Lib.hid (K2.out.both k3)
  have HI1 := Lib.hid (HI1.out.keep k3)
  have HI2 := Lib.hid (HI2.out.keep k3)
  have HI3 := Lib.hid hi3
  obtain ⟨p0, p1, p2, _, _, _, pl⟩ := HB1.out.three
  clear bt bf k3 hi3 hc3 hk3 K2
  unfold fV
  go_wp2_with fail
  refine (refRow_any _ _ ⟨of, kind, tt⟩ 12 (H.out.keep (K3.out.both (by (repeat' (first | (with_reducible assumption) | (with_reducible exact HK.out) | (with_reducible exact Keep.refl _ _) | (with_reducible refine Keep.alloc ?_ _) | (with_reducible refine Keep.setCell ?_ _ (fun h => absurd h (by omega))) | (with_reducible refine Keep.drewN ?_ _) | (with_reducible refine Keep.drew ?_))))))).mono ?_
  rintro e w4 ⟨rfl, hk4⟩
  rw [HE.out]
  obtain ⟨bt, bf, k4⟩ := blk2 (hk4 : Keep NoS _ _)
  have HBN := Lib.hid bt
  have HBH := Lib.hid bf
  have HB1 := Lib.hid (HB1.out.keep k4)
  have HBT := Lib.hid (HBT.out.keep k4)
  have HBF := Lib.hid (HBF.out.keep k4)
  have HBW := Lib.hid (HBW.out.keep k4)
  have HBG := Lib.hid (HBG.out.keep k4)
  have K4 := Lib.hid (K3.out.both k4)
  have HI1 := Lib.hid (HI1.out.keep k4)
  have HI2 := Lib.hid (HI2.out.keep k4)
  have HI3 := Lib.hid (HI3.out.keep k4)
  clear bt bf k4 hk4 K3 p0 p1 p2 pl
  unfold fV
  have hl1 := HB1.out.lt
  generalize w1.heap.size = z1 at *
  generalize w2.heap.size = z2 at *
  generalize w3.heap.size = z3 at *
  have e3 := HNS.out.symm.trans HN.out
  unfold nilRw at e3
  cases e3
  simp only [List.length_nil] at *
  have h3 : kind = 3 := H3.out
  subst h3
  have HBHS := Lib.hid HBH.out
  have ez := HZ.out
  rw [HE.out] at ez
  cases ez
  obtain ⟨p0, p1, p2, _, _, _, pl⟩ := HB1.out.three
  obtain ⟨t0, t1, t2, _, _, _, tl⟩ := HBT.out.three
  obtain ⟨f0, f1, _, _, fl⟩ := HBF.out.two
  obtain ⟨x0, x1, x2, _, _, _, xl⟩ := HBW.out.three
  obtain ⟨g0, g1, _, _, gl⟩ := HBG.out.two
  obtain ⟨n0, n1, n2, _, _, _, nl⟩ := HBN.out.three
  obtain ⟨h0, h1, _, _, hl⟩ := HBH.out.two
  clear HBH
  go_wp2_with fail
  have ka : Keep NoS w4 (w4.alloc (.cells #[.int .i64 0, .int .i64 0] 26)) := (Keep.refl _ _).alloc _
  refine (refWhole_any _ _ ⟨of, 3, tt⟩ (H.out.keep (K4.out.both ka)) (by rw [HZ.out])).mono ?_
  rintro e w5 ⟨sv5, rfl, hi5, hc5, hk5⟩
  rw [HW.out] at hi5 ⊢
  simp only at hi5 ⊢
  obtain ⟨o5, c5, rfl, _⟩ := hi5.len
  have k5 := ka.both hk5
  have HB1 := Lib.hid (HB1.out.keep k5)
  have HBT := Lib.hid (HBT.out.keep k5)
  have HBF := Lib.hid (HBF.out.keep k5)
  have HBW := Lib.hid (HBW.out.keep k5)
  have HBG := Lib.hid (HBG.out.keep k5)
  have HBN := Lib.hid (HBN.out.keep k5)
  have HBH := Lib.hid (HBHS.out.keep k5)
  have K5 := Lib.hid (K4.out.both k5)
  have HI1 := Lib.hid (HI1.out.keep k5)
  have HI2 := Lib.hid (HI2.out.keep k5)
  have HI3 := Lib.hid (HI3.out.keep k5)
  have HI5 := Lib.hid hi5
  unfold fV
  clear ka hk5 k5 hi5 hc5 p0 p1 p2 pl t0 t1 t2 tl f0 f1 fl x0 x1 x2 xl g0 g1 gl n0 n1 n2 nl h0 h1 hl HBHS
  generalize w4.heap.size = z4 at *
  go_upto_region 8 with fail
  obtain ⟨bx, be, k6⟩ := blk2 (w := w5) (A1 := #[.slice o5 xof.length c5, .int .i64 xk, .int .i64 xto]) (A2 := #[.int .i64 xc, .int .i64 xa]) (T1 := 24) (T2 := 26) (Keep.refl NoS _)
  generalize (w5.alloc (.cells #[.slice o5 xof.length c5, .int .i64 xk, .int .i64 xto] 24)).alloc (.cells #[.int .i64 xc, .int .i64 xa] 26) = w6 at *
  have HBX := Lib.hid bx
  have HBE := Lib.hid be
  have HB1 := Lib.hid (HB1.out.keep k6)
  have HBT := Lib.hid (HBT.out.keep k6)
  have HBF := Lib.hid (HBF.out.keep k6)
  have HBW := Lib.hid (HBW.out.keep k6)
  have HBG := Lib.hid (HBG.out.keep k6)
  have HBN := Lib.hid (HBN.out.keep k6)
  have HBH := Lib.hid (HBH.out.keep k6)
  have K6 := Lib.hid (K5.out.both k6)
  have HI1 := Lib.hid (HI1.out.keep k6)
  have HI2 := Lib.hid (HI2.out.keep k6)
  have HI3 := Lib.hid (HI3.out.keep k6)
  have HI5 := Lib.hid (HI5.out.keep k6)
  generalize w5.heap.size = z5 at *
  clear bx be k6
  refine wp_region_by (fun w' => Keep NoS w6 w') [] [([0, 1, 2, 3, 4, 5], 6), ([], 7), ([8, 9, 10, 11, 12, 13, 14, 15, 16, 17], 18)] [19, 20] (by kernel_rfl) (by kernel_rfl) (by (repeat' (first | (with_reducible assumption) | (with_reducible exact HK.out) | (with_reducible exact Keep.refl _ _) | (with_reducible refine Keep.alloc ?_ _) | (with_reducible refine Keep.setCell ?_ _ (fun h => absurd h (by omega))) | (with_reducible refine Keep.drewN ?_ _) | (with_reducible refine Keep.drew ?_)))) ?_
  intro X W hne hF hcl
  have HCL := Lib.hid hcl
  have hx0 := fun x => (HBF.out.keep (hF x)).two
  have hx1 := fun x => (HBT.out.keep (hF x)).three
  have hx2 := fun x => (HB1.out.keep (hF x)).three
  have hx3 := fun x => (HBG.out.keep (hF x)).two
  have hx4 := fun x => (HBE.out.keep (hF x)).two
  have hx5 := fun x => (HBW.out.keep (hF x)).three
  have hx6 := fun x => (HBX.out.keep (hF x)).three
  clear hF hcl
  simp only [wpPlan, pickOps, List.getElem?_toArray, List.getElem?_cons_zero, List.getElem?_cons_succ, clsOf, Bool.false_eq_true, if_false]
  (repeat (quiet_step (fail))); refine wpQuiet_nil ?_
  refine wpOp_wanted (by simp only [List.getElem?_toArray, List.getElem?_cons_zero, List.getElem?_cons_succ]; rfl) (by rfl) (fun K hK => ?_)
  go_simp
  refine (refTidy_any _ _ ⟨of, 3, tt⟩ (H.out.keep (K6.out.both (by (repeat' (first | (with_reducible assumption) | (with_reducible exact HK.out) | (with_reducible exact Keep.refl _ _) | (with_reducible refine Keep.alloc ?_ _) | (with_reducible refine Keep.setCell ?_ _ (fun h => absurd h (by omega))) | (with_reducible refine Keep.drewN ?_ _) | (with_reducible refine Keep.drew ?_)))))) (by rw [HZ.out])).mono ?_
  rintro e w7 ⟨sv7, rfl, hi7, hc7, hk7⟩
  rw [HT.out] at hi7 ⊢
  simp only at hi7 ⊢
  obtain ⟨o7, c7, rfl, _⟩ := hi7.len
  have k7 : Keep NoS w6 w7 := Keep.trans (by (repeat' (first | (with_reducible assumption) | (with_reducible exact HK.out) | (with_reducible exact Keep.refl _ _) | (with_reducible refine Keep.alloc ?_ _) | (with_reducible refine Keep.setCell ?_ _ (fun h => absurd h (by omega))) | (with_reducible refine Keep.drewN ?_ _) | (with_reducible refine Keep.drew ?_)))) hk7 fun _ _ _ h => h
  refine hK _ _ ⟨fun _ => HCL.out _ k7, ?_⟩
  clear hK K hk7 hc7
  (repeat (quiet_step (fail))); refine wpQuiet_nil ?_
  refine wpOp_wanted (by simp only [List.getElem?_toArray, List.getElem?_cons_zero, List.getElem?_cons_succ]; rfl) (by rfl) (fun K hK => ?_)
  go_simp
  refine (sameRow_row _ _ _ ⟨tof, tk, tto⟩ ⟨tof, tk, tto⟩ _ _ rfl rfl (HI1.out.keep k7) hi7 rfl).mono ?_
  rintro e w8 ⟨rfl, hk8⟩
  have k8 := k7.both hk8
  refine hK _ _ ⟨fun _ => HCL.out _ k8, ?_⟩
  clear hK K hk8 hi7 k7
  (repeat (quiet_step (fail))); refine wpQuiet_nil ?_
  refine wpOp_wanted (by simp only [List.getElem?_toArray, List.getElem?_cons_zero, List.getElem?_cons_succ]; rfl) (by rfl) (fun K hK => ?_)
  go_simp
  refine (sameRow_row _ _ _ ⟨xof, xk, xto⟩ ⟨xof, xk, xto⟩ _ _ rfl rfl (HI2.out.keep k8) (HI5.out.keep k8) rfl).mono ?_
  rintro e w9 ⟨rfl, hk9⟩
  have k9 := k8.both hk9
  refine hK _ _ ⟨fun _ => HCL.out _ k9, ?_⟩
  clear hK K hk9 k8 hx0 hx1 hx2 hx3 hx4 hx5 hx6
  (repeat (quiet_step (fail))); refine wpQuiet_nil ?_
  refine NoPanic.normal ?_
  have HB1 := Lib.hid (HB1.out.keep k9)
  have HBN := Lib.hid (HBN.out.keep k9)
  have HBH := Lib.hid (HBH.out.keep k9)
  have K9 := Lib.hid (K6.out.both k9)
  have HI3 := Lib.hid (HI3.out.keep k9)
  clear HBF HBT HBG HBE HBW HBX k9 HCL
  obtain ⟨p0, p1, p2, _, _, _, pl⟩ := HB1.out.three
  obtain ⟨n0, n1, n2, _, _, _, nl⟩ := HBN.out.three
  obtain ⟨h0, h1, _, _, hl⟩ := HBH.out.two
  go_upto_region 11 with fail
  clear p0 p1 p2 pl n0 n1 n2 nl h0 h1 hl
  refine wp_region_by (fun w' => Keep NoS w9 w') [] [([0], 1), ([2, 3, 4, 5], 6)] [7, 8] (by kernel_rfl) (by kernel_rfl) (by (repeat' (first | (with_reducible assumption) | (with_reducible exact HK.out) | (with_reducible exact Keep.refl _ _) | (with_reducible refine Keep.alloc ?_ _) | (with_reducible refine Keep.setCell ?_ _ (fun h => absurd h (by omega))) | (with_reducible refine Keep.drewN ?_ _) | (with_reducible refine Keep.drew ?_)))) ?_
  intro X W hne hF hcl
  have HCL := Lib.hid hcl
  have hx0 := fun x => (HBH.out.keep (hF x)).two
  have hx1 := fun x => (HBN.out.keep (hF x)).three
  clear hF hcl
  simp only [wpPlan, pickOps, List.getElem?_toArray, List.getElem?_cons_zero, List.getElem?_cons_succ, clsOf, Bool.false_eq_true, if_false]
  (repeat (quiet_step (fail))); refine wpQuiet_nil ?_
  refine wpOp_at (by simp only [List.getElem?_toArray, List.getElem?_cons_zero, List.getElem?_cons_succ]; rfl) (by rfl) (fun K hK => ?_)
  go_simp
  refine (fault_any 4 0 _).mono ?_
  rintro e wa ⟨rfl, hka⟩
  have ka : Keep NoS w9 wa := Keep.trans (by (repeat' (first | (with_reducible assumption) | (with_reducible exact HK.out) | (with_reducible exact Keep.refl _ _) | (with_reducible refine Keep.alloc ?_ _) | (with_reducible refine Keep.setCell ?_ _ (fun h => absurd h (by omega))) | (with_reducible refine Keep.drewN ?_ _) | (with_reducible refine Keep.drew ?_)))) hka fun _ _ _ h => h
  unfold fV
  refine hK _ _ ⟨fun _ => HCL.out _ ka, ?_⟩
  clear hK K hka
  (repeat (quiet_step (fail))); refine wpQuiet_nil ?_
  refine wpOp_wanted (by simp only [List.getElem?_toArray, List.getElem?_cons_zero, List.getElem?_cons_succ]; rfl) (by rfl) (fun K hK => ?_)
  go_simp
  refine (sameRow_row _ _ _ ⟨[], 0, 0⟩ ⟨[], 0, 0⟩ _ _ rfl rfl (HI3.out.keep ka) (ints_nil _) rfl).mono ?_
  rintro e wb ⟨rfl, hkb⟩
  have kb := ka.both hkb
  refine hK _ _ ⟨fun _ => HCL.out _ kb, ?_⟩
  clear hK K hkb ka hx0 hx1
  (repeat (quiet_step (fail))); refine wpQuiet_nil ?_
  refine NoPanic.normal ?_
  have HK := Lib.hid (K9.out.both kb)
  clear kb
  go_wp2
  go_ret
  exact ⟨rfl, HK.out⟩
end Go.Proofs.Ytihcbmkjfacooaa
