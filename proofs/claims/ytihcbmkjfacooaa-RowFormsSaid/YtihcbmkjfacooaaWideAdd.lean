/- The wide numbers' Add, Sub. -/
import Derived.Test.YtihcbmkjfacooaaWideSum
namespace Go.Proofs.Ytihcbmkjfacooaa
open Go.ChangeShapes Go.WideShapes Go.RowKit
set_option linter.unusedVariables false
set_option linter.unusedSimpArgs false

theorem IsRaw.parts {w : World} {b o : Nat} {neg : Bool} {ds : List Nat} (h : IsRaw w b o neg ds) : ∃ g cap, w.cell? ⟨b, o, none⟩ = some (.bool neg) ∧ w.cell? ⟨b, o + 1, none⟩ = some (.slice (some ⟨g, 0, none⟩) ds.length cap) ∧
    IsDig w (.slice (some ⟨g, 0, none⟩) ds.length cap) ds ∧ b < w.heap.size := by
  obtain ⟨c, t, v, hb, ht, h0, h1, hd⟩ := h
  obtain ⟨g, cap, rfl⟩ := hd.form
  exact ⟨g, cap, cell_of_heap hb h0, cell_of_heap hb h1, hd, lt_of_heap hb⟩

theorem add_same {neg neg' : Bool} {a b : Nat} (h : neg = neg') : sgn neg (a + b) = sgn neg a + sgn neg' b := by
  subst h; cases neg <;> simp [sgn]; omega
theorem add_more {neg neg' : Bool} {a b : Nat} (h : neg ≠ neg') (hab : b ≤ a) : sgn neg (a - b) = sgn neg a + sgn neg' b := by
  cases neg <;> cases neg' <;> simp [sgn] at * <;> omega
theorem add_less {neg neg' : Bool} {a b : Nat} (h : neg ≠ neg') (hab : a ≤ b) : sgn neg' (b - a) = sgn neg a + sgn neg' b := by
  cases neg <;> cases neg' <;> simp [sgn] at * <;> omega

theorem dval_len_le {ds ds' : List Nat} (hn : NoEnd ds') (hd : ∀ d ∈ ds, d < 4294967296) (h : dval ds' ≤ dval ds) : ds'.length ≤ ds.length := by
  apply Classical.byContradiction
  intro hl
  have := dval_short ds ds' hn (by omega) hd
  omega

theorem cmpN_ge (a b : Nat) : decide (0 ≤ cmpN a b) = decide (b ≤ a) := by
  unfold cmpN
  rw [decide_eq_decide]
  split
  · omega
  · split <;> omega

set_option maxRecDepth 100000 in
set_option maxHeartbeats 8000000 in
theorem add_any (w : World) (bz oz bx ox by' oy : Nat) (x y : Int) (hz : IsHdr w bz oz) (hx : IsInt w bx ox x) (hy : IsInt w by' oy y) (hbx : x.natAbs < BIG) (hby : y.natAbs < BIG) :
    Calls Try.prog 101 #[.pointer (some ⟨bz, oz, none⟩), .pointer (some ⟨bx, ox, none⟩), .pointer (some ⟨by', oy, none⟩)] w fun e w' => e = .returned (.pointer (some ⟨bz, oz, none⟩)) ∧ Keep (At bz oz) w w' ∧ IsInt w' bz oz (x + y) := by
  have C : Hid (∀ k, Calls Try.prog 97 #[.pointer (some ⟨bx, ox, none⟩), .pointer (some ⟨by', oy, none⟩)] (w.drewN k) fun e w' => e = .returned (.int .i64 (cmpN x.natAbs y.natAbs)) ∧ ∃ n, w' = w.drewN n) :=
    Lib.hid fun k => (cmpAbs_any (w.drewN k) bx ox by' oy x y (hx.ofNewer (keep_drewN w k)) (hy.ofNewer (keep_drewN w k))).mono fun e w' ⟨he, m, hm⟩ => ⟨he, k + m, by rw [hm, World.drewN_drewN]⟩
  obtain ⟨neg, ds, hrx, hn, hne, hzx, h1, h2, h3⟩ := hx.open
  obtain ⟨neg', ds', hry, hn', hne', hzy, h1', h2', h3'⟩ := hy.open
  have hlx := len_of_BIG ds hn (by rw [h3]; exact hbx)
  have hly := len_of_BIG ds' hn' (by rw [h3']; exact hby)
  have HZX := Lib.hid hzx
  have HZY := Lib.hid hzy
  have HL1 : Hid (dval ds' ≤ dval ds → ds'.length ≤ ds.length) := Lib.hid (dval_len_le hn' hrx.lt)
  have HL2 : Hid (dval ds ≤ dval ds' → ds.length ≤ ds'.length) := Lib.hid (dval_len_le hn hry.lt)
  rw [← h3, ← h3'] at C
  obtain ⟨g, cap, cx0, cx1, hdx, hbx'⟩ := hrx.parts
  obtain ⟨g', cap', cy0, cy1, hdy, hby'⟩ := hry.parts
  have HZ := Lib.hid hz
  have HDX := Lib.hid hdx
  have HDY := Lib.hid hdy
  clear hx hy hz hrx hry hn hne hzx h1 h2 h3 hn' hne' hzy h1' h2' h3' hbx hby hdx hdy
  by_cases hs : neg = neg'
  · have e1 : (neg == neg') = true := by simpa using hs
    have HA : Hid (sgn neg (dval ds + dval ds') = x + y) := Lib.hid (by rw [HZX.out, HZY.out]; exact add_same hs)
    clear hs C
    go_enter Try.func101, Try.ntmps101
    go_wp2
    go_quiet (fail)
    go_wp2
    refine wp_region_by (fun w' => Keep NoS w w') [0, 1, 17, 18, 19, 20] [([0, 1, 2, 3, 4, 5, 6, 7, 8, 9, 10, 11, 12, 13], 14), ([15, 16], 17), ([18, 19], 20)] [] (by kernel_rfl) (by kernel_rfl) (by (repeat' (first | (with_reducible assumption) | (with_reducible exact HK.out) | (with_reducible exact Keep.refl _ _) | (with_reducible refine Keep.alloc ?_ _) | (with_reducible refine Keep.setCell ?_ _ (fun h => absurd h (by omega))) | (with_reducible refine Keep.drewN ?_ _) | (with_reducible refine Keep.drew ?_)))) ?_
    intro X W hne hF hcl
    have HF := Lib.hid hF
    have HCL := Lib.hid hcl
    have hx0 := fun x => ((hF x).cell hbx').trans cx0
    have hx1 := fun x => ((hF x).cell hbx').trans cx1
    have hy0 := fun x => ((hF x).cell hby').trans cy0
    have hy1 := fun x => ((hF x).cell hby').trans cy1
    clear hF hcl
    simp only [wpPlan, pickOps, List.getElem?_toArray, List.getElem?_cons_zero, List.getElem?_cons_succ, clsOf, Bool.false_eq_true, if_false]
    (repeat (quiet_step (fail))); refine wpQuiet_nil ?_
    refine wpOp_at (by simp only [List.getElem?_toArray, List.getElem?_cons_zero, List.getElem?_cons_succ]; rfl) (by rfl) (fun K hK => ?_)
    go_simp
    refine (sumOf_any _ _ _ ds ds' (HDX.out.ofNewer (by (repeat' (first | (with_reducible assumption) | (with_reducible exact HK.out) | (with_reducible exact Keep.refl _ _) | (with_reducible refine Keep.alloc ?_ _) | (with_reducible refine Keep.setCell ?_ _ (fun h => absurd h (by omega))) | (with_reducible refine Keep.drewN ?_ _) | (with_reducible refine Keep.drew ?_))))) (HDY.out.ofNewer (by (repeat' (first | (with_reducible assumption) | (with_reducible exact HK.out) | (with_reducible exact Keep.refl _ _) | (with_reducible refine Keep.alloc ?_ _) | (with_reducible refine Keep.setCell ?_ _ (fun h => absurd h (by omega))) | (with_reducible refine Keep.drewN ?_ _) | (with_reducible refine Keep.drew ?_))))) (by omega) (by omega)).mono ?_
    rintro e w1 ⟨v1, ds1, rfl, hk1, hd1, hv1⟩
    have k1 : Keep NoS w w1 := Keep.trans (by (repeat' (first | (with_reducible assumption) | (with_reducible exact HK.out) | (with_reducible exact Keep.refl _ _) | (with_reducible refine Keep.alloc ?_ _) | (with_reducible refine Keep.setCell ?_ _ (fun h => absurd h (by omega))) | (with_reducible refine Keep.drewN ?_ _) | (with_reducible refine Keep.drew ?_)))) hk1 fun _ _ _ h => h
    obtain ⟨g1, cap1, rfl⟩ := hd1.form
    refine hK _ _ ⟨fun _ => HCL.out _ k1, ?_⟩
    have HK1 := Lib.hid k1
    have HD1 := Lib.hid hd1
    have HV1 := Lib.hid hv1
    have HZ1 := Lib.hid (HZ.out.ofNewer k1)
    obtain ⟨zneg, za, zm1, zm2, zc0, zc1, zf0, zf1, zb⟩ := HZ1.out.open
    clear hK K hk1 k1 hd1 hv1 hx0 hx1 hy0 hy1 HF HCL
    (repeat (quiet_step (fail))); refine wpQuiet_nil ?_
    refine wpOp_at (by simp only [List.getElem?_toArray, List.getElem?_cons_zero, List.getElem?_cons_succ]; rfl) (by rfl) (fun K hK => ?_)
    go_simp
    refine hK _ _ ⟨fun h => (by simp at h), ?_⟩
    clear hK K
    (repeat (quiet_step (fail))); refine wpQuiet_nil ?_
    refine wpOp_at (by simp only [List.getElem?_toArray, List.getElem?_cons_zero, List.getElem?_cons_succ]; rfl) (by rfl) (fun K hK => ?_)
    go_simp
    refine hK _ _ ⟨fun h => (by simp at h), ?_⟩
    clear hK K
    (repeat (quiet_step (fail))); refine wpQuiet_nil ?_
    refine NoPanic.normal ?_
    have HR := Lib.hid (raw_make HZ1.out neg HD1.out)
    go_wp2_with fail
    refine (trim_any _ bz oz _ _ HR.out).mono ?_
    rintro e w2 ⟨rfl, hk2, hi2⟩
    have HK2 := Lib.hid hk2
    have HI2 := Lib.hid hi2
    clear hk2 hi2
    go_wp2
    go_returns
    refine ⟨rfl, ?_, ?_⟩
    · exact (((HK1.out.any (S := At bz oz)).setCell _ (fun _ => at_l bz oz)).setCell _ (fun _ => at_r bz oz)).trans HK2.out fun _ _ _ h => h
    · rw [← HA.out, ← HV1.out.1]; exact HI2.out
  · have e1 : (neg == neg') = false := by simpa using hs
    by_cases hge : dval ds' ≤ dval ds
    · have HA : Hid (sgn neg (dval ds - dval ds') = x + y) := Lib.hid (by rw [HZX.out, HZY.out]; exact add_more hs hge)
      have e2 : decide (0 ≤ cmpN (dval ds) (dval ds')) = true := by rw [cmpN_ge]; exact decide_eq_true hge
      have HLL := Lib.hid (HL1.out hge)
      have HGE := Lib.hid hge
      generalize cmpN (dval ds) (dval ds') = cc at *
      clear hs hge
      go_enter Try.func101, Try.ntmps101
      go_wp2
      go_quiet (fail)
      go_wp2_with fail
      refine (C.out _).mono ?_
      rintro e w0 ⟨rfl, nd, rfl⟩
      go_wp2
      refine wp_region_by (fun w' => Keep NoS w w') [0, 1, 17, 18, 19, 20] [([0, 1, 2, 3, 4, 5, 6, 7, 8, 9, 10, 11, 12, 13], 14), ([15, 16], 17), ([18, 19], 20)] [] (by kernel_rfl) (by kernel_rfl) (by (repeat' (first | (with_reducible assumption) | (with_reducible exact HK.out) | (with_reducible exact Keep.refl _ _) | (with_reducible refine Keep.alloc ?_ _) | (with_reducible refine Keep.setCell ?_ _ (fun h => absurd h (by omega))) | (with_reducible refine Keep.drewN ?_ _) | (with_reducible refine Keep.drew ?_)))) ?_
      intro X W hne hF hcl
      have HF := Lib.hid hF
      have HCL := Lib.hid hcl
      have hx0 := fun x => ((hF x).cell hbx').trans cx0
      have hx1 := fun x => ((hF x).cell hbx').trans cx1
      have hy0 := fun x => ((hF x).cell hby').trans cy0
      have hy1 := fun x => ((hF x).cell hby').trans cy1
      clear hF hcl
      simp only [wpPlan, pickOps, List.getElem?_toArray, List.getElem?_cons_zero, List.getElem?_cons_succ, clsOf, Bool.false_eq_true, if_false]
      (repeat (quiet_step (fail))); refine wpQuiet_nil ?_
      refine wpOp_at (by simp only [List.getElem?_toArray, List.getElem?_cons_zero, List.getElem?_cons_succ]; rfl) (by rfl) (fun K hK => ?_)
      go_simp
      refine (lessOf_any _ _ _ ds ds' (HDX.out.ofNewer (by (repeat' (first | (with_reducible assumption) | (with_reducible exact HK.out) | (with_reducible exact Keep.refl _ _) | (with_reducible refine Keep.alloc ?_ _) | (with_reducible refine Keep.setCell ?_ _ (fun h => absurd h (by omega))) | (with_reducible refine Keep.drewN ?_ _) | (with_reducible refine Keep.drew ?_))))) (HDY.out.ofNewer (by (repeat' (first | (with_reducible assumption) | (with_reducible exact HK.out) | (with_reducible exact Keep.refl _ _) | (with_reducible refine Keep.alloc ?_ _) | (with_reducible refine Keep.setCell ?_ _ (fun h => absurd h (by omega))) | (with_reducible refine Keep.drewN ?_ _) | (with_reducible refine Keep.drew ?_))))) (by omega) HLL.out HGE.out).mono ?_
      rintro e w1 ⟨v1, ds1, rfl, hk1, hd1, hv1⟩
      have k1 : Keep NoS w w1 := Keep.trans (by (repeat' (first | (with_reducible assumption) | (with_reducible exact HK.out) | (with_reducible exact Keep.refl _ _) | (with_reducible refine Keep.alloc ?_ _) | (with_reducible refine Keep.setCell ?_ _ (fun h => absurd h (by omega))) | (with_reducible refine Keep.drewN ?_ _) | (with_reducible refine Keep.drew ?_)))) hk1 fun _ _ _ h => h
      obtain ⟨g1, cap1, rfl⟩ := hd1.form
      refine hK _ _ ⟨fun _ => HCL.out _ k1, ?_⟩
      have HK1 := Lib.hid k1
      have HD1 := Lib.hid hd1
      have HV1 := Lib.hid hv1
      have HZ1 := Lib.hid (HZ.out.ofNewer k1)
      obtain ⟨zneg, za, zm1, zm2, zc0, zc1, zf0, zf1, zb⟩ := HZ1.out.open
      clear hK K hk1 k1 hd1 hv1 hx0 hx1 hy0 hy1 HF HCL
      (repeat (quiet_step (fail))); refine wpQuiet_nil ?_
      refine wpOp_at (by simp only [List.getElem?_toArray, List.getElem?_cons_zero, List.getElem?_cons_succ]; rfl) (by rfl) (fun K hK => ?_)
      go_simp
      refine hK _ _ ⟨fun h => (by simp at h), ?_⟩
      clear hK K
      (repeat (quiet_step (fail))); refine wpQuiet_nil ?_
      refine wpOp_at (by simp only [List.getElem?_toArray, List.getElem?_cons_zero, List.getElem?_cons_succ]; rfl) (by rfl) (fun K hK => ?_)
      go_simp
      refine hK _ _ ⟨fun h => (by simp at h), ?_⟩
      clear hK K
      (repeat (quiet_step (fail))); refine wpQuiet_nil ?_
      refine NoPanic.normal ?_
      have HR := Lib.hid (raw_make HZ1.out neg HD1.out)
      go_wp2_with fail
      refine (trim_any _ bz oz _ _ HR.out).mono ?_
      rintro e w2 ⟨rfl, hk2, hi2⟩
      have HK2 := Lib.hid hk2
      have HI2 := Lib.hid hi2
      clear hk2 hi2
      go_wp2
      go_returns
      refine ⟨rfl, ?_, ?_⟩
      · exact (((HK1.out.any (S := At bz oz)).setCell _ (fun _ => at_l bz oz)).setCell _ (fun _ => at_r bz oz)).trans HK2.out fun _ _ _ h => h
      · rw [← HA.out, ← HV1.out.1]; exact HI2.out
    · have HA : Hid (sgn neg' (dval ds' - dval ds) = x + y) := Lib.hid (by rw [HZX.out, HZY.out]; exact add_less hs (by omega))
      have e2 : decide (0 ≤ cmpN (dval ds) (dval ds')) = false := by rw [cmpN_ge]; exact decide_eq_false hge
      have HLL := Lib.hid (HL2.out (by omega))
      have HGE : Hid (dval ds ≤ dval ds') := Lib.hid (by omega)
      generalize cmpN (dval ds) (dval ds') = cc at *
      clear hs hge
      go_enter Try.func101, Try.ntmps101
      go_wp2
      go_quiet (fail)
      go_wp2_with fail
      refine (C.out _).mono ?_
      rintro e w0 ⟨rfl, nd, rfl⟩
      go_wp2
      refine wp_region_by (fun w' => Keep NoS w w') [0, 1, 17, 18, 19, 20] [([0, 1, 2, 3, 4, 5, 6, 7, 8, 9, 10, 11, 12, 13], 14), ([15, 16], 17), ([18, 19], 20)] [] (by kernel_rfl) (by kernel_rfl) (by (repeat' (first | (with_reducible assumption) | (with_reducible exact HK.out) | (with_reducible exact Keep.refl _ _) | (with_reducible refine Keep.alloc ?_ _) | (with_reducible refine Keep.setCell ?_ _ (fun h => absurd h (by omega))) | (with_reducible refine Keep.drewN ?_ _) | (with_reducible refine Keep.drew ?_)))) ?_
      intro X W hne hF hcl
      have HF := Lib.hid hF
      have HCL := Lib.hid hcl
      have hx0 := fun x => ((hF x).cell hbx').trans cx0
      have hx1 := fun x => ((hF x).cell hbx').trans cx1
      have hy0 := fun x => ((hF x).cell hby').trans cy0
      have hy1 := fun x => ((hF x).cell hby').trans cy1
      clear hF hcl
      simp only [wpPlan, pickOps, List.getElem?_toArray, List.getElem?_cons_zero, List.getElem?_cons_succ, clsOf, Bool.false_eq_true, if_false]
      (repeat (quiet_step (fail))); refine wpQuiet_nil ?_
      refine wpOp_at (by simp only [List.getElem?_toArray, List.getElem?_cons_zero, List.getElem?_cons_succ]; rfl) (by rfl) (fun K hK => ?_)
      go_simp
      refine (lessOf_any _ _ _ ds' ds (HDY.out.ofNewer (by (repeat' (first | (with_reducible assumption) | (with_reducible exact HK.out) | (with_reducible exact Keep.refl _ _) | (with_reducible refine Keep.alloc ?_ _) | (with_reducible refine Keep.setCell ?_ _ (fun h => absurd h (by omega))) | (with_reducible refine Keep.drewN ?_ _) | (with_reducible refine Keep.drew ?_))))) (HDX.out.ofNewer (by (repeat' (first | (with_reducible assumption) | (with_reducible exact HK.out) | (with_reducible exact Keep.refl _ _) | (with_reducible refine Keep.alloc ?_ _) | (with_reducible refine Keep.setCell ?_ _ (fun h => absurd h (by omega))) | (with_reducible refine Keep.drewN ?_ _) | (with_reducible refine Keep.drew ?_))))) (by omega) HLL.out HGE.out).mono ?_
      rintro e w1 ⟨v1, ds1, rfl, hk1, hd1, hv1⟩
      have k1 : Keep NoS w w1 := Keep.trans (by (repeat' (first | (with_reducible assumption) | (with_reducible exact HK.out) | (with_reducible exact Keep.refl _ _) | (with_reducible refine Keep.alloc ?_ _) | (with_reducible refine Keep.setCell ?_ _ (fun h => absurd h (by omega))) | (with_reducible refine Keep.drewN ?_ _) | (with_reducible refine Keep.drew ?_)))) hk1 fun _ _ _ h => h
      obtain ⟨g1, cap1, rfl⟩ := hd1.form
      refine hK _ _ ⟨fun _ => HCL.out _ k1, ?_⟩
      have HK1 := Lib.hid k1
      have HD1 := Lib.hid hd1
      have HV1 := Lib.hid hv1
      have HZ1 := Lib.hid (HZ.out.ofNewer k1)
      obtain ⟨zneg, za, zm1, zm2, zc0, zc1, zf0, zf1, zb⟩ := HZ1.out.open
      clear hK K hk1 k1 hd1 hv1 hx0 hx1 hy0 hy1 HF HCL
      (repeat (quiet_step (fail))); refine wpQuiet_nil ?_
      refine wpOp_at (by simp only [List.getElem?_toArray, List.getElem?_cons_zero, List.getElem?_cons_succ]; rfl) (by rfl) (fun K hK => ?_)
      go_simp
      refine hK _ _ ⟨fun h => (by simp at h), ?_⟩
      clear hK K
      (repeat (quiet_step (fail))); refine wpQuiet_nil ?_
      refine wpOp_at (by simp only [List.getElem?_toArray, List.getElem?_cons_zero, List.getElem?_cons_succ]; rfl) (by rfl) (fun K hK => ?_)
      go_simp
      refine hK _ _ ⟨fun h => (by simp at h), ?_⟩
      clear hK K
      (repeat (quiet_step (fail))); refine wpQuiet_nil ?_
      refine NoPanic.normal ?_
      have HR := Lib.hid (raw_make HZ1.out neg' HD1.out)
      go_wp2_with fail
      refine (trim_any _ bz oz _ _ HR.out).mono ?_
      rintro e w2 ⟨rfl, hk2, hi2⟩
      have HK2 := Lib.hid hk2
      have HI2 := Lib.hid hi2
      clear hk2 hi2
      go_wp2
      go_returns
      refine ⟨rfl, ?_, ?_⟩
      · exact (((HK1.out.any (S := At bz oz)).setCell _ (fun _ => at_l bz oz)).setCell _ (fun _ => at_r bz oz)).trans HK2.out fun _ _ _ h => h
      · rw [← HA.out, ← HV1.out.1]; exact HI2.out

set_option maxHeartbeats 4000000 in
theorem sub_any (w : World) (bz oz bx ox by' oy : Nat) (x y : Int) (hz : IsHdr w bz oz) (hx : IsInt w bx ox x) (hy : IsInt w by' oy y) (hbx : x.natAbs < BIG) (hby : y.natAbs < BIG) :
    Calls Try.prog 148 #[.pointer (some ⟨bz, oz, none⟩), .pointer (some ⟨bx, ox, none⟩), .pointer (some ⟨by', oy, none⟩)] w fun e w' => e = .returned (.pointer (some ⟨bz, oz, none⟩)) ∧ Keep (At bz oz) w w' ∧ IsInt w' bz oz (x - y) := by
  have Hz := Lib.hid hz
  have Hx := Lib.hid hx
  have Hy := Lib.hid hy
  have Hbx := Lib.hid hbx
  have Hby := Lib.hid hby
  clear hz hx hy hbx hby
  go_enter Try.func148, Try.ntmps148
  go_wp2_with fail
  have k1 : Keep NoS w (w.alloc (.cells intCells 74)) := (Keep.refl _ _).alloc _
  refine (neg_any _ w.heap.size 0 by' oy y (hdr_new w) (Hy.out.ofNewer k1) Hby.out).mono ?_
  rintro e w1 ⟨rfl, hk1, hi1⟩
  have K1 := Lib.hid (k1.trans hk1 fun n o hn h => by have := h.1; omega)
  have Hi := Lib.hid hi1
  clear k1 hk1 hi1
  go_wp2_with fail
  refine (add_any w1 bz oz bx ox w.heap.size 0 x (-y) (Hz.out.ofNewer K1.out) (Hx.out.ofNewer K1.out) Hi.out Hbx.out (by rw [Int.natAbs_neg]; exact Hby.out)).mono ?_
  rintro e w2 ⟨rfl, hk2, hi2⟩
  go_wp2
  go_returns
  exact ⟨rfl, K1.out.any.trans hk2 fun _ _ _ h => h, by rw [Int.sub_eq_add_neg]; exact hi2⟩

end Go.Proofs.Ytihcbmkjfacooaa
