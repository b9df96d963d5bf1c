/- The walk of the law RowForms. -/
import Derived.Test.YtihcbmkjfacooaaRowBB
namespace Go.Proofs.Ytihcbmkjfacooaa
open Go.ChangeShapes Go.WideShapes Go.RowKit
set_option linter.unusedVariables false
set_option linter.unusedSimpArgs false

/-- What Not tells. -/
def notS (r : Rw) : Rw × (Int × Int) := if (chkRow r 12).1 = 0 then (if r.kind = 3 then (nilRw, (4, 0)) else (notR r, (0, 0))) else (nilRw, chkRow r 12)

theorem not_any (w : World) (v : Value) (r : Rw) (h : IsRow w v r) : Calls Try.prog 18 #[v] w (RetRow (notS r).1 (notS r).2 w) := by
  unfold notS
  by_cases hc : (chkRow r 12).1 = 0
  · rw [if_pos hc]
    by_cases hk : r.kind = 3
    · rw [if_pos hk]; exact not_same w v r h hc hk
    · rw [if_neg hk]
      refine not_ok w v r h hc ?_
      have := (chk_ok hc).2.1
      omega
  · rw [if_neg hc]; exact not_bad w v r h hc

theorem refWhole_any (w : World) (v : Value) (r : Rw) (h : IsRow w v r) (hc : (chkRow r 12).1 = 0) : Calls Try.prog 21 #[v] w (RetRow (wholeS r).1 (wholeS r).2 w) := by
  unfold wholeS
  rw [if_pos hc]
  by_cases h0 : bareL r.of = []
  · rw [if_pos h0]; exact refWhole_none w v r h hc h0
  · rw [if_neg h0]; exact refWhole_some w v r h hc h0

theorem refTidy_any (w : World) (v : Value) (r : Rw) (h : IsRow w v r) (hc : (chkRow r 12).1 = 0) : Calls Try.prog 22 #[v] w (RetR (tidyS r) w) := by
  unfold tidyS
  rw [if_pos hc]
  by_cases h0 : bareL r.of = []
  · exact refTidy_none w v r h hc h0
  · exact refTidy_some w v r h hc h0

theorem blk2 {w w1 : World} {A1 A2 : Array Value} {T1 T2 : TypeId} (k : Keep NoS ((w.alloc (.cells A1 T1)).alloc (.cells A2 T2)) w1) : Blk w1 w.heap.size A1 ∧ Blk w1 (w.heap.size + 1) A2 ∧ Keep NoS w w1 :=
  ⟨Blk.keep (by (repeat (first | (refine blk_at _ _ ?_; simp; done) | (refine Blk.old ?_ _)))) k, Blk.keep (by (repeat (first | (refine blk_at _ _ ?_; simp; done) | (refine Blk.old ?_ _)))) k, (show Keep NoS w ((w.alloc (.cells A1 T1)).alloc (.cells A2 T2)) by (repeat' (first | (with_reducible assumption) | (with_reducible exact HK.out) | (with_reducible exact Keep.refl _ _) | (with_reducible refine Keep.alloc ?_ _) | (with_reducible refine Keep.setCell ?_ _ (fun h => absurd h (by omega))) | (with_reducible refine Keep.drewN ?_ _) | (with_reducible refine Keep.drew ?_)))).both k⟩

theorem nil_bad {r : Rw} (h : (chkRow r 12).1 ≠ 0) : tidyS r = nilRw ∧ wholeS r = (nilRw, chkRow r 12) ∧ notS r = (nilRw, chkRow r 12) := by
  unfold tidyS wholeS notS
  rw [if_neg h, if_neg h, if_neg h]
  exact ⟨rfl, rfl, rfl⟩

theorem sameRow_row (w : World) (va vb : Value) (a b : Rw) (sa sb : Value) (ha : va = .agg #[sa, .int .i64 a.kind, .int .i64 a.to]) (hb : vb = .agg #[sb, .int .i64 b.kind, .int .i64 b.to]) (hia : IsInts w sa a.of) (hib : IsInts w sb b.of) (hab : a = b) :
    Calls Try.prog 20 #[va, vb] w fun e w' => e = .returned (.bool true) ∧ Keep NoS w w' := by
  have := sameRow_any w va vb a b sa sb ha hb hia hib
  rw [decide_eq_true (show sameR a b by subst hab; exact ⟨rfl, rfl, rfl⟩)] at this
  exact this

set_option maxRecDepth 100000 in
set_option maxHeartbeats 16000000 in
theorem forms_bad (w : World) (v : Value) (r : Rw) (h : IsRow w v r) (hcc : (chkRow r 12).1 ≠ 0) : Calls Try.prog 3 #[v] w fun e w' => e = .returned (.bool true) ∧ Keep NoS w w' := by
  have HNB := Lib.hid (nil_bad hcc)
  have HCC := Lib.hid hcc
  clear hcc
  have H := Lib.hid h
  obtain ⟨sv, rfl, hi, _, _⟩ := h
  obtain ⟨oa, cap, rfl, hm⟩ := hi.len
  have HI := Lib.hid hi
  clear hi
  have HTS := Lib.hid (tidy_any (r := ⟨r.of, r.kind, r.to⟩))
  obtain ⟨⟨tof, tk, tto⟩, hT⟩ : ∃ S, tidyS r = S := ⟨_, rfl⟩
  obtain ⟨⟨⟨xof, xk, xto⟩, xc, xa⟩, hW⟩ : ∃ S, wholeS r = S := ⟨_, rfl⟩
  obtain ⟨⟨⟨nof, nk, nto⟩, nc, na⟩, hN⟩ : ∃ S, notS r = S := ⟨_, rfl⟩
  obtain ⟨⟨c, a⟩, hE⟩ : ∃ S, chkRow r 12 = S := ⟨_, rfl⟩
  have HT := Lib.hid hT
  have HW := Lib.hid hW
  have HN := Lib.hid hN
  have HE := Lib.hid hE
  clear hT hW hN hE HTS
  obtain ⟨of, kind, tt⟩ := r
  simp only at *
  go_enter Try.func3, Try.ntmps3
  go_wp2_with fail
  refine (tidy_any _ _ ⟨of, kind, tt⟩ (H.out.keep (by (repeat' (first | (with_reducible assumption) | (with_reducible exact HK.out) | (with_reducible exact Keep.refl _ _) | (with_reducible refine Keep.alloc ?_ _) | (with_reducible refine Keep.setCell ?_ _ (fun h => absurd h (by omega))) | (with_reducible refine Keep.drewN ?_ _) | (with_reducible refine Keep.drew ?_)))))).mono ?_
  rintro e w1 ⟨sv1, rfl, hi1, hc1, hk1⟩
  rw [show tidyF ⟨of, kind, tt⟩ = (c, a) from HE.out]
  rw [HT.out] at hi1 ⊢
  simp only at hi1 ⊢
  obtain ⟨o1, c1, rfl, _⟩ := hi1.len
  have k1 : Keep NoS w w1 := Keep.both (by (repeat' (first | (with_reducible assumption) | (with_reducible exact HK.out) | (with_reducible exact Keep.refl _ _) | (with_reducible refine Keep.alloc ?_ _) | (with_reducible refine Keep.setCell ?_ _ (fun h => absurd h (by omega))) | (with_reducible refine Keep.drewN ?_ _) | (with_reducible refine Keep.drew ?_)))) hk1
  have b1 : Blk w1 w.heap.size #[.slice oa of.length cap, .int .i64 kind, .int .i64 tt] := Blk.keep (by (repeat (first | (refine blk_at _ _ ?_; simp; done) | (refine Blk.old ?_ _)))) hk1
  obtain ⟨p0, p1, p2, _, _, _, pl⟩ := b1.three
  have HB1 := Lib.hid b1
  have K1 := Lib.hid k1
  have HI1 := Lib.hid hi1
  unfold fV
  clear b1 k1 hi1 hc1 hk1
  go_wp2_with fail
  refine (whole_all _ _ ⟨of, kind, tt⟩ (H.out.keep (K1.out.both (by (repeat' (first | (with_reducible assumption) | (with_reducible exact HK.out) | (with_reducible exact Keep.refl _ _) | (with_reducible refine Keep.alloc ?_ _) | (with_reducible refine Keep.setCell ?_ _ (fun h => absurd h (by omega))) | (with_reducible refine Keep.drewN ?_ _) | (with_reducible refine Keep.drew ?_))))))).mono ?_
  rintro e w2 ⟨sv2, rfl, hi2, hc2, hk2⟩
  rw [HW.out] at hi2 ⊢
  simp only at hi2 ⊢
  obtain ⟨o2, c2, rfl, _⟩ := hi2.len
  obtain ⟨bt, bf, k2⟩ := blk2 hk2
  have HBT := Lib.hid bt
  have HBF := Lib.hid bf
  have HB1 := Lib.hid (HB1.out.keep k2)
  have K2 := Lib.hid (K1.out.both k2)
  have HI1 := Lib.hid (HI1.out.keep k2)
  have HI2 := Lib.hid hi2
  obtain ⟨p0, p1, p2, _, _, _, pl⟩ := HB1.out.three
  clear bt bf k2 hi2 hc2 hk2 K1
  unfold fV
  go_wp2_with fail
  refine (not_any _ _ ⟨of, kind, tt⟩ (H.out.keep (K2.out.both (by (repeat' (first | (with_reducible assumption) | (with_reducible exact HK.out) | (with_reducible exact Keep.refl _ _) | (with_reducible refine Keep.alloc ?_ _) | (with_reducible refine Keep.setCell ?_ _ (fun h => absurd h (by omega))) | (with_reducible refine Keep.drewN ?_ _) | (with_reducible refine Keep.drew ?_))))))).mono ?_
  rintro e w3 ⟨sv3, rfl, hi3, hc3, hk3⟩
  rw [HN.out] at hi3 ⊢
  simp only at hi3 ⊢
  obtain ⟨o3, c3, rfl, _⟩ := hi3.len
  obtain ⟨bt, bf, k3⟩ := blk2 hk3
  have HBW := Lib.hid bt
  have HBG := Lib.hid bf
  have HB1 := Lib.hid (HB1.out.keep k3)
  have HBT := Lib.hid (HBT.out.keep k3)
  have HBF := Lib.hid (HBF.out.keep k3)
  have K3 := Lib.hid (K2.out.both k3)
  have HI1 := Lib.hid (HI1.out.keep k3)
  have HI2 := Lib.hid (HI2.out.keep k3)
  have HI3 := Lib.hid hi3
  obtain ⟨p0, p1, p2, _, _, _, pl⟩ := HB1.out.three
  clear bt bf k3 hi3 hc3 hk3 K2
  unfold fV
  go_wp2_with fail
  refine (refRow_any _ _ ⟨of, kind, tt⟩ 12 (H.out.keep (K3.out.both (by (repeat' (first | (with_reducible assumption) | (with_reducible exact HK.out) | (with_reducible exact Keep.refl _ _) | (with_reducible refine Keep.alloc ?_ _) | (with_reducible refine Keep.setCell ?_ _ (fun h => absurd h (by omega))) | (with_reducible refine Keep.drewN ?_ _) | (with_reducible refine Keep.drew ?_))))))).mono ?_
  rintro e w4 ⟨rfl, hk4⟩
  rw [HE.out]
  obtain ⟨bt, bf, k4⟩ := blk2 (hk4 : Keep NoS _ _)
  have HBN := Lib.hid bt
  have HBH := Lib.hid bf
  have HB1 := Lib.hid (HB1.out.keep k4)
  have HBT := Lib.hid (HBT.out.keep k4)
  have HBF := Lib.hid (HBF.out.keep k4)
  have HBW := Lib.hid (HBW.out.keep k4)
  have HBG := Lib.hid (HBG.out.keep k4)
  have K4 := Lib.hid (K3.out.both k4)
  have HI1 := Lib.hid (HI1.out.keep k4)
  have HI2 := Lib.hid (HI2.out.keep k4)
  have HI3 := Lib.hid (HI3.out.keep k4)
  clear bt bf k4 hk4 K3 p0 p1 p2 pl
  unfold fV
  have hl1 := HB1.out.lt
  generalize w1.heap.size = z1 at *
  generalize w2.heap.size = z2 at *
  generalize w3.heap.size = z3 at *
  have e1 := HNB.out.1.symm.trans HT.out
  have e2 := HNB.out.2.1.symm.trans HW.out
  have e3 := HNB.out.2.2.symm.trans HN.out
  rw [HE.out] at e2 e3
  have hc0 : c ≠ 0 := by have := HCC.out; rw [HE.out] at this; exact this
  have ec : (c != 0) = true := by rw [bne_iff_ne]; exact hc0
  unfold nilRw at e1 e2 e3
  cases e1
  cases e2
  cases e3
  clear HNB HCC hc0
  simp only [List.length_nil] at *
  obtain ⟨p0, p1, p2, _, _, _, pl⟩ := HB1.out.three
  obtain ⟨t0, t1, t2, _, _, _, tl⟩ := HBT.out.three
  obtain ⟨f0, f1, _, _, fl⟩ := HBF.out.two
  obtain ⟨x0, x1, x2, _, _, _, xl⟩ := HBW.out.three
  obtain ⟨g0, g1, _, _, gl⟩ := HBG.out.two
  obtain ⟨n0, n1, n2, _, _, _, nl⟩ := HBN.out.three
  obtain ⟨h0, h1, _, _, hl⟩ := HBH.out.two
  go_wp2_with fail
  have HI1 := Lib.hid HI1.out
  have kw : Keep NoS w4 (w4.alloc (.cells #[.int .i64 xc, .int .i64 xa] 26)) := (Keep.refl _ _).alloc _
  refine (sameRow_row _ _ _ ⟨[], 0, 0⟩ ⟨[], 0, 0⟩ _ _ rfl rfl (HI1.out.keep kw) (ints_nil _) rfl).mono ?_
  rintro e w5 ⟨rfl, hk5⟩
  have k5 := kw.both hk5
  obtain ⟨x0, x1, x2, _, _, _, xl⟩ := (HBW.out.keep k5).three
  have K5 := Lib.hid k5
  clear kw hk5 k5 p0 p1 p2 pl t0 t1 t2 tl f0 f1 fl g0 g1 gl n0 n1 n2 nl h0 h1 hl
  go_wp2_with fail
  refine (sameRow_row _ _ _ ⟨[], 0, 0⟩ ⟨[], 0, 0⟩ _ _ rfl rfl (HI2.out.keep K5.out) (ints_nil _) rfl).mono ?_
  rintro e w6 ⟨rfl, hk6⟩
  obtain ⟨n0, n1, n2, _, _, _, nl⟩ := (HBN.out.keep (K5.out.both hk6)).three
  have K6 := Lib.hid (K5.out.both hk6)
  clear hk6 x0 x1 x2 xl
  go_wp2_with fail
  refine (sameRow_row _ _ _ ⟨[], 0, 0⟩ ⟨[], 0, 0⟩ _ _ rfl rfl (HI3.out.keep K6.out) (ints_nil _) rfl).mono ?_
  rintro e w7 ⟨rfl, hk7⟩
  have HK := Lib.hid (K4.out.both (K6.out.both hk7))
  clear hk7 n0 n1 n2 nl
  go_wp2
  go_ret
  exact ⟨rfl, HK.out⟩
end Go.Proofs.Ytihcbmkjfacooaa
