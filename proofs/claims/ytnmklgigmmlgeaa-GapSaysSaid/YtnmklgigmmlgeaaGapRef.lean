/- The document's answer to gap.Check. -/
import Derived.Test.YtnmklgigmmlgeaaGapCheck
namespace Go.Proofs.Ytnmklgigmmlgeaa
open Go.ChangeShapes Go.WideShapes Go.RowKit
set_option linter.unusedVariables false
set_option linter.unusedSimpArgs false

theorem refFault_any (w : World) (c a : Int) : Calls Try.prog 20 #[.int .i64 c, .int .i64 a] w fun e w' => e = .returned (.agg #[.int .i64 c, .int .i64 a]) ∧ Keep NoS w w' := by
  go_enter Try.func20, Try.ntmps20
  go_wp2
  go_returns
  exact ⟨rfl, by (repeat' (first | (with_reducible assumption) | (with_reducible exact HK.out) | (with_reducible exact Keep.refl _ _) | (with_reducible refine Keep.alloc ?_ _) | (with_reducible refine Keep.setCell ?_ _ (fun h => absurd h (by omega))) | (with_reducible refine Keep.drewN ?_ _) | (with_reducible refine Keep.drew ?_)))⟩

def fits (x : Int) : Bool := decide (x ≤ 1000000) && decide (-1000000 ≤ x)

theorem refFits_any (w : World) (x : Int) : Calls Try.prog 24 #[.int .i64 x] w fun e w' => e = .returned (.bool (fits x)) ∧ Keep NoS w w' := by
  by_cases h : x ≤ 1000000
  · have e1 := dec_t h
    by_cases h' : -1000000 ≤ x
    · have e2 := dec_t h'
      have e : fits x = true := by simp [fits, h, h']
      rw [e]
      clear e h h'
      go_enter Try.func24, Try.ntmps24
      go_wp2
      go_ret
      exact ⟨congrArg (fun b : Bool => Ending.returned (.bool b)) (by simp), by (repeat' (first | (with_reducible assumption) | (with_reducible exact HK.out) | (with_reducible exact Keep.refl _ _) | (with_reducible refine Keep.alloc ?_ _) | (with_reducible refine Keep.setCell ?_ _ (fun h => absurd h (by omega))) | (with_reducible refine Keep.drewN ?_ _) | (with_reducible refine Keep.drew ?_)))⟩
    · have e2 := dec_f h'
      have e : fits x = false := by simp [fits, h']
      rw [e]
      clear e h h'
      go_enter Try.func24, Try.ntmps24
      go_wp2
      go_ret
      exact ⟨congrArg (fun b : Bool => Ending.returned (.bool b)) (by simp), by (repeat' (first | (with_reducible assumption) | (with_reducible exact HK.out) | (with_reducible exact Keep.refl _ _) | (with_reducible refine Keep.alloc ?_ _) | (with_reducible refine Keep.setCell ?_ _ (fun h => absurd h (by omega))) | (with_reducible refine Keep.drewN ?_ _) | (with_reducible refine Keep.drew ?_)))⟩
  · have e1 := dec_f h
    have e : fits x = false := by simp [fits, h]
    rw [e]
    clear e h
    go_enter Try.func24, Try.ntmps24
    go_wp2
    go_ret
    exact ⟨rfl, by (repeat' (first | (with_reducible assumption) | (with_reducible exact HK.out) | (with_reducible exact Keep.refl _ _) | (with_reducible refine Keep.alloc ?_ _) | (with_reducible refine Keep.setCell ?_ _ (fun h => absurd h (by omega))) | (with_reducible refine Keep.drewN ?_ _) | (with_reducible refine Keep.drew ?_)))⟩

set_option maxRecDepth 100000 in
set_option maxHeartbeats 16000000 in
theorem refGaps_any (w : World) (n : Int) (v : Value) (l : List Gp) (h : IsGaps w v l) :
    Calls Try.prog 19 #[.int .i64 n, v] w fun e w' => e = .returned (faultV (gapsW n l).1 (gapsW n l).2) ∧ Keep NoS w w' := by
  have HG := Lib.hid h
  obtain ⟨oa, cap, rfl, hm, hr, _⟩ := h
  have HR := Lib.hid hr; clear hr
  unfold maxLen at hm
  by_cases h1 : n < 0
  · have hv : gapsW n l = (3, -1) := by unfold gapsW; rw [if_pos (.inl h1)]
    rw [hv]
    clear hv
    have eh1 := dec_t h1
    go_enter Try.func19, Try.ntmps19
    go_wp2_with fail
    refine (refFault_any _ (3) (-1)).mono ?_
    rintro e w1 ⟨rfl, hk1⟩
    have K1 : Keep NoS w w1 := Keep.trans (by (repeat' (first | (with_reducible assumption) | (with_reducible exact HK.out) | (with_reducible exact Keep.refl _ _) | (with_reducible refine Keep.alloc ?_ _) | (with_reducible refine Keep.setCell ?_ _ (fun h => absurd h (by omega))) | (with_reducible refine Keep.drewN ?_ _) | (with_reducible refine Keep.drew ?_)))) hk1 fun _ _ _ h => h
    have B1 : Blk w1 w.heap.size #[.int .i64 0, .int .i64 0] := Blk.keep (by (repeat (first | (with_reducible assumption) | (refine blk_at _ _ ?_; simp; done) | (refine Blk.old ?_ _)))) hk1
    obtain ⟨c0, c1, f0, f1, l0⟩ := B1.two
    have m0 : ¬ w1.heap.size = w.heap.size := by omega
    clear hk1
    go_wp2
    refine bodyPost_ret (by simp [results, Try.results19, go_sem, c0, c1, f0, f1, m0, l0]; rfl) rfl ?_
    exact ⟨rfl, by (repeat' (first | (with_reducible assumption) | (with_reducible exact HK.out) | (with_reducible exact Keep.refl _ _) | (with_reducible refine Keep.alloc ?_ _) | (with_reducible refine Keep.setCell ?_ _ (fun h => absurd h (by omega))) | (with_reducible refine Keep.drewN ?_ _) | (with_reducible refine Keep.drew ?_)))⟩
  have eh1 := dec_f h1
  by_cases h2 : 12 < n
  · have hv : gapsW n l = (3, -1) := by unfold gapsW; rw [if_pos (.inr h2)]
    rw [hv]
    clear hv
    have eh2 := dec_t h2
    go_enter Try.func19, Try.ntmps19
    go_wp2_with fail
    refine (refFault_any _ (3) (-1)).mono ?_
    rintro e w1 ⟨rfl, hk1⟩
    have K1 : Keep NoS w w1 := Keep.trans (by (repeat' (first | (with_reducible assumption) | (with_reducible exact HK.out) | (with_reducible exact Keep.refl _ _) | (with_reducible refine Keep.alloc ?_ _) | (with_reducible refine Keep.setCell ?_ _ (fun h => absurd h (by omega))) | (with_reducible refine Keep.drewN ?_ _) | (with_reducible refine Keep.drew ?_)))) hk1 fun _ _ _ h => h
    have B1 : Blk w1 w.heap.size #[.int .i64 0, .int .i64 0] := Blk.keep (by (repeat (first | (with_reducible assumption) | (refine blk_at _ _ ?_; simp; done) | (refine Blk.old ?_ _)))) hk1
    obtain ⟨c0, c1, f0, f1, l0⟩ := B1.two
    have m0 : ¬ w1.heap.size = w.heap.size := by omega
    clear hk1
    go_wp2
    refine bodyPost_ret (by simp [results, Try.results19, go_sem, c0, c1, f0, f1, m0, l0]; rfl) rfl ?_
    exact ⟨rfl, by (repeat' (first | (with_reducible assumption) | (with_reducible exact HK.out) | (with_reducible exact Keep.refl _ _) | (with_reducible refine Keep.alloc ?_ _) | (with_reducible refine Keep.setCell ?_ _ (fun h => absurd h (by omega))) | (with_reducible refine Keep.drewN ?_ _) | (with_reducible refine Keep.drew ?_)))⟩
  have eh2 := dec_f h2
  by_cases h3 : 60 < l.length
  · have hv : gapsW n l = (2, 0) := by unfold gapsW; rw [if_neg (by omega), if_pos h3]
    rw [hv]
    clear hv
    have e3 : (60 : Int) < (l.length : Int) := by omega
    go_enter Try.func19, Try.ntmps19
    go_wp2_with fail
    refine (refFault_any _ (2) (0)).mono ?_
    rintro e w1 ⟨rfl, hk1⟩
    have K1 : Keep NoS w w1 := Keep.trans (by (repeat' (first | (with_reducible assumption) | (with_reducible exact HK.out) | (with_reducible exact Keep.refl _ _) | (with_reducible refine Keep.alloc ?_ _) | (with_reducible refine Keep.setCell ?_ _ (fun h => absurd h (by omega))) | (with_reducible refine Keep.drewN ?_ _) | (with_reducible refine Keep.drew ?_)))) hk1 fun _ _ _ h => h
    have B1 : Blk w1 w.heap.size #[.int .i64 0, .int .i64 0] := Blk.keep (by (repeat (first | (with_reducible assumption) | (refine blk_at _ _ ?_; simp; done) | (refine Blk.old ?_ _)))) hk1
    obtain ⟨c0, c1, f0, f1, l0⟩ := B1.two
    have m0 : ¬ w1.heap.size = w.heap.size := by omega
    clear hk1
    go_wp2
    refine bodyPost_ret (by simp [results, Try.results19, go_sem, c0, c1, f0, f1, m0, l0]; rfl) rfl ?_
    exact ⟨rfl, by (repeat' (first | (with_reducible assumption) | (with_reducible exact HK.out) | (with_reducible exact Keep.refl _ _) | (with_reducible refine Keep.alloc ?_ _) | (with_reducible refine Keep.setCell ?_ _ (fun h => absurd h (by omega))) | (with_reducible refine Keep.drewN ?_ _) | (with_reducible refine Keep.drew ?_)))⟩
  have e3 : ¬ (60 : Int) < (l.length : Int) := by omega
  have hv : gapsW n l = gapChk n l 0 := by unfold gapsW; rw [if_neg (by omega), if_neg h3]
  rw [hv]
  clear hv
  go_enter Try.func19, Try.ntmps19
  go_wp2
  go_loopw [5] (fun s wr => ∃ k : Nat, k ≤ l.length ∧ s = .int .i64 k ∧ gapChk n l 0 = gapChk n (l.drop k) k ∧ Keep NoS (w.alloc (.cells #[.int .i64 0, .int .i64 0] 25)) wr) (fun s _ => (l.length - intOf s).toNat)
  case atStart => exact ⟨0, by omega, rfl, rfl, Keep.refl _ _⟩
  case round =>
    obtain ⟨k, hk, rfl, hdr, hkp⟩ := hrel
    have HD := Lib.hid hdr; clear hdr
    have KW : Keep NoS w wr := (Keep.refl NoS w).alloc _ |>.trans hkp fun _ _ _ h => h
    have BW : Blk wr w.heap.size #[.int .i64 0, .int .i64 0] := Blk.keep (blk_at _ _ rfl) hkp
    obtain ⟨c0, c1, f0, f1, l0⟩ := BW.two
    have m0 : ¬ wr.heap.size = w.heap.size := by omega
    by_cases hkl : k < l.length
    · have hlt : (k : Int) < (l.length : Int) := by omega
      obtain ⟨b, o, cp, hsl, hb, g0, g1, g2⟩ := (HG.out.keep KW).at hkl
      cases hsl
      have hbb : ¬ wr.heap.size = b := by omega
      have hx := gapChk_drop n l k hkl
      generalize l[k] = g at *
      obtain ⟨A, B, By⟩ := g
      simp only at g0 g1 g2
      have HX := Lib.hid hx; clear hx
      by_cases p1 : A < 0
      · have q_p1 := dec_t p1
        have E := Lib.hid (chk_no HD.out HX.out (gc6 (.inl p1)) (by omega))
        clear HX
        go_wp2_with fail
        refine (refFault_any _ (6) (k)).mono ?_
        rintro e w1 ⟨rfl, hk1⟩
        have K1 : Keep NoS w w1 := Keep.trans (by (repeat' (first | (with_reducible assumption) | (with_reducible exact HK.out) | (with_reducible exact Keep.refl _ _) | (with_reducible refine Keep.alloc ?_ _) | (with_reducible refine Keep.setCell ?_ _ (fun h => absurd h (by omega))) | (with_reducible refine Keep.drewN ?_ _) | (with_reducible refine Keep.drew ?_)))) hk1 fun _ _ _ h => h
        have B1 : Blk w1 w.heap.size #[.int .i64 0, .int .i64 0] := Blk.keep (by (repeat (first | (with_reducible assumption) | (refine blk_at _ _ ?_; simp; done) | (refine Blk.old ?_ _)))) hk1
        obtain ⟨c0, c1, f0, f1, l0⟩ := B1.two
        have m0 : ¬ w1.heap.size = w.heap.size := by omega
        clear hk1
        go_wp2
        refine bodyPost_ret (by simp [results, Try.results19, go_sem, c0, c1, f0, f1, m0, l0]; rfl) rfl ?_
        exact ⟨ret_fault E.out.symm, by (repeat' (first | (with_reducible assumption) | (with_reducible exact HK.out) | (with_reducible exact Keep.refl _ _) | (with_reducible refine Keep.alloc ?_ _) | (with_reducible refine Keep.setCell ?_ _ (fun h => absurd h (by omega))) | (with_reducible refine Keep.drewN ?_ _) | (with_reducible refine Keep.drew ?_)))⟩
      have q_p1 := dec_f p1
      by_cases p3 : B < 0
      · have q_p3 := dec_t p3
        have E := Lib.hid (chk_no HD.out HX.out (gc6 (.inr (.inr (.inl p3)))) (by omega))
        clear HX
        go_wp2_with fail
        refine (refFault_any _ (6) (k)).mono ?_
        rintro e w1 ⟨rfl, hk1⟩
        have K1 : Keep NoS w w1 := Keep.trans (by (repeat' (first | (with_reducible assumption) | (with_reducible exact HK.out) | (with_reducible exact Keep.refl _ _) | (with_reducible refine Keep.alloc ?_ _) | (with_reducible refine Keep.setCell ?_ _ (fun h => absurd h (by omega))) | (with_reducible refine Keep.drewN ?_ _) | (with_reducible refine Keep.drew ?_)))) hk1 fun _ _ _ h => h
        have B1 : Blk w1 w.heap.size #[.int .i64 0, .int .i64 0] := Blk.keep (by (repeat (first | (with_reducible assumption) | (refine blk_at _ _ ?_; simp; done) | (refine Blk.old ?_ _)))) hk1
        obtain ⟨c0, c1, f0, f1, l0⟩ := B1.two
        have m0 : ¬ w1.heap.size = w.heap.size := by omega
        clear hk1
        go_wp2
        refine bodyPost_ret (by simp [results, Try.results19, go_sem, c0, c1, f0, f1, m0, l0]; rfl) rfl ?_
        exact ⟨ret_fault E.out.symm, by (repeat' (first | (with_reducible assumption) | (with_reducible exact HK.out) | (with_reducible exact Keep.refl _ _) | (with_reducible refine Keep.alloc ?_ _) | (with_reducible refine Keep.setCell ?_ _ (fun h => absurd h (by omega))) | (with_reducible refine Keep.drewN ?_ _) | (with_reducible refine Keep.drew ?_)))⟩
      have q_p3 := dec_f p3
      by_cases p2 : n ≤ A
      · have q_p2 := dec_t p2
        have E := Lib.hid (chk_no HD.out HX.out (gc6 (.inr (.inl p2))) (by omega))
        clear HX
        go_wp2_with fail
        refine (refFault_any _ (6) (k)).mono ?_
        rintro e w1 ⟨rfl, hk1⟩
        have K1 : Keep NoS w w1 := Keep.trans (by (repeat' (first | (with_reducible assumption) | (with_reducible exact HK.out) | (with_reducible exact Keep.refl _ _) | (with_reducible refine Keep.alloc ?_ _) | (with_reducible refine Keep.setCell ?_ _ (fun h => absurd h (by omega))) | (with_reducible refine Keep.drewN ?_ _) | (with_reducible refine Keep.drew ?_)))) hk1 fun _ _ _ h => h
        have B1 : Blk w1 w.heap.size #[.int .i64 0, .int .i64 0] := Blk.keep (by (repeat (first | (with_reducible assumption) | (refine blk_at _ _ ?_; simp; done) | (refine Blk.old ?_ _)))) hk1
        obtain ⟨c0, c1, f0, f1, l0⟩ := B1.two
        have m0 : ¬ w1.heap.size = w.heap.size := by omega
        clear hk1
        go_wp2
        refine bodyPost_ret (by simp [results, Try.results19, go_sem, c0, c1, f0, f1, m0, l0]; rfl) rfl ?_
        exact ⟨ret_fault E.out.symm, by (repeat' (first | (with_reducible assumption) | (with_reducible exact HK.out) | (with_reducible exact Keep.refl _ _) | (with_reducible refine Keep.alloc ?_ _) | (with_reducible refine Keep.setCell ?_ _ (fun h => absurd h (by omega))) | (with_reducible refine Keep.drewN ?_ _) | (with_reducible refine Keep.drew ?_)))⟩
      have q_p2 := dec_f p2
      by_cases p4 : n ≤ B
      · have q_p4 := dec_t p4
        have E := Lib.hid (chk_no HD.out HX.out (gc6 (.inr (.inr (.inr p4)))) (by omega))
        clear HX
        go_wp2_with fail
        refine (refFault_any _ (6) (k)).mono ?_
        rintro e w1 ⟨rfl, hk1⟩
        have K1 : Keep NoS w w1 := Keep.trans (by (repeat' (first | (with_reducible assumption) | (with_reducible exact HK.out) | (with_reducible exact Keep.refl _ _) | (with_reducible refine Keep.alloc ?_ _) | (with_reducible refine Keep.setCell ?_ _ (fun h => absurd h (by omega))) | (with_reducible refine Keep.drewN ?_ _) | (with_reducible refine Keep.drew ?_)))) hk1 fun _ _ _ h => h
        have B1 : Blk w1 w.heap.size #[.int .i64 0, .int .i64 0] := Blk.keep (by (repeat (first | (with_reducible assumption) | (refine blk_at _ _ ?_; simp; done) | (refine Blk.old ?_ _)))) hk1
        obtain ⟨c0, c1, f0, f1, l0⟩ := B1.two
        have m0 : ¬ w1.heap.size = w.heap.size := by omega
        clear hk1
        go_wp2
        refine bodyPost_ret (by simp [results, Try.results19, go_sem, c0, c1, f0, f1, m0, l0]; rfl) rfl ?_
        exact ⟨ret_fault E.out.symm, by (repeat' (first | (with_reducible assumption) | (with_reducible exact HK.out) | (with_reducible exact Keep.refl _ _) | (with_reducible refine Keep.alloc ?_ _) | (with_reducible refine Keep.setCell ?_ _ (fun h => absurd h (by omega))) | (with_reducible refine Keep.drewN ?_ _) | (with_reducible refine Keep.drew ?_)))⟩
      have q_p4 := dec_f p4
      go_wp2_with fail
      refine (refFits_any _ By).mono ?_
      rintro e w2 ⟨rfl, hk2⟩
      have K2 : Keep NoS w w2 := Keep.trans (by (repeat' (first | (with_reducible assumption) | (with_reducible exact HK.out) | (with_reducible exact Keep.refl _ _) | (with_reducible refine Keep.alloc ?_ _) | (with_reducible refine Keep.setCell ?_ _ (fun h => absurd h (by omega))) | (with_reducible refine Keep.drewN ?_ _) | (with_reducible refine Keep.drew ?_)))) hk2 fun _ _ _ h => h
      have B2 : Blk w2 w.heap.size #[.int .i64 0, .int .i64 0] := BW.keep hk2
      have hkq : Keep NoS (w.alloc (.cells #[.int .i64 0, .int .i64 0] 25)) w2 := hkp.trans hk2 fun _ _ _ h => h
      clear hk2 c0 c1 f0 f1 l0 m0 g0 g1 g2 hb hbb BW KW hkp
      by_cases p5 : By < -1000000 ∨ 1000000 < By
      · have E := Lib.hid (chk_no HD.out HX.out (gc3 (by omega) p5) (by omega))
        have ef : fits By = false := by simp [fits]; omega
        rw [ef]
        clear ef HX
        obtain ⟨c0, c1, f0, f1, l0⟩ := B2.two
        have m0 : ¬ w2.heap.size = w.heap.size := by omega
        go_wp2_with fail
        refine (refFault_any _ (3) (k)).mono ?_
        rintro e w1 ⟨rfl, hk1⟩
        have K1 : Keep NoS w w1 := Keep.trans (by (repeat' (first | (with_reducible assumption) | (with_reducible exact HK.out) | (with_reducible exact Keep.refl _ _) | (with_reducible refine Keep.alloc ?_ _) | (with_reducible refine Keep.setCell ?_ _ (fun h => absurd h (by omega))) | (with_reducible refine Keep.drewN ?_ _) | (with_reducible refine Keep.drew ?_)))) hk1 fun _ _ _ h => h
        have B1 : Blk w1 w.heap.size #[.int .i64 0, .int .i64 0] := Blk.keep (by (repeat (first | (with_reducible assumption) | (refine blk_at _ _ ?_; simp; done) | (refine Blk.old ?_ _)))) hk1
        obtain ⟨c0, c1, f0, f1, l0⟩ := B1.two
        have m0 : ¬ w1.heap.size = w.heap.size := by omega
        clear hk1
        go_wp2
        refine bodyPost_ret (by simp [results, Try.results19, go_sem, c0, c1, f0, f1, m0, l0]; rfl) rfl ?_
        exact ⟨ret_fault E.out.symm, by (repeat' (first | (with_reducible assumption) | (with_reducible exact HK.out) | (with_reducible exact Keep.refl _ _) | (with_reducible refine Keep.alloc ?_ _) | (with_reducible refine Keep.setCell ?_ _ (fun h => absurd h (by omega))) | (with_reducible refine Keep.drewN ?_ _) | (with_reducible refine Keep.drew ?_)))⟩
      · have HY := Lib.hid (chk_go HD.out HX.out (gc0 (by omega) p5))
        have ef : fits By = true := by simp [fits]; omega
        rw [ef]
        clear ef HX
        go_wp2
        go_roundw
        case rel => exact ⟨k + 1, by omega, by go_num, HY.out, hkq⟩
        case measure => simp [intOf]; omega
    · have hlt : ¬ (k : Int) < (l.length : Int) := by omega
      obtain rfl : k = l.length := by omega
      have E := Lib.hid (by rw [HD.out, List.drop_length]; rfl : gapChk n l 0 = (0, 0))
      go_wp2
      refine bodyPost_ret (by simp [results, Try.results19, go_sem, c0, c1, f0, f1, m0, l0]; rfl) rfl ?_
      exact ⟨ret_fault E.out.symm, by (repeat' (first | (with_reducible assumption) | (with_reducible exact HK.out) | (with_reducible exact Keep.refl _ _) | (with_reducible refine Keep.alloc ?_ _) | (with_reducible refine Keep.setCell ?_ _ (fun h => absurd h (by omega))) | (with_reducible refine Keep.drewN ?_ _) | (with_reducible refine Keep.drew ?_)))⟩
end Go.Proofs.Ytnmklgigmmlgeaa
