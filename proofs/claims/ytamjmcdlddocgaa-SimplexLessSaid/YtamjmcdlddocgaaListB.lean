/- The reference's Rows. -/
import Derived.Test.YtamjmcdlddocgaaListA
namespace Go.Proofs.Ytamjmcdlddocgaa
open Go.ChangeShapes Go.WideShapes Go.RowKit
set_option linter.unusedVariables false
set_option linter.unusedSimpArgs false

set_option maxRecDepth 100000 in
set_option maxHeartbeats 8000000 in
theorem refRows_any (w : World) (v : Value) (l : List Rw) (n : Int) (h : IsRows w v l) (hn : I64 n) :
    Calls Try.prog 13 #[v, .int .i64 n] w fun e w' => e = .returned (fV (listF l n)) ∧ Keep NoS w w' := by
  have HR := Lib.hid h
  obtain ⟨oa, ca, rfl, hca, hma⟩ := h.len
  unfold maxLen at hma
  clear h
  unfold listF
  by_cases h1 : n < 0 ∨ 12 < n
  · rw [if_pos h1]
    unfold fV
    by_cases h2 : n < 0
    · have e1 : decide (n < 0) = true := dec_t h2
      go_enter Try.func13, Try.ntmps13
      go_wp2_with fail
      refine (fault_any 3 (-1) _).mono ?_
      rintro e w1 ⟨rfl, hk1⟩
      have B4 : Blk w1 w.heap.size #[.int .i64 0, .int .i64 0] := Blk.keep (by (repeat (first | (with_reducible assumption) | (refine blk_at _ _ ?_; simp; done) | (refine Blk.old ?_ _)))) hk1
      have K1 : Hid (Keep NoS w w1) := Lib.hid (Keep.both (by (repeat' (with_reducible first | assumption | exact HK.out | exact keR | refine keA ?_ | refine keS ?_ fun h => absurd h (by omega) | refine keN ?_ | refine keD ?_))) hk1)
      obtain ⟨r0, r1, f0, f1, rl⟩ := B4.two
      unfold fV
      go_wp2
      refine bodyPost_ret (by simp [results, Try.results13, go_sem, r0, r1, rl]; rfl) rfl ?_
      exact ⟨rfl, keep_set2 K1.out (Nat.le_refl _) _ _⟩
    · have e1 : decide (n < 0) = false := dec_f h2
      have e2 : decide (12 < n) = true := dec_t (by omega)
      go_enter Try.func13, Try.ntmps13
      go_wp2_with fail
      refine (fault_any 3 (-1) _).mono ?_
      rintro e w1 ⟨rfl, hk1⟩
      have B4 : Blk w1 w.heap.size #[.int .i64 0, .int .i64 0] := Blk.keep (by (repeat (first | (with_reducible assumption) | (refine blk_at _ _ ?_; simp; done) | (refine Blk.old ?_ _)))) hk1
      have K1 : Hid (Keep NoS w w1) := Lib.hid (Keep.both (by (repeat' (with_reducible first | assumption | exact HK.out | exact keR | refine keA ?_ | refine keS ?_ fun h => absurd h (by omega) | refine keN ?_ | refine keD ?_))) hk1)
      obtain ⟨r0, r1, f0, f1, rl⟩ := B4.two
      unfold fV
      go_wp2
      refine bodyPost_ret (by simp [results, Try.results13, go_sem, r0, r1, rl]; rfl) rfl ?_
      exact ⟨rfl, keep_set2 K1.out (Nat.le_refl _) _ _⟩
  rw [if_neg h1]
  have e1 : decide (n < 0) = false := dec_f (by omega)
  have e2 : decide (12 < n) = false := dec_f (by omega)
  by_cases h40 : 40 < l.length
  · rw [if_pos h40]
    unfold fV
    have e3 : (40 : Int) < (l.length : Int) := by omega
    clear h1 h40
    go_enter Try.func13, Try.ntmps13
    go_wp2_with fail
    refine (fault_any 2 0 _).mono ?_
    rintro e w1 ⟨rfl, hk1⟩
    have B4 : Blk w1 w.heap.size #[.int .i64 0, .int .i64 0] := Blk.keep (by (repeat (first | (with_reducible assumption) | (refine blk_at _ _ ?_; simp; done) | (refine Blk.old ?_ _)))) hk1
    have K1 : Hid (Keep NoS w w1) := Lib.hid (Keep.both (by (repeat' (with_reducible first | assumption | exact HK.out | exact keR | refine keA ?_ | refine keS ?_ fun h => absurd h (by omega) | refine keN ?_ | refine keD ?_))) hk1)
    obtain ⟨r0, r1, f0, f1, rl⟩ := B4.two
    unfold fV
    go_wp2
    refine bodyPost_ret (by simp [results, Try.results13, go_sem, r0, r1, rl]; rfl) rfl ?_
    exact ⟨rfl, keep_set2 K1.out (Nat.le_refl _) _ _⟩
  · rw [if_neg h40]
    have e3 : ¬ (40 : Int) < (l.length : Int) := by omega
    unfold fV
    clear h1 h40
    go_enter Try.func13, Try.ntmps13
    go_wp2_with fail
    have HK0 : Hid (Keep NoS w (w.alloc (.cells #[.int .i64 0, .int .i64 0] 24))) := Lib.hid (by (repeat' (with_reducible first | assumption | exact HK.out | exact keR | refine keA ?_ | refine keS ?_ fun h => absurd h (by omega) | refine keN ?_ | refine keD ?_)))
    have HB0 : Hid (Blk (w.alloc (.cells #[.int .i64 0, .int .i64 0] 24)) w.heap.size #[.int .i64 0, .int .i64 0]) := Lib.hid (blk_at _ _ rfl)
    have HS4 : Hid (w.heap.size ≤ w.heap.size) := Lib.hid (Nat.le_refl _)
    generalize w.alloc (.cells #[.int .i64 0, .int .i64 0] 24) = w0 at *
    generalize hb4 : w.heap.size = b4 at HB0 ⊢
    have HS4 : Hid (w.heap.size ≤ b4) := Lib.hid (by omega)
    clear hb4
    go_loopw [5] (fun s wr => ∃ k : Nat, k ≤ l.length ∧ s = .int .i64 k ∧ firstRow n l 0 = firstRow n (l.drop k) k ∧ Keep NoS w wr ∧ Blk wr b4 #[.int .i64 0, .int .i64 0]) (fun s _ => (l.length - intOf s).toNat)
    case atStart => exact ⟨0, by omega, rfl, rfl, HK0.out, HB0.out⟩
    case round =>
      obtain ⟨k, hk, rfl, hf, hkr, hbr⟩ := hrel
      have HF := Lib.hid hf
      have HKR := Lib.hid hkr
      have HBR := Lib.hid hbr
      clear hf hkr hbr HK0 HB0
      by_cases hkl : k < l.length
      · have hlt : (k : Int) < (l.length : Int) := by omega
        obtain ⟨b, o, rfl, hbl, hrow⟩ := (HR.out.keep HKR.out).at hkl
        have hIN := fun h => firstRow_in (n := n) (i := k) hkl h
        have hOUT := fun h => firstRow_out (n := n) (i := k) hkl h
        generalize l[k] = r at *
        obtain ⟨os, cs, p0, p1, p2, hrow⟩ := hrow.row
        have CH := fun w' (k : Keep NoS wr w') => Lib.hid (refRow_any w' _ r n (hrow.keep k))
        generalize chkRow r n = c at *
        obtain ⟨c1, c2⟩ := c
        unfold fV at CH
        simp only at CH hIN hOUT
        clear hrow
        by_cases hx : c1 = 0
        · have HNX := Lib.hid (HF.out.trans (hIN hx))
          subst hx
          clear hIN hOUT HF
          go_wp2_with fail
          refine (CH _ (by (repeat' (with_reducible first | assumption | exact HK.out | exact keR | refine keA ?_ | refine keS ?_ fun h => absurd h (by omega) | refine keN ?_ | refine keD ?_)))).out.mono ?_
          rintro e w4 ⟨rfl, hk4⟩
          have k4 : Keep NoS wr w4 := Keep.trans (by (repeat' (with_reducible first | assumption | exact HK.out | exact keR | refine keA ?_ | refine keS ?_ fun h => absurd h (by omega) | refine keN ?_ | refine keD ?_))) hk4 fun _ _ _ h => h
          clear hk4 p0 p1 p2 CH
          go_wp2
          go_roundw
          case rel => exact ⟨k + 1, by omega, by go_num, HNX.out, HKR.out.both (k4.alloc _), (HBR.out.keep k4).old _⟩
          case measure => simp [intOf]; omega
        · have HNX := Lib.hid (HF.out.trans (hOUT hx))
          have e9 : (c1 != 0) = true := by rw [bne_iff_ne]; exact hx
          clear hIN hOUT HF hx
          go_wp2_with fail
          refine (CH _ (by (repeat' (with_reducible first | assumption | exact HK.out | exact keR | refine keA ?_ | refine keS ?_ fun h => absurd h (by omega) | refine keN ?_ | refine keD ?_)))).out.mono ?_
          rintro e w4 ⟨rfl, hk4⟩
          have k4 : Keep NoS wr w4 := Keep.trans (by (repeat' (with_reducible first | assumption | exact HK.out | exact keR | refine keA ?_ | refine keS ?_ fun h => absurd h (by omega) | refine keN ?_ | refine keD ?_))) hk4 fun _ _ _ h => h
          have K4 := Lib.hid (HKR.out.both k4)
          have HB4 := Lib.hid (HBR.out.keep k4)
          clear hk4 k4 p0 p1 p2 CH
          go_wp2_with fail
          refine (fault_any c1 k _).mono ?_
          rintro e w5 ⟨rfl, hk5⟩
          have HB5 := Lib.hid ((HB4.out.old _).keep hk5)
          have K5 : Hid (Keep NoS w w5) := Lib.hid ((K4.out.alloc _).both hk5)
          clear hk5
          obtain ⟨r0, r1, f0, f1, rl⟩ := HB5.out.two
          unfold fV
          go_wp2
          refine bodyPost_ret (by simp [results, Try.results13, go_sem, r0, r1, rl]; rfl) rfl ?_
          exact ⟨by rw [HNX.out], keep_set2 K5.out HS4.out _ _⟩
      · have hlt : ¬ (k : Int) < (l.length : Int) := by omega
        have HNX := Lib.hid (HF.out.trans (firstRow_end (i := k) (by omega)))
        obtain ⟨r0, r1, f0, f1, rl⟩ := HBR.out.two
        go_wp2
        refine bodyPost_ret (by simp [results, Try.results13, go_sem, r0, r1, rl]; rfl) rfl ?_
        exact ⟨by rw [HNX.out], keep_set2 HKR.out HS4.out _ _⟩
end Go.Proofs.Ytamjmcdlddocgaa
