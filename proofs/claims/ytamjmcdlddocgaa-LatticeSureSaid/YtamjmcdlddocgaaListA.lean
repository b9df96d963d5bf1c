/- Package row's List; the reference's Rows. -/
import Derived.Test.YtamjmcdlddocgaaPtAA
import Derived.Test.YtamjmcdlddocgaaPtAA
namespace Go.Proofs.Ytamjmcdlddocgaa
open Go.ChangeShapes Go.WideShapes Go.RowKit
set_option linter.unusedVariables false
set_option linter.unusedSimpArgs false

/-- The first row that is wrong. -/
def firstRow (n : Int) : List Rw → Nat → Int × Int
  | [], _ => (0, 0)
  | r :: l, i => if (chkRow r n).1 = 0 then firstRow n l (i + 1) else ((chkRow r n).1, i)
theorem firstRow_in {n : Int} {l : List Rw} {k i : Nat} (hk : k < l.length) (h : (chkRow l[k] n).1 = 0) : firstRow n (l.drop k) i = firstRow n (l.drop (k + 1)) (i + 1) := by
  rw [List.drop_eq_getElem_cons hk, firstRow, if_pos h]
theorem firstRow_out {n : Int} {l : List Rw} {k i : Nat} (hk : k < l.length) (h : ¬ (chkRow l[k] n).1 = 0) : firstRow n (l.drop k) i = ((chkRow l[k] n).1, (i : Int)) := by
  rw [List.drop_eq_getElem_cons hk, firstRow, if_neg h]
theorem firstRow_end {n : Int} {l : List Rw} {k i : Nat} (hk : l.length ≤ k) : firstRow n (l.drop k) i = (0, 0) := by
  rw [List.drop_eq_nil_of_le hk]; rfl
/-- What is wrong with rows. -/
def listF (l : List Rw) (n : Int) : Int × Int := if n < 0 ∨ 12 < n then (3, -1) else if 40 < l.length then (2, 0) else firstRow n l 0

set_option maxRecDepth 100000 in
set_option maxHeartbeats 8000000 in
theorem rowList_any (w : World) (v : Value) (l : List Rw) (n : Int) (h : IsRows w v l) (hn : I64 n) :
    Calls Try.prog 29 #[v, .int .i64 n] w fun e w' => e = .returned (fV (listF l n)) ∧ Keep NoS w w' := by
  have HR := Lib.hid h
  obtain ⟨oa, ca, rfl, hca, hma⟩ := h.len
  unfold maxLen at hma
  clear h
  unfold listF
  by_cases h1 : n < 0 ∨ 12 < n
  · rw [if_pos h1]
    unfold fV
    by_cases h2 : n < 0
    · have e1 : decide (n < 0) = true := dec_t h2
      go_enter Try.func29, Try.ntmps29
      go_wp2
      refine bodyPost_ret (by simp [results, Try.results29, go_sem]; rfl) rfl ?_
      exact ⟨rfl, by (repeat' (with_reducible first | assumption | exact HK.out | exact keR | refine keA ?_ | refine keS ?_ fun h => absurd h (by omega) | refine keN ?_ | refine keD ?_))⟩
    · have e1 : decide (n < 0) = false := dec_f h2
      have e2 : decide (12 < n) = true := dec_t (by omega)
      go_enter Try.func29, Try.ntmps29
      go_wp2
      refine bodyPost_ret (by simp [results, Try.results29, go_sem]; rfl) rfl ?_
      exact ⟨rfl, by (repeat' (with_reducible first | assumption | exact HK.out | exact keR | refine keA ?_ | refine keS ?_ fun h => absurd h (by omega) | refine keN ?_ | refine keD ?_))⟩
  rw [if_neg h1]
  have e1 : decide (n < 0) = false := dec_f (by omega)
  have e2 : decide (12 < n) = false := dec_f (by omega)
  by_cases h40 : 40 < l.length
  · rw [if_pos h40]
    unfold fV
    have e3 : (40 : Int) < (l.length : Int) := by omega
    clear h1 h40
    go_enter Try.func29, Try.ntmps29
    go_wp2
    refine bodyPost_ret (by simp [results, Try.results29, go_sem]; rfl) rfl ?_
    exact ⟨rfl, by (repeat' (with_reducible first | assumption | exact HK.out | exact keR | refine keA ?_ | refine keS ?_ fun h => absurd h (by omega) | refine keN ?_ | refine keD ?_))⟩
  · rw [if_neg h40]
    have e3 : ¬ (40 : Int) < (l.length : Int) := by omega
    unfold fV
    clear h1 h40
    go_enter Try.func29, Try.ntmps29
    go_wp2_with fail
    have HK0 : Hid (Keep NoS w (w.alloc (.cells #[.int .i64 0, .int .i64 0] 24))) := Lib.hid (by (repeat' (with_reducible first | assumption | exact HK.out | exact keR | refine keA ?_ | refine keS ?_ fun h => absurd h (by omega) | refine keN ?_ | refine keD ?_)))
    have HB0 : Hid (Blk (w.alloc (.cells #[.int .i64 0, .int .i64 0] 24)) w.heap.size #[.int .i64 0, .int .i64 0]) := Lib.hid (blk_at _ _ rfl)
    have HS4 : Hid (w.heap.size ≤ w.heap.size) := Lib.hid (Nat.le_refl _)
    generalize w.alloc (.cells #[.int .i64 0, .int .i64 0] 24) = w0 at *
    generalize hb4 : w.heap.size = b4 at HB0 ⊢
    have HS4 : Hid (w.heap.size ≤ b4) := Lib.hid (by omega)
    clear hb4
    go_loopw [23] (fun s wr => ∃ k : Nat, k ≤ l.length ∧ s = .int .i64 k ∧ firstRow n l 0 = firstRow n (l.drop k) k ∧ Keep NoS w wr ∧ Blk wr b4 #[.int .i64 0, .int .i64 0]) (fun s _ => (l.length - intOf s).toNat)
    case atStart => exact ⟨0, by omega, rfl, rfl, HK0.out, HB0.out⟩
    case round =>
      obtain ⟨k, hk, rfl, hf, hkr, hbr⟩ := hrel
      have HF := Lib.hid hf
      have HKR := Lib.hid hkr
      have HBR := Lib.hid hbr
      clear hf hkr hbr HK0 HB0
      by_cases hkl : k < l.length
      · have hlt : (k : Int) < (l.length : Int) := by omega
        obtain ⟨b, o, rfl, hbl, hrow⟩ := (HR.out.keep HKR.out).at hkl
        have hIN := fun h => firstRow_in (n := n) (i := k) hkl h
        have hOUT := fun h => firstRow_out (n := n) (i := k) hkl h
        generalize l[k] = r at *
        obtain ⟨os, cs, p0, p1, p2, hrow⟩ := hrow.row
        have CH := fun w' (k : Keep NoS wr w') => Lib.hid (rowCheck_any w' _ r n (hrow.keep k))
        generalize chkRow r n = c at *
        obtain ⟨c1, c2⟩ := c
        unfold fV at CH
        simp only at CH hIN hOUT
        clear hrow
        by_cases hx : c1 = 0
        · have HNX := Lib.hid (HF.out.trans (hIN hx))
          subst hx
          clear hIN hOUT HF
          go_wp2_with fail
          refine (CH _ (by (repeat' (with_reducible first | assumption | exact HK.out | exact keR | refine keA ?_ | refine keS ?_ fun h => absurd h (by omega) | refine keN ?_ | refine keD ?_)))).out.mono ?_
          rintro e w4 ⟨rfl, hk4⟩
          have k4 : Keep NoS wr w4 := Keep.trans (by (repeat' (with_reducible first | assumption | exact HK.out | exact keR | refine keA ?_ | refine keS ?_ fun h => absurd h (by omega) | refine keN ?_ | refine keD ?_))) hk4 fun _ _ _ h => h
          clear hk4 p0 p1 p2 CH
          go_wp2
          go_roundw
          case rel => exact ⟨k + 1, by omega, by go_num, HNX.out, HKR.out.both (k4.alloc _), (HBR.out.keep k4).old _⟩
          case measure => simp [intOf]; omega
        · have HNX := Lib.hid (HF.out.trans (hOUT hx))
          have e9 : (c1 != 0) = true := by rw [bne_iff_ne]; exact hx
          clear hIN hOUT HF hx
          go_wp2_with fail
          refine (CH _ (by (repeat' (with_reducible first | assumption | exact HK.out | exact keR | refine keA ?_ | refine keS ?_ fun h => absurd h (by omega) | refine keN ?_ | refine keD ?_)))).out.mono ?_
          rintro e w4 ⟨rfl, hk4⟩
          have k4 : Keep NoS wr w4 := Keep.trans (by (repeat' (with_reducible first | assumption | exact HK.out | exact keR | refine keA ?_ | refine keS ?_ fun h => absurd h (by omega) | refine keN ?_ | refine keD ?_))) hk4 fun _ _ _ h => h
          have K4 := Lib.hid (HKR.out.both k4)
          have HB4 := Lib.hid (HBR.out.keep k4)
          clear hk4 k4 p0 p1 p2 CH
          obtain ⟨r0, r1, f0, f1, rl⟩ := HB4.out.two
          have hn1 : ¬ b4 = w4.heap.size := by omega
          go_wp2
          refine bodyPost_ret (by simp [results, Try.results29, go_sem, r0, r1, rl, hn1]; rfl) rfl ?_
          have HK := K4
          have hs4 := HS4.out
          exact ⟨by rw [HNX.out], by (repeat' (with_reducible first | assumption | exact HK.out | exact keR | refine keA ?_ | refine keS ?_ fun h => absurd h (by omega) | refine keN ?_ | refine keD ?_))⟩
      · have hlt : ¬ (k : Int) < (l.length : Int) := by omega
        have HNX := Lib.hid (HF.out.trans (firstRow_end (i := k) (by omega)))
        obtain ⟨r0, r1, f0, f1, rl⟩ := HBR.out.two
        go_wp2
        refine bodyPost_ret (by simp [results, Try.results29, go_sem, r0, r1, rl]; rfl) rfl ?_
        exact ⟨by rw [HNX.out], keep_set2 HKR.out HS4.out _ _⟩
end Go.Proofs.Ytamjmcdlddocgaa
