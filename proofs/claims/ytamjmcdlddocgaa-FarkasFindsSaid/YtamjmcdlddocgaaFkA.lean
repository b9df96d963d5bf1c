/- Package farkas's check: what is wrong with rows and multipliers. -/
import Derived.Test.YtamjmcdlddocgaaListA
namespace Go.Proofs.Ytamjmcdlddocgaa
open Go.ChangeShapes Go.WideShapes Go.RowKit
set_option linter.unusedVariables false
set_option linter.unusedSimpArgs false

/-- The place of the first that is no fraction, or -1. -/
def badAt (l : List Fq) : Int := if (firstBad l 0).1 = 0 then -1 else (firstBad l 0).2
theorem firstBad_code : ∀ {l : List Fq} {i : Nat}, (firstBad l i = (0, 0)) ∨ ((firstBad l i).1 = 5 ∧ 0 ≤ (firstBad l i).2)
  | [], _ => .inl rfl
  | g :: l, i => by
    unfold firstBad
    by_cases h : FracOK g.N g.D
    · rw [if_pos h]; exact firstBad_code
    · rw [if_neg h]; exact .inr ⟨rfl, by simp⟩
theorem badAt_neg {l : List Fq} (h : badAt l < 0) : firstBad l 0 = (0, 0) := by
  rcases firstBad_code (l := l) (i := 0) with h1 | ⟨h1, h2⟩
  · exact h1
  · unfold badAt at h; rw [if_neg (by omega)] at h; omega
theorem badAt_pos {l : List Fq} (h : 0 ≤ badAt l) : firstBad l 0 = (5, badAt l) := by
  rcases firstBad_code (l := l) (i := 0) with h1 | ⟨h1, h2⟩
  · unfold badAt at h; rw [h1] at h; simp at h
  · unfold badAt; rw [if_neg (by omega), ← h1]
theorem badAt_eq {l : List Fq} {c : Int × Int} (h : firstBad l 0 = c) : badAt l = if c.1 = 0 then -1 else c.2 := by unfold badAt; rw [h]
set_option maxRecDepth 100000 in
set_option maxHeartbeats 4000000 in
theorem badClo_any (w : World) (n d : Int) : Calls Try.prog 81 #[.agg #[.int .i64 n, .int .i64 d]] w fun e w' => e = .returned (.bool (!decide (FracOK n d))) ∧ Keep NoS w w' := by
  by_cases hx : FracOK n d
  · have CC := fun w => Lib.hid (check_ok n d w hx)
    rw [decide_eq_true hx]
    clear hx
    go_enter Try.func81, Try.ntmps81
    go_wp2_with fail
    refine (CC _).out.mono ?_
    rintro e w1 ⟨rfl, hb1⟩
    have hk1 := Keep.of_below hb1 (Nat.le_refl _)
    clear hb1
    go_wp2
    go_ret
    exact ⟨rfl, Keep.both (by (repeat' (with_reducible first | assumption | exact HK.out | exact keR | refine keA ?_ | refine keS ?_ fun h => absurd h (by omega) | refine keN ?_ | refine keD ?_))) hk1⟩
  · have CC := fun w => Lib.hid (check_no n d w hx)
    rw [decide_eq_false hx]
    clear hx
    go_enter Try.func81, Try.ntmps81
    go_wp2_with fail
    refine (CC _).out.mono ?_
    rintro e w1 ⟨rfl, hb1⟩
    have hk1 := Keep.of_below hb1 (Nat.le_refl _)
    clear hb1
    go_wp2
    go_ret
    exact ⟨rfl, Keep.both (by (repeat' (with_reducible first | assumption | exact HK.out | exact keR | refine keA ?_ | refine keS ?_ fun h => absurd h (by omega) | refine keN ?_ | refine keD ?_))) hk1⟩

set_option maxRecDepth 100000 in
set_option maxHeartbeats 8000000 in
theorem indexBad_any (w : World) (v : Value) (l : List Fq) (h : IsFracs w v l) :
    Calls Try.prog 80 #[v, .func (.func 81) #[] #[]] w fun e w' => e = .returned (.int .i64 (badAt l)) ∧ Keep NoS w w' := by
  have HN := Lib.hid h
  obtain ⟨oa, ca, rfl, hca, hma⟩ := h.len
  unfold maxLen at hma
  clear h
  go_enter Try.func80, Try.ntmps80
  go_wp2
  go_loopw [8] (fun s wr => ∃ k : Nat, k ≤ l.length ∧ s = .int .i64 k ∧ firstBad l 0 = firstBad (l.drop k) k ∧ Keep NoS w wr) (fun s _ => (l.length - intOf s).toNat)
  case atStart => exact ⟨0, by omega, rfl, rfl, Keep.refl _ _⟩
  case round =>
    obtain ⟨k, hk, rfl, hf, hkr⟩ := hrel
    have HF := Lib.hid hf
    have HKR := Lib.hid hkr
    clear hf hkr
    by_cases hkl : k < l.length
    · have hlt : (k : Int) < (l.length : Int) := by omega
      obtain ⟨b, o, rfl, hbl, p0, p1⟩ := (HN.out.keep HKR.out).at hkl
      have hIN := fun h => firstBad_in (i := k) hkl h
      have hOUT := fun h => firstBad_out (i := k) hkl h
      generalize l[k].N = gn at *
      generalize l[k].D = gd at *
      have CC := fun w => Lib.hid (badClo_any w gn gd)
      by_cases hx : FracOK gn gd
      · have HNX := Lib.hid (HF.out.trans (hIN hx))
        rw [decide_eq_true hx] at CC
        clear hx hIN hOUT HF
        go_wp2_with fail
        refine (CC _).out.mono ?_
        rintro e w4 ⟨rfl, hk4⟩
        have K4 := Lib.hid (HKR.out.both hk4)
        clear hk4 p0 p1
        go_wp2
        go_roundw
        case rel => exact ⟨k + 1, by omega, by go_num, HNX.out, K4.out⟩
        case measure => simp [intOf]; omega
      · have HNX := Lib.hid (badAt_eq (HF.out.trans (hOUT hx)))
        rw [decide_eq_false hx] at CC
        clear hx hIN hOUT HF
        go_wp2_with fail
        refine (CC _).out.mono ?_
        rintro e w4 ⟨rfl, hk4⟩
        have K4 := Lib.hid (HKR.out.both hk4)
        clear hk4 p0 p1
        go_wp2
        go_ret
        exact ⟨by rw [HNX.out]; rfl, K4.out⟩
    · have hlt : ¬ (k : Int) < (l.length : Int) := by omega
      have HNX := Lib.hid (badAt_eq (HF.out.trans (firstBad_end (i := k) (by omega))))
      clear HF
      go_wp2
      go_ret
      exact ⟨by rw [HNX.out]; rfl, HKR.out⟩

/-- What is wrong with rows and multipliers. -/
def farkF (rows : List Rw) (n : Int) (times : List Fq) : Int × Int := if (listF rows n).1 ≠ 0 then listF rows n else if times.length ≠ rows.length then (9, 0) else firstBad times 0
theorem farkF_ok {rows : List Rw} {n : Int} {times : List Fq} (h : (farkF rows n times).1 = 0) : farkF rows n times = (0, 0) ∧ (listF rows n).1 = 0 ∧ times.length = rows.length ∧ ∀ g ∈ times, FracOK g.N g.D := by
  unfold farkF at h ⊢
  by_cases h1 : (listF rows n).1 = 0
  · rw [if_neg (by simp [h1])] at h ⊢
    by_cases h2 : times.length = rows.length
    · rw [if_neg (by simp [h2])] at h ⊢
      obtain ⟨h3, h4⟩ := firstBad_all h
      exact ⟨h3, h1, h2, h4⟩
    · rw [if_pos h2] at h; simp at h
  · rw [if_pos h1] at h; exact absurd h h1

set_option maxRecDepth 100000 in
set_option maxHeartbeats 8000000 in
theorem farkChk_any (w : World) (v : Value) (rows : List Rw) (n : Int) (vt : Value) (times : List Fq) (h : IsRows w v rows) (hn : I64 n) (ht : IsFracs w vt times) :
    Calls Try.prog 36 #[v, .int .i64 n, vt] w fun e w' => e = .returned (fV (farkF rows n times)) ∧ Keep NoS w w' := by
  have CH := fun w' (k : Keep NoS w w') => Lib.hid (rowList_any w' v rows n (h.keep k) hn)
  have CI := fun w' (k : Keep NoS w w') => Lib.hid (indexBad_any w' vt times (ht.keep k))
  obtain ⟨oa, ca, rfl, hca, hma⟩ := h.len
  obtain ⟨ot, ct, rfl, hct, hmt⟩ := ht.len
  unfold maxLen at hma hmt
  have HP : Hid (farkF rows n times = if (listF rows n).1 ≠ 0 then listF rows n else if times.length ≠ rows.length then (9, 0) else firstBad times 0) := Lib.hid rfl
  generalize farkF rows n times = pf at *
  generalize listF rows n = c at *
  obtain ⟨c1, c2⟩ := c
  unfold fV at CH ⊢
  simp only at CH HP
  clear h ht
  go_enter Try.func36, Try.ntmps36
  go_wp2_with fail
  refine (CH _ (by (repeat' (with_reducible first | assumption | exact HK.out | exact keR | refine keA ?_ | refine keS ?_ fun h => absurd h (by omega) | refine keN ?_ | refine keD ?_)))).out.mono ?_
  rintro e w1 ⟨rfl, hk1⟩
  have B6 : Blk w1 w.heap.size #[.int .i64 0, .int .i64 0] := Blk.keep (by (repeat (first | (with_reducible assumption) | (refine blk_at _ _ ?_; simp; done) | (refine Blk.old ?_ _)))) hk1
  have K1 : Hid (Keep NoS w w1) := Lib.hid (Keep.both (by (repeat' (with_reducible first | assumption | exact HK.out | exact keR | refine keA ?_ | refine keS ?_ fun h => absurd h (by omega) | refine keN ?_ | refine keD ?_))) hk1)
  have HB6 := Lib.hid B6
  have HS6 : Hid (w.heap.size ≤ w.heap.size) := Lib.hid (Nat.le_refl _)
  clear hk1 CH B6
  generalize hb6 : w.heap.size = b6 at HB6 ⊢
  have HS6 : Hid (w.heap.size ≤ b6) := Lib.hid (by omega)
  clear hb6
  by_cases hc : c1 = 0
  · have hcc := HP.out
    rw [if_neg (by simp [hc])] at hcc
    have HP2 := Lib.hid hcc
    clear hcc HP
    subst hc
    obtain ⟨r0, r1, f0, f1, rl⟩ := HB6.out.two
    have hn1 : ¬ b6 = w1.heap.size := by omega
    by_cases hl : times.length = rows.length
    · have hcc := HP2.out
      rw [if_neg (by simp [hl])] at hcc
      have HP3 := Lib.hid hcc
      rw [hl] at CI ⊢
      clear hcc HP2 hl
      go_wp2_with fail
      refine (CI _ (K1.out.alloc _)).out.mono ?_
      rintro e w2 ⟨rfl, hk2⟩
      have k2 : Keep NoS w1 w2 := Keep.trans (by (repeat' (with_reducible first | assumption | exact HK.out | exact keR | refine keA ?_ | refine keS ?_ fun h => absurd h (by omega) | refine keN ?_ | refine keD ?_))) hk2 fun _ _ _ h => h
      have K2 := Lib.hid (K1.out.both k2)
      have HB2 := Lib.hid (HB6.out.keep k2)
      clear hk2 k2 CI r0 r1 f0 f1 rl hn1
      obtain ⟨r0, r1, f0, f1, rl⟩ := HB2.out.two
      by_cases hz : 0 ≤ badAt times
      · have HE := Lib.hid (HP3.out.trans (badAt_pos hz))
        generalize badAt times = z at *
        go_wp2
        refine bodyPost_ret (by simp [results, Try.results36, go_sem, r0, r1, rl]; rfl) rfl ?_
        exact ⟨by rw [HE.out], keep_set2 K2.out HS6.out _ _⟩
      · have HE := Lib.hid (HP3.out.trans (badAt_neg (by omega)))
        generalize badAt times = z at *
        go_wp2
        refine bodyPost_ret (by simp [results, Try.results36, go_sem, r0, r1, rl]; rfl) rfl ?_
        exact ⟨by rw [HE.out], keep_set2 K2.out HS6.out _ _⟩
    · have hll : ((times.length : Int) != (rows.length : Int)) = true := by rw [bne_iff_ne]; omega
      have hcc := HP2.out
      rw [if_pos hl] at hcc
      subst hcc
      clear hl
      go_wp2
      refine bodyPost_ret (by simp [results, Try.results36, go_sem, r0, r1, rl, hn1]; rfl) rfl ?_
      have HK := K1
      have hs6 := HS6.out
      exact ⟨rfl, by (repeat' (with_reducible first | assumption | exact HK.out | exact keR | refine keA ?_ | refine keS ?_ fun h => absurd h (by omega) | refine keN ?_ | refine keD ?_))⟩
  · have e1 : (c1 != 0) = true := by rw [bne_iff_ne]; exact hc
    have hcc := HP.out
    rw [if_pos (by exact hc)] at hcc
    subst hcc
    obtain ⟨r0, r1, f0, f1, rl⟩ := HB6.out.two
    have hn1 : ¬ b6 = w1.heap.size := by omega
    go_wp2
    refine bodyPost_ret (by simp [results, Try.results36, go_sem, r0, r1, rl, hn1]; rfl) rfl ?_
    have HK := K1
    have hs6 := HS6.out
    exact ⟨rfl, by (repeat' (with_reducible first | assumption | exact HK.out | exact keR | refine keA ?_ | refine keS ?_ fun h => absurd h (by omega) | refine keN ?_ | refine keD ?_))⟩
end Go.Proofs.Ytamjmcdlddocgaa
