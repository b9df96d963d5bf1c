/- The walk of the law FracMakes: it returns true for all integers. -/
import Derived.Test.YtnmklgigmmlgeaaRatB
import Derived.Test.YtnmklgigmmlgeaaFracOps
namespace Go.Proofs.Ytnmklgigmmlgeaa
open Go.ChangeShapes Go.WideShapes Go.RowKit
set_option linter.unusedVariables false
set_option linter.unusedSimpArgs false

theorem make_parts (num den : Int) (h : den ≠ 0) : (Rat.divInt num den).num = (if (num < 0) ≠ (den < 0) then -(mA num den : Int) else mA num den) ∧ (Rat.divInt num den).den = mB num den := by
  have key : ∀ a b : Int, 0 < b → (Rat.divInt a b).num = (if a < 0 then -(mA a b : Int) else mA a b) ∧ (Rat.divInt a b).den = mB a b := by
    intro a b hb
    obtain ⟨h1, h2⟩ := rat_pos a b hb
    have hb' : b = (b.natAbs : Int) := by omega
    refine ⟨?_, ?_⟩
    · rw [h1]
      by_cases ha : a < 0
      · rw [if_pos ha]
        have : a = -(a.natAbs : Int) := by omega
        conv => lhs; rw [this, Int.neg_tdiv]
        simp [mA]
      · rw [if_neg ha]
        have : a = (a.natAbs : Int) := by omega
        conv => lhs; rw [this]
        simp [mA]
    · have h3 : ((Rat.divInt a b).den : Int) = ((mB a b : Nat) : Int) := by
        rw [h2]
        conv => lhs; rw [hb']
        simp [mB]
      omega
  rcases Int.lt_or_le den 0 with hd | hd
  · have h1 := key (-num) (-den) (by omega)
    rw [Rat.neg_divInt_neg] at h1
    have e1 : mA (-num) (-den) = mA num den := by simp [mA]
    have e2 : mB (-num) (-den) = mB num den := by simp [mB]
    rw [e1, e2] at h1
    refine ⟨h1.1.trans ?_, h1.2⟩
    by_cases h0 : num < 0
    · rw [if_neg (by omega), if_neg (by simp [h0, hd])]
    · by_cases h00 : num = 0
      · subst h00; simp [mA]
      · rw [if_pos (by omega), if_pos (by simp [h0, hd])]
  · have h1 := key num den (by omega)
    refine ⟨h1.1.trans ?_, h1.2⟩
    have hd' : ¬ den < 0 := by omega
    by_cases h0 : num < 0 <;> simp [h0, hd']

theorem make_eq (num den : Int) (h : den ≠ 0) : makeV num den = fracMadeV (Rat.divInt num den) := by
  obtain ⟨h1, h2⟩ := make_parts num den h
  have hn : (Rat.divInt num den).num.natAbs = mA num den := by rw [h1]; split <;> simp
  have hf : Fits (Rat.divInt num den) ↔ mFits num den := by unfold Fits mFits; rw [hn, h2]
  unfold makeV fracMadeV mN mD mC
  rw [if_neg h]
  by_cases hm : mFits num den
  · rw [if_pos hm, if_pos (hf.2 hm)]
    simp only [if_true, h1, h2]
  · rw [if_neg hm, if_neg (fun h => hm (hf.1 h))]
    simp

theorem make_6 : makeV 6 (-4) = .tuple #[.agg #[.int .i64 (-3), .int .i64 2], .agg #[.int .i64 0, .int .i64 0]] := by kernel_rfl

theorem make_form (num den : Int) : ∃ n d c, makeV num den = .tuple #[.agg #[.int .i64 n, .int .i64 d], .agg #[.int .i64 c, .int .i64 0]] := ⟨_, _, _, rfl⟩




set_option maxHeartbeats 8000000 in
theorem fracMakes_go (num den : Int) (w : World) (h1 : -9223372036854775808 ≤ num) (h2 : num ≤ 9223372036854775807) (h3 : -9223372036854775808 ≤ den) (h4 : den ≤ 9223372036854775807) :
    Calls Try.prog 3 #[.int .i64 num, .int .i64 den] w fun e w' => e = .returned (.bool true) ∧ Below w.heap.size w w' := by
  by_cases hd : den = 0
  · subst hd
    have hv : makeV num 0 = .tuple #[.agg #[.int .i64 0, .int .i64 0], .agg #[.int .i64 6, .int .i64 0]] := by simp [makeV, mN, mD, mC, fracV, faultV]
    go_enter Try.func3, Try.ntmps3
    go_wp2_with fail
    refine (make_any num 0 _ h1 h2 h3 h4).mono ?_
    rintro e w1 ⟨rfl, hb1⟩
    have K1 := Lib.hid (Below.keep hb1)
    rw [hv]
    clear hv hb1
    go_wp2_with fail
    refine (make_any 6 (-4) _ (by omega) (by omega) (by omega) (by omega)).mono ?_
    rintro e w2 ⟨rfl, hb2⟩
    obtain ⟨hsz, c1, c2, f1, f2, hk⟩ := blocks2 (Below.keep hb2)
    have a0 := c1 0
    have a1 := c1 1
    have b0 := c2 0
    have b1 := c2 1
    have HK := Lib.hid (K1.out.trans hk fun _ _ _ h => h)
    have hs1 : w1.heap.size < w2.heap.size := by omega
    have n1 : ¬ w2.heap.size = w1.heap.size := by omega
    have n2 : ¬ w2.heap.size = w1.heap.size + 1 := by omega
    have n3 : ¬ w2.heap.size + 1 = w1.heap.size := by omega
    have n4 : ¬ w2.heap.size + 1 = w1.heap.size + 1 := by omega
    rw [make_6]
    simp at a0 a1 b0 b1
    clear c1 c2 f1 f2 hb2 hk
    go_wp2
    go_returns
    refine ⟨rfl, Keep.bel (by (repeat' (first | (with_reducible assumption) | (with_reducible exact HK.out) | (with_reducible exact Keep.refl _ _) | (with_reducible refine Keep.alloc ?_ _) | (with_reducible refine Keep.setCell ?_ _ (fun h => absurd h (by omega))) | (with_reducible refine Keep.drewN ?_ _) | (with_reducible refine Keep.drew ?_))))⟩
  · obtain ⟨n, d, c, hv⟩ := make_form num den
    have hv2 : fracMadeV (Rat.divInt num den) = .tuple #[.agg #[.int .i64 n, .int .i64 d], .agg #[.int .i64 c, .int .i64 0]] := by rw [← make_eq num den hd, hv]
    have he : (den == 0) = false := by simpa using hd
    have Hd := Lib.hid hd
    have HV := Lib.hid hv
    have HV2 := Lib.hid hv2
    clear hv hv2 hd
    go_enter Try.func3, Try.ntmps3
    go_wp2_with fail
    refine (make_any num den _ h1 h2 h3 h4).mono ?_
    rintro e w1 ⟨rfl, hb1⟩
    have K1 := Lib.hid (Below.keep hb1)
    rw [HV.out]
    clear hb1
    go_wp2_with fail
    have k0 : Keep NoS ((w1.alloc (.cells #[.int .i64 n, .int .i64 d] 23)).alloc (.cells #[.int .i64 c, .int .i64 0] 25)) ((w1.alloc (.cells #[.int .i64 n, .int .i64 d] 23)).alloc (.cells #[.int .i64 c, .int .i64 0] 25)) := Keep.refl _ _
    have hw0 : ((w1.alloc (.cells #[.int .i64 n, .int .i64 d] 23)).alloc (.cells #[.int .i64 c, .int .i64 0] 25)).heap.size = w1.heap.size + 1 + 1 := by simp
    have HB : ∀ w2, Hid (Keep NoS ((w1.alloc (.cells #[.int .i64 n, .int .i64 d] 23)).alloc (.cells #[.int .i64 c, .int .i64 0] 25)) w2 → _) := fun w2 => Lib.hid (blocks2 (w1 := w2))
    generalize (w1.alloc (.cells #[.int .i64 n, .int .i64 d] 23)).alloc (.cells #[.int .i64 c, .int .i64 0] 25) = w0 at *
    have hr0 : IsRHdr (w0.alloc (.cells #[.bool false, .slice none 0 0, .bool false, .slice none 0 0] 34)) (w1.heap.size + 1 + 1) 0 := by rw [← hw0]; exact rhdr_new w0
    have k1 : Keep NoS w0 (w0.alloc (.cells #[.bool false, .slice none 0 0, .bool false, .slice none 0 0] 34)) := (Keep.refl _ _).alloc _
    refine (newInt_any _ num h1 h2).mono ?_
    rintro e w2 ⟨bn, hbn, rfl, hk2, hi2⟩
    have K2 := Lib.hid (k1.trans hk2 fun _ _ _ h => h)
    have Hr2 := Lib.hid (hr0.ofNewer hk2)
    have Hi2 := Lib.hid hi2
    clear k1 hk2 hi2 hr0 k0
    go_wp2_with fail
    refine (newInt_any _ den h3 h4).mono ?_
    rintro e w3 ⟨bd, hbd, rfl, hk3, hi3⟩
    have K3 := Lib.hid (K2.out.trans hk3 fun _ _ _ h => h)
    have Hr3 := Lib.hid (Hr2.out.ofNewer hk3)
    have Hi3 := Lib.hid (Hi2.out.ofNewer hk3)
    have Hj3 := Lib.hid hi3
    clear hk3 hi3 K2 Hr2 Hi2
    go_wp2_with fail
    refine (setFrac_small w3 (w1.heap.size + 1 + 1) 0 bn 0 bd 0 num den Hr3.out Hi3.out Hj3.out Hd.out (by omega) (by omega)).mono ?_
    rintro e w4 ⟨rfl, hk4, hr4⟩
    have K4 := Lib.hid (K3.out.trans hk4 fun n o hn h => by rcases h with h | h <;> (have := h.1; omega))
    have Hr4 := Lib.hid hr4
    clear hk4 hr4 K3 Hr3 Hi3 Hj3 hbn hbd
    go_wp2_with fail
    have hmp := make_parts num den Hd.out
    have hm1 : (Rat.divInt num den).num.natAbs < BIG := lt_BIG (k := 2) (by omega) (by
      rw [hmp.1]
      have : mA num den < 18446744073709551616 := Nat.lt_of_le_of_lt (Nat.div_le_self _ _) (by omega)
      split <;> simp <;> omega)
    have hm2 : (Rat.divInt num den).den < BIG := lt_BIG (k := 2) (by omega) (by
      rw [hmp.2]
      have : mB num den < 18446744073709551616 := Nat.lt_of_le_of_lt (Nat.div_le_self _ _) (by omega)
      omega)
    refine (fracMade_any w4 _ 0 _ Hr4.out hm1 hm2).mono ?_
    rintro e w5 ⟨rfl, hk5⟩
    have K5 := K4.out.trans hk5 fun _ _ _ h => h
    obtain ⟨hsz, c1, c2, f1, f2, hk⟩ := (HB w5).out K5
    have a0 := c1 0
    have a1 := c1 1
    have b0 := c2 0
    have b1 := c2 1
    have HK := Lib.hid (K1.out.trans hk fun _ _ _ h => h)
    rw [HV2.out]
    have hs1 : w1.heap.size < w5.heap.size := by omega
    have n1 : ¬ w5.heap.size = w1.heap.size := by omega
    have n2 : ¬ w5.heap.size = w1.heap.size + 1 := by omega
    have n3 : ¬ w5.heap.size + 1 = w1.heap.size := by omega
    have n4 : ¬ w5.heap.size + 1 = w1.heap.size + 1 := by omega
    simp at a0 a1 b0 b1
    clear c1 c2 f1 f2 K4 K5 hk5 hk HB hmp hm1 hm2 hw0 Hr4
    go_wp2
    go_returns
    refine ⟨rfl, Keep.bel (by (repeat' (first | (with_reducible assumption) | (with_reducible exact HK.out) | (with_reducible exact Keep.refl _ _) | (with_reducible refine Keep.alloc ?_ _) | (with_reducible refine Keep.setCell ?_ _ (fun h => absurd h (by omega))) | (with_reducible refine Keep.drewN ?_ _) | (with_reducible refine Keep.drew ?_))))⟩

theorem fracMakes_walk (w : World) (num den : Int) (h1 : I64 num) (h2 : I64 den) :
    Calls Try.prog 3 #[.int .i64 num, .int .i64 den] w fun e w' => e = .returned (.bool true) ∧ Below w.heap.size w w' := fracMakes_go num den w h1.1 h1.2 h2.1 h2.2

end Go.Proofs.Ytnmklgigmmlgeaa
