/- The wide whole numbers' Cmp, DivMod, Div, Mod: under whatever bound QuoRem holds. -/
import Derived.Test.YtihcbmkjfacooaaRatOps
namespace Go.Proofs.Ytihcbmkjfacooaa
open Go.ChangeShapes Go.WideShapes Go.RowKit
set_option linter.unusedVariables false
set_option linter.unusedSimpArgs false

theorem cmpN_sign (a b : Nat) : cmpN a b = ((a : Int) - b).sign := by
  unfold cmpN
  split
  · rw [Int.sign_eq_neg_one_of_neg (by omega)]
  · split
    · rename_i h1 h2; subst h2; simp
    · rw [Int.sign_eq_one_of_pos (by omega)]

set_option maxHeartbeats 4000000 in
theorem intCmp_any (w : World) (b o b' o' : Nat) (x y : Int) (hx : IsInt w b o x) (hy : IsInt w b' o' y) :
    Calls Try.prog 82 #[.pointer (some ⟨b, o, none⟩), .pointer (some ⟨b', o', none⟩)] w fun e w' => e = .returned (.int .i64 (x - y).sign) ∧ ∃ n, w' = w.drewN n := by
  have C : ∀ k, Hid (Calls Try.prog 97 #[.pointer (some ⟨b, o, none⟩), .pointer (some ⟨b', o', none⟩)] (w.drewN k) fun e w' => e = .returned (.int .i64 (cmpN x.natAbs y.natAbs)) ∧ ∃ n, w' = w.drewN n) :=
    fun k => Lib.hid ((cmpAbs_any (w.drewN k) b o b' o' x y (hx.ofNewer (keep_drewN w k)) (hy.ofNewer (keep_drewN w k))).mono fun e w' ⟨he, m, hm⟩ => ⟨he, k + m, by rw [hm, World.drewN_drewN]⟩)
  have C' : ∀ k, Hid (Calls Try.prog 97 #[.pointer (some ⟨b', o', none⟩), .pointer (some ⟨b, o, none⟩)] (w.drewN k) fun e w' => e = .returned (.int .i64 (cmpN y.natAbs x.natAbs)) ∧ ∃ n, w' = w.drewN n) :=
    fun k => Lib.hid ((cmpAbs_any (w.drewN k) b' o' b o y x (hy.ofNewer (keep_drewN w k)) (hx.ofNewer (keep_drewN w k))).mono fun e w' ⟨he, m, hm⟩ => ⟨he, k + m, by rw [hm, World.drewN_drewN]⟩)
  obtain ⟨neg, ds, hrx, hn, hne, hzx, h1, h2, h3⟩ := hx.open
  obtain ⟨neg', ds', hry, hn', hne', hzy, h1', h2', h3'⟩ := hy.open
  obtain ⟨g, cap, cx0, cx1, hdx, hbx'⟩ := hrx.parts
  obtain ⟨g', cap', cy0, cy1, hdy, hby'⟩ := hry.parts
  by_cases hs : neg = neg'
  · subst hs
    have e1 : (neg == neg) = true := by simp
    by_cases hneg : neg = true
    · subst hneg
      have HV : Hid ((x - y).sign = cmpN y.natAbs x.natAbs) := Lib.hid (by
        rw [cmpN_sign]; congr 1
        have := h1.1 rfl; have := h1'.1 rfl; omega)
      clear hx hy hrx hry hn hne hzx h1 h2 h3 hn' hne' hzy h1' h2' h3' hdx hdy C
      go_enter Try.func82, Try.ntmps82
      go_wp2
      go_quiet (fail)
      go_wp2_with fail
      refine (C' _).out.mono ?_
      rintro e w1 ⟨rfl, m, rfl⟩
      go_wp2
      go_ret
      exact ⟨ret_int HV.out.symm, _, rfl⟩
    · obtain rfl : neg = false := by simpa using hneg
      have HV : Hid ((x - y).sign = cmpN x.natAbs y.natAbs) := Lib.hid (by
        rw [cmpN_sign]; congr 1
        have a : ¬ x < 0 := fun h => by have := h1.2 h; cases this
        have b : ¬ y < 0 := fun h => by have := h1'.2 h; cases this
        omega)
      clear hx hy hrx hry hn hne hzx h1 h2 h3 hn' hne' hzy h1' h2' h3' hdx hdy C' hneg
      go_enter Try.func82, Try.ntmps82
      go_wp2
      go_quiet (fail)
      go_wp2_with fail
      refine (C _).out.mono ?_
      rintro e w1 ⟨rfl, m, rfl⟩
      go_wp2
      go_ret
      exact ⟨ret_int HV.out.symm, _, rfl⟩
  · have e1 : (neg == neg') = false := by simpa using hs
    by_cases hneg : neg = true
    · subst hneg
      have HV : Hid ((x - y).sign = -1) := Lib.hid (by
        refine Int.sign_eq_neg_one_of_neg ?_
        have := h1.1 rfl
        have b : ¬ y < 0 := fun h => hs (h1'.2 h).symm
        omega)
      clear hx hy hrx hry hn hne hzx h1 h2 h3 hn' hne' hzy h1' h2' h3' hdx hdy C C' hs
      go_enter Try.func82, Try.ntmps82
      go_wp2
      go_quiet (fail)
      go_wp2
      go_ret
      exact ⟨ret_int HV.out.symm, _, rfl⟩
    · obtain rfl : neg = false := by simpa using hneg
      obtain rfl : neg' = true := by
        cases neg'
        · exact absurd rfl hs
        · rfl
      have HV : Hid ((x - y).sign = 1) := Lib.hid (by
        refine Int.sign_eq_one_of_pos ?_
        have := h1'.1 rfl
        have b : ¬ x < 0 := fun h => by have := h1.2 h; cases this
        omega)
      clear hx hy hrx hry hn hne hzx h1 h2 h3 hn' hne' hzy h1' h2' h3' hdx hdy C C' hs hneg
      go_enter Try.func82, Try.ntmps82
      go_wp2
      go_quiet (fail)
      go_wp2
      go_ret
      exact ⟨ret_int HV.out.symm, _, rfl⟩

/-- QuoRem is right below N. -/
def QROK (N : Nat) : Prop := ∀ x y : Int, y ≠ 0 → x.natAbs < N → y.natAbs < N → ∀ (w : World) (bz oz bx ox by' oy br or : Nat), IsHdr w bz oz → IsHdr w br or → Dis bz oz br or → IsInt w bx ox x → IsInt w by' oy y →
    Calls Try.prog 147 #[.pointer (some ⟨bz, oz, none⟩), .pointer (some ⟨bx, ox, none⟩), .pointer (some ⟨by', oy, none⟩), .pointer (some ⟨br, or, none⟩)] w fun e w' =>
      e = .returned (.tuple #[.pointer (some ⟨bz, oz, none⟩), .pointer (some ⟨br, or, none⟩)]) ∧ Keep (Or2 (At bz oz) (At br or)) w w' ∧ IsInt w' bz oz (x.tdiv y) ∧ IsInt w' br or (x.tmod y)

theorem qrOK_small : QROK 18446744073709551616 := fun x y hy0 h1 h2 w bz oz bx ox by' oy br or hz hr hzr hx hy => quoRem_small w bz oz bx ox by' oy br or x y hz hr hzr hx hy hy0 h1 h2

theorem ediv_of_neg {x y : Int} (hy : y ≠ 0) (h : x.tmod y < 0) : (y < 0 → x / y = x.tdiv y + 1 ∧ x % y = x.tmod y - y) ∧ (¬ y < 0 → x / y = x.tdiv y - 1 ∧ x % y = x.tmod y + y) := by
  have h1 := Int.tmod_add_mul_tdiv x y
  have h2 := Int.emod_add_mul_ediv x y
  have h3 := Int.emod_nonneg x hy
  have hx : ¬ 0 ≤ x := fun hx => by have := Int.tmod_nonneg y hx; omega
  have h4 : ¬ (y ∣ x) := fun hd => by rw [Int.tmod_eq_zero_of_dvd hd] at h; omega
  rw [Int.tdiv_eq_ediv] at *
  rw [if_neg (by rintro (h | h); exact hx h; exact h4 h)] at *
  constructor
  · intro hy0
    rw [Int.sign_eq_neg_one_of_neg hy0] at *
    refine ⟨by omega, ?_⟩
    rw [Int.mul_add] at h1; omega
  · intro hy0
    rw [Int.sign_eq_one_of_pos (by omega)] at *
    refine ⟨by omega, ?_⟩
    rw [Int.mul_add] at h1; omega

theorem ediv_of_nonneg {x y : Int} (hy : y ≠ 0) (h : ¬ x.tmod y < 0) : x / y = x.tdiv y ∧ x % y = x.tmod y := by
  have h1 := Int.tmod_add_mul_tdiv x y
  have h2 := Int.emod_add_mul_ediv x y
  have e : x / y = x.tdiv y := by
    rw [Int.tdiv_eq_ediv]
    split
    · omega
    · rename_i hc
      exfalso
      apply hc
      by_cases hx : 0 ≤ x
      · exact .inl hx
      · right
        have h3 : x.tmod y ≤ 0 := by have := Int.tmod_nonneg y (show 0 ≤ -x by omega); rw [Int.neg_tmod] at this; omega
        exact Int.dvd_of_tmod_eq_zero (by omega)
  refine ⟨e, ?_⟩
  rw [e] at h2; omega

section
variable {N : Nat} (hN : N ≤ BIG) (S : QROK N) (w : World) (bz oz bx ox by' oy br or : Nat) (x y : Int)

include hN S in
set_option maxHeartbeats 8000000 in
theorem divMod_of (hz : IsHdr w bz oz) (hr : IsHdr w br or) (hzr : Dis bz oz br or) (hx : IsInt w bx ox x) (hy : IsInt w by' oy y) (hy0 : y ≠ 0) (h1 : x.natAbs < N) (h2 : y.natAbs < N) :
    Calls Try.prog 134 #[.pointer (some ⟨bz, oz, none⟩), .pointer (some ⟨bx, ox, none⟩), .pointer (some ⟨by', oy, none⟩), .pointer (some ⟨br, or, none⟩)] w fun e w' =>
      e = .returned (.tuple #[.pointer (some ⟨bz, oz, none⟩), .pointer (some ⟨br, or, none⟩)]) ∧ Keep (Or2 (At bz oz) (At br or)) w w' ∧ IsInt w' bz oz (x / y) ∧ IsInt w' br or (x % y) := by
  have HZ := Lib.hid hz
  have HR := Lib.hid hr
  have HX := Lib.hid hx
  have HY := Lib.hid hy
  have H0 := Lib.hid hy0
  have H1 := Lib.hid h1
  have H2 := Lib.hid h2
  have HNN := Lib.hid hN
  have HS := Lib.hid S
  have hzl := hz.lt
  have hrl := hr.lt
  clear hz hr hx hy hy0 h1 h2 hN S
  go_enter Try.func134, Try.ntmps134
  go_wp2_with fail
  have k1 : Keep NoS w (w.alloc (.cells intCells 74)) := (Keep.refl _ _).alloc _
  refine (set_any _ w.heap.size 0 by' oy y (hdr_new w) (HY.out.ofNewer k1) (Nat.lt_of_lt_of_le H2.out HNN.out)).mono ?_
  rintro e w1 ⟨rfl, hk1, hi1⟩
  have K1 := Lib.hid (k1.newer hk1 (Nat.le_refl _))
  have HD := Lib.hid hi1
  clear k1 hk1 hi1
  go_wp2_with fail
  refine (HS.out x y H0.out H1.out H2.out w1 bz oz bx ox by' oy br or (HZ.out.ofNewer K1.out) (HR.out.ofNewer K1.out) hzr (HX.out.ofNewer K1.out) (HY.out.ofNewer K1.out)).mono ?_
  rintro e w2 ⟨rfl, hk2, hq2, hm2⟩
  have K2 : Hid (Keep (Or2 (At bz oz) (At br or)) w w2) := Lib.hid (K1.out.any.trans hk2 fun _ _ _ h => h)
  have HD2 : Hid (IsInt w2 w.heap.size 0 y) := Lib.hid (HD.out.keep hk2 ⟨fun n i c fr h hh => by
      rcases h with h | h
      · exact ((HZ.out.ofNewer K1.out).off (b' := w.heap.size) (o' := 0) (.inl (by omega))).1 n i c fr h hh
      · exact ((HR.out.ofNewer K1.out).off (b' := w.heap.size) (o' := 0) (.inl (by omega))).1 n i c fr h hh, fun h => by rcases h with h | h <;> (have := h.1; omega), fun h => by rcases h with h | h <;> (have := h.1; omega)⟩)
  have HQ2 := Lib.hid hq2
  have HM2 := Lib.hid hm2
  have hmd := hm2
  clear hk2 hq2 hm2 HD
  obtain ⟨neg, ds, hr', hn, hne, hzx, g1, g2, g3⟩ := hmd.open
  obtain ⟨g', cap', mc0, mc1, _, mb⟩ := hr'.parts
  have G1 := Lib.hid g1
  have hdd := HD2.out
  obtain ⟨neg', ds', hr'', hn', hne', hzx', g1', g2', g3'⟩ := hdd.open
  obtain ⟨g'', cap'', dc0, dc1, _, db⟩ := hr''.parts
  have G1' := Lib.hid g1'
  clear hr' hn hne hzx g1 g2 g3 hr'' hn' hne' hzx' g1' g2' g3' hmd hdd mc1 dc1
  have BQ : Hid ((x.tdiv y).natAbs < BIG) := Lib.hid (Nat.lt_of_le_of_lt (by rw [Int.natAbs_tdiv]; exact Nat.div_le_self _ _) (Nat.lt_of_lt_of_le H1.out HNN.out))
  have BM : Hid ((x.tmod y).natAbs < BIG) := Lib.hid (Nat.lt_of_le_of_lt (by rw [Int.natAbs_tmod]; exact Nat.mod_le _ _) (Nat.lt_of_lt_of_le H1.out HNN.out))
  have B1 : Hid ((1 : Int).natAbs < BIG) := Lib.hid (lt_BIG (k := 1) (by omega) (by decide))
  have BY : Hid (y.natAbs < BIG) := Lib.hid (Nat.lt_of_lt_of_le H2.out HNN.out)
  by_cases hneg : x.tmod y < 0
  · obtain rfl : neg = true := G1.out.2 hneg
    have HE := Lib.hid (ediv_of_neg H0.out hneg)
    by_cases hy : y < 0
    · obtain rfl : neg' = true := G1'.out.2 hy
      have HE1 := Lib.hid (HE.out.1 hy)
      clear HE hneg hy
      go_wp2_with fail
      refine (newInt_any w2 1 (by omega) (by omega)).mono ?_
      rintro e w3 ⟨b3, hb3, rfl, hk3, hi3⟩
      have K3 := Lib.hid hk3
      have HI3 := Lib.hid hi3
      clear hk3 hi3 mc0 dc0 mb db
      go_wp2_with fail
      refine (add_any w3 bz oz bz oz b3 0 _ _ (HQ2.out.hdr.ofNewer K3.out) (HQ2.out.ofNewer K3.out) HI3.out BQ.out B1.out).mono ?_
      rintro e w4 ⟨rfl, hk4, hi4⟩
      have K4 : Hid (Keep (Or2 (At bz oz) (At br or)) w w4) := Lib.hid ((K2.out.trans K3.out fun _ _ _ h => h.elim).trans hk4 fun _ _ _ h => .inl h)
      have HI4 := Lib.hid hi4
      have HM4 := Lib.hid ((HM2.out.ofNewer K3.out).keep hk4 ((HQ2.out.hdr.ofNewer K3.out).off hzr))
      have HD4 := Lib.hid ((HD2.out.ofNewer K3.out).keep hk4 ((HQ2.out.hdr.ofNewer K3.out).off (.inl (by omega))))
      clear hk4 hi4 K3 HI3 HQ2 HM2 HD2
      go_wp2_with fail
      refine (sub_any w4 br or br or w.heap.size 0 _ _ HM4.out.hdr HM4.out HD4.out BM.out BY.out).mono ?_
      rintro e w5 ⟨rfl, hk5, hi5⟩
      have K5 : Hid (Keep (Or2 (At bz oz) (At br or)) w w5) := Lib.hid (K4.out.trans hk5 fun _ _ _ h => .inr h)
      have HI5 := Lib.hid hi5
      have HQ5 := Lib.hid (HI4.out.keep hk5 (HM4.out.hdr.off hzr.symm))
      clear hk5 hi5
      go_wp2
      go_returns
      exact ⟨rfl, K5.out, by rw [HE1.out.1]; exact HQ5.out, by rw [HE1.out.2]; exact HI5.out⟩
    · obtain rfl : neg' = false := by
        cases neg'
        · rfl
        · exact absurd (G1'.out.1 rfl) hy
      have HE1 := Lib.hid (HE.out.2 hy)
      clear HE hneg hy
      go_wp2_with fail
      refine (newInt_any w2 1 (by omega) (by omega)).mono ?_
      rintro e w3 ⟨b3, hb3, rfl, hk3, hi3⟩
      have K3 := Lib.hid hk3
      have HI3 := Lib.hid hi3
      clear hk3 hi3 mc0 dc0 mb db
      go_wp2_with fail
      refine (sub_any w3 bz oz bz oz b3 0 _ _ (HQ2.out.hdr.ofNewer K3.out) (HQ2.out.ofNewer K3.out) HI3.out BQ.out B1.out).mono ?_
      rintro e w4 ⟨rfl, hk4, hi4⟩
      have K4 : Hid (Keep (Or2 (At bz oz) (At br or)) w w4) := Lib.hid ((K2.out.trans K3.out fun _ _ _ h => h.elim).trans hk4 fun _ _ _ h => .inl h)
      have HI4 := Lib.hid hi4
      have HM4 := Lib.hid ((HM2.out.ofNewer K3.out).keep hk4 ((HQ2.out.hdr.ofNewer K3.out).off hzr))
      have HD4 := Lib.hid ((HD2.out.ofNewer K3.out).keep hk4 ((HQ2.out.hdr.ofNewer K3.out).off (.inl (by omega))))
      clear hk4 hi4 K3 HI3 HQ2 HM2 HD2
      go_wp2_with fail
      refine (add_any w4 br or br or w.heap.size 0 _ _ HM4.out.hdr HM4.out HD4.out BM.out BY.out).mono ?_
      rintro e w5 ⟨rfl, hk5, hi5⟩
      have K5 : Hid (Keep (Or2 (At bz oz) (At br or)) w w5) := Lib.hid (K4.out.trans hk5 fun _ _ _ h => .inr h)
      have HI5 := Lib.hid hi5
      have HQ5 := Lib.hid (HI4.out.keep hk5 (HM4.out.hdr.off hzr.symm))
      clear hk5 hi5
      go_wp2
      go_returns
      exact ⟨rfl, K5.out, by rw [HE1.out.1]; exact HQ5.out, by rw [HE1.out.2]; exact HI5.out⟩
  · obtain rfl : neg = false := by
      cases neg
      · rfl
      · exact absurd (G1.out.1 rfl) hneg
    have HE := Lib.hid (ediv_of_nonneg H0.out hneg)
    clear hneg
    go_wp2
    go_returns
    exact ⟨rfl, K2.out, by rw [HE.out.1]; exact HQ2.out, by rw [HE.out.2]; exact HM2.out⟩

include hN S in
set_option maxHeartbeats 4000000 in
theorem div_of (hz : IsHdr w bz oz) (hx : IsInt w bx ox x) (hy : IsInt w by' oy y) (hy0 : y ≠ 0) (h1 : x.natAbs < N) (h2 : y.natAbs < N) :
    Calls Try.prog 104 #[.pointer (some ⟨bz, oz, none⟩), .pointer (some ⟨bx, ox, none⟩), .pointer (some ⟨by', oy, none⟩)] w fun e w' =>
      e = .returned (.pointer (some ⟨bz, oz, none⟩)) ∧ Keep (At bz oz) w w' ∧ IsInt w' bz oz (x / y) := by
  have HZ := Lib.hid hz
  have HX := Lib.hid hx
  have HY := Lib.hid hy
  have H0 := Lib.hid hy0
  have H1 := Lib.hid h1
  have H2 := Lib.hid h2
  have HNN := Lib.hid hN
  have HS := Lib.hid S
  have hzl := hz.lt
  clear hz hx hy hy0 h1 h2 hN S
  go_enter Try.func104, Try.ntmps104
  go_wp2_with fail
  have k1 : Keep NoS w (w.alloc (.cells intCells 74)) := (Keep.refl _ _).alloc _
  refine (divMod_of HNN.out HS.out _ bz oz bx ox by' oy w.heap.size 0 x y (HZ.out.ofNewer k1) (hdr_new w) (.inl (by omega)) (HX.out.ofNewer k1) (HY.out.ofNewer k1) H0.out H1.out H2.out).mono ?_
  rintro e w1 ⟨rfl, hk1, hq, hm⟩
  have Hk := Lib.hid (k1.any (S := At bz oz) |>.trans hk1 fun n o hn h => by rcases h with h | h; exact h; have := h.1; omega)
  have Hq := Lib.hid hq
  clear hk1 hq hm k1
  go_wp2
  go_returns
  exact ⟨rfl, Hk.out, Hq.out⟩

include hN S in
set_option maxHeartbeats 4000000 in
theorem mod_of (hz : IsHdr w bz oz) (hx : IsInt w bx ox x) (hy : IsInt w by' oy y) (hy0 : y ≠ 0) (h1 : x.natAbs < N) (h2 : y.natAbs < N) :
    Calls Try.prog 138 #[.pointer (some ⟨bz, oz, none⟩), .pointer (some ⟨bx, ox, none⟩), .pointer (some ⟨by', oy, none⟩)] w fun e w' =>
      e = .returned (.pointer (some ⟨bz, oz, none⟩)) ∧ Keep (At bz oz) w w' ∧ IsInt w' bz oz (x % y) := by
  have HZ := Lib.hid hz
  have HX := Lib.hid hx
  have HY := Lib.hid hy
  have H0 := Lib.hid hy0
  have H1 := Lib.hid h1
  have H2 := Lib.hid h2
  have HNN := Lib.hid hN
  have HS := Lib.hid S
  have hzl := hz.lt
  clear hz hx hy hy0 h1 h2 hN S
  go_enter Try.func138, Try.ntmps138
  go_wp2_with fail
  have k1 : Keep NoS w (w.alloc (.cells intCells 74)) := (Keep.refl _ _).alloc _
  refine (divMod_of HNN.out HS.out _ w.heap.size 0 bx ox by' oy bz oz x y (hdr_new w) (HZ.out.ofNewer k1) (.inl (by omega)) (HX.out.ofNewer k1) (HY.out.ofNewer k1) H0.out H1.out H2.out).mono ?_
  rintro e w1 ⟨rfl, hk1, hq, hm⟩
  have Hk := Lib.hid (k1.any (S := At bz oz) |>.trans hk1 fun n o hn h => by rcases h with h | h; (have := h.1; omega); exact h)
  have Hm := Lib.hid hm
  clear hk1 hq hm k1
  go_wp2
  go_returns
  exact ⟨rfl, Hk.out, Hm.out⟩
end

end Go.Proofs.Ytihcbmkjfacooaa
