/- The wide fractions' Add, Neg, Sub, Mul, Inv, Quo, Sign, Cmp; NewRat: under whatever bound SetFrac holds. -/
import Derived.Test.YtihcbmkjfacooaaWideMul
namespace Go.Proofs.Ytihcbmkjfacooaa
open Go.ChangeShapes Go.WideShapes Go.RowKit
set_option linter.unusedVariables false
set_option linter.unusedSimpArgs false

/-- SetFrac is right below N. -/
def SetOK (N : Nat) : Prop := ∀ a b : Int, b ≠ 0 → a.natAbs < N → b.natAbs < N → ∀ (w : World) (bz oz ba oa bb ob : Nat), IsRHdr w bz oz → IsInt w ba oa a → IsInt w bb ob b →
    Calls Try.prog 100 #[.pointer (some ⟨bz, oz, none⟩), .pointer (some ⟨ba, oa, none⟩), .pointer (some ⟨bb, ob, none⟩)] w fun e w' =>
      e = .returned (.pointer (some ⟨bz, oz, none⟩)) ∧ Keep (AtR bz oz) w w' ∧ IsRat w' bz oz (Rat.divInt a b)

theorem setOK_small : SetOK 18446744073709551616 := fun a b hb ha1 hb1 w bz oz ba oa bb ob hz ha hb' => setFrac_small w bz oz ba oa bb ob a b hz ha hb' hb ha1 hb1

theorem small_le_BIG : 18446744073709551616 ≤ BIG := by
  have := lt_BIG (n := 18446744073709551615) (k := 2) (by omega) (by omega)
  omega

/-- Numerator and denominator are below N. -/
def RB (N : Nat) (q : Rat) : Prop := q.num.natAbs < N ∧ q.den < N
theorem RB.mono {N M : Nat} {q : Rat} (h : RB N q) (hm : N ≤ M) : RB M q := ⟨Nat.lt_of_lt_of_le h.1 hm, Nat.lt_of_lt_of_le h.2 hm⟩

theorem Keep.newer {w0 w w' : World} {b o : Nat} (h : Keep NoS w0 w) (k : Keep (At b o) w w') (hb : w0.heap.size ≤ b) : Keep NoS w0 w' := h.trans k fun n o hn h => by have := h.1; omega
theorem Keep.newerR {w0 w w' : World} {b o : Nat} (h : Keep NoS w0 w) (k : Keep (AtR b o) w w') (hb : w0.heap.size ≤ b) : Keep NoS w0 w' := h.trans k fun n o hn h => by rcases h with h | h <;> (have := h.1; omega)
theorem Keep.both {w0 w w' : World} (h : Keep NoS w0 w) (k : Keep NoS w w') : Keep NoS w0 w' := h.trans k fun _ _ _ h => h

theorem den_ne (q : Rat) : (q.den : Int) ≠ 0 := by have := q.den_pos; omega

theorem rat_mul (x y : Rat) : Rat.divInt (x.num * y.num) (x.den * y.den) = x * y := by
  rw [← Rat.divInt_mul_divInt, Rat.num_divInt_den, Rat.num_divInt_den]
theorem rat_add (x y : Rat) : Rat.divInt (x.num * y.den + y.num * x.den) (x.den * y.den) = x + y := by
  rw [← Rat.divInt_add_divInt _ _ (den_ne x) (den_ne y), Rat.num_divInt_den, Rat.num_divInt_den]
theorem rat_sub (x y : Rat) : Rat.divInt (x.num * y.den - y.num * x.den) (x.den * y.den) = x - y := by
  rw [← Rat.divInt_sub_divInt _ _ (den_ne x) (den_ne y), Rat.num_divInt_den, Rat.num_divInt_den]
theorem rat_quo {x y : Rat} (hy : y ≠ 0) : Rat.divInt (x.num * y.den) (x.den * y.num) = x / y := by
  rw [← Rat.divInt_mul_divInt, Rat.num_divInt_den, ← Rat.inv_def, Rat.div_def]
theorem rat_neg' (x : Rat) : Rat.divInt (-x.num) x.den = -x := by
  rw [← Rat.neg_num, ← Rat.neg_den, Rat.num_divInt_den]
theorem rat_inv (x : Rat) : Rat.divInt x.den x.num = x⁻¹ := (Rat.inv_def x).symm

abbrev ratCells : Array Value := #[.bool false, .slice none 0 0, .bool false, .slice none 0 0]

section
variable {N : Nat} (hN : N ≤ BIG) (S : SetOK N) (w : World) (bz oz bx ox by' oy : Nat) (x y : Rat)

include hN S in
set_option maxHeartbeats 4000000 in
theorem ratMul_of (hz : IsRHdr w bz oz) (hx : IsRat w bx ox x) (hy : IsRat w by' oy y) (h1 : RB BIG x) (h2 : RB BIG y) (h3 : (x.num * y.num).natAbs < N) (h4 : x.den * y.den < N) :
    Calls Try.prog 67 #[.pointer (some ⟨bz, oz, none⟩), .pointer (some ⟨bx, ox, none⟩), .pointer (some ⟨by', oy, none⟩)] w fun e w' =>
      e = .returned (.pointer (some ⟨bz, oz, none⟩)) ∧ Keep (AtR bz oz) w w' ∧ IsRat w' bz oz (x * y) := by
  have HZ := Lib.hid hz
  have HX := Lib.hid hx
  have HY := Lib.hid hy
  have H1 := Lib.hid h1
  have H2 := Lib.hid h2
  have H3 := Lib.hid h3
  have H4 := Lib.hid h4
  have HNN := Lib.hid hN
  have HS := Lib.hid S
  clear hz hx hy h1 h2 h3 h4 hN S
  go_enter Try.func67, Try.ntmps67
  go_wp2_with fail
  have k1 : Keep NoS w (w.alloc (.cells intCells 74)) := (Keep.refl _ _).alloc _
  refine (num_any _ bx ox x (HX.out.ofNewer k1) H1.out.1).mono ?_
  rintro e w1 ⟨b1, hb1, rfl, hk1, hi1⟩
  have K1 := Lib.hid (k1.both hk1)
  have HH := Lib.hid (IsHdr.ofNewer (hdr_new w) hk1)
  have HI1 := Lib.hid hi1
  clear k1 hk1 hi1 hb1
  go_wp2_with fail
  refine (num_any w1 by' oy y (HY.out.ofNewer K1.out) H2.out.1).mono ?_
  rintro e w2 ⟨b2, hb2, rfl, hk2, hi2⟩
  have K2 := Lib.hid (K1.out.both hk2)
  have HH2 := Lib.hid (IsHdr.ofNewer HH.out hk2)
  have HI12 := Lib.hid (HI1.out.ofNewer hk2)
  have HI2 := Lib.hid hi2
  clear hk2 hi2 hb2 K1 HI1 HH
  go_wp2_with fail
  refine (mul_any w2 w.heap.size 0 b1 0 b2 0 _ _ HH2.out HI12.out HI2.out H1.out.1 H2.out.1).mono ?_
  rintro e w3 ⟨rfl, hk3, hi3⟩
  have K3 := Lib.hid (K2.out.newer hk3 (Nat.le_refl _))
  have HI3 := Lib.hid hi3
  have hs3 := HI3.out.lt
  clear hk3 hi3 K2 HI12 HI2 HH2
  go_wp2_with fail
  have k4 : Keep NoS w3 (w3.alloc (.cells intCells 74)) := (Keep.refl _ _).alloc _
  refine (denom_any _ bx ox x (HX.out.ofNewer (K3.out.both k4)) H1.out.2).mono ?_
  rintro e w4 ⟨b4, hb4, rfl, hk4, hi4⟩
  have K4 := Lib.hid (k4.both hk4)
  have HH := Lib.hid (IsHdr.ofNewer (hdr_new w3) hk4)
  have HI4 := Lib.hid hi4
  clear k4 hk4 hi4 hb4
  go_wp2_with fail
  refine (denom_any w4 by' oy y (HY.out.ofNewer (K3.out.both K4.out)) H2.out.2).mono ?_
  rintro e w5 ⟨b5, hb5, rfl, hk5, hi5⟩
  have K5 := Lib.hid (K4.out.both hk5)
  have HH5 := Lib.hid (IsHdr.ofNewer HH.out hk5)
  have HI45 := Lib.hid (HI4.out.ofNewer hk5)
  have HI5 := Lib.hid hi5
  clear hk5 hi5 hb5 K4 HI4 HH
  go_wp2_with fail
  refine (mul_any w5 w3.heap.size 0 b4 0 b5 0 _ _ HH5.out HI45.out HI5.out (by simpa using H1.out.2) (by simpa using H2.out.2)).mono ?_
  rintro e w6 ⟨rfl, hk6, hi6⟩
  have K6 := Lib.hid (K5.out.newer hk6 (Nat.le_refl _))
  have HI6 := Lib.hid hi6
  clear hk6 hi6 K5 HI45 HI5 HH5
  go_wp2_with fail
  refine (HS.out (x.num * y.num) (x.den * y.den) (Int.mul_ne_zero (den_ne x) (den_ne y)) H3.out (by rw [Int.natAbs_mul]; exact H4.out) w6 bz oz w.heap.size 0 w3.heap.size 0 (HZ.out.ofNewer (K3.out.both K6.out)) (HI3.out.ofNewer K6.out) HI6.out).mono ?_
  rintro e w7 ⟨rfl, hk7, hi7⟩
  have HK7 := Lib.hid hk7
  have HI7 := Lib.hid hi7
  clear hk7 hi7
  go_wp2
  go_returns
  exact ⟨rfl, (K3.out.both K6.out).any.trans HK7.out fun _ _ _ h => h, by rw [← rat_mul]; exact HI7.out⟩

include hN S in
set_option maxHeartbeats 8000000 in
theorem ratAdd_of (hz : IsRHdr w bz oz) (hx : IsRat w bx ox x) (hy : IsRat w by' oy y) (h1 : RB BIG x) (h2 : RB BIG y) (h3 : (x.num * y.den + y.num * x.den).natAbs < N) (h4 : x.den * y.den < N) (h5 : (x.num * y.den).natAbs < BIG) (h6 : (y.num * x.den).natAbs < BIG) :
    Calls Try.prog 50 #[.pointer (some ⟨bz, oz, none⟩), .pointer (some ⟨bx, ox, none⟩), .pointer (some ⟨by', oy, none⟩)] w fun e w' =>
      e = .returned (.pointer (some ⟨bz, oz, none⟩)) ∧ Keep (AtR bz oz) w w' ∧ IsRat w' bz oz (x + y) := by
  have HZ := Lib.hid hz
  have HX := Lib.hid hx
  have HY := Lib.hid hy
  have H1 := Lib.hid h1
  have H2 := Lib.hid h2
  have H3 := Lib.hid h3
  have H4 := Lib.hid h4
  have H5 := Lib.hid h5
  have H6 := Lib.hid h6
  have HNN := Lib.hid hN
  have HS := Lib.hid S
  clear hz hx hy h1 h2 h3 h4 h5 h6 hN S
  go_enter Try.func50, Try.ntmps50
  go_wp2_with fail
  have k1 : Keep NoS w (w.alloc (.cells intCells 74)) := (Keep.refl _ _).alloc _
  refine (num_any _ bx ox x (HX.out.ofNewer k1) H1.out.1).mono ?_
  rintro e w1 ⟨b1, hb1, rfl, hk1, hi1⟩
  have K1 := Lib.hid (k1.both hk1)
  have HH := Lib.hid (IsHdr.ofNewer (hdr_new w) hk1)
  have HI1 := Lib.hid hi1
  clear k1 hk1 hi1 hb1
  go_wp2_with fail
  refine (denom_any w1 by' oy y (HY.out.ofNewer K1.out) H2.out.2).mono ?_
  rintro e w2 ⟨b2, hb2, rfl, hk2, hi2⟩
  have K2 := Lib.hid (K1.out.both hk2)
  have HH2 := Lib.hid (IsHdr.ofNewer HH.out hk2)
  have HI12 := Lib.hid (HI1.out.ofNewer hk2)
  have HI2 := Lib.hid hi2
  clear hk2 hi2 hb2 K1 HI1 HH
  go_wp2_with fail
  refine (mul_any w2 w.heap.size 0 b1 0 b2 0 _ _ HH2.out HI12.out HI2.out H1.out.1 (by simpa using H2.out.2)).mono ?_
  rintro e w3 ⟨rfl, hk3, hi3⟩
  have K3 := Lib.hid (K2.out.newer hk3 (Nat.le_refl _))
  have HI3 := Lib.hid hi3
  have hs3 := HI3.out.lt
  clear hk3 hi3 K2 HI12 HI2 HH2
  go_wp2_with fail
  have k4 : Keep NoS w3 (w3.alloc (.cells intCells 74)) := (Keep.refl _ _).alloc _
  refine (num_any _ by' oy y (HY.out.ofNewer (K3.out.both k4)) H2.out.1).mono ?_
  rintro e w4 ⟨b4, hb4, rfl, hk4, hi4⟩
  have K4 := Lib.hid (k4.both hk4)
  have HH := Lib.hid (IsHdr.ofNewer (hdr_new w3) hk4)
  have HI4 := Lib.hid hi4
  clear k4 hk4 hi4 hb4
  go_wp2_with fail
  refine (denom_any w4 bx ox x (HX.out.ofNewer (K3.out.both K4.out)) H1.out.2).mono ?_
  rintro e w5 ⟨b5, hb5, rfl, hk5, hi5⟩
  have K5 := Lib.hid (K4.out.both hk5)
  have HH5 := Lib.hid (IsHdr.ofNewer HH.out hk5)
  have HI45 := Lib.hid (HI4.out.ofNewer hk5)
  have HI5 := Lib.hid hi5
  clear hk5 hi5 hb5 K4 HI4 HH
  go_wp2_with fail
  refine (mul_any w5 w3.heap.size 0 b4 0 b5 0 _ _ HH5.out HI45.out HI5.out H2.out.1 (by simpa using H1.out.2)).mono ?_
  rintro e w6 ⟨rfl, hk6, hi6⟩
  have K6 := Lib.hid (K5.out.newer hk6 (Nat.le_refl _))
  have HI6 := Lib.hid hi6
  have HI36 := Lib.hid (HI3.out.ofNewer K6.out)
  clear hk6 hi6 K5 HI45 HI5 HH5
  go_wp2_with fail
  refine (add_any w6 w.heap.size 0 w.heap.size 0 w3.heap.size 0 _ _ HI36.out.hdr HI36.out HI6.out H5.out H6.out).mono ?_
  rintro e w7 ⟨rfl, hk7, hi7⟩
  have K7 := Lib.hid ((K3.out.both K6.out).newer hk7 (Nat.le_refl _))
  have HI7 := Lib.hid hi7
  have hs7 := HI7.out.lt
  clear hk7 hi7 K6 HI6 HI36 HI3 K3
  go_wp2_with fail
  have k8 : Keep NoS w7 (w7.alloc (.cells intCells 74)) := (Keep.refl _ _).alloc _
  refine (denom_any _ bx ox x (HX.out.ofNewer (K7.out.both k8)) H1.out.2).mono ?_
  rintro e w8 ⟨b8, hb8, rfl, hk8, hi8⟩
  have K8 := Lib.hid (k8.both hk8)
  have HH := Lib.hid (IsHdr.ofNewer (hdr_new w7) hk8)
  have HI8 := Lib.hid hi8
  clear k8 hk8 hi8 hb8
  go_wp2_with fail
  refine (denom_any w8 by' oy y (HY.out.ofNewer (K7.out.both K8.out)) H2.out.2).mono ?_
  rintro e w9 ⟨b9, hb9, rfl, hk9, hi9⟩
  have K9 := Lib.hid (K8.out.both hk9)
  have HH9 := Lib.hid (IsHdr.ofNewer HH.out hk9)
  have HI89 := Lib.hid (HI8.out.ofNewer hk9)
  have HI9 := Lib.hid hi9
  clear hk9 hi9 hb9 K8 HI8 HH
  go_wp2_with fail
  refine (mul_any w9 w7.heap.size 0 b8 0 b9 0 _ _ HH9.out HI89.out HI9.out (by simpa using H1.out.2) (by simpa using H2.out.2)).mono ?_
  rintro e wa ⟨rfl, hka, hia⟩
  have KA := Lib.hid (K9.out.newer hka (Nat.le_refl _))
  have HIA := Lib.hid hia
  clear hka hia K9 HI89 HI9 HH9
  go_wp2_with fail
  refine (HS.out (x.num * y.den + y.num * x.den) (x.den * y.den) (Int.mul_ne_zero (den_ne x) (den_ne y)) H3.out (by rw [Int.natAbs_mul]; exact H4.out) wa bz oz w.heap.size 0 w7.heap.size 0 (HZ.out.ofNewer (K7.out.both KA.out)) (HI7.out.ofNewer KA.out) HIA.out).mono ?_
  rintro e wb ⟨rfl, hkb, hib⟩
  have HKB := Lib.hid hkb
  have HIB := Lib.hid hib
  clear hkb hib
  go_wp2
  go_returns
  exact ⟨rfl, (K7.out.both KA.out).any.trans HKB.out fun _ _ _ h => h, by rw [← rat_add]; exact HIB.out⟩

include hN S in
set_option maxHeartbeats 4000000 in
theorem ratNeg_of (hz : IsRHdr w bz oz) (hx : IsRat w bx ox x) (h1 : RB N x) :
    Calls Try.prog 109 #[.pointer (some ⟨bz, oz, none⟩), .pointer (some ⟨bx, ox, none⟩)] w fun e w' =>
      e = .returned (.pointer (some ⟨bz, oz, none⟩)) ∧ Keep (AtR bz oz) w w' ∧ IsRat w' bz oz (-x) := by
  have HZ := Lib.hid hz
  have HX := Lib.hid hx
  have H0 := Lib.hid h1
  have H1 := Lib.hid (h1.mono hN)
  have HS := Lib.hid S
  clear hz hx h1 hN S
  go_enter Try.func109, Try.ntmps109
  go_wp2_with fail
  have k1 : Keep NoS w (w.alloc (.cells intCells 74)) := (Keep.refl _ _).alloc _
  refine (neg_any _ w.heap.size 0 bx ox x.num (hdr_new w) (HX.out.1.ofNewer k1) H1.out.1).mono ?_
  rintro e w1 ⟨rfl, hk1, hi1⟩
  have K1 := Lib.hid (k1.newer hk1 (Nat.le_refl _))
  have HI1 := Lib.hid hi1
  clear k1 hk1 hi1
  go_wp2_with fail
  refine (denom_any w1 bx ox x (HX.out.ofNewer K1.out) H1.out.2).mono ?_
  rintro e w2 ⟨b2, hb2, rfl, hk2, hi2⟩
  have K2 := Lib.hid (K1.out.both hk2)
  have HI12 := Lib.hid (HI1.out.ofNewer hk2)
  have HI2 := Lib.hid hi2
  clear hk2 hi2 hb2 K1 HI1
  go_wp2_with fail
  refine (HS.out (-x.num) x.den (den_ne x) (by rw [Int.natAbs_neg]; exact H0.out.1) (by simpa using H0.out.2) w2 bz oz w.heap.size 0 b2 0 (HZ.out.ofNewer K2.out) HI12.out HI2.out).mono ?_
  rintro e w3 ⟨rfl, hk3, hi3⟩
  have HK3 := Lib.hid hk3
  have HI3 := Lib.hid hi3
  clear hk3 hi3
  go_wp2
  go_returns
  exact ⟨rfl, K2.out.any.trans HK3.out fun _ _ _ h => h, by rw [← rat_neg']; exact HI3.out⟩

include hN S in
set_option maxHeartbeats 4000000 in
theorem ratInv_of (hz : IsRHdr w bz oz) (hx : IsRat w bx ox x) (h1 : RB N x) (h0 : x ≠ 0) :
    Calls Try.prog 108 #[.pointer (some ⟨bz, oz, none⟩), .pointer (some ⟨bx, ox, none⟩)] w fun e w' =>
      e = .returned (.pointer (some ⟨bz, oz, none⟩)) ∧ Keep (AtR bz oz) w w' ∧ IsRat w' bz oz x⁻¹ := by
  have HZ := Lib.hid hz
  have HX := Lib.hid hx
  have H0 := Lib.hid h1
  have H1 := Lib.hid (h1.mono hN)
  have HS := Lib.hid S
  have HNZ : Hid (x.num ≠ 0) := Lib.hid (fun h => h0 (Rat.num_eq_zero.1 h))
  clear hz hx h1 hN S h0
  go_enter Try.func108, Try.ntmps108
  go_wp2_with fail
  refine (denom_any w bx ox x HX.out H1.out.2).mono ?_
  rintro e w1 ⟨b1, hb1, rfl, hk1, hi1⟩
  have K1 := Lib.hid hk1
  have HI1 := Lib.hid hi1
  clear hk1 hi1 hb1
  go_wp2_with fail
  refine (num_any w1 bx ox x (HX.out.ofNewer K1.out) H1.out.1).mono ?_
  rintro e w2 ⟨b2, hb2, rfl, hk2, hi2⟩
  have K2 := Lib.hid (K1.out.both hk2)
  have HI12 := Lib.hid (HI1.out.ofNewer hk2)
  have HI2 := Lib.hid hi2
  clear hk2 hi2 hb2 K1 HI1
  go_wp2_with fail
  refine (HS.out x.den x.num HNZ.out (by simpa using H0.out.2) H0.out.1 w2 bz oz b1 0 b2 0 (HZ.out.ofNewer K2.out) HI12.out HI2.out).mono ?_
  rintro e w3 ⟨rfl, hk3, hi3⟩
  have HK3 := Lib.hid hk3
  have HI3 := Lib.hid hi3
  clear hk3 hi3
  go_wp2
  go_returns
  exact ⟨rfl, K2.out.any.trans HK3.out fun _ _ _ h => h, by rw [← rat_inv]; exact HI3.out⟩

include hN S in
set_option maxHeartbeats 4000000 in
theorem ratSub_of (hz : IsRHdr w bz oz) (hx : IsRat w bx ox x) (hy : IsRat w by' oy y) (h1 : RB BIG x) (h2 : RB N y) (h3 : (x.num * y.den - y.num * x.den).natAbs < N) (h4 : x.den * y.den < N) (h5 : (x.num * y.den).natAbs < BIG) (h6 : (y.num * x.den).natAbs < BIG) :
    Calls Try.prog 66 #[.pointer (some ⟨bz, oz, none⟩), .pointer (some ⟨bx, ox, none⟩), .pointer (some ⟨by', oy, none⟩)] w fun e w' =>
      e = .returned (.pointer (some ⟨bz, oz, none⟩)) ∧ Keep (AtR bz oz) w w' ∧ IsRat w' bz oz (x - y) := by
  have HZ := Lib.hid hz
  have HX := Lib.hid hx
  have HY := Lib.hid hy
  have H1 := Lib.hid h1
  have H2 := Lib.hid h2
  have H3 : Hid ((x.num * (-y).den + (-y).num * x.den).natAbs < N) := Lib.hid (by rw [Rat.neg_num, Rat.neg_den, Int.neg_mul, ← Int.sub_eq_add_neg]; exact h3)
  have H4 : Hid (x.den * (-y).den < N) := Lib.hid (by rw [Rat.neg_den]; exact h4)
  have H5 : Hid ((x.num * (-y).den).natAbs < BIG) := Lib.hid (by rw [Rat.neg_den]; exact h5)
  have H6 : Hid (((-y).num * x.den).natAbs < BIG) := Lib.hid (by rw [Rat.neg_num, Int.neg_mul, Int.natAbs_neg]; exact h6)
  have H7 : Hid (RB BIG (-y)) := Lib.hid ⟨by rw [Rat.neg_num, Int.natAbs_neg]; exact (h2.mono hN).1, by rw [Rat.neg_den]; exact (h2.mono hN).2⟩
  have HNN := Lib.hid hN
  have HS := Lib.hid S
  clear hz hx hy h1 h2 h3 h4 h5 h6 hN S
  go_enter Try.func66, Try.ntmps66
  go_wp2_with fail
  have k1 : Keep NoS w (w.alloc (.cells ratCells 76)) := (Keep.refl _ _).alloc _
  refine (ratNeg_of HNN.out HS.out _ w.heap.size 0 by' oy y (rhdr_new w) (HY.out.ofNewer k1) H2.out).mono ?_
  rintro e w1 ⟨rfl, hk1, hi1⟩
  have K1 := Lib.hid (k1.newerR hk1 (Nat.le_refl _))
  have HI1 := Lib.hid hi1
  clear k1 hk1 hi1
  go_wp2_with fail
  refine (ratAdd_of HNN.out HS.out w1 bz oz bx ox w.heap.size 0 x (-y) (HZ.out.ofNewer K1.out) (HX.out.ofNewer K1.out) HI1.out H1.out H7.out H3.out H4.out H5.out H6.out).mono ?_
  rintro e w3 ⟨rfl, hk3, hi3⟩
  have HK3 := Lib.hid hk3
  have HI3 := Lib.hid hi3
  clear hk3 hi3
  go_wp2
  go_returns
  exact ⟨rfl, K1.out.any.trans HK3.out fun _ _ _ h => h, by rw [Rat.sub_eq_add_neg]; exact HI3.out⟩

theorem inv_num_natAbs {x : Rat} (h : x ≠ 0) : x⁻¹.num.natAbs = x.den ∧ x⁻¹.den = x.num.natAbs := by
  have hn : x.num ≠ 0 := fun h0 => h (Rat.num_eq_zero.1 h0)
  refine ⟨?_, ?_⟩
  · rw [Rat.num_inv, Int.natAbs_mul, Int.natAbs_sign_of_ne_zero hn, Nat.one_mul]; rfl
  · rw [Rat.den_inv, if_neg hn]

include hN S in
set_option maxHeartbeats 4000000 in
theorem ratQuo_of (hz : IsRHdr w bz oz) (hx : IsRat w bx ox x) (hy : IsRat w by' oy y) (h0 : y ≠ 0) (h1 : RB BIG x) (h2 : RB N y) (h3 : (x.num * y.den).natAbs < N) (h4 : x.den * y.num.natAbs < N) :
    Calls Try.prog 65 #[.pointer (some ⟨bz, oz, none⟩), .pointer (some ⟨bx, ox, none⟩), .pointer (some ⟨by', oy, none⟩)] w fun e w' =>
      e = .returned (.pointer (some ⟨bz, oz, none⟩)) ∧ Keep (AtR bz oz) w w' ∧ IsRat w' bz oz (x / y) := by
  have HZ := Lib.hid hz
  have HX := Lib.hid hx
  have HY := Lib.hid hy
  have H0 := Lib.hid h0
  have H1 := Lib.hid h1
  have H2 := Lib.hid h2
  have H3 : Hid ((x.num * y⁻¹.num).natAbs < N) := Lib.hid (by rw [Int.natAbs_mul, (inv_num_natAbs h0).1]; rw [Int.natAbs_mul] at h3; simpa using h3)
  have H4 : Hid (x.den * y⁻¹.den < N) := Lib.hid (by rw [(inv_num_natAbs h0).2]; exact h4)
  have H7 : Hid (RB BIG y⁻¹) := Lib.hid ⟨by rw [(inv_num_natAbs h0).1]; exact (h2.mono hN).2, by rw [(inv_num_natAbs h0).2]; exact (h2.mono hN).1⟩
  have HNN := Lib.hid hN
  have HS := Lib.hid S
  clear hz hx hy h0 h1 h2 h3 h4 hN S
  go_enter Try.func65, Try.ntmps65
  go_wp2_with fail
  have k1 : Keep NoS w (w.alloc (.cells ratCells 76)) := (Keep.refl _ _).alloc _
  refine (ratInv_of HNN.out HS.out _ w.heap.size 0 by' oy y (rhdr_new w) (HY.out.ofNewer k1) H2.out H0.out).mono ?_
  rintro e w1 ⟨rfl, hk1, hi1⟩
  have K1 := Lib.hid (k1.newerR hk1 (Nat.le_refl _))
  have HI1 := Lib.hid hi1
  clear k1 hk1 hi1
  go_wp2_with fail
  refine (ratMul_of HNN.out HS.out w1 bz oz bx ox w.heap.size 0 x y⁻¹ (HZ.out.ofNewer K1.out) (HX.out.ofNewer K1.out) HI1.out H1.out H7.out H3.out H4.out).mono ?_
  rintro e w3 ⟨rfl, hk3, hi3⟩
  have HK3 := Lib.hid hk3
  have HI3 := Lib.hid hi3
  clear hk3 hi3
  go_wp2
  go_returns
  exact ⟨rfl, K1.out.any.trans HK3.out fun _ _ _ h => h, by rw [Rat.div_def]; exact HI3.out⟩

set_option maxHeartbeats 2000000 in
theorem ratSign_any (hx : IsRat w bx ox x) : Calls Try.prog 95 #[.pointer (some ⟨bx, ox, none⟩)] w fun e w' => e = .returned (.int .i64 x.num.sign) ∧ w' = w := by
  have HX := Lib.hid hx
  clear hx
  go_enter Try.func95, Try.ntmps95
  go_wp2_with fail
  refine (sign_any w bx ox _ HX.out.1).mono ?_
  rintro e w1 ⟨rfl, rfl⟩
  go_wp2
  go_ret
  exact ⟨rfl, rfl⟩

include hN S in
set_option maxHeartbeats 4000000 in
theorem ratCmp_of (hx : IsRat w bx ox x) (hy : IsRat w by' oy y) (h1 : RB BIG x) (h2 : RB N y) (h3 : (x.num * y.den - y.num * x.den).natAbs < N) (h4 : x.den * y.den < N) (h5 : (x.num * y.den).natAbs < BIG) (h6 : (y.num * x.den).natAbs < BIG) :
    Calls Try.prog 52 #[.pointer (some ⟨bx, ox, none⟩), .pointer (some ⟨by', oy, none⟩)] w fun e w' => e = .returned (.int .i64 (x - y).num.sign) ∧ Keep NoS w w' := by
  have HX := Lib.hid hx
  have HY := Lib.hid hy
  have H1 := Lib.hid h1
  have H2 := Lib.hid h2
  have H3 := Lib.hid h3
  have H4 := Lib.hid h4
  have H5 := Lib.hid h5
  have H6 := Lib.hid h6
  have HNN := Lib.hid hN
  have HS := Lib.hid S
  clear hx hy h1 h2 h3 h4 h5 h6 hN S
  go_enter Try.func52, Try.ntmps52
  go_wp2_with fail
  have k1 : Keep NoS w (w.alloc (.cells ratCells 76)) := (Keep.refl _ _).alloc _
  refine (ratSub_of HNN.out HS.out _ w.heap.size 0 bx ox by' oy x y (rhdr_new w) (HX.out.ofNewer k1) (HY.out.ofNewer k1) H1.out H2.out H3.out H4.out H5.out H6.out).mono ?_
  rintro e w1 ⟨rfl, hk1, hi1⟩
  have K1 := Lib.hid (k1.newerR hk1 (Nat.le_refl _))
  have HI1 := Lib.hid hi1
  clear k1 hk1 hi1
  go_wp2_with fail
  refine (ratSign_any w1 w.heap.size 0 _ HI1.out).mono ?_
  rintro e w2 ⟨rfl, rfl⟩
  go_wp2
  go_ret
  exact ⟨rfl, K1.out⟩

/-- A new wide fraction q comes back. -/
def NewR (q : Rat) (w : World) (e : Ending) (w' : World) : Prop := ∃ b, w.heap.size ≤ b ∧ e = .returned (.pointer (some ⟨b, 0, none⟩)) ∧ Keep NoS w w' ∧ IsRat w' b 0 q

set_option maxHeartbeats 4000000 in
theorem newRat_any (a b : Int) (hb : b ≠ 0) (a1 : -9223372036854775808 ≤ a) (a2 : a ≤ 9223372036854775807) (b1 : -9223372036854775808 ≤ b) (b2 : b ≤ 9223372036854775807) : Calls Try.prog 94 #[.int .i64 a, .int .i64 b] w (NewR (Rat.divInt a b) w) := by
  have HB := Lib.hid hb
  have A1 := Lib.hid (show -9223372036854775808 ≤ a ∧ a ≤ 9223372036854775807 from ⟨a1, a2⟩)
  have B1 := Lib.hid (show -9223372036854775808 ≤ b ∧ b ≤ 9223372036854775807 from ⟨b1, b2⟩)
  clear hb a1 a2 b1 b2
  go_enter Try.func94, Try.ntmps94
  go_wp2_with fail
  have k1 : Keep NoS w (w.alloc (.cells ratCells 76)) := (Keep.refl _ _).alloc _
  refine (newInt_any _ a A1.out.1 A1.out.2).mono ?_
  rintro e w1 ⟨b1, hb1, rfl, hk1, hi1⟩
  have K1 := Lib.hid (k1.both hk1)
  have HH := Lib.hid (IsRHdr.ofNewer (rhdr_new w) hk1)
  have HI1 := Lib.hid hi1
  clear k1 hk1 hi1 hb1
  go_wp2_with fail
  refine (newInt_any w1 b B1.out.1 B1.out.2).mono ?_
  rintro e w2 ⟨b2, hb2, rfl, hk2, hi2⟩
  have K2 := Lib.hid (K1.out.both hk2)
  have HH2 := Lib.hid (IsRHdr.ofNewer HH.out hk2)
  have HI12 := Lib.hid (HI1.out.ofNewer hk2)
  have HI2 := Lib.hid hi2
  clear hk2 hi2 hb2 K1 HI1 HH
  go_wp2_with fail
  refine (setFrac_small w2 w.heap.size 0 b1 0 b2 0 a b HH2.out HI12.out HI2.out HB.out (by have := A1.out; omega) (by have := B1.out; omega)).mono ?_
  rintro e w3 ⟨rfl, hk3, hi3⟩
  have K3 := Lib.hid (K2.out.newerR hk3 (Nat.le_refl _))
  have HI3 := Lib.hid hi3
  clear hk3 hi3
  go_wp2
  go_returns
  exact ⟨_, Nat.le_refl _, rfl, K3.out, HI3.out⟩
end

end Go.Proofs.Ytihcbmkjfacooaa
