/- Wide fractions in memory: what they are; making them, their numerator and denominator. -/
import Derived.Test.YtihcbmkjfacooaaWideF
namespace Go.Proofs.Ytihcbmkjfacooaa
open Go.ChangeShapes Go.WideShapes Go.RowKit
set_option linter.unusedVariables false
set_option linter.unusedSimpArgs false

theorem rat_pos (a b : Int) (hb : 0 < b) : (Rat.divInt a b).num = a.tdiv (Nat.gcd a.natAbs b.natAbs : Nat) ∧ ((Rat.divInt a b).den : Int) = b.tdiv (Nat.gcd a.natAbs b.natAbs : Nat) := by
  have hg : b.gcd a = Nat.gcd a.natAbs b.natAbs := by unfold Int.gcd; exact Nat.gcd_comm _ _
  have da : ((Nat.gcd a.natAbs b.natAbs : Nat) : Int) ∣ a := by have := Nat.gcd_dvd_left a.natAbs b.natAbs; exact Int.ofNat_dvd_left.2 this
  have db : ((Nat.gcd a.natAbs b.natAbs : Nat) : Int) ∣ b := by have := Nat.gcd_dvd_right a.natAbs b.natAbs; exact Int.ofNat_dvd_left.2 this
  rw [Rat.num_divInt, Rat.den_divInt, hg, if_neg (by omega), Int.sign_eq_one_of_pos hb, Int.one_mul, Int.tdiv_eq_ediv_of_dvd da, Int.tdiv_eq_ediv_of_dvd db]
  refine ⟨rfl, ?_⟩
  obtain ⟨m, rfl⟩ : ∃ m : Nat, b = m := ⟨b.toNat, by omega⟩
  simp

theorem rat_neg (a b : Int) (hb : b < 0) : (Rat.divInt a b).num = -(a.tdiv (Nat.gcd a.natAbs b.natAbs : Nat)) ∧ ((Rat.divInt a b).den : Int) = -(b.tdiv (Nat.gcd a.natAbs b.natAbs : Nat)) := by
  have h := rat_pos (-a) (-b) (by omega)
  rw [Int.natAbs_neg, Int.natAbs_neg, Int.neg_tdiv, Int.neg_tdiv] at h
  have e : Rat.divInt (-a) (-b) = Rat.divInt a b := by
    exact Rat.neg_divInt_neg a b
  rw [e] at h
  exact h

theorem quo_pos (b : Int) (g : Nat) (hg : 0 < g) (hd : (g : Int) ∣ b) : (b.tdiv g < 0 ↔ b < 0) := by
  rw [Int.tdiv_eq_ediv_of_dvd hd]
  obtain ⟨c, rfl⟩ := hd
  rw [Int.mul_ediv_cancel_left _ (by omega)]
  constructor
  · intro h; exact Int.mul_neg_of_pos_of_neg (by omega) h
  · intro h
    rcases Int.lt_or_le c 0 with h' | h'
    · exact h'
    · have := Int.mul_nonneg (a := (g : Int)) (by omega) h'; omega

/-- At block b, offset o there is the wide fraction q. -/
def IsRat (w : World) (b o : Nat) (q : Rat) : Prop := IsInt w b o q.num ∧ IsInt w b (o + 2) (q.den : Int)
/-- A place for one. -/
def IsRHdr (w : World) (b o : Nat) : Prop := IsHdr w b o ∧ IsHdr w b (o + 2)
def AtR (b o : Nat) : Nat → Nat → Prop := Or2 (At b o) (At b (o + 2))

theorem rhdr_new (w : World) : IsRHdr (w.alloc (.cells #[.bool false, .slice none 0 0, .bool false, .slice none 0 0] 76)) w.heap.size 0 :=
  ⟨⟨_, _, heap_alloc_at _ _ _ rfl, by decide, by simp, ⟨false, by simp⟩, none, 0, 0, by simp⟩, ⟨_, _, heap_alloc_at _ _ _ rfl, by decide, by simp, ⟨false, by simp⟩, none, 0, 0, by simp⟩⟩

theorem IsRat.ofNewer {w w' : World} {b o : Nat} {q : Rat} (h : IsRat w b o q) (k : Keep NoS w w') : IsRat w' b o q := ⟨h.1.ofNewer k, h.2.ofNewer k⟩
theorem IsRHdr.ofNewer {w w' : World} {b o : Nat} (h : IsRHdr w b o) (k : Keep NoS w w') : IsRHdr w' b o := ⟨IsHdr.ofNewer h.1 k, IsHdr.ofNewer h.2 k⟩

abbrev intCells : Array Value := #[.bool false, .slice none 0 0]

/-- What the common divisor's contract says of these two numbers, wherever they lie. -/
def GcdOf (a b : Int) : Prop := ∀ (w : World) (bz oz ba oa bb ob : Nat), IsHdr w bz oz → IsInt w ba oa a → IsInt w bb ob b →
    Calls Try.prog 107 #[.pointer (some ⟨bz, oz, none⟩), .pointer none, .pointer none, .pointer (some ⟨ba, oa, none⟩), .pointer (some ⟨bb, ob, none⟩)] w fun e w' =>
      e = .returned (.pointer (some ⟨bz, oz, none⟩)) ∧ Keep (At bz oz) w w' ∧ IsInt w' bz oz (Nat.gcd a.natAbs b.natAbs : Nat)
def QuoOf (a b : Int) : Prop := ∀ (w : World) (bz oz ba oa bb ob : Nat), IsHdr w bz oz → IsInt w ba oa a → IsInt w bb ob b →
    Calls Try.prog 130 #[.pointer (some ⟨bz, oz, none⟩), .pointer (some ⟨ba, oa, none⟩), .pointer (some ⟨bb, ob, none⟩)] w fun e w' =>
      e = .returned (.pointer (some ⟨bz, oz, none⟩)) ∧ Keep (At bz oz) w w' ∧ IsInt w' bz oz (a.tdiv b)

theorem natAbs_tdiv_le (a : Int) (g : Nat) : (a.tdiv g).natAbs ≤ a.natAbs := by
  rw [Int.natAbs_tdiv]; exact Nat.div_le_self _ _

set_option maxHeartbeats 8000000 in
theorem setFrac_of (w : World) (bz oz ba oa bb ob : Nat) (a b : Int) (hz : IsRHdr w bz oz) (ha : IsInt w ba oa a) (hb : IsInt w bb ob b) (hb0 : b ≠ 0) (ha1 : a.natAbs < BIG) (hb1 : b.natAbs < BIG)
    (G : GcdOf a b) (Qa : QuoOf a (Nat.gcd a.natAbs b.natAbs : Nat)) (Qb : QuoOf b (Nat.gcd a.natAbs b.natAbs : Nat)) :
    Calls Try.prog 100 #[.pointer (some ⟨bz, oz, none⟩), .pointer (some ⟨ba, oa, none⟩), .pointer (some ⟨bb, ob, none⟩)] w fun e w' =>
      e = .returned (.pointer (some ⟨bz, oz, none⟩)) ∧ Keep (AtR bz oz) w w' ∧ IsRat w' bz oz (Rat.divInt a b) := by
  have hg0 : 0 < Nat.gcd a.natAbs b.natAbs := Nat.gcd_pos_of_pos_right _ (by omega)
  have Hz := Lib.hid hz
  have Ha := Lib.hid ha
  have Hb := Lib.hid hb
  have HG := Lib.hid G
  have HQa := Lib.hid Qa
  have HQb := Lib.hid Qb
  have Hg0 := Lib.hid hg0
  have Ha1 := Lib.hid (Nat.lt_of_le_of_lt (natAbs_tdiv_le a (Nat.gcd a.natAbs b.natAbs)) ha1)
  have Hb1 := Lib.hid (Nat.lt_of_le_of_lt (natAbs_tdiv_le b (Nat.gcd a.natAbs b.natAbs)) hb1)
  have Hs := Lib.hid (quo_pos b (Nat.gcd a.natAbs b.natAbs) hg0 (Int.ofNat_dvd_left.2 (Nat.gcd_dvd_right a.natAbs b.natAbs)))
  have hzl := hz.1.lt
  clear hz ha hb G Qa Qb hg0 ha1 hb1
  go_enter Try.func100, Try.ntmps100
  go_wp2_with fail
  have k1 : Keep NoS w (w.alloc (.cells intCells 74)) := (Keep.refl _ _).alloc _
  refine (HG.out _ w.heap.size 0 ba oa bb ob (hdr_new w) (Ha.out.ofNewer k1) (Hb.out.ofNewer k1)).mono ?_
  rintro e w1 ⟨rfl, hk1, hg1⟩
  have K1 := Lib.hid (k1.trans hk1 fun n o hn h => by have := h.1; omega)
  have Hg1 := Lib.hid hg1
  have hs1 : w.heap.size + 1 ≤ w1.heap.size := by have := hk1.size; simpa using this
  clear k1 hk1 hg1
  go_wp2_with fail
  have k2 : Keep NoS w1 (w1.alloc (.cells intCells 74)) := (Keep.refl _ _).alloc _
  refine (HQa.out _ w1.heap.size 0 ba oa w.heap.size 0 (hdr_new w1) ((Ha.out.ofNewer K1.out).ofNewer k2) (Hg1.out.ofNewer k2)).mono ?_
  rintro e w2 ⟨rfl, hk2, hx2⟩
  have K2 := Lib.hid (k2.trans hk2 fun n o hn h => by have := h.1; omega)
  have Hx2 := Lib.hid hx2
  have hs2 : w1.heap.size + 1 ≤ w2.heap.size := by have := hk2.size; simpa using this
  clear k2 hk2 hx2
  go_wp2_with fail
  have k3 : Keep NoS w2 (w2.alloc (.cells intCells 74)) := (Keep.refl _ _).alloc _
  refine (HQb.out _ w2.heap.size 0 bb ob w.heap.size 0 (hdr_new w2) (((Hb.out.ofNewer K1.out).ofNewer K2.out).ofNewer k3) ((Hg1.out.ofNewer K2.out).ofNewer k3)).mono ?_
  rintro e w3 ⟨rfl, hk3, hy3⟩
  have K3 := Lib.hid (k3.trans hk3 fun n o hn h => by have := h.1; omega)
  have Hx3 := Lib.hid (Hx2.out.ofNewer K3.out)
  have Hy3 := Lib.hid hy3
  have hs3 : w2.heap.size + 1 ≤ w3.heap.size := by have := hk3.size; simpa using this
  have Hz3 := Lib.hid (((Hz.out.ofNewer K1.out).ofNewer K2.out).ofNewer K3.out)
  have K03 := Lib.hid ((K1.out.trans K2.out fun _ _ _ h => h).trans K3.out fun _ _ _ h => h)
  obtain ⟨neg, ds, hry, hn, hne, hzy, h1, h2, h3⟩ := hy3.open
  obtain ⟨g', cap', yc0, yc1, _, _, yb, _, _, _, _, _⟩ := hry.open
  have H1 := Lib.hid h1
  clear k3 hk3 hy3 hry hn hne hzy h1 h2 h3 Hg1 Hx2 K1 K2 K3 Ha Hb
  by_cases hs : b < 0
  · obtain rfl : neg = true := H1.out.2 (Hs.out.2 hs)
    have Hr := Lib.hid (rat_neg a b hs)
    go_wp2_with fail
    refine (neg_any _ w1.heap.size 0 w1.heap.size 0 _ Hx3.out.hdr Hx3.out Ha1.out).mono ?_
    rintro e w4 ⟨rfl, hk4, hi4⟩
    have Hy4 := Lib.hid (Hy3.out.keep hk4 (Hx3.out.hdr.off (.inl (by omega))))
    have Hz4 : Hid (IsRHdr w4 bz oz) := Lib.hid ⟨Hz3.out.1.keep hk4 (Hx3.out.hdr.off (.inl (by omega))), Hz3.out.2.keep hk4 (Hx3.out.hdr.off (.inl (by omega)))⟩
    have Hk4 := Lib.hid (K03.out.trans hk4 fun n o hn h => by have := h.1; omega)
    have Hx4 := Lib.hid hi4
    clear hk4 hi4
    go_wp2_with fail
    refine (neg_any _ w2.heap.size 0 w2.heap.size 0 _ Hy4.out.hdr Hy4.out Hb1.out).mono ?_
    rintro e w5 ⟨rfl, hk5, hi5⟩
    have Hx5 := Lib.hid (Hx4.out.keep hk5 (Hy4.out.hdr.off (.inl (by omega))))
    have Hz5 : Hid (IsRHdr w5 bz oz) := Lib.hid ⟨Hz4.out.1.keep hk5 (Hy4.out.hdr.off (.inl (by omega))), Hz4.out.2.keep hk5 (Hy4.out.hdr.off (.inl (by omega)))⟩
    have Hk5 := Lib.hid (Hk4.out.trans hk5 fun n o hn h => by have := h.1; omega)
    have Hy5 := Lib.hid hi5
    have Ha2 : Hid ((-(a.tdiv (Nat.gcd a.natAbs b.natAbs : Nat))).natAbs < BIG) := Lib.hid (by rw [Int.natAbs_neg]; exact Ha1.out)
    have Hb2 : Hid ((-(b.tdiv (Nat.gcd a.natAbs b.natAbs : Nat))).natAbs < BIG) := Lib.hid (by rw [Int.natAbs_neg]; exact Hb1.out)
    clear hk5 hi5 yc0 yc1 yb
    go_wp2_with fail
    refine (set_any _ bz oz w1.heap.size 0 _ Hz5.out.1 Hx5.out Ha2.out).mono ?_
    rintro e w6 ⟨rfl, hk6, hi6⟩
    have Hy6 := Lib.hid (Hy5.out.keep hk6 (Hz5.out.1.off (.inl (by omega))))
    have Hz6 := Lib.hid (Hz5.out.2.keep hk6 (Hz5.out.1.off (.inr (.inr (by omega)))))
    have Hk6 := Lib.hid hk6
    have Hi6 := Lib.hid hi6
    clear hk6 hi6
    go_wp2_with fail
    refine (set_any _ bz (oz + 2) w2.heap.size 0 _ Hz6.out Hy6.out Hb2.out).mono ?_
    rintro e w7 ⟨rfl, hk7, hi7⟩
    have Hi7 := Lib.hid (Hi6.out.keep hk7 (Hz6.out.off (.inr (.inl (by omega)))))
    have Hk7 := Lib.hid hk7
    have Hj7 := Lib.hid hi7
    clear hk7 hi7
    go_wp2
    go_returns
    refine ⟨rfl, (Hk5.out.any.trans Hk6.out fun _ _ _ h => .inl h).trans Hk7.out fun _ _ _ h => .inr h, ?_, ?_⟩
    · rw [Hr.out.1]; exact Hi7.out
    · rw [Hr.out.2]; exact Hj7.out
  · obtain rfl : neg = false := by
      cases neg
      · rfl
      · exact absurd (Hs.out.1 (H1.out.1 rfl)) hs
    have Hr := Lib.hid (rat_pos a b (by omega))
    go_wp2_with fail
    refine (set_any _ bz oz w1.heap.size 0 _ Hz3.out.1 Hx3.out Ha1.out).mono ?_
    rintro e w6 ⟨rfl, hk6, hi6⟩
    have Hy6 := Lib.hid (Hy3.out.keep hk6 (Hz3.out.1.off (.inl (by omega))))
    have Hz6 := Lib.hid (Hz3.out.2.keep hk6 (Hz3.out.1.off (.inr (.inr (by omega)))))
    have Hk6 := Lib.hid hk6
    have Hi6 := Lib.hid hi6
    clear hk6 hi6
    go_wp2_with fail
    refine (set_any _ bz (oz + 2) w2.heap.size 0 _ Hz6.out Hy6.out Hb1.out).mono ?_
    rintro e w7 ⟨rfl, hk7, hi7⟩
    have Hi7 := Lib.hid (Hi6.out.keep hk7 (Hz6.out.off (.inr (.inl (by omega)))))
    have Hk7 := Lib.hid hk7
    have Hj7 := Lib.hid hi7
    clear hk7 hi7
    go_wp2
    go_returns
    refine ⟨rfl, (K03.out.any.trans Hk6.out fun _ _ _ h => .inl h).trans Hk7.out fun _ _ _ h => .inr h, ?_, ?_⟩
    · rw [Hr.out.1]; exact Hi7.out
    · rw [Hr.out.2]; exact Hj7.out

end Go.Proofs.Ytihcbmkjfacooaa
