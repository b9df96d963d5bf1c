/- Contracts of the wide numbers: common divisor, quotient; of machine size. -/
import Derived.Test.YtihcbmkjfacooaaWideE
namespace Go.Proofs.Ytihcbmkjfacooaa
open Go.ChangeShapes Go.WideShapes Go.RowKit
set_option linter.unusedVariables false
set_option linter.unusedSimpArgs false

theorem IsInt.ofNewer {w w' : World} {b o : Nat} {z : Int} (h : IsInt w b o z) (k : Keep NoS w w') : IsInt w' b o z := h.keep k (Off.noS _ _ _)
theorem IsHdr.ofNewer {w w' : World} {b o : Nat} (h : IsHdr w b o) (k : Keep NoS w w') : IsHdr w' b o := h.keep k (Off.noS _ _ _)

set_option maxHeartbeats 4000000 in
theorem gcdI_small (w : World) (bz oz ba oa bb ob : Nat) (x y : Int) (hz : IsHdr w bz oz) (hx : IsInt w ba oa x) (hy : IsInt w bb ob y)
    (hsx : x.natAbs < 18446744073709551616) (hsy : y.natAbs < 18446744073709551616) :
    Calls Try.prog 107 #[.pointer (some ⟨bz, oz, none⟩), .pointer none, .pointer none, .pointer (some ⟨ba, oa, none⟩), .pointer (some ⟨bb, ob, none⟩)] w fun e w' =>
      e = .returned (.pointer (some ⟨bz, oz, none⟩)) ∧ Keep (At bz oz) w w' ∧ IsInt w' bz oz (Nat.gcd x.natAbs y.natAbs : Nat) := by
  have hbx : x.natAbs < BIG := lt_BIG (k := 2) (by omega) (by omega)
  have hby : y.natAbs < BIG := lt_BIG (k := 2) (by omega) (by omega)
  have hbn : ((x.natAbs : Nat) : Int).natAbs < BIG := by simpa using hbx
  have Hz := Lib.hid hz
  have Hx := Lib.hid hx
  have Hy := Lib.hid hy
  have Hbx := Lib.hid hbx
  have Hby := Lib.hid hby
  have Hbn := Lib.hid hbn
  have hzl := hz.lt
  clear hz hx hy hbx hby hbn
  go_enter Try.func107, Try.ntmps107
  go_wp2_with fail
  have k1 : Keep NoS w (w.alloc (.cells #[.bool false, .slice none 0 0] 74)) := (Keep.refl _ _).alloc _
  refine (abs_any _ w.heap.size 0 ba oa x (hdr_new w) (Hx.out.ofNewer k1) Hbx.out).mono ?_
  rintro e w1 ⟨rfl, hk1, hp1⟩
  have K1 := Lib.hid (k1.trans hk1 fun n o hn h => by have := h.1; omega)
  have Hp1 := Lib.hid hp1
  have hs1 : w.heap.size + 1 ≤ w1.heap.size := by have := hk1.size; simpa using this
  clear k1 hk1 hp1
  go_wp2_with fail
  have k2 : Keep NoS w1 (w1.alloc (.cells #[.bool false, .slice none 0 0] 74)) := (Keep.refl _ _).alloc _
  refine (abs_any _ w1.heap.size 0 bb ob y (hdr_new w1) ((Hy.out.ofNewer K1.out).ofNewer k2) Hby.out).mono ?_
  rintro e w2 ⟨rfl, hk2, hq2⟩
  have k2' : Keep NoS w1 w2 := k2.trans hk2 fun n o hn h => by have := h.1; omega
  have K2 := Lib.hid (K1.out.trans k2' fun _ _ _ h => h)
  have Hp2 := Lib.hid (Hp1.out.ofNewer k2')
  have Hq2 := Lib.hid hq2
  clear k2 hk2 hq2 k2'
  go_wp2_with fail
  refine wp_loop_rounds 1 ?_
  rw [rounds_succ]
  go_wp2_with fail
  refine (sign_any _ w1.heap.size 0 _ Hq2.out).mono ?_
  rintro e w3 ⟨rfl, rfl⟩
  by_cases hy0 : y.natAbs = 0
  · have hsg : ((y.natAbs : Nat) : Int).sign = 0 := by rw [hy0]; rfl
    have Hsg := Lib.hid hsg
    have Hy0 := Lib.hid hy0
    clear hsg hy0
    rw [Hsg.out]
    go_wp2_with fail
    refine (set_any _ bz oz w.heap.size 0 _ (Hz.out.ofNewer K2.out) Hp2.out Hbn.out).mono ?_
    rintro e w3 ⟨rfl, hk3, hi3⟩
    go_wp2
    go_returns
    refine ⟨rfl, K2.out.any.trans hk3 fun _ _ _ h => h, ?_⟩
    rw [Hy0.out, Nat.gcd_zero_right]; exact hi3
  · have hsg : ((y.natAbs : Nat) : Int).sign = 1 := Int.sign_eq_one_of_pos (by omega)
    have Hsg := Lib.hid hsg
    rw [Hsg.out]
    obtain ⟨neg, ds, hrx, hn, hne, hzx, h1, h2, h3⟩ := Hp2.out.open
    obtain ⟨neg', ds', hry, hn', hne', hzy, h1', h2', h3'⟩ := Hq2.out.open
    have hl3 : decide ((ds.length : Int) < 3) = true := dec_t (by have := len_lt3 hn (by rw [h3]; simpa using hsx); omega)
    have hl3' : decide ((ds'.length : Int) < 3) = true := dec_t (by have := len_lt3 hn' (by rw [h3']; simpa using hsy); omega)
    obtain ⟨g, cap, xc0, xc1, _, _, xb, _, _, _, _, _⟩ := hrx.open
    obtain ⟨g', cap', yc0, yc1, _, _, yb, _, _, _, _, _⟩ := hry.open
    have UX := uint64_any w2 w.heap.size 0 _ Hp2.out
    have UY := uint64_any w2 w1.heap.size 0 _ Hq2.out
    rw [show ((x.natAbs : Nat) : Int).natAbs % 18446744073709551616 = x.natAbs from by simp; omega] at UX
    rw [show ((y.natAbs : Nat) : Int).natAbs % 18446744073709551616 = y.natAbs from by simp; omega] at UY
    have HUX := Lib.hid UX
    have HUY := Lib.hid UY
    clear hsg UX UY hrx hry hn hne hzx h1 h2 h3 hn' hne' hzy h1' h2' h3'
    go_wp2_with fail
    refine HUX.out.mono ?_
    rintro e w3 ⟨rfl, rfl⟩
    go_wp2_with fail
    refine HUY.out.mono ?_
    rintro e w3 ⟨rfl, rfl⟩
    clear HUX HUY Hsg hl3 hl3' Hp2 Hq2 Hp1 xc0 xc1 yc0 yc1 hy0 Hx Hy Hbx Hby Hbn
    generalize hX : x.natAbs = X at *
    generalize hY : y.natAbs = Y at *
    have HX := Lib.hid hX
    have HY := Lib.hid hY
    clear hX hY
    go_wp2_with fail
    go_loopw [13, 14] (fun c d wr => ∃ p q : Nat, c = .int .u64 p ∧ d = .int .u64 q ∧ p < 18446744073709551616 ∧ q < 18446744073709551616 ∧ Nat.gcd p q = Nat.gcd X Y ∧ ∃ n, wr = w2.drewN n) (fun _ d _ => (intOf d).toNat)
    case atStart => exact ⟨X, Y, rfl, rfl, hsx, hsy, rfl, 0, rfl⟩
    case round =>
      obtain ⟨p, q, rfl, rfl, hp, hq, hg, n, rfl⟩ := hrel
      have Hg := Lib.hid hg; clear hg
      by_cases h0 : q = 0
      · subst h0
        go_wp2_with fail
        refine (setUint64_any _ bz oz p ((Hz.out.ofNewer K2.out).ofNewer ((Keep.refl NoS w2).drewN n)) hp).mono ?_
        rintro e w3 ⟨rfl, hk3, hi3⟩
        go_wp2
        go_returns
        refine ⟨rfl, ((K2.out.trans ((Keep.refl NoS w2).drewN n) fun _ _ _ h => h).any).trans hk3 fun _ _ _ h => h, ?_⟩
        rw [HX.out, HY.out, ← Hg.out]; simpa using hi3
      · have hq0 : ((0 : Int) < (q : Int)) := by omega
        have hm : p % q < q := Nat.mod_lt _ (by omega)
        go_wp2_with fail
        go_quiet (fail)
        go_wp2_with fail
        go_roundw
        case rel => exact ⟨q, p % q, rfl, by simp, hq, by omega, by rw [← Hg.out, Nat.gcd_comm p q, Nat.gcd_rec q p, Nat.gcd_comm], n + nq, by simp⟩
        case measure => simp [intOf]; omega

set_option maxHeartbeats 4000000 in
theorem quo_small (w : World) (bz oz bx ox by' oy : Nat) (x y : Int) (hz : IsHdr w bz oz) (hx : IsInt w bx ox x) (hy : IsInt w by' oy y) (hy0 : y ≠ 0)
    (hsx : x.natAbs < 18446744073709551616) (hsy : y.natAbs < 18446744073709551616) :
    Calls Try.prog 130 #[.pointer (some ⟨bz, oz, none⟩), .pointer (some ⟨bx, ox, none⟩), .pointer (some ⟨by', oy, none⟩)] w fun e w' =>
      e = .returned (.pointer (some ⟨bz, oz, none⟩)) ∧ Keep (At bz oz) w w' ∧ IsInt w' bz oz (x.tdiv y) := by
  have Hz := Lib.hid hz
  have Hx := Lib.hid hx
  have Hy := Lib.hid hy
  have hzl := hz.lt
  clear hz hx hy
  go_enter Try.func130, Try.ntmps130
  go_wp2_with fail
  have k1 : Keep NoS w (w.alloc (.cells #[.bool false, .slice none 0 0] 74)) := (Keep.refl _ _).alloc _
  refine (quoRem_small _ bz oz bx ox by' oy w.heap.size 0 x y (Hz.out.ofNewer k1) (hdr_new w) (.inl (by omega)) (Hx.out.ofNewer k1) (Hy.out.ofNewer k1) hy0 hsx hsy).mono ?_
  rintro e w1 ⟨rfl, hk1, hq, hr⟩
  have Hk := Lib.hid (k1.any (S := At bz oz) |>.trans hk1 fun n o hn h => by rcases h with h | h; exact h; have := h.1; omega)
  have Hq := Lib.hid hq
  clear hk1 hq hr k1 hy0
  go_wp2
  go_returns
  exact ⟨rfl, Hk.out, Hq.out⟩

end Go.Proofs.Ytihcbmkjfacooaa
