/- Wide fractions: numerator, denominator; FracOf, FracMade. -/
import Derived.Test.YtihcbmkjfacooaaRat
namespace Go.Proofs.Ytihcbmkjfacooaa
open Go.ChangeShapes Go.WideShapes Go.RowKit
set_option linter.unusedVariables false
set_option linter.unusedSimpArgs false

theorem gcd_of_small (a b : Int) (ha : a.natAbs < 18446744073709551616) (hb : b.natAbs < 18446744073709551616) : GcdOf a b :=
  fun w bz oz ba oa bb ob hz hx hy => gcdI_small w bz oz ba oa bb ob a b hz hx hy ha hb
theorem quo_of_small (a b : Int) (hb0 : b ≠ 0) (ha : a.natAbs < 18446744073709551616) (hb : b.natAbs < 18446744073709551616) : QuoOf a b :=
  fun w bz oz ba oa bb ob hz hx hy => quo_small w bz oz ba oa bb ob a b hz hx hy hb0 ha hb

theorem setFrac_small (w : World) (bz oz ba oa bb ob : Nat) (a b : Int) (hz : IsRHdr w bz oz) (ha : IsInt w ba oa a) (hb : IsInt w bb ob b) (hb0 : b ≠ 0)
    (ha1 : a.natAbs < 18446744073709551616) (hb1 : b.natAbs < 18446744073709551616) :
    Calls Try.prog 100 #[.pointer (some ⟨bz, oz, none⟩), .pointer (some ⟨ba, oa, none⟩), .pointer (some ⟨bb, ob, none⟩)] w fun e w' =>
      e = .returned (.pointer (some ⟨bz, oz, none⟩)) ∧ Keep (AtR bz oz) w w' ∧ IsRat w' bz oz (Rat.divInt a b) := by
  have hg0 : 0 < Nat.gcd a.natAbs b.natAbs := Nat.gcd_pos_of_pos_right _ (by omega)
  have hg1 : Nat.gcd a.natAbs b.natAbs ≤ b.natAbs := Nat.gcd_le_right _ (by omega)
  exact setFrac_of w bz oz ba oa bb ob a b hz ha hb hb0 (lt_BIG (k := 2) (by omega) (by omega)) (lt_BIG (k := 2) (by omega) (by omega)) (gcd_of_small a b ha1 hb1)
    (quo_of_small _ _ (by omega) ha1 (by simp; omega)) (quo_of_small _ _ (by omega) hb1 (by simp; omega))

/-- A new whole number z comes back. -/
def NewZ (z : Int) (w : World) (e : Ending) (w' : World) : Prop := ∃ b, w.heap.size ≤ b ∧ e = .returned (.pointer (some ⟨b, 0, none⟩)) ∧ Keep NoS w w' ∧ IsInt w' b 0 z

set_option maxHeartbeats 2000000 in
theorem num_any (w : World) (b o : Nat) (q : Rat) (h : IsRat w b o q) (hn : q.num.natAbs < BIG) : Calls Try.prog 96 #[.pointer (some ⟨b, o, none⟩)] w (NewZ q.num w) := by
  have H := Lib.hid h
  have Hn := Lib.hid hn
  clear h hn
  go_enter Try.func96, Try.ntmps96
  go_wp2_with fail
  have k1 : Keep NoS w (w.alloc (.cells intCells 74)) := (Keep.refl _ _).alloc _
  refine (set_any _ w.heap.size 0 b o _ (hdr_new w) (H.out.1.ofNewer k1) Hn.out).mono ?_
  rintro e w1 ⟨rfl, hk1, hi1⟩
  have K1 := Lib.hid (k1.trans hk1 fun n o hn h => by have := h.1; omega)
  have Hi := Lib.hid hi1
  clear k1 hk1 hi1
  go_wp2
  go_returns
  exact ⟨_, Nat.le_refl _, rfl, K1.out, Hi.out⟩

set_option maxHeartbeats 2000000 in
theorem denom_any (w : World) (b o : Nat) (q : Rat) (h : IsRat w b o q) (hn : q.den < BIG) : Calls Try.prog 81 #[.pointer (some ⟨b, o, none⟩)] w (NewZ q.den w) := by
  have hp : (q.den : Int).sign = 1 := Int.sign_eq_one_of_pos (by have := q.den_pos; omega)
  have Hp := Lib.hid hp
  have H := Lib.hid h
  have Hn : Hid ((q.den : Int).natAbs < BIG) := Lib.hid (by simpa using hn)
  clear h hn hp
  go_enter Try.func81, Try.ntmps81
  go_wp2_with fail
  refine (sign_any _ b (o + 2) _ H.out.2).mono ?_
  rintro e w1 ⟨rfl, rfl⟩
  rw [Hp.out]
  go_wp2_with fail
  have k1 : Keep NoS w (w.alloc (.cells intCells 74)) := (Keep.refl _ _).alloc _
  refine (set_any _ w.heap.size 0 b (o + 2) _ (hdr_new w) (H.out.2.ofNewer k1) Hn.out).mono ?_
  rintro e w1 ⟨rfl, hk1, hi1⟩
  have K1 := Lib.hid (k1.trans hk1 fun n o hn h => by have := h.1; omega)
  have Hi := Lib.hid hi1
  clear k1 hk1 hi1
  go_wp2
  go_returns
  exact ⟨_, Nat.le_refl _, rfl, K1.out, Hi.out⟩

theorem cmpN_gt (a b : Nat) : decide (0 < cmpN a b) = decide (b < a) := by
  unfold cmpN
  rw [decide_eq_decide]
  split
  · omega
  · split <;> omega

/-- A fraction that fits the program's own. -/
def Fits (q : Rat) : Prop := q.num.natAbs ≤ 1073741824 ∧ q.den ≤ 1073741824
instance (q : Rat) : Decidable (Fits q) := by unfold Fits; infer_instance
def fracOfV (q : Rat) : Value := if Fits q then .tuple #[fracV q.num q.den, .bool true] else .tuple #[fracV 0 0, .bool false]
def fracMadeV (q : Rat) : Value := if Fits q then .tuple #[fracV q.num q.den, faultV 0 0] else .tuple #[fracV 0 0, faultV 10 0]

theorem keep_drewN (w : World) (n : Nat) : Keep NoS w (w.drewN n) := (Keep.refl NoS w).drewN n

theorem Keep.cell {w w' : World} (h : Keep NoS w w') {k i : Nat} (hk : k < w.heap.size) : w'.cell? ⟨k, i, none⟩ = w.cell? ⟨k, i, none⟩ := World.cell?_of_block (w := w) (h.block k hk fun _ h => h)
theorem Keep.frozen {w w' : World} (h : Keep NoS w w') {k i : Nat} (hk : k < w.heap.size) : w'.frozen? ⟨k, i, none⟩ = w.frozen? ⟨k, i, none⟩ := World.frozen?_of_block (w := w) (h.block k hk fun _ h => h)

set_option maxHeartbeats 8000000 in
theorem fracOf_any (w : World) (b o : Nat) (q : Rat) (h : IsRat w b o q) (hn : q.num.natAbs < BIG) (hd : q.den < BIG) :
    Calls Try.prog 45 #[.pointer (some ⟨b, o, none⟩)] w fun e w' => e = .returned (fracOfV q) ∧ Keep NoS w w' := by
  have H := Lib.hid h
  have Hn := Lib.hid hn
  have Hd := Lib.hid hd
  clear h hn hd
  go_enter Try.func45, Try.ntmps45
  go_wp2_with fail
  have k0 : Keep NoS w (w.alloc (.cells #[.int .i64 0, .int .i64 0] 38)) := (Keep.refl _ _).alloc _
  have H0 := Lib.hid (H.out.ofNewer k0)
  have c0 : (w.alloc (.cells #[.int .i64 0, .int .i64 0] 38)).cell? ⟨w.heap.size, 0, none⟩ = some (.int .i64 0) := by simp
  have c1 : (w.alloc (.cells #[.int .i64 0, .int .i64 0] 38)).cell? ⟨w.heap.size, 1, none⟩ = some (.int .i64 0) := by simp
  have f0 : (w.alloc (.cells #[.int .i64 0, .int .i64 0] 38)).frozen? ⟨w.heap.size, 0, none⟩ = false := by simp
  have f1 : (w.alloc (.cells #[.int .i64 0, .int .i64 0] 38)).frozen? ⟨w.heap.size, 1, none⟩ = false := by simp
  have hs0 : w.heap.size < (w.alloc (.cells #[.int .i64 0, .int .i64 0] 38)).heap.size := by simp
  have HK0 := Lib.hid k0
  clear k0
  generalize w.alloc (.cells #[.int .i64 0, .int .i64 0] 38) = w0 at *
  refine (num_any w0 b o q H0.out Hn.out).mono ?_
  rintro e w1 ⟨bn, hbn, rfl, hk1, hi1⟩
  have HK1 := Lib.hid hk1
  have Hi1 := Lib.hid hi1
  clear hk1 hi1 hbn
  go_wp2_with fail
  refine (denom_any w1 b o q (H0.out.ofNewer HK1.out) Hd.out).mono ?_
  rintro e w2 ⟨bd, hbd, rfl, hk2, hi2⟩
  have HK2 := Lib.hid hk2
  have Hi2 := Lib.hid hi2
  clear hk2 hi2 hbd
  go_wp2_with fail
  refine (newInt_any w2 1073741824 (by omega) (by omega)).mono ?_
  rintro e w3 ⟨bm, hbm, rfl, hk3, hi3⟩
  have HK3 := Lib.hid ((HK1.out.trans HK2.out fun _ _ _ h => h).trans hk3 fun _ _ _ h => h)
  have In3 := Lib.hid ((Hi1.out.ofNewer HK2.out).ofNewer hk3)
  have Id3 := Lib.hid (Hi2.out.ofNewer hk3)
  have Im3 := Lib.hid hi3
  clear hk3 hi3 hbm HK1 HK2 Hi1 Hi2 H0
  have fin : ∀ n, w.heap.size < (w3.drewN n).heap.size ∧ (w3.drewN n).cell? ⟨w.heap.size, 0, none⟩ = some (.int .i64 0) ∧ (w3.drewN n).cell? ⟨w.heap.size, 1, none⟩ = some (.int .i64 0) ∧
      (w3.drewN n).frozen? ⟨w.heap.size, 0, none⟩ = false ∧ (w3.drewN n).frozen? ⟨w.heap.size, 1, none⟩ = false ∧ Keep NoS w (w3.drewN n) ∧ IsInt (w3.drewN n) bn 0 q.num ∧ IsInt (w3.drewN n) bd 0 q.den ∧ IsInt (w3.drewN n) bm 0 1073741824 := fun n => by
    have k := HK3.out.trans (keep_drewN w3 n) fun _ _ _ h => h
    exact ⟨Nat.lt_of_lt_of_le hs0 k.size, (k.cell hs0).trans c0, (k.cell hs0).trans c1, (k.frozen hs0).trans f0, (k.frozen hs0).trans f1, HK0.out.trans k fun _ _ _ h => h,
      In3.out.ofNewer (keep_drewN w3 n), Id3.out.ofNewer (keep_drewN w3 n), Im3.out.ofNewer (keep_drewN w3 n)⟩
  have HF := Lib.hid fin
  have C1 := Lib.hid (cmpAbs_any w3 bn 0 bm 0 _ _ In3.out Im3.out)
  clear fin c0 c1 f0 f1
  by_cases h1 : q.num.natAbs ≤ 1073741824
  · have e1 : decide (0 < cmpN q.num.natAbs 1073741824) = false := by rw [cmpN_gt]; exact dec_f (by omega)
    have C2 : ∀ n, Hid (Calls Try.prog 97 #[.pointer (some ⟨bd, 0, none⟩), .pointer (some ⟨bm, 0, none⟩)] (w3.drewN n) fun e w' => e = .returned (.int .i64 (cmpN q.den 1073741824)) ∧ ∃ m, w' = w3.drewN m) :=
      fun n => Lib.hid ((cmpAbs_any _ bd 0 bm 0 _ _ (HF.out n).2.2.2.2.2.2.2.1 (HF.out n).2.2.2.2.2.2.2.2).mono fun e w' ⟨he, m, hm⟩ => ⟨by simpa using he, n + m, by rw [hm, World.drewN_drewN]⟩)
    go_wp2_with fail
    refine C1.out.mono ?_
    rintro e w4 ⟨rfl, n, rfl⟩
    go_wp2_with fail
    refine (C2 n).out.mono ?_
    rintro e w4 ⟨rfl, m, rfl⟩
    obtain ⟨hsz, c0, c1, f0, f1, hk, hin, hid, _⟩ := HF.out m
    have HK := Lib.hid hk
    by_cases h2 : q.den ≤ 1073741824
    · have e2 : decide (0 < cmpN q.den 1073741824) = false := by rw [cmpN_gt]; exact dec_f (by omega)
      have HV : Hid (fracOfV q = .tuple #[fracV q.num q.den, .bool true]) := Lib.hid (if_pos ⟨h1, h2⟩)
      have I1 := Lib.hid (int64_any (w3.drewN m) bn 0 _ hin (by omega) (by omega))
      have I2 := Lib.hid (int64_any (w3.drewN m) bd 0 _ hid (by omega) (by omega))
      clear C1 C2 HF hin hid hk h1 h2
      generalize w3.drewN m = w4 at *
      go_wp2_with fail
      refine I1.out.mono ?_
      rintro e w5 ⟨rfl, rfl⟩
      go_wp2_with fail
      refine I2.out.mono ?_
      rintro e w5 ⟨rfl, rfl⟩
      go_wp2
      rw [HV.out]
      refine bodyPost_ret (by simp [results, Try.results45, go_sem, c0, c1]; rfl) rfl ?_
      exact ⟨rfl, (HK.out.setCell _ fun h => absurd h (by omega)).setCell _ fun h => absurd h (by omega)⟩
    · have e2 : decide (0 < cmpN q.den 1073741824) = true := by rw [cmpN_gt]; exact dec_t (by omega)
      have HV : Hid (fracOfV q = .tuple #[fracV 0 0, .bool false]) := Lib.hid (if_neg fun h => h2 h.2)
      clear C1 C2 HF hin hid hk h1 h2
      generalize w3.drewN m = w4 at *
      go_wp2
      rw [HV.out]
      refine bodyPost_ret (by simp [results, Try.results45, go_sem, c0, c1]; rfl) rfl ?_
      exact ⟨rfl, (HK.out.setCell _ fun h => absurd h (by omega)).setCell _ fun h => absurd h (by omega)⟩
  · have e1 : decide (0 < cmpN q.num.natAbs 1073741824) = true := by rw [cmpN_gt]; exact dec_t (by omega)
    have HV : Hid (fracOfV q = .tuple #[fracV 0 0, .bool false]) := Lib.hid (if_neg fun h => h1 h.1)
    go_wp2_with fail
    refine C1.out.mono ?_
    rintro e w4 ⟨rfl, n, rfl⟩
    obtain ⟨hsz, c0, c1, f0, f1, hk, hin, hid, _⟩ := HF.out n
    have HK := Lib.hid hk
    clear C1 HF hin hid hk h1
    generalize w3.drewN n = w4 at *
    go_wp2
    rw [HV.out]
    refine bodyPost_ret (by simp [results, Try.results45, go_sem, c0, c1]; rfl) rfl ?_
    exact ⟨rfl, (HK.out.setCell _ fun h => absurd h (by omega)).setCell _ fun h => absurd h (by omega)⟩

/-- Two blocks just laid: what a later world holds there. -/
theorem blocks2 {w w1 : World} {A1 A2 : Array Value} {T1 T2 : TypeId} (k : Keep NoS ((w.alloc (.cells A1 T1)).alloc (.cells A2 T2)) w1) :
    w.heap.size + 1 < w1.heap.size ∧ (∀ i, w1.cell? ⟨w.heap.size, i, none⟩ = A1[i]?) ∧ (∀ i, w1.cell? ⟨w.heap.size + 1, i, none⟩ = A2[i]?) ∧
    (∀ i, w1.frozen? ⟨w.heap.size, i, none⟩ = false) ∧ (∀ i, w1.frozen? ⟨w.heap.size + 1, i, none⟩ = false) ∧ Keep NoS w w1 := by
  have e1 : w.heap.size < ((w.alloc (.cells A1 T1)).alloc (.cells A2 T2)).heap.size := by simp; omega
  have e2 : w.heap.size + 1 < ((w.alloc (.cells A1 T1)).alloc (.cells A2 T2)).heap.size := by simp
  have k0 : Keep NoS w ((w.alloc (.cells A1 T1)).alloc (.cells A2 T2)) := ((Keep.refl _ _).alloc _).alloc _
  refine ⟨Nat.lt_of_lt_of_le e2 k.size, fun i => ?_, fun i => ?_, fun i => ?_, fun i => ?_, k0.trans k fun _ _ _ h => h⟩
  · rw [k.cell e1]; simp [go_sem]
  · rw [k.cell e2]; simp [go_sem]
  · rw [k.frozen e1]; simp [go_sem]
  · rw [k.frozen e2]; simp [go_sem]

/-- Two result blocks of two integers each, just laid: what a later world holds there. -/
theorem two_blocks {w w1 : World} {T1 T2 : TypeId} (k : Keep NoS ((w.alloc (.cells #[.int .i64 0, .int .i64 0] T1)).alloc (.cells #[.int .i64 0, .int .i64 0] T2)) w1) :
    w.heap.size + 1 < w1.heap.size ∧ w1.cell? ⟨w.heap.size, 0, none⟩ = some (.int .i64 0) ∧ w1.cell? ⟨w.heap.size, 1, none⟩ = some (.int .i64 0) ∧ w1.cell? ⟨w.heap.size + 1, 0, none⟩ = some (.int .i64 0) ∧ w1.cell? ⟨w.heap.size + 1, 1, none⟩ = some (.int .i64 0) ∧
    w1.frozen? ⟨w.heap.size, 0, none⟩ = false ∧ w1.frozen? ⟨w.heap.size, 1, none⟩ = false ∧ w1.frozen? ⟨w.heap.size + 1, 0, none⟩ = false ∧ w1.frozen? ⟨w.heap.size + 1, 1, none⟩ = false ∧ Keep NoS w w1 := by
  have e1 : w.heap.size < ((w.alloc (.cells #[.int .i64 0, .int .i64 0] T1)).alloc (.cells #[.int .i64 0, .int .i64 0] T2)).heap.size := by simp; omega
  have e2 : w.heap.size + 1 < ((w.alloc (.cells #[.int .i64 0, .int .i64 0] T1)).alloc (.cells #[.int .i64 0, .int .i64 0] T2)).heap.size := by simp
  have k0 : Keep NoS w ((w.alloc (.cells #[.int .i64 0, .int .i64 0] T1)).alloc (.cells #[.int .i64 0, .int .i64 0] T2)) := ((Keep.refl _ _).alloc _).alloc _
  refine ⟨Nat.lt_of_lt_of_le e2 k.size, ?_, ?_, ?_, ?_, ?_, ?_, ?_, ?_, k0.trans k fun _ _ _ h => h⟩
  · rw [k.cell e1]; simp [go_sem]
  · rw [k.cell e1]; simp [go_sem]
  · rw [k.cell e2]; simp [go_sem]
  · rw [k.cell e2]; simp [go_sem]
  · rw [k.frozen e1]; simp [go_sem]
  · rw [k.frozen e1]; simp [go_sem]
  · rw [k.frozen e2]; simp [go_sem]
  · rw [k.frozen e2]; simp [go_sem]

set_option maxHeartbeats 8000000 in
theorem fracMade_any (w : World) (b o : Nat) (q : Rat) (h : IsRat w b o q) (hn : q.num.natAbs < BIG) (hd : q.den < BIG) :
    Calls Try.prog 40 #[.pointer (some ⟨b, o, none⟩)] w fun e w' => e = .returned (fracMadeV q) ∧ Keep NoS w w' := by
  have H := Lib.hid h
  have Hn := Lib.hid hn
  have Hd := Lib.hid hd
  clear h hn hd
  go_enter Try.func40, Try.ntmps40
  go_wp2_with fail
  have k0 : Keep NoS w ((w.alloc (.cells #[.int .i64 0, .int .i64 0] 38)).alloc (.cells #[.int .i64 0, .int .i64 0] 26)) := ((Keep.refl _ _).alloc _).alloc _
  refine (fracOf_any _ b o q (H.out.ofNewer k0) Hn.out Hd.out).mono ?_
  rintro e w1 ⟨rfl, hk1⟩
  obtain ⟨hsz, c0, c1, c2, c3, f0, f1, f2, f3, hk⟩ := two_blocks hk1
  have HK := Lib.hid hk
  clear hk1 hk k0
  have hs1 : w.heap.size < w1.heap.size := by omega
  have n1 : ¬ w1.heap.size = w.heap.size := by omega
  have n2 : ¬ w1.heap.size = w.heap.size + 1 := by omega
  have n3 : ¬ w.heap.size = w1.heap.size := by omega
  have n4 : ¬ w.heap.size + 1 = w1.heap.size := by omega
  by_cases hf : Fits q
  · have hv : fracOfV q = .tuple #[.agg #[.int .i64 q.num, .int .i64 q.den], .bool true] := if_pos hf
    have HV : Hid (fracMadeV q = .tuple #[fracV q.num q.den, faultV 0 0]) := Lib.hid (if_pos hf)
    rw [hv]
    clear hv hf
    go_wp2
    rw [HV.out]
    refine bodyPost_ret (by simp [results, Try.results40, go_sem, c0, c1, c2, c3, hsz, hs1, n1, n2, n3, n4]; rfl) rfl ?_
    exact ⟨rfl, by (repeat' (first | (with_reducible assumption) | (with_reducible exact HK.out) | (with_reducible exact Keep.refl _ _) | (with_reducible refine Keep.alloc ?_ _) | (with_reducible refine Keep.setCell ?_ _ (fun h => absurd h (by omega))) | (with_reducible refine Keep.drewN ?_ _) | (with_reducible refine Keep.drew ?_)))⟩
  · have hv : fracOfV q = .tuple #[.agg #[.int .i64 0, .int .i64 0], .bool false] := if_neg hf
    have HV : Hid (fracMadeV q = .tuple #[fracV 0 0, faultV 10 0]) := Lib.hid (if_neg hf)
    rw [hv]
    clear hv hf
    go_wp2
    rw [HV.out]
    refine bodyPost_ret (by simp [results, Try.results40, go_sem, c0, c1, c2, c3, hsz, hs1, n1, n2, n3, n4]; rfl) rfl ?_
    exact ⟨rfl, by (repeat' (first | (with_reducible assumption) | (with_reducible exact HK.out) | (with_reducible exact Keep.refl _ _) | (with_reducible refine Keep.alloc ?_ _) | (with_reducible refine Keep.setCell ?_ _ (fun h => absurd h (by omega))) | (with_reducible refine Keep.drewN ?_ _) | (with_reducible refine Keep.drew ?_)))⟩

end Go.Proofs.Ytihcbmkjfacooaa
