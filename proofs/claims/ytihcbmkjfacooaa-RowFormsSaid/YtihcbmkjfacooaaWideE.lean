/- Contracts of the wide numbers: sign, quotient, common divisor. -/
import Derived.Test.YtihcbmkjfacooaaWideD
namespace Go.Proofs.Ytihcbmkjfacooaa
open Go.ChangeShapes Go.WideShapes Go.RowKit
set_option linter.unusedVariables false
set_option linter.unusedSimpArgs false

/-- Two numbers' places do not overlap. -/
def Dis (b o b' o' : Nat) : Prop := b' ≠ b ∨ o' + 1 < o ∨ o + 1 < o'
theorem Dis.symm {b o b' o' : Nat} (h : Dis b o b' o') : Dis b' o' b o := by unfold Dis at *; omega
def Or2 (S T : Nat → Nat → Prop) : Nat → Nat → Prop := fun k i => S k i ∨ T k i

set_option maxHeartbeats 2000000 in
theorem abs_any (w : World) (b o b' o' : Nat) (x : Int) (hz : IsHdr w b o) (hx : IsInt w b' o' x) (hbig : x.natAbs < BIG) :
    Calls Try.prog 136 #[.pointer (some ⟨b, o, none⟩), .pointer (some ⟨b', o', none⟩)] w fun e w' => e = .returned (.pointer (some ⟨b, o, none⟩)) ∧ Keep (At b o) w w' ∧ IsInt w' b o (x.natAbs : Nat) := by
  have S := Lib.hid (set_any w b o b' o' x hz hx hbig)
  clear hz hx hbig
  go_enter Try.func136, Try.ntmps136
  go_wp2_with fail
  refine S.out.mono ?_
  rintro e w1 ⟨rfl, hk, hi⟩
  obtain ⟨neg, a, m1, m2, hc0, hc1, hf0, hf1, hb⟩ := hi.hdr.open
  have Hi := Lib.hid hi; clear hi
  have Hk := Lib.hid hk; clear hk
  go_wp2
  go_returns
  exact ⟨rfl, Hk.out.setCell _ fun _ => at_l b o, int_setNeg Hi.out _ false (by simp) (by simp)⟩

set_option maxHeartbeats 2000000 in
theorem neg_any (w : World) (b o b' o' : Nat) (x : Int) (hz : IsHdr w b o) (hx : IsInt w b' o' x) (hbig : x.natAbs < BIG) :
    Calls Try.prog 131 #[.pointer (some ⟨b, o, none⟩), .pointer (some ⟨b', o', none⟩)] w fun e w' => e = .returned (.pointer (some ⟨b, o, none⟩)) ∧ Keep (At b o) w w' ∧ IsInt w' b o (-x) := by
  have S := Lib.hid (set_any w b o b' o' x hz hx hbig)
  clear hz hx hbig
  go_enter Try.func131, Try.ntmps131
  go_wp2_with fail
  refine S.out.mono ?_
  rintro e w1 ⟨rfl, hk, hi⟩
  obtain ⟨neg, ds, hr, hn, hne, hz0, h1, h2, h3⟩ := hi.open
  obtain ⟨g, cap, hc0, hc1, hlc, hcm, hb, hg, hgb, hf0, hf1, hdig⟩ := hr.open
  have Hi := Lib.hid hi; clear hi
  have Hk := Lib.hid hk; clear hk
  have H1 := Lib.hid h1; clear h1
  have H2 := Lib.hid h2; clear h2
  clear hdig hr hn hne hz0 h3 hcm
  cases neg
  · go_wp2
    go_returns
    refine ⟨rfl, Hk.out.setCell _ fun _ => at_l b o, int_setNeg Hi.out _ _ (by simp) ?_⟩
    have h1 := H1.out
    have h2 := H2.out
    simp only [Bool.false_eq_true, false_iff] at h1
    rw [decide_eq_decide, List.length_pos_iff]
    constructor
    · intro h; have : x ≠ 0 := fun e => h (h2.2 e)
      omega
    · intro h e; have := h2.1 e
      omega
  · go_wp2
    go_returns
    refine ⟨rfl, Hk.out.setCell _ fun _ => at_l b o, int_setNeg Hi.out _ false (by simp) ?_⟩
    have := H1.out
    simp at this
    simp
    omega

theorem IsInt.nat {w : World} {b o n : Nat} (h : IsInt w b o (n : Int)) : ∃ ds, IsRaw w b o false ds ∧ dval ds = n := by
  obtain ⟨neg, ds, hr, hn, hne, hz, h1, h2, h3⟩ := h.open
  obtain rfl : neg = false := by
    cases neg
    · rfl
    · have := h1.1 rfl; omega
  exact ⟨ds, hr, by simpa using h3⟩

theorem len_lt3 {ds : List Nat} (h : NoEnd ds) (hb : dval ds < 18446744073709551616) : ds.length < 3 := by
  by_cases h0 : ds = []
  · subst h0; simp
  · have h1 := dval_ge ds h h0
    have h2 : 4294967296 ^ (ds.length - 1) < 4294967296 ^ 2 := by omega
    have := (Nat.pow_lt_pow_iff_right (a := 4294967296) (by omega)).1 h2
    omega

theorem len_ge3 {ds : List Nat} (hd : ∀ d ∈ ds, d < 4294967296) (hl : ds.length < 3) : dval ds < 18446744073709551616 := by
  have h1 := dval_lt ds hd
  have h2 : 4294967296 ^ ds.length ≤ 4294967296 ^ 2 := Nat.pow_le_pow_right (by omega) (by omega)
  omega

theorem sgn_quo (x y : Int) (a b : Bool) (ha : a = true ↔ x < 0) (hb : b = true ↔ y < 0) : sgn (a != b) (x.natAbs / y.natAbs) = x.tdiv y := by
  have hx : x = sgn a x.natAbs := by cases a <;> simp [sgn] at * <;> omega
  have hy : y = sgn b y.natAbs := by cases b <;> simp [sgn] at * <;> omega
  generalize x.natAbs = m at *
  generalize y.natAbs = n at *
  subst hx hy
  cases a <;> cases b <;> simp [sgn, Int.neg_tdiv, Int.tdiv_neg]

theorem sgn_rem (x y : Int) (a : Bool) (ha : a = true ↔ x < 0) : sgn a (x.natAbs % y.natAbs) = x.tmod y := by
  have hx : x = sgn a x.natAbs := by cases a <;> simp [sgn] at * <;> omega
  have hy : y.natAbs = y ∨ (y.natAbs : Int) = -y := by omega
  have key : ∀ (m n : Nat) (y : Int), (n : Int) = y ∨ (n : Int) = -y → (m : Int).tmod y = ((m % n : Nat) : Int) := by
    intro m n y h
    rcases h with h | h
    · subst h; rfl
    · have : y = -(n : Int) := by omega
      subst this
      rw [Int.tmod_neg]; rfl
  have h1 := key x.natAbs y.natAbs y hy
  cases a
  · have e : (x.natAbs : Int) = x := by simp [sgn] at hx; omega
    rw [e] at h1
    rw [h1]; simp [sgn]
  · have e : (x.natAbs : Int) = -x := by simp [sgn] at hx; omega
    rw [e, Int.neg_tmod] at h1
    simp only [sgn, if_true]
    omega


set_option maxHeartbeats 4000000 in
theorem quoRem_small (w : World) (bz oz bx ox by' oy br or : Nat) (x y : Int) (hz : IsHdr w bz oz) (hr : IsHdr w br or) (hzr : Dis bz oz br or) (hx : IsInt w bx ox x) (hy : IsInt w by' oy y) (hy0 : y ≠ 0)
    (hsx : x.natAbs < 18446744073709551616) (hsy : y.natAbs < 18446744073709551616) :
    Calls Try.prog 147 #[.pointer (some ⟨bz, oz, none⟩), .pointer (some ⟨bx, ox, none⟩), .pointer (some ⟨by', oy, none⟩), .pointer (some ⟨br, or, none⟩)] w fun e w' =>
      e = .returned (.tuple #[.pointer (some ⟨bz, oz, none⟩), .pointer (some ⟨br, or, none⟩)]) ∧ Keep (Or2 (At bz oz) (At br or)) w w' ∧ IsInt w' bz oz (x.tdiv y) ∧ IsInt w' br or (x.tmod y) := by
  have C := Lib.hid (cmpAbs_any w bx ox by' oy x y hx hy)
  by_cases hlt : x.natAbs < y.natAbs
  · have hcm : cmpN x.natAbs y.natAbs = -1 := by simp [cmpN, hlt]
    rw [hcm] at C
    have hbig : x.natAbs < BIG := lt_BIG (k := 2) (by omega) (by omega)
    have q0 : x.tdiv y = 0 := by
      rw [← sgn_quo x y (decide (x < 0)) (decide (y < 0)) (by simp) (by simp), Nat.div_eq_of_lt hlt]; simp [sgn]
    have r0 : x.tmod y = x := by
      rw [← sgn_rem x y (decide (x < 0)) (by simp), Nat.mod_eq_of_lt hlt]
      by_cases h : x < 0 <;> simp [sgn, h] <;> omega
    have Hz := Lib.hid hz
    have Hr := Lib.hid hr
    have Hx := Lib.hid hx
    have Hq := Lib.hid q0
    have Hm := Lib.hid r0
    have HB := Lib.hid hbig
    clear hz hr hx hy hcm hbig q0 r0 hlt
    go_enter Try.func147, Try.ntmps147
    go_wp2_with fail
    refine C.out.mono ?_
    rintro e w1 ⟨rfl, n, rfl⟩
    go_wp2_with fail
    refine (set_any _ br or bx ox x (Hr.out.keep ((Keep.refl NoS w).drewN n) (Off.noS _ _ _)) (Hx.out.keep ((Keep.refl NoS w).drewN n) (Off.noS _ _ _)) HB.out).mono ?_
    rintro e w2 ⟨rfl, hk2, hi2⟩
    have Hk2 := Lib.hid hk2
    have Hi2 := Lib.hid hi2
    clear hk2 hi2
    go_wp2_with fail
    refine (setInt64_any _ bz oz 0 (Hz.out.keep (((Keep.refl NoS w).drewN n).mono (S' := At br or) (fun _ _ _ h => h.elim) |>.trans Hk2.out fun _ _ _ h => h) (Hr.out.off (Dis.symm hzr))) (by omega) (by omega)).mono ?_
    rintro e w3 ⟨rfl, hk3, hi3⟩
    have Hk3 := Lib.hid hk3
    have Hi3 := Lib.hid hi3
    clear hk3 hi3
    go_wp2
    go_returns
    refine ⟨rfl, ?_, ?_, ?_⟩
    · exact ((((Keep.refl NoS w).drewN n).any.trans (Hk2.out.mono fun _ _ _ h => .inr h) fun _ _ _ h => h).trans Hk3.out fun _ _ _ h => .inl h)
    · rw [Hq.out]; exact Hi3.out
    · rw [Hm.out]; exact Hi2.out.keep Hk3.out ((Hz.out.keep (((Keep.refl NoS w).drewN n).any.trans Hk2.out fun _ _ _ h => h) (Hr.out.off (Dis.symm hzr))).off hzr)
  · have hcm : ∃ c : Int, cmpN x.natAbs y.natAbs = c ∧ 0 ≤ c := ⟨_, rfl, by unfold cmpN; rw [if_neg hlt]; split <;> omega⟩
    obtain ⟨c, hc1, hc2⟩ := hcm
    rw [hc1] at C
    clear hc1
    obtain ⟨neg, ds, hrx, hn, hne, hzx, h1, h2, h3⟩ := hx.open
    obtain ⟨neg', ds', hry, hn', hne', hzy, h1', h2', h3'⟩ := hy.open
    have hl3 : decide ((ds.length : Int) < 3) = true := dec_t (by have := len_lt3 hn (by rw [h3]; exact hsx); omega)
    obtain ⟨g, cap, xc0, xc1, _, _, xb, _, _, _, _, _⟩ := hrx.open
    obtain ⟨g', cap', yc0, yc1, _, _, yb, _, _, _, _, _⟩ := hry.open
    have HS := Lib.hid (And.intro h1 h1')
    have Hz := Lib.hid hz
    have Hr := Lib.hid hr
    have Hx := Lib.hid hx
    have Hy := Lib.hid hy
    have HW : Hid (IntKind.u64.wrap ((x.natAbs : Int) / (y.natAbs : Int)) = ((x.natAbs / y.natAbs : Nat) : Int)) := Lib.hid (wrap_div _ _ hsx)
    have HQ : Hid (sgn (neg != neg') (x.natAbs / y.natAbs) = x.tdiv y) := Lib.hid (sgn_quo x y neg neg' h1 h1')
    have HR : Hid (sgn neg (x.natAbs % y.natAbs) = x.tmod y) := Lib.hid (sgn_rem x y neg h1)
    have hm : ∀ z : Nat, z < 18446744073709551616 → z % 18446744073709551616 = z := fun z hz => Nat.mod_eq_of_lt hz
    have UX : ∀ k, Hid (Calls Try.prog 128 #[.pointer (some ⟨bx, ox, none⟩)] (w.drewN k) fun e w' => e = .returned (.int .u64 (x.natAbs : Nat)) ∧ w.drewN k = w') := fun k => Lib.hid (by
      have := uint64_any (w.drewN k) bx ox x (hx.keep ((Keep.refl NoS w).drewN k) (Off.noS _ _ _)); rwa [hm _ hsx] at this)
    have UY : ∀ k, Hid (Calls Try.prog 128 #[.pointer (some ⟨by', oy, none⟩)] (w.drewN k) fun e w' => e = .returned (.int .u64 (y.natAbs : Nat)) ∧ w.drewN k = w') := fun k => Lib.hid (by
      have := uint64_any (w.drewN k) by' oy y (hy.keep ((Keep.refl NoS w).drewN k) (Off.noS _ _ _)); rwa [hm _ hsy] at this)
    have hy1 : ((y.natAbs : Nat) : Int) ≠ 0 := by omega
    have hq : x.natAbs / y.natAbs < 18446744073709551616 := Nat.lt_of_le_of_lt (Nat.div_le_self _ _) hsx
    have hr' : x.natAbs % y.natAbs < 18446744073709551616 := Nat.lt_of_le_of_lt (Nat.mod_le _ _) hsx
    clear hz hr hx hy hrx hry hn hne hzx h1 h2 h3 hn' hne' hzy h1' h2' h3' hm hlt hy0
    generalize hX : x.natAbs = X at *
    generalize hY : y.natAbs = Y at *
    clear hX hY
    go_enter Try.func147, Try.ntmps147
    go_wp2_with fail
    refine C.out.mono ?_
    rintro e w1 ⟨rfl, n, rfl⟩
    go_wp2_with fail
    go_quiet (fail)
    go_wp2_with fail
    refine (UX _).out.mono ?_
    rintro e w1 ⟨rfl, rfl⟩
    go_wp2_with fail
    refine (UY _).out.mono ?_
    rintro e w1 ⟨rfl, rfl⟩
    clear UX UY
    have Hk0 : Hid (Keep NoS w (w.drewN (n + nq))) := Lib.hid ((Keep.refl NoS w).drewN _)
    generalize w.drewN (n + nq) = w1 at *
    go_wp2_with fail
    rw [HW.out]
    refine (setUint64_any _ bz oz _ (Hz.out.keep Hk0.out (Off.noS _ _ _)) hq).mono ?_
    rintro e w2 ⟨rfl, hk2, hi2⟩
    have Hk2 := Lib.hid hk2
    have Hi2 := Lib.hid hi2
    clear hk2 hi2
    go_wp2_with fail
    rw [← Int.natCast_emod]
    have Hz1 := Lib.hid (Hz.out.keep Hk0.out (Off.noS _ _ _))
    have Hr1 := Lib.hid (Hr.out.keep Hk0.out (Off.noS _ _ _))
    have Hr2 := Lib.hid (Hr1.out.keep Hk2.out (Hz1.out.off hzr))
    refine (setUint64_any _ br or _ Hr2.out hr').mono ?_
    rintro e w3 ⟨rfl, hk3, hi3⟩
    have Hk3 := Lib.hid hk3
    have iz3 := Hi2.out.keep hk3 (Hr2.out.off hzr.symm)
    obtain ⟨dq, rq, vq⟩ := iz3.nat
    obtain ⟨dr, rr, vr⟩ := hi3.nat
    obtain ⟨gq, cq, zc0, zc1, _, _, zb, _, _, zf0, zf1, _⟩ := rq.open
    obtain ⟨gr, cr, rc0, rc1, _, _, rb, _, _, rf0, rf1, _⟩ := rr.open
    have hne : (⟨bz, oz, none⟩ : Addr) ≠ ⟨br, or, none⟩ := by
      intro e
      simp at e
      unfold Dis at hzr
      omega
    have rc0' : (w3.setCell ⟨bz, oz, none⟩ (.bool (!(neg == neg')))).cell? ⟨br, or, none⟩ = some (.bool false) := (World.cell?_setCell_other _ _ _ _ hne).trans rc0
    have Rq := Lib.hid rq
    have Rr := Lib.hid rr
    have Vq := Lib.hid vq
    have Vr := Lib.hid vr
    clear hk3 hi3 iz3 rq rr vq vr hne
    go_wp2_with fail
    have k4 : Keep (At bz oz) w3 (w3.setCell ⟨bz, oz, none⟩ (.bool (!(neg == neg')))) := (Keep.refl _ _).setCell _ fun _ => at_l bz oz
    have k5 : Keep (At br or) (w3.setCell ⟨bz, oz, none⟩ (.bool (!(neg == neg')))) ((w3.setCell ⟨bz, oz, none⟩ (.bool (!(neg == neg')))).setCell ⟨br, or, none⟩ (.bool neg)) := (Keep.refl _ _).setCell _ fun _ => at_l br or
    have q4 := raw_neg Rq.out (!(neg == neg'))
    have r4 := Rr.out.keep k4 (Rq.out.hdr.off hzr)
    have q5 := q4.keep k5 (r4.hdr.off hzr.symm)
    have r5 := raw_neg r4 neg
    refine (trim_any _ bz oz _ dq q5).mono ?_
    rintro e w6 ⟨rfl, hk6, hi6⟩
    have r6 := r5.keep hk6 (q5.hdr.off hzr)
    have Hk45 := Lib.hid (k4.mono (S' := Or2 (At bz oz) (At br or)) (fun _ _ _ h => .inl h) |>.trans k5 fun _ _ _ h => .inr h)
    have Hk6 := Lib.hid hk6
    have Hi6 := Lib.hid hi6
    clear q4 q5 r4 r5 k4 k5 hk6 hi6 rc0'
    go_wp2_with fail
    refine (trim_any _ br or _ dr r6).mono ?_
    rintro e w7 ⟨rfl, hk7, hi7⟩
    have iz7 := Hi6.out.keep hk7 (r6.hdr.off hzr.symm)
    have Hk7 := Lib.hid hk7
    have Hi7 := Lib.hid hi7
    have Hz7 := Lib.hid iz7
    clear hk7 hi7 iz7 r6
    go_wp2
    go_returns
    refine ⟨rfl, ?_, ?_, ?_⟩
    · have a1 := (Hk0.out.any.trans (Hk2.out.mono (S' := Or2 (At bz oz) (At br or)) fun _ _ _ h => .inl h) fun _ _ _ h => h).trans Hk3.out fun _ _ _ h => .inr h
      exact ((a1.trans Hk45.out fun _ _ _ h => h).trans Hk6.out fun _ _ _ h => .inl h).trans Hk7.out fun _ _ _ h => .inr h
    · rw [← HQ.out, ← Vq.out]; exact Hz7.out
    · rw [← HR.out, ← Vr.out]; exact Hi7.out

end Go.Proofs.Ytihcbmkjfacooaa
