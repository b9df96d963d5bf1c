/- The wide numbers' Mul. -/
import Derived.Test.YtihcbmkjfacooaaWideAdd
namespace Go.Proofs.Ytihcbmkjfacooaa
open Go.ChangeShapes Go.WideShapes Go.RowKit
set_option linter.unusedVariables false
set_option linter.unusedSimpArgs false

/-- Behind i digits of the one. -/
structure MulRow (X Y : Nat → Nat) (n m i : Nat) (f : Nat → Nat) : Prop where
  lt : ∀ p, p < n + m → f p < 4294967296
  zero : ∀ p, i + m ≤ p → p < n + m → f p = 0
  val : dv f (n + m) = dv X i * dv Y m
/-- .. and j digits of the other. -/
structure MulCol (X Y : Nat → Nat) (n m i j q : Nat) (f : Nat → Nat) : Prop where
  lt : ∀ p, p < n + m → f p < 4294967296
  zero : ∀ p, i + m ≤ p → p < n + m → f p = 0
  qlt : q < 4294967296
  val : dv f (n + m) + 4294967296 ^ (i + j) * q = dv X i * dv Y m + X i * 4294967296 ^ i * dv Y j

theorem MulRow.start {X Y f : Nat → Nat} {n m i : Nat} (h : MulRow X Y n m i f) : MulCol X Y n m i 0 0 f := ⟨h.lt, h.zero, by omega, by rw [h.val]; simp [dv]⟩

theorem mul_lt {a b : Nat} (ha : a < 4294967296) (hb : b < 4294967296) : a * b ≤ 18446744065119617025 :=
  Nat.mul_le_mul (show a ≤ 4294967295 by omega) (show b ≤ 4294967295 by omega)

theorem mul_ltI {a b : Nat} (ha : a < 4294967296) (hb : b < 4294967296) : 0 ≤ (a : Int) * (b : Int) ∧ (a : Int) * (b : Int) ≤ 18446744065119617025 := by
  have := mul_lt ha hb
  rw [← Int.natCast_mul]
  omega

theorem MulCol.step {X Y f : Nat → Nat} {n m i j q : Nat} (h : MulCol X Y n m i j q f) (hi : i < n) (hj : j < m) (hX : X i < 4294967296) (hY : Y j < 4294967296) {d q1 : Nat} (hd : d = (q + (X i * Y j + f (i + j))) % 4294967296) (hq : q1 = (q + (X i * Y j + f (i + j))) / 4294967296) :
    MulCol X Y n m i (j + 1) q1 fun p => if p = i + j then d else f p := by
  have hxy := mul_lt hX hY
  have hf := h.lt (i + j) (by omega)
  have hqq := h.qlt
  refine ⟨fun p hp => ?_, fun p h1 h2 => ?_, by omega, ?_⟩
  · by_cases e : p = i + j
    · simp only [e, if_true]; omega
    · simp only [e, if_false]; exact h.lt p hp
  · rw [if_neg (by omega)]; exact h.zero p h1 h2
  · have hu := dv_upd f (i + j) d (n + m) (by omega)
    have hv := h.val
    have e := Nat.div_add_mod (q + (X i * Y j + f (i + j))) 4294967296
    rw [← hd, ← hq] at e
    have e2 : 4294967296 ^ (i + j) * (4294967296 * q1 + d) = 4294967296 ^ (i + j) * (q + (X i * Y j + f (i + j))) := by rw [e]
    rw [Nat.mul_add, Nat.mul_add, Nat.mul_add, ← Nat.mul_assoc] at e2
    have e3 : X i * 4294967296 ^ i * (4294967296 ^ j * Y j) = 4294967296 ^ (i + j) * (X i * Y j) := by
      rw [Nat.pow_add]
      simp only [Nat.mul_assoc, Nat.mul_comm, Nat.mul_left_comm]
    rw [dv, Nat.mul_add, e3, ← Nat.add_assoc i j 1, Nat.pow_succ]
    omega

theorem MulCol.fin {X Y f : Nat → Nat} {n m i q : Nat} (h : MulCol X Y n m i m q f) (hi : i < n) : MulRow X Y n m (i + 1) fun p => if p = i + m then q else f p := by
  refine ⟨fun p hp => ?_, fun p h1 h2 => ?_, ?_⟩
  · by_cases e : p = i + m
    · simp only [e, if_true]; exact h.qlt
    · simp only [e, if_false]; exact h.lt p hp
  · rw [if_neg (by omega)]; exact h.zero p (by omega) h2
  · have hu := dv_upd f (i + m) q (n + m) (by omega)
    have hv := h.val
    have h0 := h.zero (i + m) (Nat.le_refl _) (by omega)
    rw [h0, Nat.mul_zero, Nat.add_zero] at hu
    rw [hu, hv, dv, Nat.add_mul, Nat.mul_comm (4294967296 ^ i) (X i)]

theorem sgn_mul (neg neg' : Bool) (a b : Nat) : sgn (neg != neg') (a * b) = sgn neg a * sgn neg' b := by
  cases neg <;> cases neg' <;> simp [sgn, Int.mul_neg, Int.neg_mul]

set_option maxRecDepth 100000 in
set_option maxHeartbeats 8000000 in
theorem mul_any (w : World) (bz oz bx ox by' oy : Nat) (x y : Int) (hz : IsHdr w bz oz) (hx : IsInt w bx ox x) (hy : IsInt w by' oy y) (hbx : x.natAbs < BIG) (hby : y.natAbs < BIG) :
    Calls Try.prog 99 #[.pointer (some ⟨bz, oz, none⟩), .pointer (some ⟨bx, ox, none⟩), .pointer (some ⟨by', oy, none⟩)] w fun e w' => e = .returned (.pointer (some ⟨bz, oz, none⟩)) ∧ Keep (At bz oz) w w' ∧ IsInt w' bz oz (x * y) := by
  obtain ⟨neg, ds, hrx, hn, hne, hzx, h1, h2, h3⟩ := hx.open
  obtain ⟨neg', ds', hry, hn', hne', hzy, h1', h2', h3'⟩ := hy.open
  have hlx := len_of_BIG ds hn (by rw [h3]; exact hbx)
  have hly := len_of_BIG ds' hn' (by rw [h3']; exact hby)
  have HA : Hid (sgn (neg != neg') (dval ds * dval ds') = x * y) := Lib.hid (by rw [hzx, hzy]; exact sgn_mul _ _ _ _)
  obtain ⟨g, cap, cx0, cx1, hdx, hbx'⟩ := hrx.parts
  obtain ⟨g', cap', cy0, cy1, hdy, hby'⟩ := hry.parts
  have HZ := Lib.hid hz
  have HDX := Lib.hid hdx
  have HDY := Lib.hid hdy
  clear hx hy hz hrx hry hn hne hzx h1 h2 h3 hn' hne' hzy h1' h2' h3' hbx hby hdx hdy
  obtain ⟨i0, hi0, hz0, hs0, hb0⟩ := info_parts infoU32
  obtain ⟨w2, hr2, ho2, hg2⟩ := run_make_full (P := Try.prog) w.drew w.heap.size 72 133 i0 (.int .u32 0) 1 Try.underlying72 hi0 hz0 hs0 .i64 .i64 (ds.length + ds'.length) (by rw [hb0]; omega) (by unfold maxLen; omega) (by simp)
  rw [show ((ds.length + ds'.length : Nat) : Int) = (ds.length : Int) + (ds'.length : Int) from by omega] at hr2
  obtain ⟨go, hgo⟩ : ∃ go, go = w.heap.size := ⟨_, rfl⟩
  rw [show w.drew.heap.size = go from hgo.symm] at hr2 ho2
  have hwr : IntKind.i64.wrap ((ds.length : Int) + (ds'.length : Int)) = (ds.length : Int) + (ds'.length : Int) := Go.IntWalk.i64_in _ (by omega)
  have P2 : DigA w2 go (ds.length + ds'.length) (fun _ => 0) := arr_of_own ho2 fun i hi => made_get rfl _ i hi
  have L2 : Keep NoS w w2 := (Keep.refl NoS w).drew.trans (Keep.of_below (grown_keep hg2 w.heap.size (by simp) (by simp)) (by simp)) fun _ _ _ h => h
  have HP2 := Lib.hid P2
  have HL2 := Lib.hid L2
  have HGO := Lib.hid hgo
  clear ho2 hg2 P2 L2 hgo
  go_enter Try.func99, Try.ntmps99
  go_wp2
  refine wp_region_by (fun w' => Keep NoS w w') [] [([0, 1, 2, 3, 4, 5, 6, 7, 8, 9, 10], 11)] [12] (by kernel_rfl) (by kernel_rfl) (by (repeat' (first | (with_reducible assumption) | (with_reducible exact HK.out) | (with_reducible exact Keep.refl _ _) | (with_reducible refine Keep.alloc ?_ _) | (with_reducible refine Keep.setCell ?_ _ (fun h => absurd h (by omega))) | (with_reducible refine Keep.drewN ?_ _) | (with_reducible refine Keep.drew ?_)))) ?_
  intro X W hne hF hcl
  have HF := Lib.hid hF
  have HCL := Lib.hid hcl
  have hx0 := fun x => ((hF x).cell hbx').trans cx0
  have hx1 := fun x => ((hF x).cell hbx').trans cx1
  have hy0 := fun x => ((hF x).cell hby').trans cy0
  have hy1 := fun x => ((hF x).cell hby').trans cy1
  clear hF hcl
  simp only [wpPlan, pickOps, List.getElem?_toArray, List.getElem?_cons_zero, List.getElem?_cons_succ, clsOf, Bool.false_eq_true, if_false]
  (repeat (quiet_step (fail))); refine wpQuiet_nil ?_
  refine wpOp_at (by simp only [List.getElem?_toArray, List.getElem?_cons_zero, List.getElem?_cons_succ]; rfl) (by rfl) (fun K hK => ?_)
  go_simp
  refine hK _ _ ⟨fun _ => HCL.out _ HL2.out, ?_⟩
  clear hK K hr2
  (repeat (quiet_step (fail))); refine wpQuiet_nil ?_
  refine NoPanic.normal ?_
  clear hx0 hx1 hy0 hy1 HF HCL hwr
  have dx0 := (HL2.out.cell hbx').trans cx1
  have dy0 := (HL2.out.cell hby').trans cy1
  have dlx := Nat.lt_of_lt_of_le hbx' HL2.out.size
  have dly := Nat.lt_of_lt_of_le hby' HL2.out.size
  go_wp2
  clear dx0 dy0 dlx dly
  go_loopw [30] (fun s wr => ∃ i : Nat, i ≤ ds.length ∧ s = .int .i64 i ∧ Keep NoS w wr ∧ ∃ f, DigA wr go (ds.length + ds'.length) f ∧ MulRow (fun p => ds.getD p 0) (fun p => ds'.getD p 0) ds.length ds'.length i f) (fun s _ => (ds.length - intOf s).toNat)
  case atStart => exact ⟨0, by omega, rfl, HL2.out, fun _ => 0, HP2.out, fun _ _ => by omega, fun _ _ _ => rfl, by
    have := dv_pad (f := fun _ => 0) (n := 0) (ds.length + ds'.length) (fun _ _ _ => rfl)
    rw [Nat.zero_add] at this
    rw [this]; simp [dv]⟩
  case round =>
    obtain ⟨i, hi, rfl, hkp, f, har, hrow⟩ := hrel
    have HKP := Lib.hid hkp
    have HAR := Lib.hid har
    have HRO := Lib.hid hrow
    clear hkp har hrow
    by_cases hil : i < ds.length
    · have hlt : (i : Int) < (ds.length : Int) := by omega
      obtain ⟨_, _, hv, _, _, hg, hcx, hbx⟩ := HDX.out.open
      cases hv
      have ca := hcx _ HKP.out i hil
      have ba := hbx i
      have hgl := Nat.lt_of_lt_of_le hg HKP.out.size
      have dy0 := (HKP.out.cell hby').trans cy1
      have dly := Nat.lt_of_lt_of_le hby' HKP.out.size
      clear hcx hbx
      have HCO := Lib.hid HRO.out.start
      clear HRO
      obtain ⟨w3, rfl⟩ : ∃ W : World, W = wr := ⟨_, rfl⟩
      generalize hX : (fun p => ds.getD p 0) = X at *
      have hXi : ds.getD i 0 = X i := by rw [← hX]
      rw [hXi] at ca ba
      have HXX := Lib.hid hX
      clear hX hXi
      generalize hx : X i = xi at ca ba
      have HXI := Lib.hid hx
      clear hx
      go_wp2
      clear ca dy0 dly
      have bxi : (xi : Int) < 4294967296 := by omega
      go_loopw [40, 10] (fun s t wr => ∃ j : Nat, j ≤ ds'.length ∧ s = .int .i64 j ∧ Keep NoS w wr ∧ ∃ q : Nat, ∃ f, t = .int .u64 q ∧ DigA wr go (ds.length + ds'.length) f ∧ MulCol X (fun p => ds'.getD p 0) ds.length ds'.length i j q f) (fun s _ _ => (ds'.length - intOf s).toNat)
      case atStart => exact ⟨0, by omega, rfl, HKP.out, 0, f, rfl, HAR.out, HCO.out⟩
      case round =>
        obtain ⟨j, hj, rfl, hkq, q, f2, rfl, har, hcol⟩ := hrel
        have HKQ := Lib.hid hkq
        have HA2 := Lib.hid har
        have HC2 := Lib.hid hcol
        have hgo2 := har.lt
        have hfree := har.free
        have dy0 := (hkq.cell hby').trans cy1
        have dly := Nat.lt_of_lt_of_le hby' hkq.size
        have bq : (q : Int) < 4294967296 := by have := hcol.qlt; omega
        by_cases hjl : j < ds'.length
        · have hltj : (j : Int) < (ds'.length : Int) := by omega
          obtain ⟨_, _, hv, _, _, hg', hcy, hby⟩ := HDY.out.open
          cases hv
          have cb := hcy _ hkq j hjl
          have bb := hby j
          have hgl' := Nat.lt_of_lt_of_le hg' hkq.size
          have co := har.cell (i := i + j) (by omega)
          have bo := hcol.lt (i + j) (by omega)
          have fij := hfree (i + j)
          have hst : ∀ d q1, d = (q + (xi * ds'.getD j 0 + f2 (i + j))) % 4294967296 → q1 = (q + (xi * ds'.getD j 0 + f2 (i + j))) / 4294967296 → MulCol X (fun p => ds'.getD p 0) ds.length ds'.length i (j + 1) q1 fun p => if p = i + j then d else f2 p := fun d q1 h1 h2 =>
            hcol.step hil hjl (by rw [HXI.out]; exact ba) bb (by rw [HXI.out]; exact h1) (by rw [HXI.out]; exact h2)
          have HST := Lib.hid hst
          clear hcy hby hkq har hcol hst hfree dy0 dly
          generalize ds'.getD j 0 = b at *
          generalize f2 (i + j) = o at *
          obtain ⟨hm3, hm2⟩ := mul_ltI ba bb
          have hix : (i : Int) + (j : Int) < (ds.length : Int) + (ds'.length : Int) := by omega
          go_wp2
          go_roundw
          case rel =>
            exact ⟨j + 1, by omega, by go_num, HKQ.out.setCell _ (fun h => absurd h (by have := HGO.out; omega)), (q + (xi * b + o)) / 4294967296, _, congrArg (Value.int .u64) (by rw [← Int.natCast_mul]; omega),
              DigA.set HA2.out (i + j) ((q + (xi * b + o)) % 4294967296) (congrArg (Value.int .u32) (by rw [← Int.natCast_mul]; omega)), HST.out _ _ rfl rfl⟩
          case measure => simp [intOf]; omega
        · have hltj : ¬ (j : Int) < (ds'.length : Int) := by omega
          obtain rfl : j = ds'.length := by omega
          have co := har.cell (i := i + ds'.length) (by omega)
          have fij := hfree (i + ds'.length)
          have HFI := Lib.hid (hcol.fin hil)
          clear hkq har hcol hfree
          generalize f2 (i + ds'.length) = o at co
          have hix : (i : Int) + (ds'.length : Int) < (ds.length : Int) + (ds'.length : Int) := by omega
          go_wp2
          go_roundw
          case rel =>
            exact ⟨i + 1, by omega, by go_num, HKQ.out.setCell _ (fun h => absurd h (by have := HGO.out; omega)), _, DigA.set HA2.out (i + ds'.length) q rfl, HFI.out⟩
          case measure => simp [intOf]; omega
    · have hlt : ¬ (i : Int) < (ds.length : Int) := by omega
      obtain rfl : i = ds.length := by omega
      have HZ1 := Lib.hid (HZ.out.ofNewer HKP.out)
      obtain ⟨zneg, za, zm1, zm2, zc0, zc1, zf0, zf1, zb⟩ := HZ1.out.open
      have HD1 := Lib.hid (dig_of_arr HAR.out (Nat.le_refl _) (by unfold maxLen; omega) HRO.out.lt)
      obtain ⟨w3, rfl⟩ : ∃ W : World, W = wr := ⟨_, rfl⟩
      go_wp2
      have hbx3 := Nat.lt_of_lt_of_le hbx' HKP.out.size
      have hby3 := Nat.lt_of_lt_of_le hby' HKP.out.size
      have ex0 := (HKP.out.cell hbx').trans cx0
      have ey0 := (HKP.out.cell hby').trans cy0
      refine wp_region_by (fun w' => Keep NoS w3 w') [0, 1, 11, 14, 15, 16, 17] [([11, 0, 1, 2, 3, 4, 5, 6, 7, 8, 9, 10, 12, 13], 14), ([15, 16], 17)] [] (by kernel_rfl) (by kernel_rfl) (by (repeat' (first | (with_reducible assumption) | (with_reducible exact HK.out) | (with_reducible exact Keep.refl _ _) | (with_reducible refine Keep.alloc ?_ _) | (with_reducible refine Keep.setCell ?_ _ (fun h => absurd h (by omega))) | (with_reducible refine Keep.drewN ?_ _) | (with_reducible refine Keep.drew ?_)))) ?_
      intro X W hne hF hcl
      have hx0 := fun x => ((hF x).cell hbx3).trans ex0
      have hy0 := fun x => ((hF x).cell hby3).trans ey0
      clear hF hcl
      simp only [wpPlan, pickOps, List.getElem?_toArray, List.getElem?_cons_zero, List.getElem?_cons_succ, clsOf, Bool.false_eq_true, if_false]
      (repeat (quiet_step (fail))); refine wpQuiet_nil ?_
      refine wpOp_at (by simp only [List.getElem?_toArray, List.getElem?_cons_zero, List.getElem?_cons_succ]; rfl) (by rfl) (fun K hK => ?_)
      go_simp
      refine hK _ _ ⟨fun h => (by simp at h), ?_⟩
      clear hK K
      (repeat (quiet_step (fail))); refine wpQuiet_nil ?_
      refine wpOp_at (by simp only [List.getElem?_toArray, List.getElem?_cons_zero, List.getElem?_cons_succ]; rfl) (by rfl) (fun K hK => ?_)
      go_simp
      refine hK _ _ ⟨fun h => (by simp at h), ?_⟩
      clear hK K
      (repeat (quiet_step (fail))); refine wpQuiet_nil ?_
      refine NoPanic.normal ?_
      have HR := Lib.hid ((raw_make HZ1.out (!(neg == neg')) HD1.out).keep (Keep.refl NoS _).drew (Off.noS _ _ _))
      go_wp2_with fail
      refine (trim_any _ bz oz _ _ HR.out).mono ?_
      rintro e w4 ⟨rfl, hk4, hi4⟩
      have HK4 := Lib.hid hk4
      have HI4 := Lib.hid hi4
      clear hk4 hi4
      go_wp2
      go_returns
      refine ⟨rfl, ?_, ?_⟩
      · exact ((((HKP.out.any (S := At bz oz)).setCell _ (fun _ => at_l bz oz)).setCell _ (fun _ => at_r bz oz)).drew).trans HK4.out fun _ _ _ h => h
      · have := HI4.out
        rw [digs_val, HRO.out.val, ← dval_dv, ← dval_dv] at this
        rw [← HA.out]; exact this
end Go.Proofs.Ytihcbmkjfacooaa
