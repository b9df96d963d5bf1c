/- umpiragewide.sumOf, lessOf: digits added, taken off. -/
import Derived.Test.YtihcbmkjfacooaaDig
import Derived.IntWalk
import Derived.Deep.DeepCutAuto
namespace Go.Proofs.Ytihcbmkjfacooaa
open Go.ChangeShapes Go.WideShapes Go.RowKit
set_option linter.unusedVariables false
set_option linter.unusedSimpArgs false

/-- What is known behind k digits of a sum. -/
def SumInv (xs ys : List Nat) (k c : Nat) (f : Nat → Nat) : Prop :=
  c ≤ 1 ∧ (∀ i, i < k → f i < 4294967296) ∧ dv f k + 4294967296 ^ k * c = dv (fun i => xs.getD i 0) k + dv (fun i => ys.getD i 0) k

theorem SumInv.step {xs ys : List Nat} {k c : Nat} {f : Nat → Nat} (h : SumInv xs ys k c f) (hx : xs.getD k 0 < 4294967296) (hy : ys.getD k 0 < 4294967296) {c1 d : Nat} (hd : d = (c + xs.getD k 0 + ys.getD k 0) % 4294967296) (hc : c1 = (c + xs.getD k 0 + ys.getD k 0) / 4294967296) :
    SumInv xs ys (k + 1) c1 fun i => if i = k then d else f i := by
  obtain ⟨h1, h2, h3⟩ := h
  subst hd hc
  refine ⟨by omega, fun i hi => ?_, ?_⟩
  · by_cases e : i = k
    · simp only [e, if_true]; omega
    · simp only [e, if_false]; exact h2 i (by omega)
  · rw [dv, if_pos rfl, dv_congr (f := fun i => if i = k then _ else f i) (g := f) fun i hi => if_neg (by omega), dv, dv]
    exact sum_step k rfl h3

theorem SumInv.fin {xs ys : List Nat} {q : Nat} {f : Nat → Nat} (h : SumInv xs ys xs.length q f) (hl : ys.length ≤ xs.length) :
    (∀ i, i < xs.length + 1 → (if i = xs.length then q else f i) < 4294967296) ∧ dv (fun i => if i = xs.length then q else f i) (xs.length + 1) = dval xs + dval ys := by
  obtain ⟨h1, h2, h3⟩ := h
  refine ⟨fun i hi => ?_, ?_⟩
  · by_cases e : i = xs.length
    · simp only [e, if_true]; omega
    · simp only [e, if_false]; exact h2 i (by omega)
  · rw [dv, if_pos rfl, dv_congr (f := fun i => if i = xs.length then q else f i) (g := f) fun i hi => if_neg (by omega), h3, dval_dv' xs _ (Nat.le_refl _), dval_dv' ys _ hl]

set_option maxRecDepth 100000 in
set_option maxHeartbeats 4000000 in
theorem sumOf_any (w : World) (vx vy : Value) (xs ys : List Nat) (hx : IsDig w vx xs) (hy : IsDig w vy ys) (hlx : xs.length ≤ 200000) (hly : ys.length ≤ 200000) :
    Calls Try.prog 132 #[vx, vy] w (NewDig (fun ds => dval ds = dval xs + dval ys ∧ ds.length ≤ 200001) w) := by
  have HX := Lib.hid hx
  have HY := Lib.hid hy
  obtain ⟨gx, cx, rfl⟩ := hx.form
  obtain ⟨gy, cy, rfl⟩ := hy.form
  clear hx hy
  go_enter Try.func132, Try.ntmps132
  go_upto_if 13 with fail
  go_cut [0, 1] (fun s t wx => ∃ xs' ys' : List Nat, ∃ g c g' c', s = .slice (some ⟨g, 0, none⟩) xs'.length c ∧ t = .slice (some ⟨g', 0, none⟩) ys'.length c' ∧ Keep NoS w wx ∧ IsDig wx (.slice (some ⟨g, 0, none⟩) xs'.length c) xs' ∧
    IsDig wx (.slice (some ⟨g', 0, none⟩) ys'.length c') ys' ∧ ys'.length ≤ xs'.length ∧ xs'.length ≤ 200000 ∧ dval xs' + dval ys' = dval xs + dval ys)
  case first =>
    by_cases hl : xs.length < ys.length
    · have e1 : decide (xs.length < ys.length) = true := decide_eq_true hl
      have e2 : decide ((xs.length : Int) < (ys.length : Int)) = true := dec_t (by omega)
      go_wp2_with fail
      go_meet
      exact ⟨ys, xs, _, _, _, _, rfl, rfl, Keep.refl _ _, HY.out, HX.out, by omega, by omega, by omega⟩
    · have e1 : decide (xs.length < ys.length) = false := decide_eq_false hl
      have e2 : decide ((xs.length : Int) < (ys.length : Int)) = false := dec_f (by omega)
      go_wp2_with fail
      go_meet
      exact ⟨xs, ys, _, _, _, _, rfl, rfl, Keep.refl _ _, HX.out, HY.out, by omega, by omega, by omega⟩
  case rest =>
    obtain ⟨xs', ys', g, c, g', c', rfl, rfl, hk, hx, hy, hl, hl2, hsum⟩ := hcut
    obtain ⟨w1, rfl⟩ : ∃ W : World, W = wc := ⟨_, rfl⟩
    have HK := Lib.hid hk
    have HX' := Lib.hid hx
    have HY' := Lib.hid hy
    have HSUM := Lib.hid hsum
    clear hk hx hy hsum HX HY
    obtain ⟨i0, hi0, hz0, hs0, hb0⟩ := info_parts infoU32
    obtain ⟨w2, hr2, ho2, hg2⟩ := run_make_full (P := Try.prog) w1 w1.heap.size 72 133 i0 (.int .u32 0) 1 Try.underlying72 hi0 hz0 hs0 .i64 .i64 (xs'.length + 1) (by rw [hb0]; omega) (by unfold maxLen; omega) (by omega)
    rw [show ((xs'.length + 1 : Nat) : Int) = (xs'.length : Int) + 1 from by omega] at hr2
    have P2 : DigA w2 w1.heap.size (xs'.length + 1) (fun _ => 0) := arr_of_own ho2 fun i hi => made_get rfl _ i hi
    have L2 : Keep NoS w1 w2 := Keep.of_below (grown_keep hg2 w1.heap.size (Nat.le_refl _) (by simp)) (Nat.le_refl _)
    have HP2 := Lib.hid P2
    have HL2 := Lib.hid L2
    clear ho2 hg2 P2 L2
    generalize hgo : w1.heap.size = go at *
    have HGO := Lib.hid hgo
    clear hgo
    go_wp2
    clear hr2
    go_loopw [22, 6] (fun s t wr => ∃ k : Nat, k ≤ xs'.length ∧ s = .int .i64 k ∧ ∃ q : Nat, ∃ f, t = .int .u64 q ∧ Keep NoS w1 wr ∧ DigA wr go (xs'.length + 1) f ∧ SumInv xs' ys' k q f) (fun s _ _ => (xs'.length - intOf s).toNat)
    case atStart => exact ⟨0, by omega, rfl, 0, fun _ => 0, rfl, HL2.out, HP2.out, by omega, fun i hi => absurd hi (by omega), rfl⟩
    case round =>
      obtain ⟨k, hk, rfl, q, f, rfl, hkp, har, hinv⟩ := hrel
      have HKP := Lib.hid hkp
      have HAR := Lib.hid har
      have HIN := Lib.hid hinv
      have hgl := har.lt
      have hq1 : q ≤ 1 := hinv.1
      have hfr := har.free k
      by_cases hkl : k < xs'.length
      · have hlt : (k : Int) < (xs'.length : Int) := by omega
        have hlt2 : (k : Int) < (xs'.length : Int) + 1 := by omega
        obtain ⟨_, _, hv, _, _, hg, hcx, hbx⟩ := HX'.out.open
        cases hv
        obtain ⟨_, _, hv, _, _, hg', hcy, hby⟩ := HY'.out.open
        cases hv
        have cx0 := hcx wr hkp k hkl
        have cy0 := hcy wr hkp k
        have cf0 := har.cell (i := k) (by omega)
        have bx0 := hbx k
        have by0 := hby k
        have HST : Hid (∀ q1 d, d = (q + xs'.getD k 0 + ys'.getD k 0) % 4294967296 → q1 = (q + xs'.getD k 0 + ys'.getD k 0) / 4294967296 → SumInv xs' ys' (k + 1) q1 fun i => if i = k then d else f i) := Lib.hid fun q1 d h1 h2 => hinv.step bx0 by0 h1 h2
        have y0 : ¬ k < ys'.length → ys'.getD k 0 = 0 := fun h => by simp [List.getD, List.getElem?_eq_none (Nat.le_of_not_lt h)]
        clear hcx hbx hcy hby hkp har hinv
        generalize xs'.getD k 0 = x at *
        generalize ys'.getD k 0 = y at *
        generalize f k = z at cf0
        by_cases hky : k < ys'.length
        · have e1 : decide (k < ys'.length) = true := decide_eq_true hky
          have e2 : decide ((k : Int) < (ys'.length : Int)) = true := dec_t (by omega)
          have cy1 := cy0 hky
          clear cy0 y0
          go_wp2
          go_roundw
          case rel =>
            exact ⟨k + 1, by omega, by go_num, (q + x + y) / 4294967296, _, congrArg (Value.int .u64) (by omega), HKP.out.setCell _ (fun h => absurd h (by have := HGO.out; omega)),
              DigA.set HAR.out k ((q + x + y) % 4294967296) (congrArg (Value.int .u32) (by omega)), HST.out _ _ rfl rfl⟩
          case measure => simp [intOf]; omega
        · have e1 : decide (k < ys'.length) = false := decide_eq_false hky
          have e2 : decide ((k : Int) < (ys'.length : Int)) = false := dec_f (by omega)
          obtain rfl : y = 0 := y0 hky
          clear cy0 y0
          go_wp2
          go_roundw
          case rel =>
            exact ⟨k + 1, by omega, by go_num, (q + x + 0) / 4294967296, _, congrArg (Value.int .u64) (by omega), HKP.out.setCell _ (fun h => absurd h (by have := HGO.out; omega)),
              DigA.set HAR.out k ((q + x + 0) % 4294967296) (congrArg (Value.int .u32) (by omega)), HST.out _ _ rfl rfl⟩
          case measure => simp [intOf]; omega
      · have hlt : ¬ (k : Int) < (xs'.length : Int) := by omega
        obtain rfl : k = xs'.length := by omega
        have hlt2 : (xs'.length : Int) < (xs'.length : Int) + 1 := by omega
        have cf0 := har.cell (i := xs'.length) (by omega)
        have HFI := Lib.hid (hinv.fin hl)
        clear hkp har hinv
        generalize f xs'.length = z at cf0
        go_wp2
        go_ret
        have ha := DigA.set HAR.out xs'.length q (v := .int .u32 (q : Nat)) rfl
        refine ⟨_, _, rfl, HK.out.trans (HKP.out.setCell _ (fun h => absurd h (by have := HGO.out; omega))) fun _ _ _ h => h, dig_of_arr ha (Nat.le_refl _) (by unfold maxLen; omega) HFI.out.1, ?_, ?_⟩
        · rw [digs_val, HFI.out.2, HSUM.out]
        · rw [digs_len]; omega

/-- What is known behind k digits of a difference. -/
def LessInv (xs ys : List Nat) (k c : Nat) (f : Nat → Nat) : Prop :=
  c ≤ 1 ∧ (∀ i, i < k → f i < 4294967296) ∧ dv f k + dv (fun i => ys.getD i 0) k = dv (fun i => xs.getD i 0) k + 4294967296 ^ k * c

theorem less_digit (x y q : Nat) (hx : x < 4294967296) (hy : y < 4294967296) (hq : q ≤ 1) : ∃ d q1 : Nat, IntKind.u64.wrap (IntKind.u64.wrap ((x : Int) - q) - y) / 9223372036854775808 = (q1 : Int) ∧
    IntKind.u64.wrap (IntKind.u64.wrap ((x : Int) - q) - y) % 4294967296 = (d : Int) ∧ d + y + q = x + 4294967296 * q1 ∧ q1 ≤ 1 ∧ d < 4294967296 := by
  rw [IntKind.wrap_u64, IntKind.wrap_u64]
  by_cases h : y + q ≤ x
  · exact ⟨x - y - q, 0, by omega, by omega, by omega, by omega, by omega⟩
  · exact ⟨x + 4294967296 - y - q, 1, by omega, by omega, by omega, by omega, by omega⟩

theorem LessInv.step {xs ys : List Nat} {k c : Nat} {f : Nat → Nat} (h : LessInv xs ys k c f) {c1 d : Nat} (he : d + ys.getD k 0 + c = xs.getD k 0 + 4294967296 * c1) (hd : d < 4294967296) (hc : c1 ≤ 1) :
    LessInv xs ys (k + 1) c1 fun i => if i = k then d else f i := by
  obtain ⟨h1, h2, h3⟩ := h
  refine ⟨hc, fun i hi => ?_, ?_⟩
  · by_cases e : i = k
    · simp only [e, if_true]; exact hd
    · simp only [e, if_false]; exact h2 i (by omega)
  · rw [dv, if_pos rfl, dv_congr (f := fun i => if i = k then _ else f i) (g := f) fun i hi => if_neg (by omega), dv, dv, Nat.pow_succ]
    have e2 : 4294967296 ^ k * (d + ys.getD k 0 + c) = 4294967296 ^ k * (xs.getD k 0 + 4294967296 * c1) := by rw [he]
    rw [Nat.mul_add, Nat.mul_add, Nat.mul_add, ← Nat.mul_assoc] at e2
    omega

theorem LessInv.fin {xs ys : List Nat} {q : Nat} {f : Nat → Nat} (h : LessInv xs ys xs.length q f) (hl : ys.length ≤ xs.length) (hle : dval ys ≤ dval xs) : (∀ i, i < xs.length → f i < 4294967296) ∧ dv f xs.length = dval xs - dval ys := by
  obtain ⟨h1, h2, h3⟩ := h
  refine ⟨h2, ?_⟩
  rw [dval_dv' xs _ (Nat.le_refl _), dval_dv' ys _ hl] at h3
  have h4 := dv_lt h2
  have : q = 0 ∨ q = 1 := by omega
  rcases this with rfl | rfl
  · omega
  · omega

set_option maxRecDepth 100000 in
set_option maxHeartbeats 4000000 in
theorem lessOf_any (w : World) (vx vy : Value) (xs ys : List Nat) (hx : IsDig w vx xs) (hy : IsDig w vy ys) (hlx : xs.length ≤ 200000) (hl : ys.length ≤ xs.length) (hle : dval ys ≤ dval xs) :
    Calls Try.prog 133 #[vx, vy] w (NewDig (fun ds => dval ds = dval xs - dval ys ∧ ds.length = xs.length) w) := by
  have HX := Lib.hid hx
  have HY := Lib.hid hy
  have HLE := Lib.hid hle
  obtain ⟨gx, cx, rfl⟩ := hx.form
  obtain ⟨gy, cy, rfl⟩ := hy.form
  clear hx hy hle
  obtain ⟨i0, hi0, hz0, hs0, hb0⟩ := info_parts infoU32
  obtain ⟨w2, hr2, ho2, hg2⟩ := run_make_full (P := Try.prog) w w.heap.size 72 133 i0 (.int .u32 0) 1 Try.underlying72 hi0 hz0 hs0 .i64 .i64 xs.length (by rw [hb0]; omega) (by unfold maxLen; omega) (by omega)
  have P2 : DigA w2 w.heap.size xs.length (fun _ => 0) := arr_of_own ho2 fun i hi => made_get rfl _ i hi
  have L2 : Keep NoS w w2 := Keep.of_below (grown_keep hg2 w.heap.size (Nat.le_refl _) (by simp)) (Nat.le_refl _)
  have HP2 := Lib.hid P2
  have HL2 := Lib.hid L2
  clear ho2 hg2 P2 L2
  generalize hgo : w.heap.size = go at *
  have HGO := Lib.hid hgo
  clear hgo
  go_enter Try.func133, Try.ntmps133
  go_wp2
  clear hr2
  go_loopw [15, 6] (fun s t wr => ∃ k : Nat, k ≤ xs.length ∧ s = .int .i64 k ∧ ∃ q : Nat, ∃ f, t = .int .u64 q ∧ Keep NoS w wr ∧ DigA wr go xs.length f ∧ LessInv xs ys k q f) (fun s _ _ => (xs.length - intOf s).toNat)
  case atStart => exact ⟨0, by omega, rfl, 0, fun _ => 0, rfl, HL2.out, HP2.out, by omega, fun i hi => absurd hi (by omega), rfl⟩
  case round =>
    obtain ⟨k, hk, rfl, q, f, rfl, hkp, har, hinv⟩ := hrel
    have HKP := Lib.hid hkp
    have HAR := Lib.hid har
    have HIN := Lib.hid hinv
    have hgl := har.lt
    have hq1 : q ≤ 1 := hinv.1
    have hfr := har.free k
    by_cases hkl : k < xs.length
    · have hlt : (k : Int) < (xs.length : Int) := by omega
      obtain ⟨_, _, hv, _, _, hg, hcx, hbx⟩ := HX.out.open
      cases hv
      obtain ⟨_, _, hv, _, _, hg', hcy, hby⟩ := HY.out.open
      cases hv
      have cx0 := hcx wr hkp k hkl
      have cy0 := hcy wr hkp k
      have cf0 := har.cell (i := k) hkl
      have bx0 := hbx k
      have by0 := hby k
      have y0 : ¬ k < ys.length → ys.getD k 0 = 0 := fun h => by simp [List.getD, List.getElem?_eq_none (Nat.le_of_not_lt h)]
      have hst : ∀ d q1, d + ys.getD k 0 + q = xs.getD k 0 + 4294967296 * q1 → d < 4294967296 → q1 ≤ 1 → LessInv xs ys (k + 1) q1 fun i => if i = k then d else f i := fun d q1 h1 h2 h3 => hinv.step h1 h2 h3
      obtain ⟨d, q1, E1, E2, E3, E4, E5⟩ := less_digit (xs.getD k 0) (ys.getD k 0) q bx0 by0 hq1
      have HST := Lib.hid (hst d q1 E3 E5 E4)
      clear hcx hbx hcy hby hkp har hinv hst E3
      generalize xs.getD k 0 = x at *
      generalize ys.getD k 0 = y at *
      generalize f k = z at cf0
      have HE1 := Lib.hid E1
      have HE2 := Lib.hid E2
      clear E1 E2
      by_cases hky : k < ys.length
      · have e1 : decide (k < ys.length) = true := decide_eq_true hky
        have e2 : decide ((k : Int) < (ys.length : Int)) = true := dec_t (by omega)
        have cy1 := cy0 hky
        clear cy0 y0
        go_wp2
        go_roundw
        case rel =>
          exact ⟨k + 1, by omega, by go_num, q1, _, congrArg (Value.int .u64) HE1.out, HKP.out.setCell _ (fun h => absurd h (by have := HGO.out; omega)), DigA.set HAR.out k d (congrArg (Value.int .u32) HE2.out), HST.out⟩
        case measure => simp [intOf]; omega
      · have e1 : decide (k < ys.length) = false := decide_eq_false hky
        have e2 : decide ((k : Int) < (ys.length : Int)) = false := dec_f (by omega)
        obtain rfl : y = 0 := y0 hky
        have w0 : IntKind.u64.wrap (IntKind.u64.wrap ((x : Int) - q) - (0 : Nat)) = IntKind.u64.wrap ((x : Int) - q) := by
          rw [IntKind.wrap_u64, IntKind.wrap_u64]; omega
        have HE3 := Lib.hid (w0 ▸ HE1.out)
        have HE4 := Lib.hid (w0 ▸ HE2.out)
        clear cy0 y0 w0 HE1 HE2
        go_wp2
        go_roundw
        case rel =>
          exact ⟨k + 1, by omega, by go_num, q1, _, congrArg (Value.int .u64) HE3.out, HKP.out.setCell _ (fun h => absurd h (by have := HGO.out; omega)), DigA.set HAR.out k d (congrArg (Value.int .u32) HE4.out), HST.out⟩
        case measure => simp [intOf]; omega
    · have hlt : ¬ (k : Int) < (xs.length : Int) := by omega
      obtain rfl : k = xs.length := by omega
      have HFI := Lib.hid (hinv.fin hl HLE.out)
      clear hkp har hinv
      go_wp2
      go_ret
      refine ⟨_, _, rfl, HKP.out, dig_of_arr HAR.out (Nat.le_refl _) (by unfold maxLen; omega) HFI.out.1, ?_, ?_⟩
      · rw [digs_val, HFI.out.2]
      · rw [digs_len]
end Go.Proofs.Ytihcbmkjfacooaa
