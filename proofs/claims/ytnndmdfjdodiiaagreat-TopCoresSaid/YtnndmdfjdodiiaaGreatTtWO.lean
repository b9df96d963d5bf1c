/- The law's own small pieces: literals, bits, clauses, lists, options. The law's pieces: models, the sure clauses. -/
import Derived.Test.YtnndmdfjdodiiaaGreatTtWL
namespace Go.Proofs.YtnndmdfjdodiiaaGreat
open Go.ChangeShapes Go.WideShapes Go.RowKit Go.Maps
set_option linter.unusedVariables false
set_option linter.unusedSimpArgs false

set_option maxRecDepth 100000 in
theorem litHolds_any (w : World) (v : Value) (holds : List Bool) (h : IsBools w v holds) (x : Int) (h0 : x ≠ 0) (hx : x.natAbs ≤ holds.length) (hl : holds.length ≤ 1000) :
    Calls Tryz.prog 67 #[.int .i64 x, v] w fun e w' => e = .returned (.bool (Sv.litB holds x)) ∧ w' = w := by
  have hk : x.natAbs - 1 < holds.length := by omega
  rw [litB_eq holds x hk]
  obtain ⟨oa, ca, rfl, hca, hcm⟩ := h.len
  obtain ⟨b, o, rfl, hb, p0⟩ := h.at hk
  have hlt : ((x.natAbs - 1 : Nat) : Int) < (holds.length : Int) := by omega
  have hge : ¬ ((x.natAbs - 1 : Nat) : Int) < 0 := by omega
  by_cases hp : x < 0
  · have hd : decide (x < 0) = true := decide_eq_true hp
    obtain ⟨k, hk2⟩ : ∃ k : Nat, x.natAbs = k + 1 := ⟨x.natAbs - 1, by omega⟩
    obtain rfl : x = -((k : Int) + 1) := by omega
    have e0 : (-((k : Int) + 1)).natAbs - 1 = k := by omega
    simp only [e0] at *
    have e1 : -(-((k : Int) + 1)) - 1 = (k : Int) := by omega
    have e2 : (k : Int) + 1 - 1 = (k : Int) := by omega
    generalize holds[k] = bb at *
    clear h
    go_enter Tryz.func67, Tryz.ntmps67
    go_wp2
    refine bodyPost_ret (by simp [results, Tryz.results67, go_sem]; rfl) rfl ?_
    exact ⟨by rw [decide_eq_false (show ¬ (k : Int) + 1 < 0 by omega)]; cases bb <;> rfl, rfl⟩
  · have hd : decide (x < 0) = false := decide_eq_false hp
    obtain ⟨k, hk2⟩ : ∃ k : Nat, x.natAbs = k + 1 := ⟨x.natAbs - 1, by omega⟩
    obtain rfl : x = (k : Int) + 1 := by omega
    have e0 : ((k : Int) + 1).natAbs - 1 = k := by omega
    simp only [e0] at *
    have e2 : (k : Int) + 1 - 1 = (k : Int) := by omega
    generalize holds[k] = bb at *
    clear h
    go_enter Tryz.func67, Tryz.ntmps67
    go_wp2
    refine bodyPost_ret (by simp [results, Tryz.results67, go_sem]; rfl) rfl ?_
    exact ⟨rfl, rfl⟩
/-- The assignment that bits makes. -/
def bitL (s : Nat) : List Bool := (List.range 5).map fun i => s.testBit i
theorem bit_at : ∀ k : Fin 32, ∀ i : Fin 5, (bits BinOp.and IntKind.i64 ((k.val : Int) / 2 ^ i.val) 1 == 1) = k.val.testBit i.val := by decide +kernel
theorem OwnG.boolsT {w : World} {base : Nat} {v : Value} {l : List Bool} (h : OwnG TBo 1 boC w base v l) : IsBools w v l := by
  obtain ⟨oa, cap, e, a, b⟩ := OwnG.len h
  refine ⟨oa, cap, e, a, b, fun hne => ?_⟩
  obtain ⟨g, cap', e', hb, hl, hc⟩ := OwnG.cells boC_len h hne
  rw [e] at e'
  injection e' with q1 q2 q3
  refine ⟨g, 0, q1, hl, fun i x hx => ?_⟩
  have := hc i x hx 0 _ rfl
  simpa using this
set_option maxRecDepth 100000 in
set_option maxHeartbeats 8000000 in
theorem bits_any (w : World) (s : Nat) (hs : s < 32) : Calls Tryz.prog 38 #[.int .i64 (s : Int), .int .i64 5] w fun e w' => ∃ v, e = .returned v ∧ IsBools w' v (bitL s) ∧ Keep NoS w w' := by
  go_enter Tryz.func38, Tryz.ntmps38
  go_wp2
  go_loopw [5, 6] (fun v t wr => ∃ i : Nat, t = .int .i64 (i : Int) ∧ i ≤ 5 ∧ OwnG TBo 1 boC wr w.heap.size v ((List.range i).map fun j => s.testBit j) ∧ Keep NoS w wr) (fun _ t _ => (5 - intOf t).toNat)
  case atStart => exact ⟨0, rfl, by omega, OwnG.nil _ _, Keep.refl _ _⟩
  case round =>
    obtain ⟨i, rfl, hi, ho, hkr⟩ := hrel
    have HO := Lib.hid ho
    have HKR := Lib.hid hkr
    obtain ⟨ov, cv, hvv, -, -⟩ := OwnG.len ho
    rw [List.length_map, List.length_range] at hvv
    subst hvv
    clear ho hkr
    by_cases hin : i < 5
    case pos =>
      have hlt : (i : Int) < 5 := by omega
      have hbit : (bits BinOp.and IntKind.i64 ((s : Int) / 2 ^ i) 1 == 1) = s.testBit i := bit_at ⟨s, hs⟩ ⟨i, hin⟩
      obtain ⟨i0, hi0, hz0, hz1, hz2⟩ := info_parts infoBo
      have KA : Keep NoS w (wr.alloc (.cells #[.bool (s.testBit i)] TBo)) := HKR.out.alloc _
      obtain ⟨v3, w3, hr3, ho3, hg3⟩ := app_G (T := TBo) (c := boC) (K := 1) boC_len boC_one (sl := 24) Tryz.underlying24 hi0 hz0 hz1 hz2 rfl (by omega) (OwnG.keep HO.out ((Keep.refl NoS wr).alloc (.cells #[.bool (s.testBit i)] TBo))) (u := .slice (some ⟨wr.heap.size, 0, none⟩) 1 1) (ys := [s.testBit i]) ⟨some ⟨wr.heap.size, 0, none⟩, 1, rfl, fun _ => ⟨_, rfl, fun j u hj => by
        have hb := (blk_at (w := wr) #[.bool (s.testBit i)] TBo rfl).cell j
        rw [add_plain, Nat.zero_add, hb]
        simpa [boC] using hj⟩⟩ (by simp; omega) (by omega) KA.size
      have HON : Hid (OwnG TBo 1 boC w3 w.heap.size v3 ((List.range (i + 1)).map fun j => s.testBit j)) := Lib.hid (by rw [List.range_succ, List.map_append]; exact ho3)
      have HKN : Hid (Keep NoS w w3) := Lib.hid (KA.grown hg3 fun q hq => OwnG.block HO.out q hq)
      clear KA ho3 hg3
      go_wp2_with (at_builtin; refine wpList_app_run _ _ 24 _ _ rfl rfl rfl rfl hr3 ?_)
      go_roundw
      case rel => exact ⟨i + 1, by go_num, by omega, HON.out, HKN.out⟩
      case measure => simp [intOf]; omega
    case neg =>
      have hlt : ¬ (i : Int) < 5 := by omega
      obtain rfl : i = 5 := by omega
      go_wp2
      refine bodyPost_ret (by simp [results, Tryz.results38, go_sem]; rfl) rfl ?_
      exact ⟨_, rfl, OwnG.boolsT HO.out, HKR.out⟩
theorem any_step {p : Int → Bool} {c : List Int} {k : Nat} (hk : k < c.length) : (c.take (k + 1)).any p = ((c.take k).any p || p c[k]) := by
  rw [List.take_succ_eq_append_getElem hk, List.any_append]
  simp
theorem all_stepC {p : List Int → Bool} {c : List (List Int)} {k : Nat} (hk : k < c.length) : (c.take (k + 1)).all p = ((c.take k).all p && p c[k]) := by
  rw [List.take_succ_eq_append_getElem hk, List.all_append]
  simp
set_option maxRecDepth 100000 in
set_option maxHeartbeats 8000000 in
theorem clausesHold_any (w : World) (v u : Value) (cls : List (List Int)) (holds : List Bool) (hc : IsCls w v cls) (h : IsBools w u holds) (hx : ∀ c ∈ cls, ∀ x ∈ c, x ≠ 0 ∧ x.natAbs ≤ holds.length) (hl : holds.length ≤ 1000) (hn : cls.length ≤ 1000) (hcl : ∀ c ∈ cls, c.length ≤ 1000) :
    Calls Tryz.prog 37 #[v, u] w fun e w' => e = .returned (.bool (cls.all fun c => c.any (Sv.litB holds))) ∧ w' = w := by
  have HC := Lib.hid hc
  have HB := Lib.hid h
  have CL := Lib.hid (fun c (hc : c ∈ cls) x (h1 : x ∈ c) => litHolds_any w u holds h x (hx c hc x h1).1 (hx c hc x h1).2 hl)
  have HCL := Lib.hid hcl
  obtain ⟨oc, cc, rfl, -⟩ := hc.len
  obtain ⟨ou, cu, rfl, hcu, hcm⟩ := h.len
  obtain ⟨R, hR⟩ : ∃ R, R = cls.all fun c => c.any (Sv.litB holds) := ⟨_, rfl⟩
  rw [← hR]
  have HR := Lib.hid hR
  generalize holds.length = nh at *
  clear hc h hx hl hcl hR hcu hcm
  go_enter Tryz.func37, Tryz.ntmps37
  go_wp2
  go_loopw [5] (fun t wr => ∃ i : Nat, t = .int .i64 (i : Int) ∧ i ≤ cls.length ∧ ((cls.take i).all fun c => c.any (Sv.litB holds)) = true ∧ wr = w) (fun t _ => (cls.length - intOf t).toNat)
  case atStart => exact ⟨0, rfl, by omega, by simp, rfl⟩
  case round =>
    obtain ⟨i, rfl, hi, ha, hw⟩ := hrel
    have hw : w = wr := hw.symm
    subst hw
    have HA := Lib.hid ha
    clear ha
    by_cases hin : i < cls.length
    case neg =>
      have hlt : ¬ (i : Int) < (cls.length : Int) := by omega
      have hd : decide ((i : Int) < (cls.length : Int)) = false := decide_eq_false hlt
      have HE : Hid (R = true) := Lib.hid (by rw [HR.out]; have h1 := HA.out; rwa [List.take_of_length_le (by omega)] at h1)
      go_wp2
      refine bodyPost_ret (by simp [results, Tryz.results37, go_sem]; rfl) rfl ?_
      exact ⟨by rw [HE.out], rfl⟩
    case pos =>
      have hlt : (i : Int) < (cls.length : Int) := by omega
      have hd : decide ((i : Int) < (cls.length : Int)) = true := decide_eq_true hlt
      obtain ⟨b1, o1, oq, cq, e1, l1, p1, pI, -, -⟩ := HC.out.at hin
      subst e1
      have hcm2 := HCL.out _ (List.getElem_mem hin)
      have CLI := Lib.hid (CL.out _ (List.getElem_mem hin))
      have HST : Hid (((cls.take (i + 1)).all fun c => c.any (Sv.litB holds)) = (((cls.take i).all fun c => c.any (Sv.litB holds)) && cls[i].any (Sv.litB holds))) := Lib.hid (all_stepC hin)
      have HRF : Hid (cls[i].any (Sv.litB holds) = false → R = false) := Lib.hid (fun h => by
        rw [HR.out, List.all_eq_false]
        exact ⟨cls[i], List.getElem_mem hin, by rw [h]; simp⟩)
      generalize cls[i] = c at *
      have HI := Lib.hid pI
      clear pI
      go_wp2
      go_loopw [6, 7] (fun g t wr => ∃ k : Nat, t = .int .i64 (k : Int) ∧ k ≤ c.length ∧ g = .bool ((c.take k).any (Sv.litB holds)) ∧ wr = w) (fun _ t _ => (c.length - intOf t).toNat)
      case atStart => exact ⟨0, rfl, by omega, by simp, rfl⟩
      case round =>
        obtain ⟨k, rfl, hk, rfl, hw⟩ := hrel
        have hw : w = wr := hw.symm
        subst hw
        by_cases hkl : k < c.length
        case pos =>
          have hlt2 : (k : Int) < (c.length : Int) := by omega
          have hd2 : decide ((k : Int) < (c.length : Int)) = true := decide_eq_true hlt2
          obtain ⟨b2, o2, c2, e2, l2, p2⟩ := HI.out.at hkl
          injection e2 with q1 q2 q3
          subst q1
          clear q2 q3
          have CX := Lib.hid (CLI.out _ (List.getElem_mem hkl))
          have HS2 := Lib.hid (any_step (p := Sv.litB holds) hkl)
          generalize c[k] = x at *
          generalize (c.take k).any (Sv.litB holds) = g at *
          generalize Sv.litB holds x = lb at *
          cases g with
          | true =>
            go_wp2
            go_roundw
            case rel => exact ⟨k + 1, by go_num, by omega, by rw [HS2.out]; rfl, trivial⟩
            case measure => simp [intOf]; omega
          | false =>
            go_wp2_with fail
            refine CX.out.mono ?_
            rintro e w1 ⟨rfl, hw⟩
            subst hw
            go_wp2
            go_roundw
            case rel => exact ⟨k + 1, by go_num, by omega, by rw [HS2.out]; cases lb <;> rfl, trivial⟩
            case measure => simp [intOf]; omega
        case neg =>
          have hlt2 : ¬ (k : Int) < (c.length : Int) := by omega
          have hd2 : decide ((k : Int) < (c.length : Int)) = false := decide_eq_false hlt2
          have ht : c.take k = c := List.take_of_length_le (by omega)
          rw [ht]
          generalize c.any (Sv.litB holds) = g at *
          cases g with
          | true =>
            have HN : Hid (((cls.take (i + 1)).all fun c => c.any (Sv.litB holds)) = true) := Lib.hid (by rw [HST.out, HA.out]; rfl)
            clear HST
            go_wp2
            go_roundw
            case rel => exact ⟨i + 1, by go_num, by omega, HN.out, trivial⟩
            case measure => simp [intOf]; omega
          | false =>
            have HN := Lib.hid (HRF.out rfl)
            go_wp2
            refine bodyPost_ret (by simp [results, Tryz.results37, go_sem]; rfl) rfl ?_
            exact ⟨by rw [HN.out], rfl⟩
set_option maxRecDepth 100000 in
set_option maxHeartbeats 8000000 in
theorem sameInts_any (w : World) (v u : Value) (l : List Int) (hv : IsInts w v l) (hu : IsInts w u l) : Calls Tryz.prog 18 #[v, u] w fun e w' => e = .returned (.bool true) ∧ Keep NoS w w' := by
  have HV := Lib.hid hv
  have HU := Lib.hid hu
  obtain ⟨ov, cv, rfl, hml⟩ := hv.len
  obtain ⟨ou, cu, rfl, -⟩ := hu.len
  unfold maxLen at hml
  clear hv hu
  generalize hn : l.length = n at *
  have HN := Lib.hid hn
  clear hn
  go_enter Tryz.func18, Tryz.ntmps18
  go_wp2
  go_loopw [5] (fun t wr => ∃ i : Nat, t = .int .i64 (i : Int) ∧ i ≤ n ∧ Keep NoS w wr) (fun t _ => (n - intOf t).toNat)
  case atStart => exact ⟨0, rfl, by omega, Keep.refl _ _⟩
  case round =>
    obtain ⟨i, rfl, hi, hkr⟩ := hrel
    have HKR := Lib.hid hkr
    clear hkr
    by_cases hin : i < n
    case neg =>
      have hlt : ¬ (i : Int) < (n : Int) := by omega
      have hd : decide ((i : Int) < (n : Int)) = false := decide_eq_false hlt
      go_wp2
      refine bodyPost_ret (by simp [results, Tryz.results18, go_sem]; rfl) rfl ?_
      exact ⟨rfl, HKR.out⟩
    case pos =>
      have hlt : (i : Int) < (n : Int) := by omega
      have hd : decide ((i : Int) < (n : Int)) = true := decide_eq_true hlt
      have hil : i < l.length := by rw [HN.out]; exact hin
      obtain ⟨b1, o1, c1, e1, l1, p1⟩ := (HV.out.keep HKR.out).at hil
      obtain ⟨b2, o2, c2, e2, l2, p2⟩ := (HU.out.keep HKR.out).at hil
      injection e1 with q1 q2 q3
      subst q1
      clear q2 q3
      injection e2 with q1 q2 q3
      subst q1
      clear q2 q3
      generalize l[i] = x at *
      clear hil
      have e3 : (x != x) = false := by simp
      go_upto_region 6 with fail
      refine wp_region_by (fun w' => Keep NoS wr w') [] [] [0, 1, 2, 3, 4, 5, 6, 7, 8] (by kernel_rfl) (by kernel_rfl) (Keep.refl _ _).drew ?_
      intro X W hne hF hcl
      have HCL := Lib.hid hcl
      have z1 := fun x => ((hF x).cell l1).trans p1
      have z2 := fun x => ((hF x).cell l2).trans p2
      have zl := fun x => Nat.lt_of_lt_of_le l1 (hF x).size
      have zm := fun x => Nat.lt_of_lt_of_le l2 (hF x).size
      clear hF hcl
      simp only [wpPlan, pickOps, List.getElem?_toArray, List.getElem?_cons_zero, List.getElem?_cons_succ, clsOf, Bool.false_eq_true, if_false]
      (repeat (quiet_step (fail))); refine wpQuiet_nil ?_
      refine NoPanic.normal ?_
      have HKD := Lib.hid HKR.out.drew
      clear HCL z1 z2 zl zm p1 p2 l1 l2
      go_wp2
      go_roundw
      case rel => exact ⟨i + 1, by go_num, by omega, HKD.out⟩
      case measure => simp [intOf]; omega
set_option maxRecDepth 100000 in
set_option maxHeartbeats 8000000 in
theorem options_any (w : World) (x : Int) (hx : I64 x) : Calls Tryz.prog 15 #[.int .i64 x] w fun e w' => ∃ ph : OpO, ph.OK ∧ e = .returned (.agg #[.int .i64 ph.a, .int .i64 ph.b, .int .i64 ph.c, .int .i64 ph.d]) ∧ Keep NoS w w' := by
  have CP := fun w' x n h1 h2 h3 => Lib.hid (picked_any w' x n h1 h2 h3)
  have h7 := tdiv_64' (x := x) (k := 7) (by omega) hx
  have h28 := tdiv_64' (x := x) (k := 28) (by omega) hx
  have h84 := tdiv_64' (x := x) (k := 84) (by omega) hx
  have w7 := IntWalk.i64_in _ h7
  have w28 := IntWalk.i64_in _ h28
  have w84 := IntWalk.i64_in _ h84
  have HX := Lib.hid hx
  have H7 := Lib.hid h7
  have H28 := Lib.hid h28
  have H84 := Lib.hid h84
  clear hx h7 h28 h84
  go_enter Tryz.func15, Tryz.ntmps15
  go_wp2_with fail
  refine (CP _ x 1001 HX.out (by omega) (by omega)).out.mono ?_
  rintro e w1 ⟨r1, a1, b1, rfl, hw⟩
  subst hw
  go_wp2_with fail
  refine (CP _ (x.tdiv 7) 4 H7.out (by omega) (by omega)).out.mono ?_
  rintro e w1 ⟨r2, a2, b2, rfl, hw⟩
  subst hw
  go_wp2_with fail
  refine (CP _ (x.tdiv 28) 3 H28.out (by omega) (by omega)).out.mono ?_
  rintro e w1 ⟨r3, a3, b3, rfl, hw⟩
  subst hw
  go_wp2_with fail
  refine (CP _ (x.tdiv 84) 3 H84.out (by omega) (by omega)).out.mono ?_
  rintro e w1 ⟨r4, a4, b4, rfl, hw⟩
  subst hw
  have hm5 : r3 * 5 ≤ 10 := by omega
  have hm6 : 0 ≤ r3 * 5 := by omega
  go_wp2
  refine bodyPost_ret (by simp [results, Tryz.results15, go_sem]; rfl) rfl ?_
  exact ⟨⟨r1, r2, r3 * 5, r4⟩, ⟨⟨a1, by show r1 ≤ 1000; omega⟩, ⟨a2, by show r2 ≤ 1000000; omega⟩, ⟨hm6, by show r3 * 5 ≤ 1000000; omega⟩, ⟨a4, by show r4 ≤ 2; omega⟩⟩, rfl, by (repeat' (with_reducible first | assumption | exact HK.out | exact keR | refine keA ?_ | refine keS ?_ fun h => absurd h (by omega) | refine keN ?_ | refine keD ?_))⟩
end Go.Proofs.YtnndmdfjdodiiaaGreat

namespace Go.Proofs.YtnndmdfjdodiiaaGreat
open Go.ChangeShapes Go.WideShapes Go.RowKit Go.Maps
set_option linter.unusedVariables false
set_option linter.unusedSimpArgs false

theorem bitL_sat {cls : List (List Int)} (hv : ∀ c ∈ cls, ValidC 5 c) : (∃ s, s < 32 ∧ (cls.all fun c => c.any (Sv.litB (bitL s))) = true) ↔ ∃ a, SatN cls a := by
  have hb : ∀ s v, 1 ≤ v → v ≤ 5 → (bitL s).getD (v - 1) false = s.testBit (v - 1) := fun s v h1 h5 => by
    unfold bitL
    rw [List.getD_eq_getElem?_getD, List.getElem?_map, List.getElem?_range (by omega)]
    rfl
  constructor
  · rintro ⟨s, -, h⟩
    exact sat_of_holds h
  · rintro ⟨a, ha⟩
    refine ⟨maskN (fun i => a (i + 1)) 5, maskN_lt _ 5, ?_⟩
    rw [List.all_eq_true]
    intro c hc
    rw [List.any_eq_true]
    obtain ⟨l, hl, he⟩ := ha c hc
    have := (hv c hc).2 l hl
    refine ⟨l, hl, ?_⟩
    unfold Sv.litB
    rw [hb _ _ (by omega) this.2, maskN_bit, decide_eq_true (by omega), Bool.true_and, show l.natAbs - 1 + 1 = l.natAbs by omega, he]
    simp
set_option maxRecDepth 100000 in
set_option maxHeartbeats 8000000 in
theorem models_any (w : World) (oc : Option Addr) (cc : Nat) (cls : List (List Int)) (hc : IsCls w (.slice oc cls.length cc) cls) (hv : ∀ c ∈ cls, ValidC 5 c) (hl : cls.length ≤ 20) :
    Calls Tryz.prog 16 #[.agg #[.int .i64 5, .slice oc cls.length cc]] w fun e w' => ∃ m : Nat, e = .returned (.int .i64 (m : Int)) ∧ (0 < m ↔ ∃ a, SatN cls a) ∧ Keep NoS w w' := by
  have CB := Lib.hid (fun w' s hs => bits_any w' s hs)
  have CH := Lib.hid (fun w' (k : Keep NoS w w') u s (h : IsBools w' u (bitL s)) => clausesHold_any w' (.slice oc cls.length cc) u cls (bitL s) (hc.keep k) h (fun c hcm x hx => by have := (hv c hcm).2 x hx; unfold bitL; simp; exact this) (by unfold bitL; simp) (by omega) (fun c hcm => by have := (hv c hcm).le; omega))
  have HSB := Lib.hid (bitL_sat hv)
  obtain ⟨w2, hw2⟩ : ∃ w2 : World, w2 = w.alloc (.cells #[.int .i64 5, .slice oc cls.length cc] TCn) := ⟨_, rfl⟩
  have K2 : Hid (Keep NoS w w2) := Lib.hid (by rw [hw2]; exact (Keep.refl _ _).alloc _)
  have B1 : Hid (Blk w2 w.heap.size #[.int .i64 5, .slice oc cls.length cc]) := Lib.hid (by rw [hw2]; exact blk_at _ _ rfl)
  generalize cls.length = n at *
  clear hc hv
  go_enter Tryz.func16, Tryz.ntmps16
  go_upto_region 1 with fail
  rw [← hw2]
  clear hw2
  generalize w.heap.size = g1 at *
  go_wp2
  go_loopw [3, 4] (fun m t wr => ∃ s k : Nat, t = .int .i64 (s : Int) ∧ s ≤ 32 ∧ m = .int .i64 (k : Int) ∧ k ≤ s ∧ (0 < k ↔ ∃ j, j < s ∧ (cls.all fun c => c.any (Sv.litB (bitL j))) = true) ∧ Keep NoS w2 wr) (fun _ t _ => (32 - intOf t).toNat)
  case atStart => exact ⟨0, 0, rfl, by omega, rfl, by omega, ⟨fun h => by omega, fun ⟨j, h, _⟩ => by omega⟩, Keep.refl _ _⟩
  case round =>
    obtain ⟨s, k, rfl, hs, rfl, hk, hm, hkr⟩ := hrel
    have HM := Lib.hid hm
    have HKR := Lib.hid hkr
    have BR := B1.out.keep hkr
    have x0 : wr.cell? ⟨g1, 0, none⟩ = some (.int .i64 5) := BR.cell 0
    have x1 : wr.cell? ⟨g1, 1, none⟩ = some (.slice oc n cc) := BR.cell 1
    have xl := BR.lt
    clear hm hkr BR
    by_cases hin : s < 32
    case neg =>
      have hlt : ¬ (s : Int) < 32 := by omega
      obtain rfl : s = 32 := by omega
      go_wp2
      refine bodyPost_ret (by simp [results, Tryz.results16, go_sem]; rfl) rfl ?_
      exact ⟨k, rfl, HM.out.trans HSB.out, K2.out.both HKR.out⟩
    case pos =>
      have hlt : (s : Int) < 32 := by omega
      have CB1 := Lib.hid (fun w' => CB.out w' s hin)
      go_upto_region 5 with fail
      refine wp_region_by (fun w' => Keep NoS wr w') [] [([0, 1, 2, 3, 4], 5), ([], 6)] [] (by kernel_rfl) (by kernel_rfl) (Keep.refl _ _).drew ?_
      intro X W hne hF hcl
      have HCL := Lib.hid hcl
      have z0 := fun x => ((hF x).cell xl).trans x0
      have z1 := fun x => ((hF x).cell xl).trans x1
      have zl := fun x => Nat.lt_of_lt_of_le xl (hF x).size
      clear hF hcl
      simp only [wpPlan, pickOps, List.getElem?_toArray, List.getElem?_cons_zero, List.getElem?_cons_succ, clsOf, Bool.false_eq_true, if_false]
      (repeat (quiet_step (fail))); refine wpQuiet_nil ?_
      refine wpAt rfl rfl fun K hK => ?_
      go_simp
      refine (CB1.out _).mono ?_
      rintro e w6 ⟨u, rfl, hu, hk6⟩
      have k6 : Keep NoS wr w6 := Keep.both (Keep.refl _ _).drew hk6
      have CH1 := Lib.hid (CH.out w6 ((K2.out.both HKR.out).both k6) u s hu)
      refine hK _ _ ⟨fun _ => HCL.out _ k6, ?_⟩
      clear hK K hk6
      (repeat (quiet_step (fail))); refine wpQuiet_nil ?_
      refine wpAt rfl rfl fun K hK => ?_
      go_simp
      refine CH1.out.mono ?_
      rintro e w7 ⟨rfl, hw7⟩
      subst hw7
      refine hK _ _ ⟨fun _ => HCL.out _ k6, ?_⟩
      clear hK K
      (repeat (quiet_step (fail))); refine wpQuiet_nil ?_
      refine NoPanic.normal ?_
      have HK6 := Lib.hid (HKR.out.both k6)
      clear HCL z0 z1 zl x0 x1 xl k6 CH1 hu
      generalize hg : (cls.all fun c => c.any (Sv.litB (bitL s))) = gd at *
      have HGD := Lib.hid hg
      clear hg
      cases gd with
      | true =>
        have HMN : Hid (0 < k + 1 ↔ ∃ j, j < s + 1 ∧ (cls.all fun c => c.any (Sv.litB (bitL j))) = true) := Lib.hid ⟨fun _ => ⟨s, by omega, HGD.out⟩, fun _ => by omega⟩
        go_wp2
        go_roundw
        case rel => exact ⟨s + 1, k + 1, by go_num, by omega, by go_num, by omega, HMN.out, HK6.out⟩
        case measure => simp [intOf]; omega
      | false =>
        have HMN : Hid (0 < k ↔ ∃ j, j < s + 1 ∧ (cls.all fun c => c.any (Sv.litB (bitL j))) = true) := Lib.hid (HM.out.trans ⟨fun ⟨j, h1, h2⟩ => ⟨j, by omega, h2⟩, fun ⟨j, h1, h2⟩ => by
          rcases Nat.lt_or_ge j s with h | h
          · exact ⟨j, h, h2⟩
          · obtain rfl : j = s := by omega
            rw [HGD.out] at h2
            cases h2⟩)
        go_wp2
        go_roundw
        case rel => exact ⟨s + 1, k, by go_num, by omega, rfl, by omega, HMN.out, HK6.out⟩
        case measure => simp [intOf]; omega
theorem runSure : Cd.runF 2 [[1], [-1]] ⟨[], []⟩ = (⟨[1], [0]⟩, 1) := by kernel_rfl
theorem doSure : Sv.doC 1 false 2000 [[1], [-1]] = .no [[]] 1 := by
  rw [Sv.doC_unit (by omega) runSure (fun e => absurd e (by omega)), if_pos (by omega)]
set_option maxRecDepth 100000 in
set_option maxHeartbeats 8000000 in
theorem clSure_any (w : World) : Calls Tryz.prog 17 #[] w fun e w' => e = .returned (.bool true) ∧ Keep NoS w w' := by
  obtain ⟨w2, hw2⟩ : ∃ w2 : World, w2 = ((w.alloc (.cells #[.int .i64 1] TI)).alloc (.cells #[.int .i64 (-1)] TI)).alloc (.cells #[.slice (some ⟨w.heap.size, 0, none⟩) 1 1, .slice (some ⟨w.heap.size + 1, 0, none⟩) 1 1] TLi) := ⟨_, rfl⟩
  have K2 : Hid (Keep NoS w w2) := Lib.hid (by rw [hw2]; exact (((Keep.refl _ _).alloc _).alloc _).alloc _)
  have B1 : Blk w2 w.heap.size #[.int .i64 1] := by rw [hw2]; exact Blk.old (Blk.old (blk_at _ _ rfl) _) _
  have B2 : Blk w2 (w.heap.size + 1) #[.int .i64 (-1)] := by rw [hw2]; exact Blk.old (blk_at _ _ (by simp)) _
  have B3 : Blk w2 (w.heap.size + 1 + 1) #[.slice (some ⟨w.heap.size, 0, none⟩) 1 1, .slice (some ⟨w.heap.size + 1, 0, none⟩) 1 1] := by rw [hw2]; exact blk_at _ _ (by simp)
  have one : ∀ (b : Nat) (x : Int), Blk w2 b #[.int .i64 x] → I64 x → IsInts w2 (.slice (some ⟨b, 0, none⟩) 1 1) [x] := fun b x hb hx => ⟨some ⟨b, 0, none⟩, 1, rfl, by unfold maxLen; simp, fun y hy => by rw [List.mem_singleton.1 hy]; exact hx, fun _ => ⟨b, 0, rfl, hb.lt, fun i y hi => by
    have h0 : i = 0 := by have := (List.getElem?_eq_some_iff.1 hi).1; simp at this; exact this
    subst h0
    simp at hi
    subst hi
    exact hb.cell 0⟩⟩
  have HCL : IsCls w2 (.slice (some ⟨w.heap.size + 1 + 1, 0, none⟩) 2 2) [[1], [-1]] := ⟨some ⟨w.heap.size + 1 + 1, 0, none⟩, 2, rfl, by simp, by unfold maxLen; simp, fun _ => ⟨w.heap.size + 1 + 1, 0, rfl, B3.lt, fun i c hi => by
    rcases i with _ | _ | i
    · simp at hi
      subst hi
      exact ⟨_, B3.cell 0, one _ 1 B1 (by unfold I64; omega), ⟨_, 1, 1, rfl, by omega, by unfold maxLen; omega⟩⟩
    · simp at hi
      subst hi
      exact ⟨_, B3.cell 1, one _ (-1) B2 (by unfold I64; omega), ⟨_, 1, 1, rfl, by omega, by unfold maxLen; omega⟩⟩
    · simp at hi⟩⟩
  have hok : CnfOK 1 [[1], [-1]] := ⟨by omega, by simp, fun c hc => by
    simp at hc
    rcases hc with rfl | rfl <;> exact ⟨⟨by simp, fun l hl => by obtain rfl := List.mem_singleton.1 hl; simp⟩, by simp⟩⟩
  have CD := cdclDo_any 1 w2 _ 2 [[1], [-1]] 0 0 0 0 2000 HCL hok (by omega) (by omega) (by omega) (by omega) (by omega) (by decide)
  rw [show ((0 : Int) == 1) = false from rfl, show (2000 : Int).toNat = 2000 from rfl, doSure] at CD
  have CD := Lib.hid CD
  clear HCL hok B1 B2 B3 one
  go_enter Tryz.func17, Tryz.ntmps17
  go_wp2_with fail
  rw [← hw2]
  clear hw2
  refine CD.out.mono ?_
  rintro e w9 ⟨hk9, o, c, rfl, -⟩
  have HK9 := Lib.hid (K2.out.both hk9)
  clear hk9 CD
  unfold ansV fa0
  go_wp2
  refine bodyPost_ret (by simp [results, Tryz.results17, go_sem]; rfl) rfl ?_
  exact ⟨rfl, by first | exact ((HK9.out.alloc _).alloc _) | (repeat' (with_reducible first | assumption | exact HK.out | exact keR | refine keA ?_ | refine keS ?_ fun h => absurd h (by omega) | refine keN ?_ | refine keD ?_))⟩
set_option maxRecDepth 100000 in
set_option maxHeartbeats 16000000 in
theorem free_any (w : World) (oc : Option Addr) (n cc : Nat) :
    Calls Tryz.prog 14 #[.agg #[.int .i64 5, .slice oc n cc]] w fun e w' => ∃ (oa : Option Addr) (ca : Nat), e = .returned (.agg #[.slice none 0 0, .slice none 0 0, .slice oa 5 ca, .slice oc n cc]) ∧ IsAtoms w' (.slice oa 5 ca) (List.replicate 5 ⟨1, 0, 0⟩) ∧ Keep NoS w w' := by
  obtain ⟨w1, hw1⟩ : ∃ w1 : World, w1 = (w.alloc (.cells #[.int .i64 5, .slice oc n cc] TCn)).alloc (.cells #[.slice none 0 0, .slice none 0 0, .slice none 0 0, .slice none 0 0] TFmS) := ⟨_, rfl⟩
  have K1 : Keep NoS w w1 := by rw [hw1]; exact ((Keep.refl _ _).alloc _).alloc _
  have B1 : w1.heap[w.heap.size]? = some (.cells #[.int .i64 5, .slice oc n cc] TCn (0, 0)) := by rw [hw1, heap_alloc_old _ _ _ (by simp)]; exact heap_alloc_at _ _ _ rfl
  have B2 : w1.heap[w.heap.size + 1]? = some (.cells #[.slice none 0 0, .slice none 0 0, .slice none 0 0, .slice none 0 0] TFmS (0, 0)) := by rw [hw1]; exact heap_alloc_at _ _ _ (by simp)
  have hs1 : w1.heap.size = w.heap.size + 1 + 1 := by rw [hw1]; simp
  obtain ⟨w2, hw2⟩ : ∃ w2 : World, w2 = w1.alloc (.cells #[.slice none 0 0, .slice none 0 0, .slice none 0 0, .slice oc n cc] TFmS) := ⟨_, rfl⟩
  have k12 : Keep NoS w1 w2 := by rw [hw2]; exact (Keep.refl _ _).alloc _
  have HK2 := Lib.hid (K1.both k12)
  have HB1 := Lib.hid ((k12.block w.heap.size (lt_of_heap B1) fun _ h => h).trans B1)
  have HB2 := Lib.hid ((k12.block (w.heap.size + 1) (lt_of_heap B2) fun _ h => h).trans B2)
  have HB3 : Hid (w2.heap[w.heap.size + 1 + 1]? = some (.cells #[.slice none 0 0, .slice none 0 0, .slice none 0 0, .slice oc n cc] TFmS (0, 0))) := Lib.hid (by rw [hw2, ← hs1]; exact heap_alloc_at _ _ _ rfl)
  have x0 : w1.cell? ⟨w.heap.size, 0, none⟩ = some (.int .i64 5) := cell_of_heap (o := 0) B1 rfl
  have x1 : w1.cell? ⟨w.heap.size, 1, none⟩ = some (.slice oc n cc) := cell_of_heap (o := 1) B1 rfl
  have xl := lt_of_heap B1
  clear K1 k12 B1 B2
  go_enter Tryz.func14, Tryz.ntmps14
  go_upto_region 1 with fail
  rw [← hw1]
  clear hw1
  go_upto_region 2 with fail
  rw [← hw2]
  clear hw2 x0 x1 xl hs1
  generalize hg1 : w.heap.size = g1 at *
  have HG1 := Lib.hid hg1
  clear hg1
  go_wp2
  go_loopw [4] (fun t wr => ∃ (i : Nat) (v : Value), t = .int .i64 (i : Int) ∧ i ≤ 5 ∧ wr.heap[g1]? = some (.cells #[.int .i64 5, .slice oc n cc] TCn (0, 0)) ∧ wr.heap[g1 + 1]? = some (.cells #[.slice none 0 0, .slice none 0 0, .slice none 0 0, .slice none 0 0] TFmS (0, 0)) ∧ wr.heap[g1 + 1 + 1]? = some (.cells #[.slice none 0 0, .slice none 0 0, v, .slice oc n cc] TFmS (0, 0)) ∧ OwnG TAt 6 atC wr g1 v (List.replicate i ⟨1, 0, 0⟩) ∧ Keep NoS w wr) (fun t _ => (5 - intOf t).toNat)
  case atStart => exact ⟨0, _, rfl, by omega, HB1.out, HB2.out, HB3.out, OwnG.nil _ _, HK2.out⟩
  case round =>
    clear HB1 HB2 HB3 HK2
    obtain ⟨i, v, rfl, hi, h1, h2, h3, ho, hkr⟩ := hrel
    have H1 := Lib.hid h1
    have H2 := Lib.hid h2
    have H3 := Lib.hid h3
    have HO := Lib.hid ho
    have HKR := Lib.hid hkr
    obtain ⟨ov, cv, hvv, -, -⟩ := OwnG.len ho
    rw [List.length_replicate] at hvv
    subst hvv
    have x0 : wr.cell? ⟨g1, 0, none⟩ = some (.int .i64 5) := cell_of_heap (o := 0) h1 rfl
    have xl := lt_of_heap h1
    have y0 : wr.cell? ⟨g1 + 1 + 1, 0, none⟩ = some (.slice none 0 0) := cell_of_heap (o := 0) h3 rfl
    have y1 : wr.cell? ⟨g1 + 1 + 1, 1, none⟩ = some (.slice none 0 0) := cell_of_heap (o := 1) h3 rfl
    have y2 : wr.cell? ⟨g1 + 1 + 1, 2, none⟩ = some (.slice ov i cv) := cell_of_heap (o := 2) h3 rfl
    have y3 : wr.cell? ⟨g1 + 1 + 1, 3, none⟩ = some (.slice oc n cc) := cell_of_heap (o := 3) h3 rfl
    have yl := lt_of_heap h3
    clear ho hkr h1 h2 h3
    by_cases hin : i < 5
    case neg =>
      have hlt : ¬ (i : Int) < 5 := by omega
      obtain rfl : i = 5 := by omega
      have b2 : Blk wr (g1 + 1) #[.slice none 0 0, .slice none 0 0, .slice none 0 0, .slice none 0 0] := ⟨_, H2.out⟩
      have z0 : wr.cell? ⟨g1 + 1, 0, none⟩ = some (.slice none 0 0) := b2.cell 0
      have z1 : wr.cell? ⟨g1 + 1, 1, none⟩ = some (.slice none 0 0) := b2.cell 1
      have z2 : wr.cell? ⟨g1 + 1, 2, none⟩ = some (.slice none 0 0) := b2.cell 2
      have z3 : wr.cell? ⟨g1 + 1, 3, none⟩ = some (.slice none 0 0) := b2.cell 3
      have e0 := b2.free 0
      have e1 := b2.free 1
      have e2 := b2.free 2
      have e3 := b2.free 3
      have zl := b2.lt
      clear b2
      go_wp2
      refine bodyPost_ret (by simp [results, Tryz.results14, go_sem, z0, z1, z2, z3, zl]; rfl) rfl ?_
      have hg1 := HG1.out
      have hne : ∀ q, (Value.slice ov 5 cv).ownBlock = some q → q ≠ g1 + 1 := fun q hq => by
        obtain ⟨A, hA⟩ := own_atT HO.out hq
        exact ty_ne hA H2.out (by decide)
      refine ⟨ov, cv, rfl, OwnG.atoms (World.ownsRow_set_other (World.ownsRow_set_other (World.ownsRow_set_other (World.ownsRow_set_other HO.out hne) hne) hne) hne), ?_⟩
      exact keep_at (keep_at (keep_at (keep_at HKR.out _ (by omega)) _ (by omega)) _ (by omega)) _ (by omega)
    case pos =>
      have hlt : (i : Int) < 5 := by omega
      obtain ⟨i0, hi0, hz0, hz1, hz2⟩ := info_parts infoAt
      have k4 : Keep NoS wr (wr.alloc (.cells #[.int .i64 1, .int .i64 0, .int .i64 0, .slice none 0 0, .int .i64 0, .int .i64 0] TAt)) := (Keep.refl _ _).alloc _
      have KA := HKR.out.both k4
      obtain ⟨v5, w5, hr5, ho5, hg5, hv5⟩ := OwnG.app (T := TAt) (K := 6) (c := atC) atC_len Tryz.underlying25 hi0 hz0 hz1 hz2 rfl (by omega) (OwnG.keep HO.out k4) (x := (⟨1, 0, 0⟩ : Sv.At)) (b := wr.heap.size) (blk_at _ _ rfl) (atC_one _) (by unfold maxLen; rw [List.length_replicate]; omega) (by rw [List.length_replicate]; omega) (by have := KA.size; have := HG1.out; omega)
      have hty : ∀ q, (Value.slice ov i cv).ownBlock = some q → ∃ A, wr.heap[q]? = some (.cells A TAt (0, 0)) := fun q hq => own_atT HO.out hq
      have hne : ∀ (k : Nat) (A : Array Value) (t : TypeId), wr.heap[k]? = some (.cells A t (0, 0)) → t ≠ TAt → w5.heap[k]? = some (.cells A t (0, 0)) := fun k A t hk ht => by
        have h1 := (k4.block k (lt_of_heap hk) fun _ h => h).trans hk
        exact (hg5.block k (lt_of_heap h1) fun e => by obtain ⟨B, hB⟩ := hty k e.symm; exact ty_ne hB hk (fun h => ht h.symm) rfl).trans h1
      obtain ⟨o5, c5, hv5', -, -⟩ := OwnG.len ho5
      rw [List.length_append, List.length_replicate] at hv5'
      replace hv5' : v5 = .slice o5 (i + 1) c5 := hv5'
      subst hv5'
      have h35 := hne _ _ TFmS H3.out (by decide)
      have H1N := Lib.hid ((heap_setCell_other w5 ⟨g1 + 1 + 1, 2, none⟩ (.slice o5 (i + 1) c5) g1 (show g1 ≠ g1 + 1 + 1 by omega)).trans (hne _ _ TCn H1.out (by decide)))
      have H2N := Lib.hid ((heap_setCell_other w5 ⟨g1 + 1 + 1, 2, none⟩ (.slice o5 (i + 1) c5) (g1 + 1) (show g1 + 1 ≠ g1 + 1 + 1 by omega)).trans (hne _ _ TFmS H2.out (by decide)))
      have H3N : Hid ((w5.setCell ⟨g1 + 1 + 1, 2, none⟩ (.slice o5 (i + 1) c5)).heap[g1 + 1 + 1]? = some (.cells #[.slice none 0 0, .slice none 0 0, .slice o5 (i + 1) c5, .slice oc n cc] TFmS (0, 0))) := Lib.hid (by rw [Go.Joins.block_setCell h35 _]; rfl)
      have HON : Hid (OwnG TAt 6 atC (w5.setCell ⟨g1 + 1 + 1, 2, none⟩ (.slice o5 (i + 1) c5)) g1 (.slice o5 (i + 1) c5) (List.replicate (i + 1) ⟨1, 0, 0⟩)) := Lib.hid (by
        rw [List.replicate_succ']
        exact World.ownsRow_set_other ho5 fun q hq => by
          obtain ⟨A, hA⟩ := own_atT ho5 hq
          exact ty_ne hA h35 (by decide))
      have hk5 : Keep NoS w w5 := KA.grown hg5 fun q hq => by have := OwnG.block HO.out q hq; have := HG1.out; omega
      have HKN := Lib.hid (keep_at hk5 (b := g1 + 1 + 1) (i := 2) (.slice o5 (i + 1) c5) (by have := HG1.out; omega))
      have B5 : Blk w5 (g1 + 1 + 1) #[.slice none 0 0, .slice none 0 0, .slice ov i cv, .slice oc n cc] := ⟨_, h35⟩
      have f5 := B5.free 2
      have g5 : w5.cell? ⟨g1 + 1 + 1, 2, none⟩ = some (.slice ov i cv) := B5.cell 2
      have gl := B5.lt
      clear k4 KA ho5 hg5 hv5 hty hne h35 hk5 B5
      go_wp2_with (at_builtin; refine wpList_app_run _ _ 25 _ _ rfl rfl rfl rfl hr5 ?_)
      go_roundw
      case rel => exact ⟨i + 1, _, by go_num, by omega, H1N.out, H2N.out, H3N.out, HON.out, HKN.out⟩
      case measure => simp [intOf]; omega
end Go.Proofs.YtnndmdfjdodiiaaGreat
