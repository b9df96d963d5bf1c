/- The reference's RowWhole. -/
import Derived.Test.YtihcbmkjfacooaaRowR
import Derived.Test.YtihcbmkjfacooaaRowP
namespace Go.Proofs.Ytihcbmkjfacooaa
open Go.ChangeShapes Go.WideShapes Go.RowKit
set_option linter.unusedVariables false
set_option linter.unusedSimpArgs false

/-- A new block that holds two integers. -/
theorem two_int (w : World) (x y : Int) (hx : I64 x) (hy : I64 y) : IsInts (w.alloc (.cells #[.int .i64 x, .int .i64 y] TI)) (.slice (some ⟨w.heap.size, 0, none⟩) 2 2) [x, y] := by
  refine ⟨_, 2, rfl, by simp [maxLen], by simp [hx, hy], fun _ => ⟨w.heap.size, 0, rfl, by simp, fun i z hi => ?_⟩⟩
  rcases i with _ | _ | i
  · simp at hi; subst hi; simp
  · simp at hi; subst hi; simp
  · simp at hi

theorem gcd_ne {G : Nat} {t : Int} (hG : 0 < G) : Nat.gcd G t.natAbs ≠ G ↔ t.tmod (G : Int) ≠ 0 := by
  refine not_congr ?_
  constructor
  · intro h
    have hd : G ∣ t.natAbs := by rw [← h]; exact Nat.gcd_dvd_right _ _
    exact Int.tmod_eq_zero_of_dvd (Int.ofNat_dvd_left.2 hd)
  · intro h
    have hd : G ∣ t.natAbs := Int.ofNat_dvd_left.1 (Int.dvd_of_tmod_eq_zero h)
    exact Nat.gcd_eq_left hd

theorem byG_to (l : List Int) (k t : Int) (g : Nat) : (byG l k t g).to = t ∨ k = 3 ∧ (byG l k t g).to = -t := by
  unfold byG turnTo
  by_cases h : turnQ k (l.map fun x => x.tdiv g)
  · right; simp only [if_pos h]; exact ⟨h.1, trivial⟩
  · left; simp only [if_neg h]

theorem wholeP_eq {l : List Int} {K T : Int} {G : Nat} (hG : 0 < G) (hd : ∀ x ∈ l, G ∣ x.natAbs) (h1 : -1000001 ≤ T) (h2 : T ≤ 1000000) (h3 : K = 3 → -1000000 ≤ T) :
    (if K = 3 ∧ T.tmod G ≠ 0 then ((⟨[], 3, 1⟩, (0, 0)) : Rw × (Int × Int)) else if T / (G : Int) < -1000000 then (nilRw, (10, 0)) else (byG l K (T / (G : Int)) G, (0, 0))) =
    (if K = 3 ∧ Nat.gcd G T.natAbs ≠ G then (⟨[], K, 1⟩, (0, 0)) else if fitI (byR l K T G).to then (byR l K T G, (0, 0)) else (nilRw, (10, 0))) := by
  by_cases hc : K = 3 ∧ T.tmod G ≠ 0
  · rw [if_pos hc, if_pos ⟨hc.1, (gcd_ne hG).2 hc.2⟩, hc.1]
  · rw [if_neg hc, if_neg (show ¬ (K = 3 ∧ Nat.gcd G T.natAbs ≠ G) from fun h => hc ⟨h.1, (gcd_ne hG).1 h.2⟩)]
    have ht : K = 3 → G ∣ T.natAbs := fun h => Int.ofNat_dvd_left.1 (Int.dvd_of_tmod_eq_zero (Classical.byContradiction fun h' => hc ⟨h, h'⟩))
    rw [byR_eq hG hd ht]
    have hb := ediv_bound T G hG 1000001 (by omega) h1 (by omega)
    have hu : T / (G : Int) ≤ 1000000 := Int.ediv_le_of_le_mul (by omega) (by have : (1000000 : Int) * 1 ≤ 1000000 * (G : Int) := Int.mul_le_mul_of_nonneg_left (by omega) (by omega); omega)
    by_cases hlo : T / (G : Int) < -1000000
    · rw [if_pos hlo, if_neg]
      intro hf
      rcases byG_to l K (T / (G : Int)) G with h | ⟨hk, _⟩
      · rw [h] at hf; exact absurd hf.1 (by omega)
      · have := (ediv_bound T G hG 1000000 (by omega) (h3 hk) (by omega)).1
        omega
    · rw [if_neg hlo, if_pos]
      rcases byG_to l K (T / (G : Int)) G with h | ⟨_, h⟩ <;> rw [h] <;> exact ⟨by omega, by omega⟩

set_option maxRecDepth 100000 in
set_option maxHeartbeats 16000000 in
theorem refWhole_none (w : World) (v : Value) (r : Rw) (h : IsRow w v r) (hc : (chkRow r 12).1 = 0) (h0 : bareL r.of = []) : Calls Try.prog 21 #[v] w (RetRow ⟨[], wholeK r, emptyTo (wholeK r) (wholeT r)⟩ (0, 0) w) := by
  obtain ⟨hcc, hkk, hlen, _, hft⟩ := chk_ok hc
  obtain ⟨sv, rfl, hi, _, _, hcp⟩ := h
  obtain ⟨oa, cap, rfl, hm⟩ := hi.len
  have HI := Lib.hid hi
  have HCP := Lib.hid hcp
  clear hi hcp
  obtain ⟨of, kind, tt⟩ := r
  simp only at *
  obtain ⟨ht1, ht2⟩ := hft
  obtain ⟨K', hK'⟩ : ∃ k, wholeK ⟨of, kind, tt⟩ = k := ⟨_, rfl⟩
  obtain ⟨T', hT'⟩ : ∃ k, wholeT ⟨of, kind, tt⟩ = k := ⟨_, rfl⟩
  rw [hK', hT']
  have HKT : Hid ((kind = 2 → K' = 1 ∧ T' = tt - 1) ∧ (kind ≠ 2 → K' = kind ∧ T' = tt)) := Lib.hid (by
    unfold wholeK at hK'
    unfold wholeT at hT'
    simp only at hK' hT'
    constructor
    · intro h; rw [if_pos h] at hK' hT'; exact ⟨hK'.symm, hT'.symm⟩
    · intro h; rw [if_neg h] at hK' hT'; exact ⟨hK'.symm, hT'.symm⟩)
  have HKK : Hid (K' = 1 ∨ K' = 2 ∨ K' = 3) := Lib.hid (by
    by_cases h : kind = 2
    · exact .inl (HKT.out.1 h).1
    · rw [(HKT.out.2 h).1]; exact hkk)
  have H0 := Lib.hid h0
  clear hcc hc h0 hK' hT' hkk
  go_enter Try.func21, Try.ntmps21
  go_wp2_with fail
  obtain ⟨B0, B1, B2, hk⟩ := head4 (w := w) (sv := .slice oa of.length cap) (k := kind) (t := tt) (Keep.refl NoS _)
  have HK1 := Lib.hid hk
  have HB0 := Lib.hid B0
  have HB1 := Lib.hid B1
  have HB2 := Lib.hid B2
  obtain ⟨t0, t1, t2, f0, f1, f2, l0⟩ := B0.three
  generalize ((w.alloc (.cells #[.slice oa of.length cap, .int .i64 kind, .int .i64 tt] 24)).alloc (.cells #[.slice none 0 0, .int .i64 0, .int .i64 0] 24)).alloc (.cells #[.int .i64 0, .int .i64 0] 26) = w1 at *
  clear hk B0 B1 B2
  refine wp_region_by (fun w' => Keep NoS w1 w') [] [] [0, 1, 2, 3, 4, 5] (by kernel_rfl) (by kernel_rfl) (by (repeat' (first | (with_reducible assumption) | (with_reducible exact HK.out) | (with_reducible exact Keep.refl _ _) | (with_reducible refine Keep.alloc ?_ _) | (with_reducible refine Keep.setCell ?_ _ (fun h => absurd h (by omega))) | (with_reducible refine Keep.drewN ?_ _) | (with_reducible refine Keep.drew ?_)))) ?_
  intro X W hne hF hcl
  have hx1 := fun x => ((hF x).cell l0).trans t1
  have hx2 := fun x => ((hF x).cell l0).trans t2
  clear hF hcl
  simp only [wpPlan, pickOps, List.getElem?_toArray, List.getElem?_cons_zero, List.getElem?_cons_succ, clsOf, Bool.false_eq_true, if_false]
  (repeat (quiet_step (fail))); refine wpQuiet_nil ?_
  refine NoPanic.normal ?_
  clear hx1 hx2
  have kd : Keep NoS w1 w1.drew := (Keep.refl _ _).drew
  have HK1 := Lib.hid (HK1.out.both kd)
  have HB0 := Lib.hid (HB0.out.keep kd)
  have HB1 := Lib.hid (HB1.out.keep kd)
  have HB2 := Lib.hid (HB2.out.keep kd)
  generalize w1.drew = w2 at *
  clear kd t0 t1 t2 f0 f1 f2 l0
  go_upto_if 14 with fail
  go_cut [4, 5] (fun s t wx => s = .int .i64 K' ∧ t = .int .i64 T' ∧ w2 = wx)
  case first =>
    by_cases h2 : kind = 2
    · obtain ⟨rfl, rfl⟩ := HKT.out.1 h2
      subst h2
      go_wp2_with fail
      go_meet
      exact ⟨rfl, rfl, rfl⟩
    · obtain ⟨rfl, rfl⟩ := HKT.out.2 h2
      have e2 : (K' == 2) = false := by rw [beq_eq_false_iff_ne]; exact h2
      go_wp2_with fail
      go_meet
      exact ⟨rfl, rfl, rfl⟩
  case rest =>
    obtain ⟨rfl, rfl, rfl⟩ := hcut
    obtain ⟨t0, t1, t2, _, _, _, l0⟩ := HB0.out.three
    go_wp2_with fail
    refine (bare_any _ _ of (HI.out.keep HK1.out) HCP.out (by omega)).mono ?_
    rintro e w3 ⟨⟨v3, rfl, hi3, hc3⟩, rfl⟩
    rw [H0.out] at hi3
    obtain ⟨oc, cc, rfl, _⟩ := hi3.len
    simp only [List.length_nil]
    clear t0 t1 t2 l0 hi3 hc3
    go_wp2_with fail
    refine (rowNone_any K' T' _ HKK.out).mono ?_
    rintro e w4 ⟨rfl, hk4⟩
    have HK := Lib.hid (HK1.out.both hk4)
    obtain ⟨r0, r1, r2, s0, s1, s2, l1⟩ := (HB1.out.keep hk4).three
    obtain ⟨p0, p1, p2, p3, l2⟩ := (HB2.out.keep hk4).two
    unfold emptyV
    clear hk4
    go_wp2
    refine bodyPost_ret (by simp [results, Try.results21, go_sem, r0, r1, r2, l1, l2, p0, p1]; rfl) rfl ?_
    exact ⟨_, rfl, ints_nil _, cap_nil, by (repeat' (first | (with_reducible assumption) | (with_reducible exact HK.out) | (with_reducible exact Keep.refl _ _) | (with_reducible refine Keep.alloc ?_ _) | (with_reducible refine Keep.setCell ?_ _ (fun h => absurd h (by omega))) | (with_reducible refine Keep.drewN ?_ _) | (with_reducible refine Keep.drew ?_)))⟩

set_option maxRecDepth 100000 in
set_option maxHeartbeats 16000000 in
theorem refWhole_some (w : World) (v : Value) (r : Rw) (h : IsRow w v r) (hc : (chkRow r 12).1 = 0) (h0 : bareL r.of ≠ []) : Calls Try.prog 21 #[v] w (RetRow (wholeP r).1 (wholeP r).2 w) := by
  obtain ⟨hcc, hkk, hlen, hfit, hft⟩ := chk_ok hc
  obtain ⟨sv, rfl, hi, _, _, hcp⟩ := h
  obtain ⟨oa, cap, rfl, hm⟩ := hi.len
  have HI := Lib.hid hi
  have HCP := Lib.hid hcp
  clear hi hcp
  obtain ⟨of, kind, tt⟩ := r
  simp only at *
  obtain ⟨ht1, ht2⟩ := hft
  obtain ⟨l, hl⟩ : ∃ l, bareL of = l := ⟨_, rfl⟩
  obtain ⟨G, hG⟩ : ∃ G, wholeG ⟨of, kind, tt⟩ = G := ⟨_, rfl⟩
  obtain ⟨K', hK'⟩ : ∃ k, wholeK ⟨of, kind, tt⟩ = k := ⟨_, rfl⟩
  obtain ⟨T', hT'⟩ : ∃ k, wholeT ⟨of, kind, tt⟩ = k := ⟨_, rfl⟩
  obtain ⟨P, hP⟩ : ∃ P, wholeP ⟨of, kind, tt⟩ = P := ⟨_, rfl⟩
  have hGe : gcdL l = G := by
    rw [← hG, ← hl]
    rfl
  have HKT : Hid ((kind = 2 → K' = 1 ∧ T' = tt - 1) ∧ (kind ≠ 2 → K' = kind ∧ T' = tt)) := Lib.hid (by
    unfold wholeK at hK'
    unfold wholeT at hT'
    simp only at hK' hT'
    constructor
    · intro h; rw [if_pos h] at hK' hT'; exact ⟨hK'.symm, hT'.symm⟩
    · intro h; rw [if_neg h] at hK' hT'; exact ⟨hK'.symm, hT'.symm⟩)
  have hT9 : -1000001 ≤ T' ∧ T' ≤ 1000000 := by
    by_cases h : kind = 2
    · have := (HKT.out.1 h).2; omega
    · have := (HKT.out.2 h).2; omega
  have hT3 : K' = 3 → -1000000 ≤ T' := by
    intro h3
    by_cases h : kind = 2
    · have := (HKT.out.1 h).1; omega
    · have := (HKT.out.2 h).2; omega
  have hnz := bareL_end of h0
  have hlm : ∀ x ∈ l, -1000000 ≤ x ∧ x ≤ 1000000 := fun x hx => hfit x (bareL_mem (by rw [hl]; exact hx))
  have hll : l.length ≤ 12 := by rw [← hl, bareL_len]; exact Nat.le_trans (bareN_le _ _) hlen
  rw [hl] at hnz h0
  have hl0 : 0 < l.length := List.length_pos_iff.2 h0
  have hGd : ∀ x ∈ l, G ∣ x.natAbs := fun x hx => by rw [← hGe]; exact gcdL_dvd l x hx
  have hG0 : 0 < G := by rw [← hGe]; exact gcdL_pos_of hnz
  have hG9 : G ≤ 9000000 := by
    rw [← hGe]; exact gcdL_le fun x hx => by have := hlm x hx; omega
  have HP : Hid (P = if K' = 3 ∧ Nat.gcd G T'.natAbs ≠ G then (⟨[], K', 1⟩, (0, 0)) else if fitI (byR l K' T' G).to then (byR l K' T' G, (0, 0)) else (nilRw, (10, 0))) := Lib.hid (by
    rw [← hP, ← wholeP_eq hG0 hGd hT9.1 hT9.2 hT3]; unfold wholeP; rw [hK', hT', hG, hl])
  rw [hP]
  have HL := Lib.hid hl
  have HGE := Lib.hid hGe
  have HLM := Lib.hid hlm
  obtain ⟨ht91, ht92⟩ := hT9
  clear hcc hc hkk hl hG hGe hnz hlm hGd hfit h0 hK' hT' hP hT3
  go_enter Try.func21, Try.ntmps21
  go_wp2_with fail
  obtain ⟨B0, B1, B2, hk⟩ := head4 (w := w) (sv := .slice oa of.length cap) (k := kind) (t := tt) (Keep.refl NoS _)
  have HK1 := Lib.hid hk
  have HB0 := Lib.hid B0
  have HB1 := Lib.hid B1
  have HB2 := Lib.hid B2
  obtain ⟨t0, t1, t2, f0, f1, f2, l0⟩ := B0.three
  generalize ((w.alloc (.cells #[.slice oa of.length cap, .int .i64 kind, .int .i64 tt] 24)).alloc (.cells #[.slice none 0 0, .int .i64 0, .int .i64 0] 24)).alloc (.cells #[.int .i64 0, .int .i64 0] 26) = w1 at *
  clear hk B0 B1 B2
  refine wp_region_by (fun w' => Keep NoS w1 w') [] [] [0, 1, 2, 3, 4, 5] (by kernel_rfl) (by kernel_rfl) (by (repeat' (first | (with_reducible assumption) | (with_reducible exact HK.out) | (with_reducible exact Keep.refl _ _) | (with_reducible refine Keep.alloc ?_ _) | (with_reducible refine Keep.setCell ?_ _ (fun h => absurd h (by omega))) | (with_reducible refine Keep.drewN ?_ _) | (with_reducible refine Keep.drew ?_)))) ?_
  intro X W hne hF hcl
  have hx1 := fun x => ((hF x).cell l0).trans t1
  have hx2 := fun x => ((hF x).cell l0).trans t2
  clear hF hcl
  simp only [wpPlan, pickOps, List.getElem?_toArray, List.getElem?_cons_zero, List.getElem?_cons_succ, clsOf, Bool.false_eq_true, if_false]
  (repeat (quiet_step (fail))); refine wpQuiet_nil ?_
  refine NoPanic.normal ?_
  clear hx1 hx2
  have kd : Keep NoS w1 w1.drew := (Keep.refl _ _).drew
  have HK1 := Lib.hid (HK1.out.both kd)
  have HB0 := Lib.hid (HB0.out.keep kd)
  have HB1 := Lib.hid (HB1.out.keep kd)
  have HB2 := Lib.hid (HB2.out.keep kd)
  generalize w1.drew = w2 at *
  clear kd t0 t1 t2 f0 f1 f2 l0
  go_upto_if 14 with fail
  go_cut [4, 5] (fun s t wx => s = .int .i64 K' ∧ t = .int .i64 T' ∧ w2 = wx)
  case first =>
    by_cases h2 : kind = 2
    · obtain ⟨rfl, rfl⟩ := HKT.out.1 h2
      subst h2
      go_wp2_with fail
      go_meet
      exact ⟨rfl, rfl, rfl⟩
    · obtain ⟨rfl, rfl⟩ := HKT.out.2 h2
      have e2 : (K' == 2) = false := by rw [beq_eq_false_iff_ne]; exact h2
      go_wp2_with fail
      go_meet
      exact ⟨rfl, rfl, rfl⟩
  case rest =>
    obtain ⟨rfl, rfl, rfl⟩ := hcut
    obtain ⟨t0, t1, t2, _, _, _, l0⟩ := HB0.out.three
    go_wp2_with fail
    refine (bare_any _ _ of (HI.out.keep HK1.out) HCP.out (by omega)).mono ?_
    rintro e w3 ⟨⟨v3, rfl, hi3, hc3⟩, rfl⟩
    rw [HL.out] at hi3
    obtain ⟨oc, cc, rfl, _⟩ := hi3.len
    have HI3 := Lib.hid hi3
    have ml0 : ¬ l.length = 0 := by omega
    have e0 : ((l.length : Int) == 0) = false := by rw [beq_eq_false_iff_ne]; omega
    clear t0 t1 t2 l0 hi3 hc3
    go_wp2_with fail
    refine (common_any _ _ l HI3.out (by omega) (fun x hx => by have := HLM.out x hx; omega)).mono ?_
    rintro e w4 ⟨rfl, hk4⟩
    rw [HGE.out]
    have HI4 := Lib.hid (HI3.out.keep hk4)
    have HK4 := Lib.hid (HK1.out.both hk4)
    have HB14 := Lib.hid (HB1.out.keep hk4)
    have HB24 := Lib.hid (HB2.out.keep hk4)
    clear hk4
    by_cases h3 : K' = 3
    · subst h3
      have k4 : Keep NoS w4 (w4.alloc (.cells #[.int .i64 G, .int .i64 T'] TI)) := (Keep.refl _ _).alloc _
      have HT2 := Lib.hid (two_int w4 G T' (by unfold I64; omega) (by unfold I64; omega))
      have HGT : Hid (gcdL [(G : Int), T'] = Nat.gcd G T'.natAbs) := Lib.hid (by unfold gcdL; simp)
      go_wp2_with fail
      refine (common_any _ _ [(G : Int), T'] HT2.out (by simp) (fun x hx => by
        rcases List.mem_cons.1 hx with rfl | hx
        · omega
        · obtain rfl : x = T' := by simpa using hx
          omega)).mono ?_
      rintro e w5 ⟨rfl, hk5⟩
      rw [HGT.out]
      have HI5 := Lib.hid (HI4.out.keep (k4.both hk5))
      have HK5 := Lib.hid (HK4.out.both (k4.both hk5))
      have HB15 := Lib.hid (HB14.out.keep (k4.both hk5))
      have HB25 := Lib.hid (HB24.out.keep (k4.both hk5))
      clear k4 hk5 HT2 HGT
      by_cases h4 : Nat.gcd G T'.natAbs = G
      · have e4 : (((Nat.gcd G T'.natAbs : Nat) : Int) != (G : Int)) = false := by rw [bne_eq_false_iff_eq]; omega
        have HPV : Hid (P = if fitI (byR l 3 T' G).to then (byR l 3 T' G, (0, 0)) else (nilRw, (10, 0))) := Lib.hid (by rw [HP.out, if_neg (fun h => h.2 h4)])
        clear h4
        go_wp2_with fail
        clear HI4 HK4 HB14 HB24 HI3 HK1 HB0 HB1 HB2
        have hl2 : w.heap.size + 2 < w5.heap.size := HB25.out.lt
        refine (rowBy_any _ _ l 3 T' G HI5.out (by omega) HLM.out ⟨by omega, by omega⟩ hG0 hG9).mono ?_
        rintro e w6 ⟨sv, rfl, ho6, hn6, hk6⟩
        obtain ⟨os, cs, hsv, hms⟩ := (ho6.ints hn6).len
        subst hsv
        have HN6 := Lib.hid hn6
        have HC6 := Lib.hid ho6.cap
        have HK6 := Lib.hid (HK5.out.both hk6)
        have HB16 := Lib.hid (HB15.out.keep hk6)
        have HB26 := Lib.hid (HB25.out.keep hk6)
        obtain ⟨R, hR⟩ : ∃ R, byR l 3 T' G = R := ⟨_, rfl⟩
        have HRK : Hid (R.kind = 3) := Lib.hid (by rw [← hR]; rfl)
        rw [hR] at HPV HN6 HC6 ho6 ⊢
        have HO6 := Lib.hid ho6
        obtain ⟨Rof, Rk, Rto⟩ := R
        simp only at *
        clear hk6 hn6 ho6 HI5 HK5 HB15 HB25 hR hms
        go_wp2_with fail
        have k7 : Keep NoS w6 (w6.alloc (.cells #[.slice os Rof.length cs, .int .i64 3, .int .i64 Rto] 24)) := by (repeat' (first | (with_reducible assumption) | (with_reducible exact HK.out) | (with_reducible exact Keep.refl _ _) | (with_reducible refine Keep.alloc ?_ _) | (with_reducible refine Keep.setCell ?_ _ (fun h => absurd h (by omega))) | (with_reducible refine Keep.drewN ?_ _) | (with_reducible refine Keep.drew ?_)))
        refine (fits_any Rto _).mono ?_
        rintro e w7 ⟨rfl, rfl⟩
        have HK7 := Lib.hid (HK6.out.both k7)
        have HO7 := Lib.hid (HO6.out.keep k7)
        have HB17 := Lib.hid (HB16.out.keep k7)
        have HB27 := Lib.hid (HB26.out.keep k7)
        obtain ⟨r0, r1, r2, s0, s1, s2, l1⟩ := (HB16.out.keep k7).three
        obtain ⟨p0, p1, p2, p3, l2⟩ := (HB26.out.keep k7).two
        have B7 : Blk (w6.alloc (.cells #[.slice os Rof.length cs, .int .i64 3, .int .i64 Rto] 24)) w6.heap.size #[.slice os Rof.length cs, .int .i64 3, .int .i64 Rto] := by (repeat (first | (refine blk_at _ _ ?_; simp; done) | (refine Blk.old ?_ _)))
        obtain ⟨t0, t1, t2, _, _, _, l0⟩ := B7.three
        have hl7 : w.heap.size + 2 < w6.heap.size := HB26.out.lt
        generalize w6.alloc (.cells #[.slice os Rof.length cs, .int .i64 3, .int .i64 Rto] 24) = w7 at *
        generalize w6.heap.size = b6 at *
        clear B7 k7 HK6 HO6 HB16 HB26
        by_cases hf : fitI Rto
        · have ef : decide (fitI Rto) = true := decide_eq_true hf
          rw [if_pos hf] at HPV
          clear hf
          go_wp2
          refine bodyPost_ret (by simp [results, Try.results21, go_sem, r0, r1, r2, l1, l2, p0, p1]; rfl) rfl ?_
          rw [HPV.out, ← HRK.out]
          have HK := Lib.hid HK7.out
          have hne : ∀ c, c < w.heap.size + 3 → (Value.slice os Rof.length cs).ownBlock ≠ some c := fun c hc hb => by have := HO7.out.block _ hb; omega
          refine ⟨_, rfl, OwnI.ints (base := w5.heap.size) ?_ HN6.out, HC6.out, by (repeat' (first | (with_reducible assumption) | (with_reducible exact HK.out) | (with_reducible exact Keep.refl _ _) | (with_reducible refine Keep.alloc ?_ _) | (with_reducible refine Keep.setCell ?_ _ (fun h => absurd h (by omega))) | (with_reducible refine Keep.drewN ?_ _) | (with_reducible refine Keep.drew ?_)))⟩
          repeat' (first | (with_reducible exact HO7.out) | refine World.ownsRow_other ?_ (hne _ (by omega)) | exact HO7.out)
        · have ef : decide (fitI Rto) = false := decide_eq_false hf
          rw [if_neg hf] at HPV
          clear hf
          go_wp2_with fail
          refine (fault_any 10 0 _).mono ?_
          rintro e w8 ⟨rfl, hk8⟩
          have HK := Lib.hid (HK7.out.both hk8)
          obtain ⟨r0', r1', r2', s0', s1', s2', l1'⟩ := (HB17.out.keep hk8).three
          obtain ⟨p0', p1', p2', p3', l2'⟩ := (HB27.out.keep hk8).two
          clear r0 r1 r2 s0 s1 s2 l1 p0 p1 p2 p3 l2 hk8
          unfold fV
          go_wp2
          refine bodyPost_ret (by simp [results, Try.results21, go_sem, r0', r1', r2', l1', l2', p0', p1']; rfl) rfl ?_
          rw [HPV.out]
          exact ⟨_, rfl, ints_nil _, cap_nil, by (repeat' (first | (with_reducible assumption) | (with_reducible exact HK.out) | (with_reducible exact Keep.refl _ _) | (with_reducible refine Keep.alloc ?_ _) | (with_reducible refine Keep.setCell ?_ _ (fun h => absurd h (by omega))) | (with_reducible refine Keep.drewN ?_ _) | (with_reducible refine Keep.drew ?_)))⟩
      · have e4 : (((Nat.gcd G T'.natAbs : Nat) : Int) != (G : Int)) = true := by rw [bne_iff_ne]; omega
        have HPV : Hid (P = (⟨[], 3, 1⟩, (0, 0))) := Lib.hid (by rw [HP.out, if_pos ⟨by trivial, h4⟩])
        clear h4
        obtain ⟨r0, r1, r2, s0, s1, s2, l1⟩ := HB15.out.three
        obtain ⟨p0, p1, p2, p3, l2⟩ := HB25.out.two
        go_wp2
        refine bodyPost_ret (by simp [results, Try.results21, go_sem, r0, r1, r2, l1, l2, p0, p1]; rfl) rfl ?_
        rw [HPV.out]
        have HK := Lib.hid HK5.out
        exact ⟨_, rfl, ints_nil _, cap_nil, by (repeat' (first | (with_reducible assumption) | (with_reducible exact HK.out) | (with_reducible exact Keep.refl _ _) | (with_reducible refine Keep.alloc ?_ _) | (with_reducible refine Keep.setCell ?_ _ (fun h => absurd h (by omega))) | (with_reducible refine Keep.drewN ?_ _) | (with_reducible refine Keep.drew ?_)))⟩
    · have e31 : (K' == 3) = false := by rw [beq_eq_false_iff_ne]; exact h3
      have HPV : Hid (P = if fitI (byR l K' T' G).to then (byR l K' T' G, (0, 0)) else (nilRw, (10, 0))) := Lib.hid (by rw [HP.out, if_neg (fun h => h3 h.1)])
      clear h3
      generalize hw5 : w4 = w5 at *
      clear hw5
      have HI5 := Lib.hid HI4.out
      have HK5 := Lib.hid HK4.out
      have HB15 := Lib.hid HB14.out
      have HB25 := Lib.hid HB24.out
      go_wp2_with fail
      clear HI4 HK4 HB14 HB24 HI3 HK1 HB0 HB1 HB2
      have hl2 : w.heap.size + 2 < w5.heap.size := HB25.out.lt
      refine (rowBy_any _ _ l K' T' G HI5.out (by omega) HLM.out ⟨by omega, by omega⟩ hG0 hG9).mono ?_
      rintro e w6 ⟨sv, rfl, ho6, hn6, hk6⟩
      obtain ⟨os, cs, hsv, hms⟩ := (ho6.ints hn6).len
      subst hsv
      have HN6 := Lib.hid hn6
      have HC6 := Lib.hid ho6.cap
      have HK6 := Lib.hid (HK5.out.both hk6)
      have HB16 := Lib.hid (HB15.out.keep hk6)
      have HB26 := Lib.hid (HB25.out.keep hk6)
      obtain ⟨R, hR⟩ : ∃ R, byR l K' T' G = R := ⟨_, rfl⟩
      have HRK : Hid (R.kind = K') := Lib.hid (by rw [← hR]; rfl)
      rw [hR] at HPV HN6 HC6 ho6 ⊢
      have HO6 := Lib.hid ho6
      obtain ⟨Rof, Rk, Rto⟩ := R
      simp only at *
      clear hk6 hn6 ho6 HI5 HK5 HB15 HB25 hR hms
      go_wp2_with fail
      have k7 : Keep NoS w6 (w6.alloc (.cells #[.slice os Rof.length cs, .int .i64 K', .int .i64 Rto] 24)) := by (repeat' (first | (with_reducible assumption) | (with_reducible exact HK.out) | (with_reducible exact Keep.refl _ _) | (with_reducible refine Keep.alloc ?_ _) | (with_reducible refine Keep.setCell ?_ _ (fun h => absurd h (by omega))) | (with_reducible refine Keep.drewN ?_ _) | (with_reducible refine Keep.drew ?_)))
      refine (fits_any Rto _).mono ?_
      rintro e w7 ⟨rfl, rfl⟩
      have HK7 := Lib.hid (HK6.out.both k7)
      have HO7 := Lib.hid (HO6.out.keep k7)
      have HB17 := Lib.hid (HB16.out.keep k7)
      have HB27 := Lib.hid (HB26.out.keep k7)
      obtain ⟨r0, r1, r2, s0, s1, s2, l1⟩ := (HB16.out.keep k7).three
      obtain ⟨p0, p1, p2, p3, l2⟩ := (HB26.out.keep k7).two
      have B7 : Blk (w6.alloc (.cells #[.slice os Rof.length cs, .int .i64 K', .int .i64 Rto] 24)) w6.heap.size #[.slice os Rof.length cs, .int .i64 K', .int .i64 Rto] := by (repeat (first | (refine blk_at _ _ ?_; simp; done) | (refine Blk.old ?_ _)))
      obtain ⟨t0, t1, t2, _, _, _, l0⟩ := B7.three
      have hl7 : w.heap.size + 2 < w6.heap.size := HB26.out.lt
      generalize w6.alloc (.cells #[.slice os Rof.length cs, .int .i64 K', .int .i64 Rto] 24) = w7 at *
      generalize w6.heap.size = b6 at *
      clear B7 k7 HK6 HO6 HB16 HB26
      by_cases hf : fitI Rto
      · have ef : decide (fitI Rto) = true := decide_eq_true hf
        rw [if_pos hf] at HPV
        clear hf
        go_wp2
        refine bodyPost_ret (by simp [results, Try.results21, go_sem, r0, r1, r2, l1, l2, p0, p1]; rfl) rfl ?_
        rw [HPV.out, ← HRK.out]
        have HK := Lib.hid HK7.out
        have hne : ∀ c, c < w.heap.size + 3 → (Value.slice os Rof.length cs).ownBlock ≠ some c := fun c hc hb => by have := HO7.out.block _ hb; omega
        refine ⟨_, rfl, OwnI.ints (base := w5.heap.size) ?_ HN6.out, HC6.out, by (repeat' (first | (with_reducible assumption) | (with_reducible exact HK.out) | (with_reducible exact Keep.refl _ _) | (with_reducible refine Keep.alloc ?_ _) | (with_reducible refine Keep.setCell ?_ _ (fun h => absurd h (by omega))) | (with_reducible refine Keep.drewN ?_ _) | (with_reducible refine Keep.drew ?_)))⟩
        repeat' (first | (with_reducible exact HO7.out) | refine World.ownsRow_other ?_ (hne _ (by omega)) | exact HO7.out)
      · have ef : decide (fitI Rto) = false := decide_eq_false hf
        rw [if_neg hf] at HPV
        clear hf
        go_wp2_with fail
        refine (fault_any 10 0 _).mono ?_
        rintro e w8 ⟨rfl, hk8⟩
        have HK := Lib.hid (HK7.out.both hk8)
        obtain ⟨r0', r1', r2', s0', s1', s2', l1'⟩ := (HB17.out.keep hk8).three
        obtain ⟨p0', p1', p2', p3', l2'⟩ := (HB27.out.keep hk8).two
        clear r0 r1 r2 s0 s1 s2 l1 p0 p1 p2 p3 l2 hk8
        unfold fV
        go_wp2
        refine bodyPost_ret (by simp [results, Try.results21, go_sem, r0', r1', r2', l1', l2', p0', p1']; rfl) rfl ?_
        rw [HPV.out]
        exact ⟨_, rfl, ints_nil _, cap_nil, by (repeat' (first | (with_reducible assumption) | (with_reducible exact HK.out) | (with_reducible exact Keep.refl _ _) | (with_reducible refine Keep.alloc ?_ _) | (with_reducible refine Keep.setCell ?_ _ (fun h => absurd h (by omega))) | (with_reducible refine Keep.drewN ?_ _) | (with_reducible refine Keep.drew ?_)))⟩
end Go.Proofs.Ytihcbmkjfacooaa
