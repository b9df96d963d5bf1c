/- Package row's Whole, of rows with numbers. -/
import Derived.Test.YtihcbmkjfacooaaRowO
namespace Go.Proofs.Ytihcbmkjfacooaa
open Go.ChangeShapes Go.WideShapes Go.RowKit
set_option linter.unusedVariables false
set_option linter.unusedSimpArgs false

def wholeP (r : Rw) : Rw × (Int × Int) :=
  if wholeK r = 3 ∧ (wholeT r).tmod (wholeG r) ≠ 0 then (⟨[], 3, 1⟩, (0, 0))
  else if wholeT r / (wholeG r : Int) < -1000000 then (nilRw, (10, 0))
  else (byG (bareL r.of) (wholeK r) (wholeT r / (wholeG r : Int)) (wholeG r), (0, 0))

theorem ediv_bound (T : Int) (G : Nat) (hG : 0 < G) (M : Int) (h0 : 0 ≤ M) (h1 : -M ≤ T) (h2 : T ≤ M) : -M ≤ T / (G : Int) ∧ T / (G : Int) ≤ M := by
  have h3 : M * 1 ≤ M * (G : Int) := Int.mul_le_mul_of_nonneg_left (by omega) h0
  exact ⟨Int.le_ediv_of_mul_le (by omega) (by rw [Int.neg_mul]; omega), Int.ediv_le_of_le_mul (by omega) (by omega)⟩

set_option maxRecDepth 100000 in
set_option maxHeartbeats 32000000 in
theorem whole_some (w : World) (v : Value) (r : Rw) (h : IsRow w v r) (hc : (chkRow r 12).1 = 0) (h0 : bareL r.of ≠ []) : Calls Try.prog 17 #[v] w (RetRow (wholeP r).1 (wholeP r).2 w) := by
  have H := Lib.hid h
  obtain ⟨hcc, hkk, hlen, hfit, hft⟩ := chk_ok hc
  obtain ⟨sv, rfl, hi, _, _, hcp⟩ := h
  obtain ⟨oa, cap, rfl, hm⟩ := hi.len
  have HI := Lib.hid hi
  have HCP := Lib.hid hcp
  clear hi hcp
  obtain ⟨of, kind, tt⟩ := r
  simp only at *
  have HCA := Lib.hid hcc
  obtain ⟨ht1, ht2⟩ := hft
  obtain ⟨l, hl⟩ : ∃ l, bareL of = l := ⟨_, rfl⟩
  obtain ⟨G, hG⟩ : ∃ G, wholeG ⟨of, kind, tt⟩ = G := ⟨_, rfl⟩
  obtain ⟨K', hK'⟩ : ∃ k, wholeK ⟨of, kind, tt⟩ = k := ⟨_, rfl⟩
  obtain ⟨T', hT'⟩ : ∃ k, wholeT ⟨of, kind, tt⟩ = k := ⟨_, rfl⟩
  obtain ⟨P, hP⟩ : ∃ P, wholeP ⟨of, kind, tt⟩ = P := ⟨_, rfl⟩
  have hGe : fgcd 0 l = G := by
    rw [← hG, ← hl]
    rfl
  have HKT : Hid ((kind = 2 → K' = 1 ∧ T' = tt - 1) ∧ (kind ≠ 2 → K' = kind ∧ T' = tt)) := Lib.hid (by
    unfold wholeK at hK'
    unfold wholeT at hT'
    simp only at hK' hT'
    constructor
    · intro h; rw [if_pos h] at hK' hT'; exact ⟨hK'.symm, hT'.symm⟩
    · intro h; rw [if_neg h] at hK' hT'; exact ⟨hK'.symm, hT'.symm⟩)
  have hKK : K' = 1 ∨ K' = 2 ∨ K' = 3 := by
    by_cases h : kind = 2
    · exact .inl (HKT.out.1 h).1
    · rw [(HKT.out.2 h).1]; exact hkk
  have hT9 : -1000001 ≤ T' ∧ T' ≤ 1000000 := by
    by_cases h : kind = 2
    · have := (HKT.out.1 h).2; omega
    · have := (HKT.out.2 h).2; omega
  have hnz := bareL_end of h0
  have hlm : ∀ x ∈ l, -1000000 ≤ x ∧ x ≤ 1000000 := fun x hx => hfit x (bareL_mem (by rw [hl]; exact hx))
  have hll : l.length ≤ 12 := by rw [← hl, bareL_len]; exact Nat.le_trans (bareN_le _ _) hlen
  rw [hl] at hnz h0
  have HP : Hid (P = if K' = 3 ∧ T'.tmod G ≠ 0 then (⟨[], 3, 1⟩, (0, 0)) else if T' / (G : Int) < -1000000 then (nilRw, (10, 0)) else (byG l K' (T' / (G : Int)) G, (0, 0))) := Lib.hid (by
    rw [← hP]; unfold wholeP; rw [hK', hT', hG, hl])
  rw [hP]
  have hl0 : 0 < l.length := List.length_pos_iff.2 h0
  have hGd : ∀ x ∈ l, G ∣ x.natAbs := fun x hx => by rw [← hG]; unfold wholeG; rw [hl]; exact gcdL_dvd l x hx
  have hG0 : 0 < G := by
    obtain ⟨i, h1, h2⟩ := hnz
    rcases Nat.eq_zero_or_pos G with h | h
    · have := hGd _ (mem_of_getD h1)
      rw [h] at this
      have := Nat.eq_zero_of_zero_dvd this
      omega
    · exact h
  have hG9 : G ≤ 9000000 := by
    rw [← hGe]; exact fgcd_le (by omega) fun x hx => by have := hlm x hx; omega
  have HL := Lib.hid hl
  have HGE := Lib.hid hGe
  have HNZ := Lib.hid hnz
  have HLM := Lib.hid hlm
  have HGD := Lib.hid hGd
  have HKK := Lib.hid hKK
  obtain ⟨ht91, ht92⟩ := hT9
  clear hcc hc hkk hl hG hGe hnz hlm hGd hfit h0 hK' hT' hP hKK
  go_enter Try.func17, Try.ntmps17
  go_wp2_with fail
  refine (rowCheck_any _ _ ⟨of, kind, tt⟩ 12 (H.out.keep (by (repeat' (first | (with_reducible assumption) | (with_reducible exact HK.out) | (with_reducible exact Keep.refl _ _) | (with_reducible refine Keep.alloc ?_ _) | (with_reducible refine Keep.setCell ?_ _ (fun h => absurd h (by omega))) | (with_reducible refine Keep.drewN ?_ _) | (with_reducible refine Keep.drew ?_)))))).mono ?_
  rintro e w1 ⟨rfl, hk1⟩
  obtain ⟨B0, B1, B2, hk⟩ := head4 hk1
  have HK1 := Lib.hid hk
  rw [HCA.out]
  obtain ⟨t0, t1, t2, f0, f1, f2, l0⟩ := B0.three
  unfold fV
  have HB0 := Lib.hid B0
  have HB1 := Lib.hid B1
  have HB2 := Lib.hid B2
  clear hk1 hk B0 B1 B2
  have n0 : ¬ w1.heap.size = w.heap.size := by omega
  have n1 : ¬ w.heap.size = w1.heap.size := by omega
  have hw3 : w.heap.size + 3 ≤ w1.heap.size := by have := HB2.out.lt; omega
  go_upto_if 20 with fail
  go_cut [] (fun wx => Keep NoS w wx ∧ Blk wx w.heap.size #[.slice oa of.length cap, .int .i64 K', .int .i64 T'] ∧ Blk wx (w.heap.size + 1) #[.slice none 0 0, .int .i64 0, .int .i64 0] ∧ Blk wx (w.heap.size + 1 + 1) #[.int .i64 0, .int .i64 0])
  case first =>
    by_cases h2 : kind = 2
    · obtain ⟨rfl, rfl⟩ := HKT.out.1 h2
      subst h2
      go_wp2_with fail
      go_meet
      refine ⟨(keep_at (keep_at HK1.out _ (Nat.le_refl _)) _ (Nat.le_refl _)).alloc _, ?_, ?_, ?_⟩
      · exact Blk.old (by simpa using Blk.set (Blk.set HB0.out 1 (.int .i64 1)) 2 (.int .i64 (tt - 1))) _
      · exact Blk.old ((HB1.out.setOther _ _ (by omega)).setOther _ _ (by omega)) _
      · exact Blk.old ((HB2.out.setOther _ _ (by omega)).setOther _ _ (by omega)) _
    · obtain ⟨rfl, rfl⟩ := HKT.out.2 h2
      have e2 : (K' == 2) = false := by rw [beq_eq_false_iff_ne]; exact h2
      go_wp2_with fail
      go_meet
      exact ⟨HK1.out.alloc _, Blk.old HB0.out _, Blk.old HB1.out _, Blk.old HB2.out _⟩
  case rest =>
    obtain ⟨hkc, hb0, hb1, hb2⟩ := hcut
    obtain ⟨w1', rfl⟩ : ∃ W : World, W = wc := ⟨_, rfl⟩
    have HB0 := Lib.hid hb0
    have HB1 := Lib.hid hb1
    have HB2 := Lib.hid hb2
    clear t0 t1 t2 f0 f1 f2 l0 n0 n1 hb1 hb2 HKT HK1 hw3
    have HK1 := Lib.hid hkc
    have hw3 : w.heap.size + 3 ≤ w1'.heap.size := by have := HB2.out.lt; omega
    obtain ⟨t0, t1, t2, _, _, _, l0⟩ := hb0.three
    clear hb0 hkc
    have w1x := w1'
    clear w1x
    go_wp2_with fail
    refine (trimmed_any _ _ of (HI.out.keep HK1.out) HCP.out (by omega)).mono ?_
    rintro e w2 ⟨v2, rfl, ho2, hk2⟩
    rw [HL.out] at ho2
    have K2 := Lib.hid hk2
    have HB0' := Lib.hid (HB0.out.keep hk2)
    have HB1' := Lib.hid (HB1.out.keep hk2)
    have HB2' := Lib.hid (HB2.out.keep hk2)
    obtain ⟨g, cg, hv2, hgw, hcg, hib⟩ := ho2.blk hl0
    subst hv2
    have hgb' : w.heap.size + 3 ≤ g := by omega
    have HIB := Lib.hid hib
    have ml0 : ¬ l.length = 0 := by omega
    have e0 : ((l.length : Int) == 0) = false := by rw [beq_eq_false_iff_ne]; omega
    have hg0 : (0 : Int) = (fgcd 0 (l.take 0) : Nat) := by simp [fgcd]
    have HG0 := Lib.hid hg0
    clear t0 t1 t2 l0 hk2 ho2 hib hg0
    go_wp2
    go_loopw [40, 6] (fun s t wr => ∃ j : Nat, j ≤ l.length ∧ s = .int .i64 j ∧ t = .int .i64 (fgcd 0 (l.take j) : Nat) ∧ ∃ m, wr = w2.drewN m) (fun s _ _ => (l.length - intOf s).toNat)
    case atStart => exact ⟨0, by omega, rfl, by rw [← HG0.out], 0, rfl⟩
    case round =>
      obtain ⟨j, hj, rfl, rfl, m, rfl⟩ := hrel
      by_cases hjl : j < l.length
      · have hlt : (j : Int) < (l.length : Int) := by omega
        have cj := HIB.out.cell hjl
        have hxj := HLM.out _ (mem_of_getD hjl)
        have hg9 : fgcd 0 (l.take j) ≤ 9000000 := fgcd_le (by omega) fun x hx => by have := HLM.out x (List.mem_of_mem_take hx); omega
        have HS := Lib.hid (fgcd_take (a := 0) hjl)
        obtain ⟨x, hX⟩ : ∃ x, l.getD j 0 = x := ⟨_, rfl⟩
        rw [hX] at cj hxj HS
        obtain ⟨q, hQ⟩ : ∃ q, fgcd 0 (l.take j) = q := ⟨_, rfl⟩
        rw [hQ] at HS hg9 ⊢
        obtain ⟨hx1, hx2⟩ := hxj
        have hgl := HIB.out.lt
        clear hX hQ
        go_wp2_with fail
        refine (rowGcd_any q x _ (by omega) (by omega)).mono ?_
        rintro e w3 ⟨rfl, nd', rfl⟩
        rw [Int.natAbs_natCast, ← HS.out]
        go_wp2
        go_roundw
        case rel => exact ⟨j + 1, by omega, by go_num, rfl, _, rfl⟩
        case measure => simp [intOf]; omega
      · have hlt : ¬ (j : Int) < (l.length : Int) := by omega
        obtain rfl : j = l.length := by omega
        rw [List.take_length, HGE.out]
        have kd := keep_drewN w2 m
        have K3 := Lib.hid (K2.out.both kd)
        have D0 := Lib.hid (HB0'.out.keep kd)
        have D1 := Lib.hid (HB1'.out.keep kd)
        have D2 := Lib.hid (HB2'.out.keep kd)
        have DI := Lib.hid (HIB.out.keep kd)
        generalize w2.drewN m = w3 at *
        clear kd
        obtain ⟨t0, t1, t2, q0, q1, q2, l0⟩ := D0.out.three
        obtain ⟨r0, r1, r2, s0, s1, s2, l1⟩ := D1.out.three
        obtain ⟨p0, p1, p2, p3, l2⟩ := D2.out.two
        have hGz : ¬ (G : Int) = 0 := by omega
        have hGz2 : ¬ G = 0 := by omega
        by_cases h3 : K' = 3 ∧ T'.tmod G ≠ 0
        · obtain ⟨rfl, h3b⟩ := h3
          have HPV : Hid (P = (⟨[], 3, 1⟩, (0, 0))) := Lib.hid (by rw [HP.out, if_pos ⟨rfl, h3b⟩])
          have e3 : (T'.tmod (G : Int) != 0) = true := by rw [bne_iff_ne]; exact h3b
          clear h3b
          go_wp2_with fail
          refine (empty_any 3 1 _ (.inr (.inr rfl))).mono ?_
          rintro e w4 ⟨rfl, hk4⟩
          have HK := Lib.hid (HK1.out.both (K3.out.both hk4))
          obtain ⟨r0', r1', r2', s0', s1', s2', l1'⟩ := (D1.out.keep hk4).three
          obtain ⟨p0', p1', p2', p3', l2'⟩ := (D2.out.keep hk4).two
          rw [show emptyV 3 1 = .agg #[.slice none 0 0, .int .i64 3, .int .i64 1] from rfl]
          clear r0 r1 r2 s0 s1 s2 l1 p0 p1 p2 p3 l2 hk4
          go_wp2
          rw [HPV.out]
          refine bodyPost_ret (by simp [results, Try.results17, go_sem, r0', r1', r2', l1', l2', p0', p1']; rfl) rfl ?_
          exact ⟨_, rfl, ints_nil _, cap_nil, by (repeat' (first | (with_reducible assumption) | (with_reducible exact HK.out) | (with_reducible exact Keep.refl _ _) | (with_reducible refine Keep.alloc ?_ _) | (with_reducible refine Keep.setCell ?_ _ (fun h => absurd h (by omega))) | (with_reducible refine Keep.drewN ?_ _) | (with_reducible refine Keep.drew ?_)))⟩
        · have HPV : Hid (P = if T' / (G : Int) < -1000000 then (nilRw, (10, 0)) else (byG l K' (T' / (G : Int)) G, (0, 0))) := Lib.hid (by rw [HP.out, if_neg h3])
          have H3 : K' = 3 ∧ T'.tmod G = 0 ∨ K' ≠ 3 := by
            by_cases h : K' = 3
            · exact .inl ⟨h, Classical.byContradiction fun h' => h3 ⟨h, h'⟩⟩
            · exact .inr h
          clear h3
          rcases H3 with ⟨h31, h3⟩ | h31
          all_goals
            first
            | (have e31 : (K' == 3) = false := by rw [beq_eq_false_iff_ne]; exact h31
               clear h31
               go_wp2
               clear e31)
            | (have e31 : (K' == 3) = true := by rw [beq_iff_eq]; exact h31
               have e3 : (T'.tmod (G : Int) != 0) = false := by rw [bne_eq_false_iff_eq]; exact h3
               clear h31 h3
               go_wp2
               clear e31 e3)
            clear t0 t1 t2 q0 q1 q2 l0 r0 r1 r2 s0 s1 s2 l1 p0 p1 p2 p3 l2
            go_loopw [62] (fun s wr => ∃ j : Nat, j ≤ l.length ∧ s = .int .i64 j ∧ Keep NoS w1' wr ∧ IntBlk wr g (mapK (fun x => x.tdiv G) l j) ∧ Blk wr w.heap.size #[.slice oa of.length cap, .int .i64 K', .int .i64 T'] ∧ Blk wr (w.heap.size + 1) #[.slice none 0 0, .int .i64 0, .int .i64 0] ∧ Blk wr (w.heap.size + 1 + 1) #[.int .i64 0, .int .i64 0]) (fun s _ => (l.length - intOf s).toNat)
            case atStart => exact ⟨0, by omega, rfl, K3.out, by simpa [mapK] using DI.out, D0.out, D1.out, D2.out⟩
            case round =>
              obtain ⟨j, hj, rfl, hkr, hbr, hb0, hb1, hb2⟩ := hrel
              have HKR := Lib.hid hkr
              have HBR := Lib.hid hbr
              have E0 := Lib.hid hb0
              have E1 := Lib.hid hb1
              have E2 := Lib.hid hb2
              by_cases hjl : j < l.length
              · have hlt : (j : Int) < (l.length : Int) := by omega
                have cj := hbr.cell (i := j) (by rw [mapK_len]; exact hjl)
                rw [mapK_at _ l j hjl] at cj
                have fj := hbr.free j
                have glr := hbr.lt
                have hxj := HLM.out _ (mem_of_getD hjl)
                have HS := Lib.hid (mapK_set (fun x => x.tdiv G) l j hjl)
                obtain ⟨x, hX⟩ : ∃ x, l.getD j 0 = x := ⟨_, rfl⟩
                rw [hX] at cj hxj HS
                obtain ⟨hx1, hx2⟩ := hxj
                have hq : (x.tdiv G).natAbs ≤ 1000000 := by rw [Int.natAbs_tdiv]; exact Nat.le_trans (Nat.div_le_self _ _) (by omega)
                have hq1 : -1000000 ≤ x.tdiv G := by omega
                have hq2 : x.tdiv G ≤ 1000000 := by omega
                clear hX hkr hbr hb0 hb1 hb2 hq
                go_wp2
                go_roundw
                case rel =>
                  have hng : ∀ c, c < w.heap.size + 3 → ¬ c = g := fun c hc => by omega
                  refine ⟨j + 1, by omega, by go_num, keep_at HKR.out _ (by omega), ?_, E0.out.setOther _ _ (hng _ (by omega)), E1.out.setOther _ _ (hng _ (by omega)), E2.out.setOther _ _ (hng _ (by omega))⟩
                  rw [← HS.out]
                  exact IntBlk.set HBR.out _
                case measure => simp [intOf]; omega
              · have hlt : ¬ (j : Int) < (l.length : Int) := by omega
                obtain rfl : j = l.length := by omega
                rw [mapK_all] at HBR
                have glr := hbr.lt
                obtain ⟨t0, t1, t2, q0, q1, q2, l0⟩ := hb0.three
                have hdl : ∀ y ∈ l.map (fun x => x.tdiv G), -9000000 ≤ y ∧ y ≤ 9000000 := by
                  intro y hy
                  obtain ⟨x, hx, rfl⟩ := List.mem_map.1 hy
                  have := HLM.out x hx
                  have hq : (x.tdiv G).natAbs ≤ 1000000 := by rw [Int.natAbs_tdiv]; exact Nat.le_trans (Nat.div_le_self _ _) (by omega)
                  omega
                have hdn : ∃ i, i < (l.map fun x => x.tdiv G).length ∧ (l.map fun x => x.tdiv G).getD i 0 ≠ 0 := by
                  obtain ⟨i, h1, h2⟩ := HNZ.out
                  refine ⟨i, by simpa using h1, ?_⟩
                  rw [List.getD_eq_getElem?_getD, List.getElem?_map, List.getElem?_eq_getElem h1]
                  have h3 : l.getD i 0 = l[i] := by rw [List.getD_eq_getElem?_getD, List.getElem?_eq_getElem h1]; rfl
                  rw [h3] at h2
                  obtain ⟨c, hcc⟩ := Int.ofNat_dvd_left.2 (HGD.out _ (List.getElem_mem h1))
                  simp only [Option.map_some, Option.getD_some]
                  rw [hcc, Int.mul_tdiv_cancel_left _ (by omega)]
                  rintro rfl
                  rw [Int.mul_zero] at hcc
                  exact h2 hcc
                have HDL := Lib.hid hdl
                have HDN := Lib.hid hdn
                have hml : (l.map fun x => x.tdiv G).length = l.length := List.length_map _
                have HML := Lib.hid hml
                have hdt : (T'.tdiv G).natAbs ≤ 1000001 := by rw [Int.natAbs_tdiv]; exact Nat.le_trans (Nat.div_le_self _ _) (by omega)
                have hdt1 : -1000001 ≤ T'.tdiv G := by omega
                have hdt2 : T'.tdiv G ≤ 1000001 := by omega
                clear hkr hbr hb0 hb1 hb2 hdl hdn hml hdt
                go_upto_if 81 with fail
                obtain ⟨wq, hwq⟩ : ∃ W : World, W = wr := ⟨_, rfl⟩
                obtain ⟨Q, hQ⟩ : ∃ Q, T' / (G : Int) = Q := ⟨_, rfl⟩
                rw [hQ] at HPV
                have HQL : Hid (-1000001 ≤ Q ∧ Q ≤ 1000001) := Lib.hid (by rw [← hQ]; exact ediv_bound T' G hG0 1000001 (by omega) (by omega) (by omega))
                go_cut [10] (fun s wx => s = .int .i64 Q ∧ wx = wr)
                case first =>
                  by_cases hm : T'.tmod G < 0
                  · have em : decide (T'.tmod (G : Int) < 0) = true := dec_t hm
                    obtain rfl : Q = T'.tdiv G - 1 := by rw [← hQ]; exact ((ediv_of_neg (by omega) hm).2 (by omega)).1
                    go_wp2_with fail
                    go_meet
                    exact ⟨rfl, rfl⟩
                  · have em : decide (T'.tmod (G : Int) < 0) = false := dec_f hm
                    obtain rfl : Q = T'.tdiv G := by rw [← hQ]; exact (ediv_of_nonneg (by omega) hm).1
                    go_wp2_with fail
                    go_meet
                    exact ⟨rfl, rfl⟩
                case rest =>
                  obtain ⟨rfl, rfl⟩ := hcut
                  obtain ⟨wr, rfl⟩ : ∃ W : World, W = wc := ⟨_, rfl⟩
                  obtain ⟨r0, r1, r2, s0, s1, s2, l1⟩ := E1.out.three
                  obtain ⟨p0, p1, p2, p3, l2⟩ := E2.out.two
                  have hQL := HQL.out
                  have HK := Lib.hid (HK1.out.both HKR.out)
                  clear hwq hQ hdt1 hdt2
                  by_cases hlo : Q < -1000000
                  · have elo : decide (Q < -1000000) = true := dec_t hlo
                    rw [if_pos hlo] at HPV
                    clear hlo
                    go_wp2
                    refine bodyPost_ret (by simp [results, Try.results17, go_sem, r0, r1, r2, l1, l2, p0, p1]; rfl) rfl ?_
                    rw [HPV.out]
                    exact ⟨_, rfl, ints_nil _, cap_nil, by (repeat' (first | (with_reducible assumption) | (with_reducible exact HK.out) | (with_reducible exact Keep.refl _ _) | (with_reducible refine Keep.alloc ?_ _) | (with_reducible refine Keep.setCell ?_ _ (fun h => absurd h (by omega))) | (with_reducible refine Keep.drewN ?_ _) | (with_reducible refine Keep.drew ?_)))⟩
                  · have elo : decide (Q < -1000000) = false := dec_f hlo
                    rw [if_neg hlo] at HPV
                    have ht := turned_any w1' wr g cg (l.map fun x => x.tdiv G) K' Q HKR.out (by omega) HBR.out (by rw [HML.out]; omega) (by rw [HML.out]; omega) HDL.out ⟨by omega, by omega⟩ HDN.out
                    rw [HML.out] at ht
                    have HT := Lib.hid ht
                    clear hlo ht r0 r1 r2 s0 s1 s2 l1 p0 p1 p2 p3 l2
                    go_wp2_with fail
                    refine HT.out.mono ?_
                    rintro e w5 ⟨rfl, hk5, hb5⟩
                    have F1 := Lib.hid (HB1.out.keep hk5)
                    have F2 := Lib.hid (HB2.out.keep hk5)
                    have HK5 := Lib.hid hk5
                    have HB5 := Lib.hid hb5
                    obtain ⟨r0, r1, r2, s0, s1, s2, m1⟩ := F1.out.three
                    obtain ⟨p0, p1, p2, p3, m2⟩ := F2.out.two
                    clear hk5 hb5 t0 t1 t2 q0 q1 q2 l0
                    go_wp2
                    refine bodyPost_ret (by simp [results, Try.results17, go_sem, r0, r1, r2, m1, m2, p0, p1]; rfl) rfl ?_
                    rw [HPV.out]
                    have hng : ∀ c, c < w.heap.size + 3 → g ≠ c := fun c hc => by omega
                    refine ⟨_, rfl, ints_turned ?_ HML.out.symm (by omega) HDL.out, ⟨_, _, _, rfl, hcg⟩, ?_⟩
                    · repeat' (first | (with_reducible exact HB5.out) | with_reducible refine IntBlk.setOther ?_ _ _ (hng _ (by omega)))
                    · repeat' (first | (with_reducible exact HK1.out.both HK5.out) | with_reducible refine keep_at ?_ _ (by omega))

/-- What Whole tells. -/
def wholeS (r : Rw) : Rw × (Int × Int) := if (chkRow r 12).1 = 0 then (if bareL r.of = [] then (⟨[], wholeK r, emptyTo (wholeK r) (wholeT r)⟩, (0, 0)) else wholeP r) else (nilRw, chkRow r 12)

theorem whole_all (w : World) (v : Value) (r : Rw) (h : IsRow w v r) : Calls Try.prog 17 #[v] w (RetRow (wholeS r).1 (wholeS r).2 w) := by
  unfold wholeS
  by_cases hc : (chkRow r 12).1 = 0
  · rw [if_pos hc]
    by_cases h0 : bareL r.of = []
    · rw [if_pos h0]; exact whole_none w v r h hc h0
    · rw [if_neg h0]; exact whole_some w v r h hc h0
  · rw [if_neg hc]; exact whole_bad w v r h hc
end Go.Proofs.Ytihcbmkjfacooaa
