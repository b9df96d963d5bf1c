/- Package row's Tidy, of rows with numbers. Package row's Tidy: every row. The reference's SameRow: are two rows the same? Package row's Whole. Package row's Whole, of rows with numbers. The reference's rowBy. The reference's RowTidy. The reference's RowWhole. -/
import Derived.Test.YtihcbmkjfacooaaRowAA
import Derived.Test.YtihcbmkjfacooaaBaseB
namespace Go.Proofs.Ytihcbmkjfacooaa
open Go.ChangeShapes Go.WideShapes Go.RowKit
set_option linter.unusedVariables false
set_option linter.unusedSimpArgs false

def fgcd (a : Nat) (l : List Int) : Nat := l.foldl (fun g x => Nat.gcd g x.natAbs) a
theorem fgcd_take {a : Nat} {l : List Int} {k : Nat} (hk : k < l.length) : fgcd a (l.take (k + 1)) = Nat.gcd (fgcd a (l.take k)) (l.getD k 0).natAbs := by
  unfold fgcd
  rw [List.take_succ_eq_append_getElem hk, List.foldl_append]
  simp [List.getD, hk]
theorem fgcd_le {a : Nat} {l : List Int} (ha : a ≤ 9000000) (hl : ∀ x ∈ l, x.natAbs ≤ 9000000) : fgcd a l ≤ 9000000 := by
  unfold fgcd
  induction l generalizing a with
  | nil => exact ha
  | cons x l ih =>
    rw [List.foldl_cons]
    refine ih ?_ fun y hy => hl y (by simp [hy])
    rcases Nat.eq_zero_or_pos a with h | h
    · subst h; rw [Nat.gcd_zero_left]; exact hl x (by simp)
    · exact Nat.le_trans (Nat.gcd_le_left _ h) ha

theorem turn_i64 {k : Int} {l : List Int} (h : ∀ x ∈ l, -9000000 ≤ x ∧ x ≤ 9000000) : ∀ x ∈ turnOf k l, I64 x := by
  intro x hx
  unfold turnOf at hx
  split at hx
  · obtain ⟨y, hy, rfl⟩ := List.mem_map.1 hx
    have := h y hy
    unfold I64; omega
  · have := h x hx
    unfold I64; omega

theorem ints_turned {w : World} {g cg n : Nat} {k : Int} {l : List Int} (h : IntBlk w g (turnOf k l)) (hn : n = l.length) (hl : n ≤ 1000) (hx : ∀ x ∈ l, -9000000 ≤ x ∧ x ≤ 9000000) : IsInts w (.slice (some ⟨g, 0, none⟩) n cg) (turnOf k l) := by
  have htl : (turnOf k l).length = n := by rw [hn]; unfold turnOf; split <;> simp
  have hti := h.ints cg (by rw [htl]; unfold maxLen; omega) (turn_i64 hx)
  rwa [htl] at hti

set_option maxRecDepth 100000 in
set_option maxHeartbeats 16000000 in
theorem tidy_some (w : World) (v : Value) (r : Rw) (h : IsRow w v r) (hc : (chkRow r 12).1 = 0) (h0 : bareL r.of ≠ []) : Calls Try.prog 16 #[v] w (RetRow (byG (bareL r.of) r.kind (r.to.tdiv (tidyG r)) (tidyG r)) (0, 0) w) := by
  have H := Lib.hid h
  obtain ⟨hcc, hkk, hlen, hfit, hft⟩ := chk_ok hc
  obtain ⟨sv, rfl, hi, _, _, hcp⟩ := h
  obtain ⟨oa, cap, rfl, hm⟩ := hi.len
  have HI := Lib.hid hi
  have HCP := Lib.hid hcp
  clear hi hcp
  obtain ⟨of, kind, tt⟩ := r
  simp only at *
  have HCA := Lib.hid hcc
  obtain ⟨ht1, ht2⟩ := hft
  obtain ⟨l, hl⟩ : ∃ l, bareL of = l := ⟨_, rfl⟩
  obtain ⟨G, hG⟩ : ∃ G, tidyG ⟨of, kind, tt⟩ = G := ⟨_, rfl⟩
  have hGe : fgcd tt.natAbs l = G := by
    rw [← hG, ← hl]
    unfold fgcd tidyG
    rw [foldl_gcd, Nat.gcd_comm]
  have hnz := bareL_end of h0
  have hlm : ∀ x ∈ l, -1000000 ≤ x ∧ x ≤ 1000000 := fun x hx => hfit x (bareL_mem (by rw [hl]; exact hx))
  have hll : l.length ≤ 12 := by rw [← hl, bareL_len]; exact Nat.le_trans (bareN_le _ _) hlen
  rw [hl] at hnz h0
  rw [hl, hG]
  have hl0 : 0 < l.length := List.length_pos_iff.2 h0
  have hGd : (∀ x ∈ l, G ∣ x.natAbs) ∧ G ∣ tt.natAbs := by
    refine ⟨fun x hx => ?_, ?_⟩
    · rw [← hG, tidyG, hl]; exact Nat.dvd_trans (Nat.gcd_dvd_left _ _) (gcdL_dvd l x hx)
    · rw [← hG, tidyG]; exact Nat.gcd_dvd_right _ _
  have hG0 : 0 < G := by
    obtain ⟨i, h1, h2⟩ := hnz
    rcases Nat.eq_zero_or_pos G with h | h
    · have := hGd.1 _ (mem_of_getD h1)
      rw [h] at this
      have := Nat.eq_zero_of_zero_dvd this
      omega
    · exact h
  have hG9 : G ≤ 9000000 := by
    rw [← hGe]; exact fgcd_le (by omega) fun x hx => by have := hlm x hx; omega
  have HL := Lib.hid hl
  have HGE := Lib.hid hGe
  have HNZ := Lib.hid hnz
  have HLM := Lib.hid hlm
  have HGD := Lib.hid hGd
  clear hcc hc hkk hl hG hGe hnz hlm hGd hfit h0
  go_enter Try.func16, Try.ntmps16
  go_wp2_with fail
  refine (rowCheck_any _ _ ⟨of, kind, tt⟩ 12 (H.out.keep (by (repeat' (first | (with_reducible assumption) | (with_reducible exact HK.out) | (with_reducible exact Keep.refl _ _) | (with_reducible refine Keep.alloc ?_ _) | (with_reducible refine Keep.setCell ?_ _ (fun h => absurd h (by omega))) | (with_reducible refine Keep.drewN ?_ _) | (with_reducible refine Keep.drew ?_)))))).mono ?_
  rintro e w1 ⟨rfl, hk1⟩
  obtain ⟨B0, B1, B2, hk⟩ := head4 hk1
  have HK1 := Lib.hid hk
  rw [HCA.out]
  obtain ⟨t0, t1, t2, _, _, _, l0⟩ := B0.three
  unfold fV
  have HB0 := Lib.hid B0
  have HB1 := Lib.hid B1
  have HB2 := Lib.hid B2
  clear hk1 hk B0 B1 B2
  have n0 : ¬ w1.heap.size = w.heap.size := by omega
  go_wp2_with fail
  have k2 : Keep NoS w1 (w1.alloc (.cells #[.int .i64 0, .int .i64 0] 26)) := (Keep.refl _ _).alloc _
  refine (trimmed_any _ _ of (HI.out.keep (HK1.out.both k2)) HCP.out (by omega)).mono ?_
  rintro e w2 ⟨v2, rfl, ho2, hk2⟩
  rw [HL.out] at ho2
  have hkk2 := k2.both hk2
  have K2 := Lib.hid hkk2
  have HB0' := Lib.hid (HB0.out.keep hkk2)
  have HB1' := Lib.hid (HB1.out.keep hkk2)
  have HB2' := Lib.hid (HB2.out.keep hkk2)
  obtain ⟨g, cg, hv2, hgb, hcg, hib⟩ := ho2.blk hl0
  subst hv2
  have hgw : w1.heap.size ≤ g := by simp at hgb; omega
  have hgb' : w.heap.size + 3 ≤ g := by have := HK1.out.size; have := HB2.out.lt; simp at hgb; omega
  have hw3 : w.heap.size + 3 ≤ w1.heap.size := by have := HB2.out.lt; omega
  have HIB := Lib.hid hib
  have ml0 : ¬ l.length = 0 := by omega
  have e0 : ((l.length : Int) == 0) = false := by rw [beq_eq_false_iff_ne]; omega
  clear t0 t1 t2 l0 n0 k2 hk2 hkk2 ho2 hgb hib
  obtain ⟨t0, t1, t2, q0, q1, q2, l0⟩ := HB0'.out.three
  go_wp2_with fail
  refine (rowGcd_any tt 0 _ (by omega) (by omega)).mono ?_
  rintro e w3 ⟨rfl, nd, rfl⟩
  have hg0 : Nat.gcd tt.natAbs (0 : Int).natAbs = fgcd tt.natAbs (l.take 0) := by simp [fgcd]
  rw [hg0]
  clear hg0
  go_wp2
  clear t0 t1 t2 q0 q1 q2 l0
  go_loopw [34, 6] (fun s t wr => ∃ j : Nat, j ≤ l.length ∧ s = .int .i64 j ∧ t = .int .i64 (fgcd tt.natAbs (l.take j) : Nat) ∧ ∃ m, wr = w2.drewN m) (fun s _ _ => (l.length - intOf s).toNat)
  case atStart => exact ⟨0, by omega, rfl, rfl, _, rfl⟩
  case round =>
    obtain ⟨j, hj, rfl, rfl, m, rfl⟩ := hrel
    by_cases hjl : j < l.length
    · have hlt : (j : Int) < (l.length : Int) := by omega
      have cj := HIB.out.cell hjl
      have hxj := HLM.out _ (mem_of_getD hjl)
      have hg9 : fgcd tt.natAbs (l.take j) ≤ 9000000 := fgcd_le (by omega) fun x hx => by have := HLM.out x (List.mem_of_mem_take hx); omega
      have HS := Lib.hid (fgcd_take (a := tt.natAbs) hjl)
      obtain ⟨x, hX⟩ : ∃ x, l.getD j 0 = x := ⟨_, rfl⟩
      rw [hX] at cj hxj HS
      obtain ⟨q, hQ⟩ : ∃ q, fgcd tt.natAbs (l.take j) = q := ⟨_, rfl⟩
      rw [hQ] at HS hg9 ⊢
      obtain ⟨hx1, hx2⟩ := hxj
      have hgl := HIB.out.lt
      clear hX hQ
      go_wp2_with fail
      refine (rowGcd_any q x _ (by omega) (by omega)).mono ?_
      rintro e w3 ⟨rfl, nd', rfl⟩
      rw [Int.natAbs_natCast, ← HS.out]
      go_wp2
      go_roundw
      case rel => exact ⟨j + 1, by omega, by go_num, rfl, _, rfl⟩
      case measure => simp [intOf]; omega
    · have hlt : ¬ (j : Int) < (l.length : Int) := by omega
      obtain rfl : j = l.length := by omega
      rw [List.take_length, HGE.out]
      have kd := keep_drewN w2 m
      have K3 := Lib.hid (K2.out.both kd)
      have D0 := Lib.hid (HB0'.out.keep kd)
      have D1 := Lib.hid (HB1'.out.keep kd)
      have D2 := Lib.hid (HB2'.out.keep kd)
      have DI := Lib.hid (HIB.out.keep kd)
      generalize w2.drewN m = w3 at *
      clear kd
      go_wp2
      go_loopw [44] (fun s wr => ∃ j : Nat, j ≤ l.length ∧ s = .int .i64 j ∧ Keep NoS w1 wr ∧ IntBlk wr g (mapK (fun x => x.tdiv G) l j) ∧ Blk wr w.heap.size #[.slice oa of.length cap, .int .i64 kind, .int .i64 tt] ∧ Blk wr (w.heap.size + 1) #[.slice none 0 0, .int .i64 0, .int .i64 0] ∧ Blk wr (w.heap.size + 1 + 1) #[.int .i64 0, .int .i64 0]) (fun s _ => (l.length - intOf s).toNat)
      case atStart => exact ⟨0, by omega, rfl, K3.out, by simpa [mapK] using DI.out, D0.out, D1.out, D2.out⟩
      case round =>
        obtain ⟨j, hj, rfl, hkr, hbr, hb0, hb1, hb2⟩ := hrel
        have HKR := Lib.hid hkr
        have HBR := Lib.hid hbr
        have E0 := Lib.hid hb0
        have E1 := Lib.hid hb1
        have E2 := Lib.hid hb2
        by_cases hjl : j < l.length
        · have hlt : (j : Int) < (l.length : Int) := by omega
          have cj := hbr.cell (i := j) (by rw [mapK_len]; exact hjl)
          rw [mapK_at _ l j hjl] at cj
          have fj := hbr.free j
          have glr := hbr.lt
          have hxj := HLM.out _ (mem_of_getD hjl)
          have HS := Lib.hid (mapK_set (fun x => x.tdiv G) l j hjl)
          obtain ⟨x, hX⟩ : ∃ x, l.getD j 0 = x := ⟨_, rfl⟩
          rw [hX] at cj hxj HS
          obtain ⟨hx1, hx2⟩ := hxj
          have hGz : ¬ (G : Int) = 0 := by omega
          have hq : (x.tdiv G).natAbs ≤ 1000000 := by rw [Int.natAbs_tdiv]; exact Nat.le_trans (Nat.div_le_self _ _) (by omega)
          have hq1 : -1000000 ≤ x.tdiv G := by omega
          have hq2 : x.tdiv G ≤ 1000000 := by omega
          clear hX hkr hbr hb0 hb1 hb2 hq
          go_wp2
          go_roundw
          case rel =>
            have hng : ∀ c, c < w.heap.size + 3 → ¬ c = g := fun c hc => by omega
            refine ⟨j + 1, by omega, by go_num, keep_at HKR.out _ (by omega), ?_, E0.out.setOther _ _ (hng _ (by omega)), E1.out.setOther _ _ (hng _ (by omega)), E2.out.setOther _ _ (hng _ (by omega))⟩
            rw [← HS.out]
            exact IntBlk.set HBR.out _
          case measure => simp [intOf]; omega
        · have hlt : ¬ (j : Int) < (l.length : Int) := by omega
          obtain rfl : j = l.length := by omega
          rw [mapK_all] at HBR
          have glr := hbr.lt
          obtain ⟨t0, t1, t2, q0, q1, q2, l0⟩ := hb0.three
          have hdl : ∀ y ∈ l.map (fun x => x.tdiv G), -9000000 ≤ y ∧ y ≤ 9000000 := by
            intro y hy
            obtain ⟨x, hx, rfl⟩ := List.mem_map.1 hy
            have := HLM.out x hx
            have hq : (x.tdiv G).natAbs ≤ 1000000 := by rw [Int.natAbs_tdiv]; exact Nat.le_trans (Nat.div_le_self _ _) (by omega)
            omega
          have hdt : (tt.tdiv G).natAbs ≤ 1000000 := by rw [Int.natAbs_tdiv]; exact Nat.le_trans (Nat.div_le_self _ _) (by omega)
          have hdn : ∃ i, i < (l.map fun x => x.tdiv G).length ∧ (l.map fun x => x.tdiv G).getD i 0 ≠ 0 := by
            obtain ⟨i, h1, h2⟩ := HNZ.out
            refine ⟨i, by simpa using h1, ?_⟩
            rw [List.getD_eq_getElem?_getD, List.getElem?_map, List.getElem?_eq_getElem h1]
            have h3 : l.getD i 0 = l[i] := by rw [List.getD_eq_getElem?_getD, List.getElem?_eq_getElem h1]; rfl
            rw [h3] at h2
            obtain ⟨c, hcc⟩ := Int.ofNat_dvd_left.2 (HGD.out.1 _ (List.getElem_mem h1))
            simp only [Option.map_some, Option.getD_some]
            rw [hcc, Int.mul_tdiv_cancel_left _ (by omega)]
            rintro rfl
            rw [Int.mul_zero] at hcc
            exact h2 hcc
          have HDL := Lib.hid hdl
          have HDN := Lib.hid hdn
          have hdt1 : -1000000 ≤ tt.tdiv G := by omega
          have hdt2 : tt.tdiv G ≤ 1000000 := by omega
          have hGz : ¬ (G : Int) = 0 := by omega
          have hGz2 : ¬ G = 0 := by omega
          have hml : (l.map fun x => x.tdiv G).length = l.length := List.length_map _
          have HML := Lib.hid hml
          clear hkr hbr hb0 hb1 hb2 hdl hdn hdt hml
          go_wp2
          have hwr : IntKind.i64.wrap (tt.tdiv G) = tt.tdiv G := Go.IntWalk.i64_in _ (by omega)
          refine wp_region_two (fun w' => Keep NoS wr w') (fun _ => True) [0, 1, 3, 5, 8, 9, 10, 11] [([0, 1, 3, 5, 9], [2, 4, 6, 7], 8), ([], [], 10), ([], [], 11)] ([], []) (by kernel_rfl) (by kernel_rfl) (fun _ _ => trivial) (by (repeat' (first | (with_reducible assumption) | (with_reducible exact HK.out) | (with_reducible exact Keep.refl _ _) | (with_reducible refine Keep.alloc ?_ _) | (with_reducible refine Keep.setCell ?_ _ (fun h => absurd h (by omega))) | (with_reducible refine Keep.drewN ?_ _) | (with_reducible refine Keep.drew ?_)))) ?_
          intro X Y W V hne1 hne2 hF hcl hG' hgg
          have HGG := Lib.hid hgg
          have hx1 := fun z => ((hF z).cell l0).trans t1
          have hx2 := fun z => ((hF z).cell l0).trans t2
          clear hF hcl hG' hgg
          simp only [wpPlanD, pickOps, List.getElem?_toArray, List.getElem?_cons_zero, List.getElem?_cons_succ, Bool.false_eq_true, if_false]
          (repeat (quiet_step (fail))); repeat (refine wpQuiet_nil ?_)
          refine wpOp_at (by simp only [List.getElem?_toArray, List.getElem?_cons_zero, List.getElem?_cons_succ]; rfl) (by rfl) (fun K hK => ?_)
          go_simp
          try rw [hwr]
          have ht := turned_any w1 wr.drew g cg (l.map fun x => x.tdiv G) kind (tt.tdiv G) HKR.out.drew (by omega) (HBR.out.keep (Keep.refl _ _).drew) (by rw [HML.out]; omega) (by rw [HML.out]; omega) HDL.out ⟨by omega, by omega⟩ HDN.out
          rw [HML.out] at ht
          refine ht.mono ?_
          rintro e w5 ⟨rfl, hk5, hb5⟩
          refine hK _ _ ⟨⟨fun h => (by simp at h), HGG.out _ trivial⟩, ?_⟩
          clear hK K ht hx1 hx2
          have F1 := Lib.hid (HB1.out.keep hk5)
          have F2 := Lib.hid (HB2.out.keep hk5)
          have HK5 := Lib.hid hk5
          have HB5 := Lib.hid hb5
          obtain ⟨r0, r1, r2, s0, s1, s2, m1⟩ := F1.out.three
          obtain ⟨p0, p1, p2, p3, m2⟩ := F2.out.two
          clear hk5 hb5
          repeat (refine wpQuiet_nil ?_)
          refine wpOp_at (by simp only [List.getElem?_toArray, List.getElem?_cons_zero, List.getElem?_cons_succ]; rfl) (by rfl) (fun K hK => ?_)
          go_simp
          refine hK _ _ ⟨⟨fun h => (by simp at h), HGG.out _ trivial⟩, ?_⟩
          clear hK K
          repeat (refine wpQuiet_nil ?_)
          refine wpOp_at (by simp only [List.getElem?_toArray, List.getElem?_cons_zero, List.getElem?_cons_succ]; rfl) (by rfl) (fun K hK => ?_)
          go_simp
          refine hK _ _ ⟨⟨fun h => (by simp at h), HGG.out _ trivial⟩, ?_⟩
          clear hK K
          repeat (refine wpQuiet_nil ?_)
          refine NoPanic.normal ?_
          go_wp2
          refine bodyPost_ret (by simp [results, Try.results16, go_sem, r0, r1, r2, m1, m2, p0, p1]; rfl) rfl ?_
          have hng : ∀ c, c < w.heap.size + 3 → g ≠ c := fun c hc => by omega
          refine ⟨_, rfl, ints_turned ?_ HML.out.symm (by omega) HDL.out, ⟨_, _, _, rfl, hcg⟩, ?_⟩
          · repeat' (first | (with_reducible exact HB5.out) | with_reducible refine IntBlk.setOther ?_ _ _ (hng _ (by omega)))
          · repeat' (first | (with_reducible exact HK1.out.both HK5.out) | with_reducible refine keep_at ?_ _ (by omega))
end Go.Proofs.Ytihcbmkjfacooaa

namespace Go.Proofs.Ytihcbmkjfacooaa
open Go.ChangeShapes Go.WideShapes Go.RowKit
set_option linter.unusedVariables false
set_option linter.unusedSimpArgs false

set_option maxRecDepth 100000 in
set_option maxHeartbeats 16000000 in
theorem tidy_bad (w : World) (v : Value) (r : Rw) (h : IsRow w v r) (hc : (chkRow r 12).1 ≠ 0) : Calls Try.prog 16 #[v] w (RetRow nilRw (chkRow r 12) w) := by
  have H := Lib.hid h
  obtain ⟨sv, rfl, hi, _, _⟩ := h
  obtain ⟨oa, cap, rfl, hm⟩ := hi.len
  clear hi
  obtain ⟨of, kind, tt⟩ := r
  simp only at *
  obtain ⟨c, a, hca⟩ : ∃ c a, chkRow ⟨of, kind, tt⟩ 12 = (c, a) := ⟨_, _, rfl⟩
  have hcc : (c != 0) = true := by rw [bne_iff_ne]; rw [hca] at hc; exact hc
  have HCA := Lib.hid hca
  clear hca hc
  go_enter Try.func16, Try.ntmps16
  go_wp2_with fail
  refine (rowCheck_any _ _ ⟨of, kind, tt⟩ 12 (H.out.keep (by (repeat' (first | (with_reducible assumption) | (with_reducible exact HK.out) | (with_reducible exact Keep.refl _ _) | (with_reducible refine Keep.alloc ?_ _) | (with_reducible refine Keep.setCell ?_ _ (fun h => absurd h (by omega))) | (with_reducible refine Keep.drewN ?_ _) | (with_reducible refine Keep.drew ?_)))))).mono ?_
  rintro e w1 ⟨rfl, hk1⟩
  obtain ⟨B0, B1, B2, hk⟩ := head4 hk1
  have HK := Lib.hid hk
  rw [HCA.out]
  obtain ⟨r0, r1, r2, s0, s1, s2, l1⟩ := B1.three
  obtain ⟨p0, p1, p2, p3, l2⟩ := B2.two
  unfold fV
  clear hk1 hk B0 B1 B2
  have n1 : ¬ w1.heap.size = w.heap.size + 1 := by omega
  have n2 : ¬ w1.heap.size = w.heap.size + 1 + 1 := by omega
  have n3 : ¬ w.heap.size + 1 = w1.heap.size := by omega
  have n4 : ¬ w.heap.size + 1 + 1 = w1.heap.size := by omega
  go_wp2
  go_region
  go_wp2
  refine bodyPost_ret (by simp [results, Try.results16, go_sem, r0, r1, r2, l1, l2, p0, p1, n1, n2, n3, n4]; rfl) rfl ?_
  exact ⟨_, by rw [HCA.out]; rfl, ints_nil _, cap_nil, by (repeat' (first | (with_reducible assumption) | (with_reducible exact HK.out) | (with_reducible exact Keep.refl _ _) | (with_reducible refine Keep.alloc ?_ _) | (with_reducible refine Keep.setCell ?_ _ (fun h => absurd h (by omega))) | (with_reducible refine Keep.drewN ?_ _) | (with_reducible refine Keep.drew ?_)))⟩

/-- What Tidy tells. -/
def tidyF (r : Rw) : Int × Int := chkRow r 12
def tidyS (r : Rw) : Rw := if (chkRow r 12).1 = 0 then tidyR r else nilRw

theorem tidy_any (w : World) (v : Value) (r : Rw) (h : IsRow w v r) : Calls Try.prog 16 #[v] w (RetRow (tidyS r) (tidyF r) w) := by
  unfold tidyS tidyF
  by_cases hc : (chkRow r 12).1 = 0
  · rw [if_pos hc, (chk_ok hc).1]
    unfold tidyR
    by_cases h0 : bareL r.of = []
    · rw [if_pos h0]; exact tidy_none w v r h hc h0
    · rw [if_neg h0]; exact tidy_some w v r h hc h0
  · rw [if_neg hc]; exact tidy_bad w v r h hc

end Go.Proofs.Ytihcbmkjfacooaa

namespace Go.Proofs.Ytihcbmkjfacooaa
open Go.ChangeShapes Go.WideShapes Go.RowKit
set_option linter.unusedVariables false
set_option linter.unusedSimpArgs false

def sameR (a b : Rw) : Prop := a.kind = b.kind ∧ a.to = b.to ∧ a.of = b.of
instance (a b : Rw) : Decidable (sameR a b) := by unfold sameR; infer_instance

set_option maxRecDepth 100000 in
set_option maxHeartbeats 8000000 in
theorem sameRow_any (w : World) (va vb : Value) (a b : Rw) (sa sb : Value) (ha : va = .agg #[sa, .int .i64 a.kind, .int .i64 a.to]) (hb : vb = .agg #[sb, .int .i64 b.kind, .int .i64 b.to]) (hia : IsInts w sa a.of) (hib : IsInts w sb b.of) :
    Calls Try.prog 20 #[va, vb] w fun e w' => e = .returned (.bool (decide (sameR a b))) ∧ Keep NoS w w' := by
  subst ha hb
  obtain ⟨oa, ca, rfl, _⟩ := hia.len
  obtain ⟨ob, cb, rfl, _⟩ := hib.len
  obtain ⟨fa, ka, ta⟩ := a
  obtain ⟨fb, kb, tb⟩ := b
  simp only at *
  have HA := Lib.hid hia
  have HB := Lib.hid hib
  clear hia hib
  by_cases hk : ka = kb
  · subst hk
    by_cases ht : ta = tb
    · subst ht
      have HD : Hid (decide (sameR ⟨fa, ka, ta⟩ ⟨fb, ka, ta⟩) = decide (fa = fb)) := Lib.hid (by simp [sameR])
      rw [HD.out]
      go_enter Try.func20, Try.ntmps20
      go_wp2_with fail
      refine (sameInts_any _ _ fa _ fb (HA.out.keep (by (repeat' (first | (with_reducible assumption) | (with_reducible exact HK.out) | (with_reducible exact Keep.refl _ _) | (with_reducible refine Keep.alloc ?_ _) | (with_reducible refine Keep.setCell ?_ _ (fun h => absurd h (by omega))) | (with_reducible refine Keep.drewN ?_ _) | (with_reducible refine Keep.drew ?_))))) (HB.out.keep (by (repeat' (first | (with_reducible assumption) | (with_reducible exact HK.out) | (with_reducible exact Keep.refl _ _) | (with_reducible refine Keep.alloc ?_ _) | (with_reducible refine Keep.setCell ?_ _ (fun h => absurd h (by omega))) | (with_reducible refine Keep.drewN ?_ _) | (with_reducible refine Keep.drew ?_)))))).mono ?_
      rintro e w1 ⟨rfl, hk1⟩
      have HK := Lib.hid (show Keep NoS w w1 from Keep.both (by (repeat' (first | (with_reducible assumption) | (with_reducible exact HK.out) | (with_reducible exact Keep.refl _ _) | (with_reducible refine Keep.alloc ?_ _) | (with_reducible refine Keep.setCell ?_ _ (fun h => absurd h (by omega))) | (with_reducible refine Keep.drewN ?_ _) | (with_reducible refine Keep.drew ?_)))) hk1)
      clear hk1
      go_wp2
      go_ret
      exact ⟨rfl, HK.out⟩
    · have HD : Hid (decide (sameR ⟨fa, ka, ta⟩ ⟨fb, ka, tb⟩) = false) := Lib.hid (by simp [sameR, ht])
      rw [HD.out]
      have e1 : (ta == tb) = false := by rw [beq_eq_false_iff_ne]; exact ht
      clear ht
      go_enter Try.func20, Try.ntmps20
      go_wp2
      go_ret
      exact ⟨rfl, by (repeat' (first | (with_reducible assumption) | (with_reducible exact HK.out) | (with_reducible exact Keep.refl _ _) | (with_reducible refine Keep.alloc ?_ _) | (with_reducible refine Keep.setCell ?_ _ (fun h => absurd h (by omega))) | (with_reducible refine Keep.drewN ?_ _) | (with_reducible refine Keep.drew ?_)))⟩
  · have HD : Hid (decide (sameR ⟨fa, ka, ta⟩ ⟨fb, kb, tb⟩) = false) := Lib.hid (by simp [sameR, hk])
    rw [HD.out]
    have e1 : (ka == kb) = false := by rw [beq_eq_false_iff_ne]; exact hk
    clear hk
    go_enter Try.func20, Try.ntmps20
    go_wp2
    go_ret
    exact ⟨rfl, by (repeat' (first | (with_reducible assumption) | (with_reducible exact HK.out) | (with_reducible exact Keep.refl _ _) | (with_reducible refine Keep.alloc ?_ _) | (with_reducible refine Keep.setCell ?_ _ (fun h => absurd h (by omega))) | (with_reducible refine Keep.drewN ?_ _) | (with_reducible refine Keep.drew ?_)))⟩
end Go.Proofs.Ytihcbmkjfacooaa

namespace Go.Proofs.Ytihcbmkjfacooaa
open Go.ChangeShapes Go.WideShapes Go.RowKit
set_option linter.unusedVariables false
set_option linter.unusedSimpArgs false

def wholeK (r : Rw) : Int := if r.kind = 2 then 1 else r.kind
def wholeT (r : Rw) : Int := if r.kind = 2 then r.to - 1 else r.to
def wholeG (r : Rw) : Nat := gcdL (bareL r.of)

set_option maxRecDepth 100000 in
set_option maxHeartbeats 16000000 in
theorem whole_bad (w : World) (v : Value) (r : Rw) (h : IsRow w v r) (hc : (chkRow r 12).1 ≠ 0) : Calls Try.prog 17 #[v] w (RetRow nilRw (chkRow r 12) w) := by
  have H := Lib.hid h
  obtain ⟨sv, rfl, hi, _, _⟩ := h
  obtain ⟨oa, cap, rfl, hm⟩ := hi.len
  clear hi
  obtain ⟨of, kind, tt⟩ := r
  simp only at *
  obtain ⟨c, a, hca⟩ : ∃ c a, chkRow ⟨of, kind, tt⟩ 12 = (c, a) := ⟨_, _, rfl⟩
  have hcc : (c != 0) = true := by rw [bne_iff_ne]; rw [hca] at hc; exact hc
  have HCA := Lib.hid hca
  clear hca hc
  go_enter Try.func17, Try.ntmps17
  go_wp2_with fail
  refine (rowCheck_any _ _ ⟨of, kind, tt⟩ 12 (H.out.keep (by (repeat' (first | (with_reducible assumption) | (with_reducible exact HK.out) | (with_reducible exact Keep.refl _ _) | (with_reducible refine Keep.alloc ?_ _) | (with_reducible refine Keep.setCell ?_ _ (fun h => absurd h (by omega))) | (with_reducible refine Keep.drewN ?_ _) | (with_reducible refine Keep.drew ?_)))))).mono ?_
  rintro e w1 ⟨rfl, hk1⟩
  obtain ⟨B0, B1, B2, hk⟩ := head4 hk1
  have HK := Lib.hid hk
  rw [HCA.out]
  obtain ⟨r0, r1, r2, s0, s1, s2, l1⟩ := B1.three
  obtain ⟨p0, p1, p2, p3, l2⟩ := B2.two
  unfold fV
  clear hk1 hk B0 B1 B2
  have n1 : ¬ w1.heap.size = w.heap.size + 1 := by omega
  have n2 : ¬ w1.heap.size = w.heap.size + 1 + 1 := by omega
  have n3 : ¬ w.heap.size + 1 = w1.heap.size := by omega
  have n4 : ¬ w.heap.size + 1 + 1 = w1.heap.size := by omega
  go_wp2
  go_region
  go_wp2
  refine bodyPost_ret (by simp [results, Try.results17, go_sem, r0, r1, r2, l1, l2, p0, p1, n1, n2, n3, n4]; rfl) rfl ?_
  exact ⟨_, by rw [HCA.out]; rfl, ints_nil _, cap_nil, by (repeat' (first | (with_reducible assumption) | (with_reducible exact HK.out) | (with_reducible exact Keep.refl _ _) | (with_reducible refine Keep.alloc ?_ _) | (with_reducible refine Keep.setCell ?_ _ (fun h => absurd h (by omega))) | (with_reducible refine Keep.drewN ?_ _) | (with_reducible refine Keep.drew ?_)))⟩

set_option maxRecDepth 100000 in
set_option maxHeartbeats 16000000 in
theorem whole_none (w : World) (v : Value) (r : Rw) (h : IsRow w v r) (hc : (chkRow r 12).1 = 0) (h0 : bareL r.of = []) : Calls Try.prog 17 #[v] w (RetRow ⟨[], wholeK r, emptyTo (wholeK r) (wholeT r)⟩ (0, 0) w) := by
  have H := Lib.hid h
  obtain ⟨hcc, hkk, hlen, _, hft⟩ := chk_ok hc
  obtain ⟨sv, rfl, hi, _, _, hcp⟩ := h
  obtain ⟨oa, cap, rfl, hm⟩ := hi.len
  have HI := Lib.hid hi
  have HCP := Lib.hid hcp
  clear hi hcp
  obtain ⟨of, kind, tt⟩ := r
  simp only at *
  obtain ⟨ht1, ht2⟩ := hft
  obtain ⟨K', hK'⟩ : ∃ k, wholeK ⟨of, kind, tt⟩ = k := ⟨_, rfl⟩
  obtain ⟨T', hT'⟩ : ∃ k, wholeT ⟨of, kind, tt⟩ = k := ⟨_, rfl⟩
  rw [hK', hT']
  have HKT : Hid ((kind = 2 → K' = 1 ∧ T' = tt - 1) ∧ (kind ≠ 2 → K' = kind ∧ T' = tt)) := Lib.hid (by
    unfold wholeK at hK'
    unfold wholeT at hT'
    simp only at hK' hT'
    constructor
    · intro h; rw [if_pos h] at hK' hT'; exact ⟨hK'.symm, hT'.symm⟩
    · intro h; rw [if_neg h] at hK' hT'; exact ⟨hK'.symm, hT'.symm⟩)
  have HKK : Hid (K' = 1 ∨ K' = 2 ∨ K' = 3) := Lib.hid (by
    by_cases h : kind = 2
    · exact .inl (HKT.out.1 h).1
    · rw [(HKT.out.2 h).1]; exact hkk)
  have HCA := Lib.hid hcc
  have H0 := Lib.hid h0
  clear hcc hc h0 hK' hT' hkk
  go_enter Try.func17, Try.ntmps17
  go_wp2_with fail
  refine (rowCheck_any _ _ ⟨of, kind, tt⟩ 12 (H.out.keep (by (repeat' (first | (with_reducible assumption) | (with_reducible exact HK.out) | (with_reducible exact Keep.refl _ _) | (with_reducible refine Keep.alloc ?_ _) | (with_reducible refine Keep.setCell ?_ _ (fun h => absurd h (by omega))) | (with_reducible refine Keep.drewN ?_ _) | (with_reducible refine Keep.drew ?_)))))).mono ?_
  rintro e w1 ⟨rfl, hk1⟩
  obtain ⟨B0, B1, B2, hk⟩ := head4 hk1
  have HK1 := Lib.hid hk
  rw [HCA.out]
  obtain ⟨t0, t1, t2, f0, f1, f2, l0⟩ := B0.three
  unfold fV
  have HB0 := Lib.hid B0
  have HB1 := Lib.hid B1
  have HB2 := Lib.hid B2
  clear hk1 hk B0 B1 B2
  have n0 : ¬ w1.heap.size = w.heap.size := by omega
  have n1 : ¬ w.heap.size = w1.heap.size := by omega
  go_upto_if 20 with fail
  go_cut [] (fun wx => Keep NoS w wx ∧ Blk wx w.heap.size #[.slice oa of.length cap, .int .i64 K', .int .i64 T'] ∧ Blk wx (w.heap.size + 1) #[.slice none 0 0, .int .i64 0, .int .i64 0] ∧ Blk wx (w.heap.size + 1 + 1) #[.int .i64 0, .int .i64 0])
  case first =>
    by_cases h2 : kind = 2
    · obtain ⟨rfl, rfl⟩ := HKT.out.1 h2
      subst h2
      go_wp2_with fail
      go_meet
      refine ⟨(keep_at (keep_at HK1.out _ (Nat.le_refl _)) _ (Nat.le_refl _)).alloc _, ?_, ?_, ?_⟩
      · exact Blk.old (by simpa using Blk.set (Blk.set HB0.out 1 (.int .i64 1)) 2 (.int .i64 (tt - 1))) _
      · exact Blk.old ((HB1.out.setOther _ _ (by omega)).setOther _ _ (by omega)) _
      · exact Blk.old ((HB2.out.setOther _ _ (by omega)).setOther _ _ (by omega)) _
    · obtain ⟨rfl, rfl⟩ := HKT.out.2 h2
      have e2 : (K' == 2) = false := by rw [beq_eq_false_iff_ne]; exact h2
      go_wp2_with fail
      go_meet
      exact ⟨HK1.out.alloc _, Blk.old HB0.out _, Blk.old HB1.out _, Blk.old HB2.out _⟩
  case rest =>
    obtain ⟨hk2, hb0, hb1, hb2⟩ := hcut
    obtain ⟨w2, rfl⟩ : ∃ W : World, W = wc := ⟨_, rfl⟩
    have K2 := Lib.hid hk2
    have C0 := Lib.hid hb0
    have C1 := Lib.hid hb1
    have C2 := Lib.hid hb2
    clear t0 t1 t2 f0 f1 f2 l0 n0 n1 hk2 hb1 hb2 HB0 HB1 HB2 HK1
    obtain ⟨t0, t1, t2, _, _, _, l0⟩ := hb0.three
    clear hb0
    go_wp2_with fail
    refine (trimmed_any _ _ of (HI.out.keep K2.out) HCP.out (by omega)).mono ?_
    rintro e w3 ⟨v3, rfl, ho3, hk3⟩
    rw [H0.out] at ho3
    obtain ⟨t0', t1', t2', _, _, _, l0'⟩ := (C0.out.keep hk3).three
    obtain ⟨oc, cc, hv3⟩ := ho3.len
    simp only [List.length_nil] at hv3
    subst hv3
    have HB1' := Lib.hid (C1.out.keep hk3)
    have HB2' := Lib.hid (C2.out.keep hk3)
    have K3 := Lib.hid (K2.out.both hk3)
    clear t0 t1 t2 l0 hk3 ho3 C0 C1 C2 K2
    go_wp2_with fail
    refine (empty_any K' T' _ HKK.out).mono ?_
    rintro e w4 ⟨rfl, hk4⟩
    have HK := Lib.hid (K3.out.both hk4)
    obtain ⟨r0, r1, r2, s0, s1, s2, l1⟩ := (HB1'.out.keep hk4).three
    obtain ⟨p0, p1, p2, p3, l2⟩ := (HB2'.out.keep hk4).two
    unfold emptyV
    clear t0' t1' t2' l0' hk4
    go_wp2
    refine bodyPost_ret (by simp [results, Try.results17, go_sem, r0, r1, r2, l1, l2, p0, p1]; rfl) rfl ?_
    exact ⟨_, rfl, ints_nil _, cap_nil, by (repeat' (first | (with_reducible assumption) | (with_reducible exact HK.out) | (with_reducible exact Keep.refl _ _) | (with_reducible refine Keep.alloc ?_ _) | (with_reducible refine Keep.setCell ?_ _ (fun h => absurd h (by omega))) | (with_reducible refine Keep.drewN ?_ _) | (with_reducible refine Keep.drew ?_)))⟩
end Go.Proofs.Ytihcbmkjfacooaa

namespace Go.Proofs.Ytihcbmkjfacooaa
open Go.ChangeShapes Go.WideShapes Go.RowKit
set_option linter.unusedVariables false
set_option linter.unusedSimpArgs false

def wholeP (r : Rw) : Rw × (Int × Int) :=
  if wholeK r = 3 ∧ (wholeT r).tmod (wholeG r) ≠ 0 then (⟨[], 3, 1⟩, (0, 0))
  else if wholeT r / (wholeG r : Int) < -1000000 then (nilRw, (10, 0))
  else (byG (bareL r.of) (wholeK r) (wholeT r / (wholeG r : Int)) (wholeG r), (0, 0))

theorem ediv_bound (T : Int) (G : Nat) (hG : 0 < G) (M : Int) (h0 : 0 ≤ M) (h1 : -M ≤ T) (h2 : T ≤ M) : -M ≤ T / (G : Int) ∧ T / (G : Int) ≤ M := by
  have h3 : M * 1 ≤ M * (G : Int) := Int.mul_le_mul_of_nonneg_left (by omega) h0
  exact ⟨Int.le_ediv_of_mul_le (by omega) (by rw [Int.neg_mul]; omega), Int.ediv_le_of_le_mul (by omega) (by omega)⟩

set_option maxRecDepth 100000 in
set_option maxHeartbeats 32000000 in
theorem whole_some (w : World) (v : Value) (r : Rw) (h : IsRow w v r) (hc : (chkRow r 12).1 = 0) (h0 : bareL r.of ≠ []) : Calls Try.prog 17 #[v] w (RetRow (wholeP r).1 (wholeP r).2 w) := by
  have H := Lib.hid h
  obtain ⟨hcc, hkk, hlen, hfit, hft⟩ := chk_ok hc
  obtain ⟨sv, rfl, hi, _, _, hcp⟩ := h
  obtain ⟨oa, cap, rfl, hm⟩ := hi.len
  have HI := Lib.hid hi
  have HCP := Lib.hid hcp
  clear hi hcp
  obtain ⟨of, kind, tt⟩ := r
  simp only at *
  have HCA := Lib.hid hcc
  obtain ⟨ht1, ht2⟩ := hft
  obtain ⟨l, hl⟩ : ∃ l, bareL of = l := ⟨_, rfl⟩
  obtain ⟨G, hG⟩ : ∃ G, wholeG ⟨of, kind, tt⟩ = G := ⟨_, rfl⟩
  obtain ⟨K', hK'⟩ : ∃ k, wholeK ⟨of, kind, tt⟩ = k := ⟨_, rfl⟩
  obtain ⟨T', hT'⟩ : ∃ k, wholeT ⟨of, kind, tt⟩ = k := ⟨_, rfl⟩
  obtain ⟨P, hP⟩ : ∃ P, wholeP ⟨of, kind, tt⟩ = P := ⟨_, rfl⟩
  have hGe : fgcd 0 l = G := by
    rw [← hG, ← hl]
    rfl
  have HKT : Hid ((kind = 2 → K' = 1 ∧ T' = tt - 1) ∧ (kind ≠ 2 → K' = kind ∧ T' = tt)) := Lib.hid (by
    unfold wholeK at hK'
    unfold wholeT at hT'
    simp only at hK' hT'
    constructor
    · intro h; rw [if_pos h] at hK' hT'; exact ⟨hK'.symm, hT'.symm⟩
    · intro h; rw [if_neg h] at hK' hT'; exact ⟨hK'.symm, hT'.symm⟩)
  have hKK : K' = 1 ∨ K' = 2 ∨ K' = 3 := by
    by_cases h : kind = 2
    · exact .inl (HKT.out.1 h).1
    · rw [(HKT.out.2 h).1]; exact hkk
  have hT9 : -1000001 ≤ T' ∧ T' ≤ 1000000 := by
    by_cases h : kind = 2
    · have := (HKT.out.1 h).2; omega
    · have := (HKT.out.2 h).2; omega
  have hnz := bareL_end of h0
  have hlm : ∀ x ∈ l, -1000000 ≤ x ∧ x ≤ 1000000 := fun x hx => hfit x (bareL_mem (by rw [hl]; exact hx))
  have hll : l.length ≤ 12 := by rw [← hl, bareL_len]; exact Nat.le_trans (bareN_le _ _) hlen
  rw [hl] at hnz h0
  have HP : Hid (P = if K' = 3 ∧ T'.tmod G ≠ 0 then (⟨[], 3, 1⟩, (0, 0)) else if T' / (G : Int) < -1000000 then (nilRw, (10, 0)) else (byG l K' (T' / (G : Int)) G, (0, 0))) := Lib.hid (by
    rw [← hP]; unfold wholeP; rw [hK', hT', hG, hl])
  rw [hP]
  have hl0 : 0 < l.length := List.length_pos_iff.2 h0
  have hGd : ∀ x ∈ l, G ∣ x.natAbs := fun x hx => by rw [← hG]; unfold wholeG; rw [hl]; exact gcdL_dvd l x hx
  have hG0 : 0 < G := by
    obtain ⟨i, h1, h2⟩ := hnz
    rcases Nat.eq_zero_or_pos G with h | h
    · have := hGd _ (mem_of_getD h1)
      rw [h] at this
      have := Nat.eq_zero_of_zero_dvd this
      omega
    · exact h
  have hG9 : G ≤ 9000000 := by
    rw [← hGe]; exact fgcd_le (by omega) fun x hx => by have := hlm x hx; omega
  have HL := Lib.hid hl
  have HGE := Lib.hid hGe
  have HNZ := Lib.hid hnz
  have HLM := Lib.hid hlm
  have HGD := Lib.hid hGd
  have HKK := Lib.hid hKK
  obtain ⟨ht91, ht92⟩ := hT9
  clear hcc hc hkk hl hG hGe hnz hlm hGd hfit h0 hK' hT' hP hKK
  go_enter Try.func17, Try.ntmps17
  go_wp2_with fail
  refine (rowCheck_any _ _ ⟨of, kind, tt⟩ 12 (H.out.keep (by (repeat' (first | (with_reducible assumption) | (with_reducible exact HK.out) | (with_reducible exact Keep.refl _ _) | (with_reducible refine Keep.alloc ?_ _) | (with_reducible refine Keep.setCell ?_ _ (fun h => absurd h (by omega))) | (with_reducible refine Keep.drewN ?_ _) | (with_reducible refine Keep.drew ?_)))))).mono ?_
  rintro e w1 ⟨rfl, hk1⟩
  obtain ⟨B0, B1, B2, hk⟩ := head4 hk1
  have HK1 := Lib.hid hk
  rw [HCA.out]
  obtain ⟨t0, t1, t2, f0, f1, f2, l0⟩ := B0.three
  unfold fV
  have HB0 := Lib.hid B0
  have HB1 := Lib.hid B1
  have HB2 := Lib.hid B2
  clear hk1 hk B0 B1 B2
  have n0 : ¬ w1.heap.size = w.heap.size := by omega
  have n1 : ¬ w.heap.size = w1.heap.size := by omega
  have hw3 : w.heap.size + 3 ≤ w1.heap.size := by have := HB2.out.lt; omega
  go_upto_if 20 with fail
  go_cut [] (fun wx => Keep NoS w wx ∧ Blk wx w.heap.size #[.slice oa of.length cap, .int .i64 K', .int .i64 T'] ∧ Blk wx (w.heap.size + 1) #[.slice none 0 0, .int .i64 0, .int .i64 0] ∧ Blk wx (w.heap.size + 1 + 1) #[.int .i64 0, .int .i64 0])
  case first =>
    by_cases h2 : kind = 2
    · obtain ⟨rfl, rfl⟩ := HKT.out.1 h2
      subst h2
      go_wp2_with fail
      go_meet
      refine ⟨(keep_at (keep_at HK1.out _ (Nat.le_refl _)) _ (Nat.le_refl _)).alloc _, ?_, ?_, ?_⟩
      · exact Blk.old (by simpa using Blk.set (Blk.set HB0.out 1 (.int .i64 1)) 2 (.int .i64 (tt - 1))) _
      · exact Blk.old ((HB1.out.setOther _ _ (by omega)).setOther _ _ (by omega)) _
      · exact Blk.old ((HB2.out.setOther _ _ (by omega)).setOther _ _ (by omega)) _
    · obtain ⟨rfl, rfl⟩ := HKT.out.2 h2
      have e2 : (K' == 2) = false := by rw [beq_eq_false_iff_ne]; exact h2
      go_wp2_with fail
      go_meet
      exact ⟨HK1.out.alloc _, Blk.old HB0.out _, Blk.old HB1.out _, Blk.old HB2.out _⟩
  case rest =>
    obtain ⟨hkc, hb0, hb1, hb2⟩ := hcut
    obtain ⟨w1', rfl⟩ : ∃ W : World, W = wc := ⟨_, rfl⟩
    have HB0 := Lib.hid hb0
    have HB1 := Lib.hid hb1
    have HB2 := Lib.hid hb2
    clear t0 t1 t2 f0 f1 f2 l0 n0 n1 hb1 hb2 HKT HK1 hw3
    have HK1 := Lib.hid hkc
    have hw3 : w.heap.size + 3 ≤ w1'.heap.size := by have := HB2.out.lt; omega
    obtain ⟨t0, t1, t2, _, _, _, l0⟩ := hb0.three
    clear hb0 hkc
    have w1x := w1'
    clear w1x
    go_wp2_with fail
    refine (trimmed_any _ _ of (HI.out.keep HK1.out) HCP.out (by omega)).mono ?_
    rintro e w2 ⟨v2, rfl, ho2, hk2⟩
    rw [HL.out] at ho2
    have K2 := Lib.hid hk2
    have HB0' := Lib.hid (HB0.out.keep hk2)
    have HB1' := Lib.hid (HB1.out.keep hk2)
    have HB2' := Lib.hid (HB2.out.keep hk2)
    obtain ⟨g, cg, hv2, hgw, hcg, hib⟩ := ho2.blk hl0
    subst hv2
    have hgb' : w.heap.size + 3 ≤ g := by omega
    have HIB := Lib.hid hib
    have ml0 : ¬ l.length = 0 := by omega
    have e0 : ((l.length : Int) == 0) = false := by rw [beq_eq_false_iff_ne]; omega
    have hg0 : (0 : Int) = (fgcd 0 (l.take 0) : Nat) := by simp [fgcd]
    have HG0 := Lib.hid hg0
    clear t0 t1 t2 l0 hk2 ho2 hib hg0
    go_wp2
    go_loopw [40, 6] (fun s t wr => ∃ j : Nat, j ≤ l.length ∧ s = .int .i64 j ∧ t = .int .i64 (fgcd 0 (l.take j) : Nat) ∧ ∃ m, wr = w2.drewN m) (fun s _ _ => (l.length - intOf s).toNat)
    case atStart => exact ⟨0, by omega, rfl, by rw [← HG0.out], 0, rfl⟩
    case round =>
      obtain ⟨j, hj, rfl, rfl, m, rfl⟩ := hrel
      by_cases hjl : j < l.length
      · have hlt : (j : Int) < (l.length : Int) := by omega
        have cj := HIB.out.cell hjl
        have hxj := HLM.out _ (mem_of_getD hjl)
        have hg9 : fgcd 0 (l.take j) ≤ 9000000 := fgcd_le (by omega) fun x hx => by have := HLM.out x (List.mem_of_mem_take hx); omega
        have HS := Lib.hid (fgcd_take (a := 0) hjl)
        obtain ⟨x, hX⟩ : ∃ x, l.getD j 0 = x := ⟨_, rfl⟩
        rw [hX] at cj hxj HS
        obtain ⟨q, hQ⟩ : ∃ q, fgcd 0 (l.take j) = q := ⟨_, rfl⟩
        rw [hQ] at HS hg9 ⊢
        obtain ⟨hx1, hx2⟩ := hxj
        have hgl := HIB.out.lt
        clear hX hQ
        go_wp2_with fail
        refine (rowGcd_any q x _ (by omega) (by omega)).mono ?_
        rintro e w3 ⟨rfl, nd', rfl⟩
        rw [Int.natAbs_natCast, ← HS.out]
        go_wp2
        go_roundw
        case rel => exact ⟨j + 1, by omega, by go_num, rfl, _, rfl⟩
        case measure => simp [intOf]; omega
      · have hlt : ¬ (j : Int) < (l.length : Int) := by omega
        obtain rfl : j = l.length := by omega
        rw [List.take_length, HGE.out]
        have kd := keep_drewN w2 m
        have K3 := Lib.hid (K2.out.both kd)
        have D0 := Lib.hid (HB0'.out.keep kd)
        have D1 := Lib.hid (HB1'.out.keep kd)
        have D2 := Lib.hid (HB2'.out.keep kd)
        have DI := Lib.hid (HIB.out.keep kd)
        generalize w2.drewN m = w3 at *
        clear kd
        obtain ⟨t0, t1, t2, q0, q1, q2, l0⟩ := D0.out.three
        obtain ⟨r0, r1, r2, s0, s1, s2, l1⟩ := D1.out.three
        obtain ⟨p0, p1, p2, p3, l2⟩ := D2.out.two
        have hGz : ¬ (G : Int) = 0 := by omega
        have hGz2 : ¬ G = 0 := by omega
        by_cases h3 : K' = 3 ∧ T'.tmod G ≠ 0
        · obtain ⟨rfl, h3b⟩ := h3
          have HPV : Hid (P = (⟨[], 3, 1⟩, (0, 0))) := Lib.hid (by rw [HP.out, if_pos ⟨rfl, h3b⟩])
          have e3 : (T'.tmod (G : Int) != 0) = true := by rw [bne_iff_ne]; exact h3b
          clear h3b
          go_wp2_with fail
          refine (empty_any 3 1 _ (.inr (.inr rfl))).mono ?_
          rintro e w4 ⟨rfl, hk4⟩
          have HK := Lib.hid (HK1.out.both (K3.out.both hk4))
          obtain ⟨r0', r1', r2', s0', s1', s2', l1'⟩ := (D1.out.keep hk4).three
          obtain ⟨p0', p1', p2', p3', l2'⟩ := (D2.out.keep hk4).two
          rw [show emptyV 3 1 = .agg #[.slice none 0 0, .int .i64 3, .int .i64 1] from rfl]
          clear r0 r1 r2 s0 s1 s2 l1 p0 p1 p2 p3 l2 hk4
          go_wp2
          rw [HPV.out]
          refine bodyPost_ret (by simp [results, Try.results17, go_sem, r0', r1', r2', l1', l2', p0', p1']; rfl) rfl ?_
          exact ⟨_, rfl, ints_nil _, cap_nil, by (repeat' (first | (with_reducible assumption) | (with_reducible exact HK.out) | (with_reducible exact Keep.refl _ _) | (with_reducible refine Keep.alloc ?_ _) | (with_reducible refine Keep.setCell ?_ _ (fun h => absurd h (by omega))) | (with_reducible refine Keep.drewN ?_ _) | (with_reducible refine Keep.drew ?_)))⟩
        · have HPV : Hid (P = if T' / (G : Int) < -1000000 then (nilRw, (10, 0)) else (byG l K' (T' / (G : Int)) G, (0, 0))) := Lib.hid (by rw [HP.out, if_neg h3])
          have H3 : K' = 3 ∧ T'.tmod G = 0 ∨ K' ≠ 3 := by
            by_cases h : K' = 3
            · exact .inl ⟨h, Classical.byContradiction fun h' => h3 ⟨h, h'⟩⟩
            · exact .inr h
          clear h3
          rcases H3 with ⟨h31, h3⟩ | h31
          all_goals
            first
            | (have e31 : (K' == 3) = false := by rw [beq_eq_false_iff_ne]; exact h31
               clear h31
               go_wp2
               clear e31)
            | (have e31 : (K' == 3) = true := by rw [beq_iff_eq]; exact h31
               have e3 : (T'.tmod (G : Int) != 0) = false := by rw [bne_eq_false_iff_eq]; exact h3
               clear h31 h3
               go_wp2
               clear e31 e3)
            clear t0 t1 t2 q0 q1 q2 l0 r0 r1 r2 s0 s1 s2 l1 p0 p1 p2 p3 l2
            go_loopw [62] (fun s wr => ∃ j : Nat, j ≤ l.length ∧ s = .int .i64 j ∧ Keep NoS w1' wr ∧ IntBlk wr g (mapK (fun x => x.tdiv G) l j) ∧ Blk wr w.heap.size #[.slice oa of.length cap, .int .i64 K', .int .i64 T'] ∧ Blk wr (w.heap.size + 1) #[.slice none 0 0, .int .i64 0, .int .i64 0] ∧ Blk wr (w.heap.size + 1 + 1) #[.int .i64 0, .int .i64 0]) (fun s _ => (l.length - intOf s).toNat)
            case atStart => exact ⟨0, by omega, rfl, K3.out, by simpa [mapK] using DI.out, D0.out, D1.out, D2.out⟩
            case round =>
              obtain ⟨j, hj, rfl, hkr, hbr, hb0, hb1, hb2⟩ := hrel
              have HKR := Lib.hid hkr
              have HBR := Lib.hid hbr
              have E0 := Lib.hid hb0
              have E1 := Lib.hid hb1
              have E2 := Lib.hid hb2
              by_cases hjl : j < l.length
              · have hlt : (j : Int) < (l.length : Int) := by omega
                have cj := hbr.cell (i := j) (by rw [mapK_len]; exact hjl)
                rw [mapK_at _ l j hjl] at cj
                have fj := hbr.free j
                have glr := hbr.lt
                have hxj := HLM.out _ (mem_of_getD hjl)
                have HS := Lib.hid (mapK_set (fun x => x.tdiv G) l j hjl)
                obtain ⟨x, hX⟩ : ∃ x, l.getD j 0 = x := ⟨_, rfl⟩
                rw [hX] at cj hxj HS
                obtain ⟨hx1, hx2⟩ := hxj
                have hq : (x.tdiv G).natAbs ≤ 1000000 := by rw [Int.natAbs_tdiv]; exact Nat.le_trans (Nat.div_le_self _ _) (by omega)
                have hq1 : -1000000 ≤ x.tdiv G := by omega
                have hq2 : x.tdiv G ≤ 1000000 := by omega
                clear hX hkr hbr hb0 hb1 hb2 hq
                go_wp2
                go_roundw
                case rel =>
                  have hng : ∀ c, c < w.heap.size + 3 → ¬ c = g := fun c hc => by omega
                  refine ⟨j + 1, by omega, by go_num, keep_at HKR.out _ (by omega), ?_, E0.out.setOther _ _ (hng _ (by omega)), E1.out.setOther _ _ (hng _ (by omega)), E2.out.setOther _ _ (hng _ (by omega))⟩
                  rw [← HS.out]
                  exact IntBlk.set HBR.out _
                case measure => simp [intOf]; omega
              · have hlt : ¬ (j : Int) < (l.length : Int) := by omega
                obtain rfl : j = l.length := by omega
                rw [mapK_all] at HBR
                have glr := hbr.lt
                obtain ⟨t0, t1, t2, q0, q1, q2, l0⟩ := hb0.three
                have hdl : ∀ y ∈ l.map (fun x => x.tdiv G), -9000000 ≤ y ∧ y ≤ 9000000 := by
                  intro y hy
                  obtain ⟨x, hx, rfl⟩ := List.mem_map.1 hy
                  have := HLM.out x hx
                  have hq : (x.tdiv G).natAbs ≤ 1000000 := by rw [Int.natAbs_tdiv]; exact Nat.le_trans (Nat.div_le_self _ _) (by omega)
                  omega
                have hdn : ∃ i, i < (l.map fun x => x.tdiv G).length ∧ (l.map fun x => x.tdiv G).getD i 0 ≠ 0 := by
                  obtain ⟨i, h1, h2⟩ := HNZ.out
                  refine ⟨i, by simpa using h1, ?_⟩
                  rw [List.getD_eq_getElem?_getD, List.getElem?_map, List.getElem?_eq_getElem h1]
                  have h3 : l.getD i 0 = l[i] := by rw [List.getD_eq_getElem?_getD, List.getElem?_eq_getElem h1]; rfl
                  rw [h3] at h2
                  obtain ⟨c, hcc⟩ := Int.ofNat_dvd_left.2 (HGD.out _ (List.getElem_mem h1))
                  simp only [Option.map_some, Option.getD_some]
                  rw [hcc, Int.mul_tdiv_cancel_left _ (by omega)]
                  rintro rfl
                  rw [Int.mul_zero] at hcc
                  exact h2 hcc
                have HDL := Lib.hid hdl
                have HDN := Lib.hid hdn
                have hml : (l.map fun x => x.tdiv G).length = l.length := List.length_map _
                have HML := Lib.hid hml
                have hdt : (T'.tdiv G).natAbs ≤ 1000001 := by rw [Int.natAbs_tdiv]; exact Nat.le_trans (Nat.div_le_self _ _) (by omega)
                have hdt1 : -1000001 ≤ T'.tdiv G := by omega
                have hdt2 : T'.tdiv G ≤ 1000001 := by omega
                clear hkr hbr hb0 hb1 hb2 hdl hdn hml hdt
                go_upto_if 81 with fail
                obtain ⟨wq, hwq⟩ : ∃ W : World, W = wr := ⟨_, rfl⟩
                obtain ⟨Q, hQ⟩ : ∃ Q, T' / (G : Int) = Q := ⟨_, rfl⟩
                rw [hQ] at HPV
                have HQL : Hid (-1000001 ≤ Q ∧ Q ≤ 1000001) := Lib.hid (by rw [← hQ]; exact ediv_bound T' G hG0 1000001 (by omega) (by omega) (by omega))
                go_cut [10] (fun s wx => s = .int .i64 Q ∧ wx = wr)
                case first =>
                  by_cases hm : T'.tmod G < 0
                  · have em : decide (T'.tmod (G : Int) < 0) = true := dec_t hm
                    obtain rfl : Q = T'.tdiv G - 1 := by rw [← hQ]; exact ((ediv_of_neg (by omega) hm).2 (by omega)).1
                    go_wp2_with fail
                    go_meet
                    exact ⟨rfl, rfl⟩
                  · have em : decide (T'.tmod (G : Int) < 0) = false := dec_f hm
                    obtain rfl : Q = T'.tdiv G := by rw [← hQ]; exact (ediv_of_nonneg (by omega) hm).1
                    go_wp2_with fail
                    go_meet
                    exact ⟨rfl, rfl⟩
                case rest =>
                  obtain ⟨rfl, rfl⟩ := hcut
                  obtain ⟨wr, rfl⟩ : ∃ W : World, W = wc := ⟨_, rfl⟩
                  obtain ⟨r0, r1, r2, s0, s1, s2, l1⟩ := E1.out.three
                  obtain ⟨p0, p1, p2, p3, l2⟩ := E2.out.two
                  have hQL := HQL.out
                  have HK := Lib.hid (HK1.out.both HKR.out)
                  clear hwq hQ hdt1 hdt2
                  by_cases hlo : Q < -1000000
                  · have elo : decide (Q < -1000000) = true := dec_t hlo
                    rw [if_pos hlo] at HPV
                    clear hlo
                    go_wp2
                    refine bodyPost_ret (by simp [results, Try.results17, go_sem, r0, r1, r2, l1, l2, p0, p1]; rfl) rfl ?_
                    rw [HPV.out]
                    exact ⟨_, rfl, ints_nil _, cap_nil, by (repeat' (first | (with_reducible assumption) | (with_reducible exact HK.out) | (with_reducible exact Keep.refl _ _) | (with_reducible refine Keep.alloc ?_ _) | (with_reducible refine Keep.setCell ?_ _ (fun h => absurd h (by omega))) | (with_reducible refine Keep.drewN ?_ _) | (with_reducible refine Keep.drew ?_)))⟩
                  · have elo : decide (Q < -1000000) = false := dec_f hlo
                    rw [if_neg hlo] at HPV
                    have ht := turned_any w1' wr g cg (l.map fun x => x.tdiv G) K' Q HKR.out (by omega) HBR.out (by rw [HML.out]; omega) (by rw [HML.out]; omega) HDL.out ⟨by omega, by omega⟩ HDN.out
                    rw [HML.out] at ht
                    have HT := Lib.hid ht
                    clear hlo ht r0 r1 r2 s0 s1 s2 l1 p0 p1 p2 p3 l2
                    go_wp2_with fail
                    refine HT.out.mono ?_
                    rintro e w5 ⟨rfl, hk5, hb5⟩
                    have F1 := Lib.hid (HB1.out.keep hk5)
                    have F2 := Lib.hid (HB2.out.keep hk5)
                    have HK5 := Lib.hid hk5
                    have HB5 := Lib.hid hb5
                    obtain ⟨r0, r1, r2, s0, s1, s2, m1⟩ := F1.out.three
                    obtain ⟨p0, p1, p2, p3, m2⟩ := F2.out.two
                    clear hk5 hb5 t0 t1 t2 q0 q1 q2 l0
                    go_wp2
                    refine bodyPost_ret (by simp [results, Try.results17, go_sem, r0, r1, r2, m1, m2, p0, p1]; rfl) rfl ?_
                    rw [HPV.out]
                    have hng : ∀ c, c < w.heap.size + 3 → g ≠ c := fun c hc => by omega
                    refine ⟨_, rfl, ints_turned ?_ HML.out.symm (by omega) HDL.out, ⟨_, _, _, rfl, hcg⟩, ?_⟩
                    · repeat' (first | (with_reducible exact HB5.out) | with_reducible refine IntBlk.setOther ?_ _ _ (hng _ (by omega)))
                    · repeat' (first | (with_reducible exact HK1.out.both HK5.out) | with_reducible refine keep_at ?_ _ (by omega))

/-- What Whole tells. -/
def wholeS (r : Rw) : Rw × (Int × Int) := if (chkRow r 12).1 = 0 then (if bareL r.of = [] then (⟨[], wholeK r, emptyTo (wholeK r) (wholeT r)⟩, (0, 0)) else wholeP r) else (nilRw, chkRow r 12)

theorem whole_all (w : World) (v : Value) (r : Rw) (h : IsRow w v r) : Calls Try.prog 17 #[v] w (RetRow (wholeS r).1 (wholeS r).2 w) := by
  unfold wholeS
  by_cases hc : (chkRow r 12).1 = 0
  · rw [if_pos hc]
    by_cases h0 : bareL r.of = []
    · rw [if_pos h0]; exact whole_none w v r h hc h0
    · rw [if_neg h0]; exact whole_some w v r h hc h0
  · rw [if_neg hc]; exact whole_bad w v r h hc
end Go.Proofs.Ytihcbmkjfacooaa

namespace Go.Proofs.Ytihcbmkjfacooaa
open Go.ChangeShapes Go.WideShapes Go.RowKit
set_option linter.unusedVariables false
set_option linter.unusedSimpArgs false

theorem ediv_bnd (T : Int) (G : Nat) (hG : 0 < G) (M : Int) (h0 : 0 ≤ M) (h1 : -M ≤ T) (h2 : T ≤ M) : -M ≤ T / (G : Int) ∧ T / (G : Int) ≤ M := by
  have h3 : M * 1 ≤ M * (G : Int) := Int.mul_le_mul_of_nonneg_left (by omega) h0
  exact ⟨Int.le_ediv_of_mul_le (by omega) (by rw [Int.neg_mul]; omega), Int.ediv_le_of_le_mul (by omega) (by omega)⟩

/-- The sign by which a row of equals is turned. -/
def sgq (l : List Int) : Int := if sgnL l < 0 then -1 else 1
def byS (k : Int) (l : List Int) : Int := if k = 3 then sgq l else 1
def byR (l : List Int) (k t : Int) (g : Nat) : Rw := ⟨l.map fun x => (byS k l * x).tdiv g, k, (byS k l * t) / (g : Int)⟩

theorem sgq_cons (x : Int) (l : List Int) : sgq (x :: l) = if x < 0 then -1 else if 0 < x then 1 else sgq l := by
  unfold sgq
  by_cases h0 : x = 0
  · subst h0; simp [sgnL]
  · rw [sgnL, if_neg h0]
    by_cases h1 : x < 0
    · have hs : x.sign < 0 := by rw [Int.sign_eq_neg_one_of_neg h1]; omega
      rw [if_pos h1, if_pos hs]
    · have hs : ¬ x.sign < 0 := by rw [Int.sign_eq_one_of_pos (by omega)]; omega
      rw [if_neg h1, if_pos (show 0 < x by omega), if_neg hs]

theorem sgq_drop {l : List Int} {j : Nat} (hj : j < l.length) : sgq (l.drop j) = if l.getD j 0 < 0 then -1 else if 0 < l.getD j 0 then 1 else sgq (l.drop (j + 1)) := by
  rw [List.drop_eq_getElem_cons hj, sgq_cons, List.getD_eq_getElem?_getD, List.getElem?_eq_getElem hj]; rfl

theorem byS_one (k : Int) (l : List Int) : byS k l = 1 ∨ byS k l = -1 := by
  unfold byS sgq
  split
  · split <;> simp
  · simp

theorem byS_bound {M x : Int} (k : Int) (l : List Int) (h1 : -M ≤ x) (h2 : x ≤ M) : -M ≤ byS k l * x ∧ byS k l * x ≤ M := by
  rcases byS_one k l with h | h <;> rw [h] <;> omega

set_option maxRecDepth 100000 in
set_option maxHeartbeats 16000000 in
theorem rowBy_any (w : World) (v : Value) (l : List Int) (k t : Int) (g : Nat) (h : IsInts w v l) (hl : l.length ≤ 12) (hx : ∀ x ∈ l, -1000000 ≤ x ∧ x ≤ 1000000) (ht : -1000001 ≤ t ∧ t ≤ 1000001) (hg : 0 < g) (hg9 : g ≤ 9000000) :
    Calls Try.prog 61 #[v, .int .i64 k, .int .i64 t, .int .i64 g] w fun e w' => ∃ sv, e = .returned (.agg #[sv, .int .i64 k, .int .i64 (byR l k t g).to]) ∧ OwnI w' w.heap.size sv (byR l k t g).of ∧ (∀ x ∈ (byR l k t g).of, I64 x) ∧ Keep NoS w w' := by
  have HI := Lib.hid h
  obtain ⟨oa, cap, rfl, hm⟩ := h.len
  have HX := Lib.hid hx
  obtain ⟨ht1, ht2⟩ := ht
  clear h hx
  have HT0 : Hid (sgq (l.drop l.length) = 1) := Lib.hid (by rw [List.drop_length]; rfl)
  go_enter Try.func61, Try.ntmps61
  go_wp2
  have ka : Keep NoS w (w.alloc (.cells #[.slice none 0 0, .int .i64 0, .int .i64 0] 24)) := by (repeat' (first | (with_reducible assumption) | (with_reducible exact HK.out) | (with_reducible exact Keep.refl _ _) | (with_reducible refine Keep.alloc ?_ _) | (with_reducible refine Keep.setCell ?_ _ (fun h => absurd h (by omega))) | (with_reducible refine Keep.drewN ?_ _) | (with_reducible refine Keep.drew ?_)))
  have HKA := Lib.hid ka
  have HIA := Lib.hid (HI.out.keep ka)
  have HBA : Hid (Blk (w.alloc (.cells #[.slice none 0 0, .int .i64 0, .int .i64 0] 24)) w.heap.size #[.slice none 0 0, .int .i64 0, .int .i64 0]) := Lib.hid (by (repeat (first | (refine blk_at _ _ ?_; simp; done) | (refine Blk.old ?_ _))))
  obtain ⟨wa, hwa⟩ : ∃ W, w.alloc (.cells #[.slice none 0 0, .int .i64 0, .int .i64 0] 24) = W := ⟨_, rfl⟩
  have hsa : wa.heap.size = w.heap.size + 1 := by rw [← hwa]; simp
  rw [hwa] at HKA HIA HBA ⊢
  have HSA := Lib.hid hsa
  clear ka hwa hsa
  go_loopw [9, 10] (fun s t wr => ∃ j : Nat, j ≤ l.length ∧ t = .int .i64 ((j : Int) - 1) ∧ s = .int .i64 (sgq (l.drop j)) ∧ wa = wr) (fun _ t _ => (intOf t + 1).toNat)
  case atStart => exact ⟨l.length, Nat.le_refl _, rfl, by rw [HT0.out], rfl⟩
  case round =>
    obtain ⟨j, hj, rfl, rfl, rfl⟩ := hrel
    rcases j with _ | j
    · obtain ⟨S, hS⟩ : ∃ S, byS k l = S := ⟨_, rfl⟩
      have HS0 : Hid (sgq (l.drop 0) = sgq l) := Lib.hid rfl
      have HSQ : Hid (∀ x, fitI x → -1000000 ≤ S * x ∧ S * x ≤ 1000000) := Lib.hid fun x hx => by rw [← hS]; exact byS_bound k l hx.1 hx.2
      have hSt : -1000001 ≤ S * t ∧ S * t ≤ 1000001 := by rw [← hS]; exact byS_bound k l ht1 ht2
      have HSB := Lib.hid hS
      clear hS
      rw [HS0.out, show (((0 : Nat) : Int) - 1) = -1 from rfl]
      go_upto_if 31 with fail
      go_cut [9] (fun s wx => s = .int .i64 S ∧ wa = wx)
      case first =>
        by_cases h3 : k = 3
        · subst h3
          obtain rfl : S = sgq l := by rw [← HSB.out]; rfl
          go_wp2_with fail
          go_meet
          exact ⟨rfl, rfl⟩
        · have e3 : (k != 3) = true := by rw [bne_iff_ne]; exact h3
          obtain rfl : S = 1 := by rw [← HSB.out]; unfold byS; rw [if_neg h3]
          go_wp2_with fail
          go_meet
          exact ⟨rfl, rfl⟩
      case rest =>
        obtain ⟨rfl, rfl⟩ := hcut
        obtain ⟨hSt1, hSt2⟩ := hSt
        go_wp2
        have kb : Keep NoS wa (wa.alloc (.cells #[.slice none 0 0, .int .i64 k, .int .i64 0] 24)) := by (repeat' (first | (with_reducible assumption) | (with_reducible exact HK.out) | (with_reducible exact Keep.refl _ _) | (with_reducible refine Keep.alloc ?_ _) | (with_reducible refine Keep.setCell ?_ _ (fun h => absurd h (by omega))) | (with_reducible refine Keep.drewN ?_ _) | (with_reducible refine Keep.drew ?_)))
        have HKB := Lib.hid (HKA.out.both kb)
        have HIB := Lib.hid (HIA.out.keep kb)
        have HB1 : Hid (Blk (wa.alloc (.cells #[.slice none 0 0, .int .i64 k, .int .i64 0] 24)) wa.heap.size #[.slice none 0 0, .int .i64 k, .int .i64 0]) := Lib.hid (by (repeat (first | (refine blk_at _ _ ?_; simp; done) | (refine Blk.old ?_ _))))
        have HBA1 := Lib.hid (HBA.out.keep kb)
        obtain ⟨wb, hwb⟩ : ∃ W, wa.alloc (.cells #[.slice none 0 0, .int .i64 k, .int .i64 0] 24) = W := ⟨_, rfl⟩
        have HSW : Hid (wb.heap.size = w.heap.size + 2) := Lib.hid (by rw [← hwb]; simp [HSA.out])
        rw [hwb] at HKB HIB HB1 HBA1 ⊢
        obtain ⟨b5, hb5⟩ : ∃ b, wa.heap.size = b := ⟨_, rfl⟩
        rw [hb5] at HB1 ⊢
        have HB5E : Hid (b5 = w.heap.size + 1) := Lib.hid (by rw [← hb5, HSA.out])
        have hb5l : w.heap.size < b5 := by have := HB5E.out; omega
        clear kb hwb hb5
        go_loopw [12] (fun s wr => ∃ j : Nat, j ≤ l.length ∧ s = .int .i64 j ∧ Keep NoS w wr ∧ b5 < wr.heap.size ∧ IsInts wr (.slice oa l.length cap) l ∧ Blk wr w.heap.size #[.slice none 0 0, .int .i64 0, .int .i64 0] ∧
          ∃ u, Blk wr b5 #[u, .int .i64 k, .int .i64 0] ∧ OwnI wr (b5 + 1) u ((l.take j).map fun x => (S * x).tdiv g)) (fun s _ => (l.length - intOf s).toNat)
        case atStart => exact ⟨0, by omega, rfl, HKB.out, by have := HSW.out; have := HB5E.out; omega, HIB.out, HBA1.out, _, HB1.out, OwnI.nil _ _⟩
        case round =>
          obtain ⟨j, hj, rfl, hkr, hbs, hir, hb0, u, hb5', hou⟩ := hrel
          have HKR := Lib.hid hkr
          have HIR := Lib.hid hir
          have HB0 := Lib.hid hb0
          have HB5 := Lib.hid hb5'
          have HOU := Lib.hid hou
          have hlj : ((l.take j).map fun x => (S * x).tdiv g).length = j := by rw [List.length_map, List.length_take]; omega
          obtain ⟨ob, cb, hu⟩ := hou.len
          rw [hlj] at hu
          subst hu
          obtain ⟨p0, p1, p2, q0, q1, q2, l0⟩ := hb5'.three
          by_cases hjl : j < l.length
          · have hlt : (j : Int) < (l.length : Int) := by omega
            obtain ⟨b, o, cp, hsl, hbw, hxw⟩ := HI.out.at hjl
            cases hsl
            have hb : b < wr.heap.size := Nat.lt_of_lt_of_le hbw hkr.size
            have hx := (hkr.cell (i := o + j) hbw).trans hxw
            have HXW := Lib.hid (And.intro hbw hxw)
            clear hbw hxw
            have hfx := HX.out l[j] (List.getElem_mem hjl)
            have HS : Hid ((l.take j).map (fun x => (S * x).tdiv g) ++ [(S * l[j]).tdiv g] = (l.take (j + 1)).map fun x => (S * x).tdiv g) := Lib.hid (by rw [List.take_succ_eq_append_getElem hjl, List.map_append]; rfl)
            have hln : ((l.take j).map fun x => (S * x).tdiv g).length ≤ 12 := by simp; omega
            have hSx := HSQ.out l[j] hfx
            generalize l[j] = x at *
            obtain ⟨Y, hY⟩ : ∃ Y, S * x = Y := ⟨_, rfl⟩
            rw [hY] at HS hSx
            have HYY := Lib.hid hY
            obtain ⟨Z, hZ⟩ : ∃ Z, Y.tdiv (g : Int) = Z := ⟨_, rfl⟩
            rw [hZ] at HS
            have hzb : Z.natAbs ≤ 1000000 := by rw [← hZ, Int.natAbs_tdiv]; exact Nat.le_trans (Nat.div_le_self _ _) (by omega)
            have hZ1 : -1000000 ≤ Z := by omega
            have hZ2 : Z ≤ 1000000 := by omega
            have hYw : IntKind.i64.wrap (S * x) = Y := by rw [hY]; exact Go.IntWalk.i64_in _ (by omega)
            have hgz : ¬ (g : Int) = 0 := by omega
            have hgz2 : ¬ g = 0 := by omega
            have hZw : IntKind.i64.wrap (Y.tdiv (g : Int)) = Z := by rw [hZ]; exact Go.IntWalk.i64_in _ (by omega)
            have HZW := Lib.hid hZw
            have HYW := Lib.hid hYw
            clear hfx hY hZ hzb hkr hir hb0 hb5' hou hSx hYw hZw
            go_wp2
            refine wp_region_by (fun w' => w'.cell? ⟨b5, 0, none⟩ = some (.slice ob j cb) ∧ w'.cell? ⟨b, o + j, none⟩ = some (.int .i64 x)) [13] [([0, 1, 2, 3, 4, 5, 6, 7, 8, 9], 10), ([], 11), ([12], 13)] [] (by kernel_rfl) (by kernel_rfl) ⟨p0, hx⟩ ?_
            intro X W hne hF hcl
            have HCL := Lib.hid hcl
            have hx0 := fun x => (hF x).1
            have hx1 := fun x => (hF x).2
            clear hF hcl
            simp only [wpPlan, pickOps, List.getElem?_toArray, List.getElem?_cons_zero, List.getElem?_cons_succ, clsOf, Bool.false_eq_true, if_false]
            (repeat (quiet_step (fail))); refine wpQuiet_nil ?_
            refine wpOp_at (by simp only [List.getElem?_toArray, List.getElem?_cons_zero, List.getElem?_cons_succ]; rfl) (by rfl) (fun K hK => ?_)
            go_simp
            rw [HYW.out, HZW.out]
            have k1 : Keep NoS wr ((wr.alloc (.cells #[.int .i64 Z] TI)).drew) := by (repeat' (first | (with_reducible assumption) | (with_reducible exact HK.out) | (with_reducible exact Keep.refl _ _) | (with_reducible refine Keep.alloc ?_ _) | (with_reducible refine Keep.setCell ?_ _ (fun h => absurd h (by omega))) | (with_reducible refine Keep.drewN ?_ _) | (with_reducible refine Keep.drew ?_)))
            refine hK _ _ ⟨fun _ => HCL.out _ ⟨(k1.cell l0).trans p0, (k1.cell hb).trans hx⟩, ?_⟩
            have K1 := Lib.hid k1
            have HO1 := Lib.hid (HOU.out.keep k1)
            have HS1 : Hid (IsInts ((wr.alloc (.cells #[.int .i64 Z] TI)).drew) (.slice (some ⟨wr.heap.size, 0, none⟩) 1 1) [Z]) := Lib.hid (one_int wr.drew Z (by unfold I64; omega))
            clear hK K
            have hs2 := HKR.out.size
            have hbs2 : b5 + 1 ≤ wr.heap.size := hbs
            have k1s := k1.size
            generalize hbb : wr.heap.size = b2 at HS1 hbs hbs2 hs2 k1s ⊢
            generalize (wr.alloc (.cells #[.int .i64 Z] TI)).drew = w1 at *
            clear k1
            (repeat (quiet_step (fail))); refine wpQuiet_nil ?_
            refine wpOp_at (by simp only [List.getElem?_toArray, List.getElem?_cons_zero, List.getElem?_cons_succ]; rfl) (by rfl) (fun K hK => ?_)
            obtain ⟨v', w', hr, ho', hg⟩ := app_ints HO1.out HS1.out (by simp; omega) (by omega)
            have hkw' : Keep NoS w w' := (HKR.out.both K1.out).grown hg fun k hk => by have := HOU.out.block k hk; have := HKR.out.size; omega
            have hne : ∀ c, c < b5 + 1 → ∀ b, (Value.slice ob j cb).ownBlock = some b → b ≠ c := fun c hc b hb => by have := HOU.out.block b hb; omega
            have D0 := Lib.hid ((HB0.out.keep K1.out).grown hg (hne _ (by omega)))
            have d5 := (HB5.out.keep K1.out).grown hg (hne _ (by omega))
            have D5 := Lib.hid d5
            have HO' := Lib.hid ho'
            have HKW' := Lib.hid hkw'
            have HG' := Lib.hid hg.size
            obtain ⟨ob', cb', hu'⟩ := ho'.len
            rw [List.length_append, hlj, List.length_singleton] at hu'
            subst hu'
            obtain ⟨e0, e1, e2, f0, f1, f2, l5⟩ := d5.three
            have hxx := (hkw'.cell (i := o + j) HXW.out.1).trans HXW.out.2
            refine wp_app_run _ _ 22 _ _ rfl rfl rfl hr ?_
            refine hK _ _ ⟨fun _ => HCL.out _ ⟨?_, hxx⟩, ?_⟩
            · exact e0
            clear hK K hr
            simp only [Act.put, List.setIfInBounds_toArray, List.set_cons_zero, List.set_cons_succ]
            (repeat (quiet_step (fail))); refine wpQuiet_nil ?_
            refine wpOp_at (by simp only [List.getElem?_toArray, List.getElem?_cons_zero, List.getElem?_cons_succ]; rfl) (by rfl) (fun K hK => ?_)
            go_simp
            refine hK _ _ ⟨fun h => (by simp at h), ?_⟩
            clear hK K hx0 hx1 hxx
            (repeat (quiet_step (fail))); refine wpQuiet_nil ?_
            refine NoPanic.normal ?_
            go_wp2
            go_roundw
            case rel =>
              refine ⟨j + 1, by omega, by go_num, keep_at HKW'.out _ (by omega), Nat.lt_of_lt_of_le l5 (keep_setCell _ _ _ _).size, HI.out.keep (keep_at HKW'.out _ (by omega)), D0.out.setOther _ _ (by omega), _, by simpa using Blk.set D5.out 0 _, ?_⟩
              rw [← HS.out]
              exact World.ownsRow_other HO'.out (by intro hh; have := HO'.out.block _ hh; omega)
            case measure => simp [intOf]; omega
          · have hlt : ¬ (j : Int) < (l.length : Int) := by omega
            obtain rfl : j = l.length := by omega
            rw [List.take_length] at HOU
            obtain ⟨r0, r1, r2, s0, s1, s2, l1⟩ := hb0.three
            have HQB : Hid ((byR l k t g).of = l.map fun x => (S * x).tdiv g) := Lib.hid (by unfold byR; rw [HSB.out])
            have HQT : Hid ((byR l k t g).to = (S * t) / (g : Int)) := Lib.hid (by unfold byR; rw [HSB.out])
            have hqb := ediv_bnd (S * t) g hg 1000001 (by omega) hSt1 hSt2
            have HNI : Hid (∀ x ∈ l.map fun x => (S * x).tdiv (g : Int), I64 x) := Lib.hid (by
              intro x hx
              obtain ⟨y, hy, rfl⟩ := List.mem_map.1 hx
              have h1 := HSQ.out y (HX.out y hy)
              have h2 : ((S * y).tdiv (g : Int)).natAbs ≤ 1000000 := by rw [Int.natAbs_tdiv]; exact Nat.le_trans (Nat.div_le_self _ _) (by omega)
              unfold I64
              omega)
            have hne : ∀ c, c < b5 + 1 → (Value.slice ob l.length cb).ownBlock ≠ some c := fun c hc hb => by have := HOU.out.block c hb; omega
            have HNE := Lib.hid hne
            have hgz : ¬ (g : Int) = 0 := by omega
            have hkc := HKR.out.size
            obtain ⟨T, hT⟩ : ∃ T, S * t = T := ⟨_, rfl⟩
            rw [hT] at HQT hqb
            have HTW := Lib.hid hT
            have hT9 : -1000001 ≤ T ∧ T ≤ 1000001 := by omega
            clear hkr hir hb0 hb5' hou hne p0 p1 p2 q0 q1 q2 l0 hT
            go_wp2_with fail
            rw [HTW.out]
            have k1 : Keep NoS wr (wr.alloc (.cells intCells 74)) := (Keep.refl _ _).alloc _
            refine (newInt_any _ T (by omega) (by omega)).mono ?_
            rintro e w2 ⟨b1, hb1, rfl, hk2, hi2⟩
            have K2 := Lib.hid (k1.both hk2)
            have HA := Lib.hid (IsHdr.ofNewer (hdr_new wr) hk2)
            have HI1 := Lib.hid hi2
            clear k1 hk2 hi2 hb1
            go_wp2_with fail
            refine (newInt_any _ g (by omega) (by omega)).mono ?_
            rintro e w3 ⟨b2, hb2, rfl, hk3, hi3⟩
            have K3 := Lib.hid (K2.out.both hk3)
            have HA := Lib.hid (IsHdr.ofNewer HA.out hk3)
            have HI1 := Lib.hid (HI1.out.ofNewer hk3)
            have HI2 := Lib.hid hi3
            clear hk3 hi3 hb2 K2
            go_wp2_with fail
            refine (div_of small_le_BIG qrOK_small w3 wr.heap.size 0 b1 0 b2 0 T g HA.out HI1.out HI2.out hgz (by omega) (by omega)).mono ?_
            rintro e w4 ⟨rfl, hk4, hi4⟩
            have K4 := Lib.hid (K3.out.newer hk4 (Nat.le_refl _))
            have HI4 := Lib.hid hi4
            clear hk4 hi4 K3 HI1 HI2 HA
            go_wp2_with fail
            refine (int64_any w4 wr.heap.size 0 (T / (g : Int)) HI4.out (by omega) (by omega)).mono ?_
            rintro e w5 ⟨rfl, rfl⟩
            have D0 := Lib.hid (HB0.out.keep K4.out)
            have d5 := HB5.out.keep K4.out
            have D5 := Lib.hid d5
            have HO4 := Lib.hid (HOU.out.keep K4.out)
            have HK4 := Lib.hid (HKR.out.both K4.out)
            obtain ⟨p0, p1, p2, q0, q1, q2, l0⟩ := d5.three
            obtain ⟨r0, r1, r2, s0, s1, s2, l1⟩ := D0.out.three
            obtain ⟨Z, hZ⟩ : ∃ Z, T / (g : Int) = Z := ⟨_, rfl⟩
            rw [hZ] at HQT hqb ⊢
            clear d5 hZ
            go_wp2
            refine bodyPost_ret (by simp [results, Try.results61, go_sem, p0, p1, p2, l0, r0, r1, r2, l1]; rfl) rfl ?_
            rw [HQB.out, HQT.out]
            refine ⟨_, rfl, World.ownsRow_mono (base := b5 + 1) ?_ (by omega), HNI.out, ?_⟩
            · repeat' (first | (with_reducible exact HO4.out) | refine World.ownsRow_other ?_ (HNE.out _ (by omega)) | exact HO4.out)
            · repeat' (first | (with_reducible exact HK4.out) | with_reducible refine keep_at ?_ _ (by omega))
    · have hx := HX.out (l.getD j 0) (by rw [List.getD_eq_getElem?_getD, List.getElem?_eq_getElem (by omega)]; exact List.getElem_mem _)
      obtain ⟨b, o, hoa, hbl, hc⟩ := HIA.out.cellAt (by omega)
      subst hoa
      have c0 := hc j (by omega)
      have HS := Lib.hid (sgq_drop (l := l) (j := j) (by omega))
      have hk1 : ((j + 1 : Nat) : Int) - 1 = (j : Int) := by omega
      have hk2 : (j : Int) < (l.length : Int) := by omega
      clear hc
      obtain ⟨x, hX⟩ : ∃ x, l.getD j 0 = x := ⟨_, rfl⟩
      rw [hX] at c0 hx HS
      clear hX
      obtain ⟨s1, hs1⟩ : ∃ s, sgq (l.drop j) = s := ⟨_, rfl⟩
      rw [hs1] at HS
      have HS1 := Lib.hid hs1
      clear hs1
      by_cases h1 : x < 0
      · rw [if_pos h1] at HS
        have h2 : ¬ 0 < x := by omega
        go_wp2
        go_roundw
        case rel => exact ⟨j, by omega, by go_num, by rw [HS1.out, HS.out], trivial⟩
        case measure => simp [intOf]
      · rw [if_neg h1] at HS
        by_cases h2 : 0 < x
        · rw [if_pos h2] at HS
          go_wp2
          go_roundw
          case rel => exact ⟨j, by omega, by go_num, by rw [HS1.out, HS.out], trivial⟩
          case measure => simp [intOf]
        · rw [if_neg h2] at HS
          go_wp2
          go_roundw
          case rel => exact ⟨j, by omega, by go_num, by rw [HS1.out, HS.out], trivial⟩
          case measure => simp [intOf]
end Go.Proofs.Ytihcbmkjfacooaa

namespace Go.Proofs.Ytihcbmkjfacooaa
open Go.ChangeShapes Go.WideShapes Go.RowKit
set_option linter.unusedVariables false
set_option linter.unusedSimpArgs false

/-- A row alone is returned. -/
def RetR (s : Rw) (w : World) (e : Ending) (w' : World) : Prop :=
  ∃ sv, e = .returned (.agg #[sv, .int .i64 s.kind, .int .i64 s.to]) ∧ IsInts w' sv s.of ∧ CapOK sv ∧ Keep NoS w w'

theorem turnQ_map {k : Int} {l : List Int} {g : Nat} (hg : 0 < g) (hd : ∀ x ∈ l, g ∣ x.natAbs) : turnQ k (l.map fun x => x.tdiv g) ↔ turnQ k l := by
  unfold turnQ; rw [sgnL_tdiv hg l hd]

theorem byR_eq {l : List Int} {k t : Int} {g : Nat} (hg : 0 < g) (hd : ∀ x ∈ l, g ∣ x.natAbs) (ht : k = 3 → g ∣ t.natAbs) : byR l k t g = byG l k (t / (g : Int)) g := by
  unfold byR byG turnOf turnTo
  by_cases h : turnQ k l
  · have hk := h.1
    have hs : byS k l = -1 := by unfold byS sgq; rw [if_pos hk, if_pos h.2]
    rw [if_pos ((turnQ_map hg hd).2 h), if_pos ((turnQ_map hg hd).2 h), hs]
    have e1 : (fun x : Int => (-1 * x).tdiv (g : Int)) = fun x => -(x.tdiv (g : Int)) := by funext x; rw [Int.neg_one_mul, Int.neg_tdiv]
    rw [e1, Int.neg_one_mul, List.map_map]
    have hdv : (g : Int) ∣ t := Int.ofNat_dvd_left.2 (ht hk)
    rw [Int.neg_ediv_of_dvd hdv]
    rfl
  · have hs : byS k l = 1 := by
      unfold byS sgq
      by_cases hk : k = 3
      · rw [if_pos hk, if_neg (fun h' => h ⟨hk, h'⟩)]
      · rw [if_neg hk]
    rw [if_neg (fun h' => h ((turnQ_map hg hd).1 h')), if_neg (fun h' => h ((turnQ_map hg hd).1 h')), hs]
    simp only [Int.one_mul]

theorem gcdL_pos_of {l : List Int} (h : ∃ i, i < l.length ∧ l.getD i 0 ≠ 0) : 0 < gcdL l := by
  obtain ⟨i, h1, h2⟩ := h
  exact gcdL_pos (mem_of_getD h1) h2

theorem gcdL_le {l : List Int} (hl : ∀ x ∈ l, x.natAbs ≤ 9000000) : gcdL l ≤ 9000000 := fgcd_le (by omega) hl

set_option maxRecDepth 100000 in
set_option maxHeartbeats 16000000 in
theorem refTidy_none (w : World) (v : Value) (r : Rw) (h : IsRow w v r) (hc : (chkRow r 12).1 = 0) (h0 : bareL r.of = []) : Calls Try.prog 22 #[v] w (RetR (tidyR r) w) := by
  obtain ⟨hcc, hkk, hlen, _, hft⟩ := chk_ok hc
  obtain ⟨sv, rfl, hi, _, _, hcp⟩ := h
  obtain ⟨oa, cap, rfl, hm⟩ := hi.len
  have HI := Lib.hid hi
  have HCP := Lib.hid hcp
  have HT : Hid (tidyR r = ⟨[], r.kind, emptyTo r.kind r.to⟩) := Lib.hid (by unfold tidyR; rw [if_pos h0])
  clear hi hcp
  obtain ⟨of, kind, tt⟩ := r
  simp only at *
  have H0 := Lib.hid h0
  have HKK := Lib.hid hkk
  clear hcc hc h0 hkk
  rw [HT.out]
  go_enter Try.func22, Try.ntmps22
  go_wp2_with fail
  have k0 : Keep NoS w ((w.alloc (.cells #[.slice oa of.length cap, .int .i64 kind, .int .i64 tt] 24)).alloc (.cells #[.slice none 0 0, .int .i64 0, .int .i64 0] 24)) := by (repeat' (first | (with_reducible assumption) | (with_reducible exact HK.out) | (with_reducible exact Keep.refl _ _) | (with_reducible refine Keep.alloc ?_ _) | (with_reducible refine Keep.setCell ?_ _ (fun h => absurd h (by omega))) | (with_reducible refine Keep.drewN ?_ _) | (with_reducible refine Keep.drew ?_)))
  have b0 : Blk ((w.alloc (.cells #[.slice oa of.length cap, .int .i64 kind, .int .i64 tt] 24)).alloc (.cells #[.slice none 0 0, .int .i64 0, .int .i64 0] 24)) w.heap.size #[.slice oa of.length cap, .int .i64 kind, .int .i64 tt] := by (repeat (first | (refine blk_at _ _ ?_; simp; done) | (refine Blk.old ?_ _)))
  have b1 : Blk ((w.alloc (.cells #[.slice oa of.length cap, .int .i64 kind, .int .i64 tt] 24)).alloc (.cells #[.slice none 0 0, .int .i64 0, .int .i64 0] 24)) (w.heap.size + 1) #[.slice none 0 0, .int .i64 0, .int .i64 0] := by (repeat (first | (refine blk_at _ _ ?_; simp; done) | (refine Blk.old ?_ _)))
  refine (bare_any _ _ of (HI.out.keep k0) HCP.out (by omega)).mono ?_
  rintro e w1 ⟨⟨v1, rfl, hi1, hc1⟩, rfl⟩
  rw [H0.out] at hi1
  have K1 := Lib.hid k0
  have B0 := Lib.hid b0
  have B1 := Lib.hid b1
  obtain ⟨oc, cc, rfl, _⟩ := hi1.len
  simp only [List.length_nil]
  generalize (w.alloc (.cells #[.slice oa of.length cap, .int .i64 kind, .int .i64 tt] 24)).alloc (.cells #[.slice none 0 0, .int .i64 0, .int .i64 0] 24) = w1 at *
  obtain ⟨p0, p1, p2, q0, q1, q2, l0⟩ := b0.three
  clear k0 b0 b1 hi1 hc1
  go_wp2_with fail
  refine (rowNone_any kind tt _ HKK.out).mono ?_
  rintro e w2 ⟨rfl, hk2⟩
  have K2 := Lib.hid (K1.out.both hk2)
  obtain ⟨r0, r1, r2, s0, s1, s2, l1⟩ := (B1.out.keep hk2).three
  unfold emptyV
  clear p0 p1 p2 q0 q1 q2 l0 hk2
  go_wp2
  refine bodyPost_ret (by simp [results, Try.results22, go_sem, r0, r1, r2, l1]; rfl) rfl ?_
  refine ⟨_, rfl, ints_nil _, cap_nil, ?_⟩
  repeat' (first | (with_reducible exact K2.out) | with_reducible refine keep_at ?_ _ (by omega))

set_option maxRecDepth 100000 in
set_option maxHeartbeats 16000000 in
theorem refTidy_some (w : World) (v : Value) (r : Rw) (h : IsRow w v r) (hc : (chkRow r 12).1 = 0) (h0 : bareL r.of ≠ []) : Calls Try.prog 22 #[v] w (RetR (tidyR r) w) := by
  obtain ⟨hcc, hkk, hlen, hfit, hft⟩ := chk_ok hc
  obtain ⟨sv, rfl, hi, _, _, hcp⟩ := h
  obtain ⟨oa, cap, rfl, hm⟩ := hi.len
  have HI := Lib.hid hi
  have HCP := Lib.hid hcp
  clear hi hcp
  obtain ⟨of, kind, tt⟩ := r
  simp only at *
  obtain ⟨ht1, ht2⟩ := hft
  obtain ⟨l, hl⟩ : ∃ l, bareL of = l := ⟨_, rfl⟩
  have hlm : ∀ x ∈ l, -1000000 ≤ x ∧ x ≤ 1000000 := fun x hx => hfit x (bareL_mem (by rw [hl]; exact hx))
  have hll : l.length ≤ 12 := by rw [← hl, bareL_len]; exact Nat.le_trans (bareN_le _ _) hlen
  have hnz := bareL_end of h0
  rw [hl] at hnz h0
  obtain ⟨G, hG⟩ : ∃ G, gcdL (l ++ [tt]) = G := ⟨_, rfl⟩
  have hGt : tidyG ⟨of, kind, tt⟩ = G := by rw [← hG, gcdL_app, tidyG, hl]
  have hGd : ∀ x ∈ l, G ∣ x.natAbs := fun x hx => by rw [← hG]; exact gcdL_dvd _ x (List.mem_append_left _ hx)
  have hGtd : G ∣ tt.natAbs := by rw [← hG]; exact gcdL_dvd _ tt (by simp)
  have hG0 : 0 < G := by
    obtain ⟨i, h1, h2⟩ := hnz
    rw [← hG]
    exact gcdL_pos (List.mem_append_left _ (mem_of_getD h1)) h2
  have hG9 : G ≤ 9000000 := by
    rw [← hG]
    refine gcdL_le fun x hx => ?_
    rcases List.mem_append.1 hx with h | h
    · have := hlm x h; omega
    · obtain rfl : x = tt := by simpa using h
      omega
  have HT : Hid (tidyR ⟨of, kind, tt⟩ = byR l kind tt G) := Lib.hid (by
    rw [byR_eq hG0 hGd fun _ => hGtd]
    unfold tidyR
    rw [hGt]
    simp only [hl]
    rw [if_neg h0, tdiv_eq hGtd])
  have hl0 : 0 < l.length := List.length_pos_iff.2 h0
  have HL := Lib.hid hl
  have HG := Lib.hid hG
  have HLM := Lib.hid hlm
  have HKB : Hid ((byR l kind tt G).kind = kind) := Lib.hid rfl
  clear hcc hc hkk hl hG hGt hnz hlm hGd hGtd hfit h0
  rw [HT.out]
  go_enter Try.func22, Try.ntmps22
  go_wp2_with fail
  have k0 : Keep NoS w ((w.alloc (.cells #[.slice oa of.length cap, .int .i64 kind, .int .i64 tt] 24)).alloc (.cells #[.slice none 0 0, .int .i64 0, .int .i64 0] 24)) := by (repeat' (first | (with_reducible assumption) | (with_reducible exact HK.out) | (with_reducible exact Keep.refl _ _) | (with_reducible refine Keep.alloc ?_ _) | (with_reducible refine Keep.setCell ?_ _ (fun h => absurd h (by omega))) | (with_reducible refine Keep.drewN ?_ _) | (with_reducible refine Keep.drew ?_)))
  have b0 : Blk ((w.alloc (.cells #[.slice oa of.length cap, .int .i64 kind, .int .i64 tt] 24)).alloc (.cells #[.slice none 0 0, .int .i64 0, .int .i64 0] 24)) w.heap.size #[.slice oa of.length cap, .int .i64 kind, .int .i64 tt] := by (repeat (first | (refine blk_at _ _ ?_; simp; done) | (refine Blk.old ?_ _)))
  have b1 : Blk ((w.alloc (.cells #[.slice oa of.length cap, .int .i64 kind, .int .i64 tt] 24)).alloc (.cells #[.slice none 0 0, .int .i64 0, .int .i64 0] 24)) (w.heap.size + 1) #[.slice none 0 0, .int .i64 0, .int .i64 0] := by (repeat (first | (refine blk_at _ _ ?_; simp; done) | (refine Blk.old ?_ _)))
  refine (bare_any _ _ of (HI.out.keep k0) HCP.out (by omega)).mono ?_
  rintro e w0 ⟨⟨v1, rfl, hi1, hc1⟩, rfl⟩
  rw [HL.out] at hi1
  have K0 := Lib.hid k0
  have B0 := Lib.hid b0
  have B1 := Lib.hid b1
  have HI1 := Lib.hid hi1
  obtain ⟨oc, cc, rfl, hm1⟩ := hi1.len
  generalize (w.alloc (.cells #[.slice oa of.length cap, .int .i64 kind, .int .i64 tt] 24)).alloc (.cells #[.slice none 0 0, .int .i64 0, .int .i64 0] 24) = w0 at *
  obtain ⟨p0, p1, p2, q0, q1, q2, l0⟩ := b0.three
  have e0 : ((l.length : Int) == 0) = false := by rw [beq_eq_false_iff_ne]; omega
  have ml0 : ¬ l.length = 0 := by omega
  have hwl : w.heap.size + 1 < w0.heap.size := b1.lt
  have HHI : Hid (∀ x ∈ l ++ [tt], I64 x) := Lib.hid (by
    intro x hx
    rcases List.mem_append.1 hx with h | h
    · have := HLM.out x h; unfold I64; omega
    · obtain rfl : x = tt := by simpa using h
      unfold I64; omega)
  have HHJ : Hid (∀ x ∈ l ++ [tt], -9000000 ≤ x ∧ x ≤ 9000000) := Lib.hid (by
    intro x hx
    rcases List.mem_append.1 hx with h | h
    · have := HLM.out x h; omega
    · obtain rfl : x = tt := by simpa using h
      omega)
  clear k0 b0 b1 hi1 hc1
  go_wp2
  refine wp_region_tree (fun w' => Keep NoS w0 w') (.two [0, 2, 3] 1 (.one [] 4 (.one [] 5 (.fin [6]))) 4 (.one [] 1 (.one [] 5 (.fin [6])))) (by kernel_rfl) (by kernel_rfl) (by (repeat' (first | (with_reducible assumption) | (with_reducible exact HK.out) | (with_reducible exact Keep.refl _ _) | (with_reducible refine Keep.alloc ?_ _) | (with_reducible refine Keep.setCell ?_ _ (fun h => absurd h (by omega))) | (with_reducible refine Keep.drewN ?_ _) | (with_reducible refine Keep.drew ?_)))) ?_
  intro X W hne hF hcl
  have HCL := Lib.hid hcl
  have hx0 := fun x => ((hF x).cell l0).trans p2
  clear hF hcl
  simp only [wpPlanT, pickOps, List.getElem?_toArray, List.getElem?_cons_zero, List.getElem?_cons_succ, clsOf, Bool.false_eq_true, if_false]
  (repeat (quiet_step (fail))); refine wpQuiet_nil ?_
  refine ⟨?_, ?_⟩
  refine wpOp_at (by simp only [List.getElem?_toArray, List.getElem?_cons_zero, List.getElem?_cons_succ]; rfl) (by rfl) (fun K hK => ?_)
  obtain ⟨v1, w1, hr1, ho1, hg1⟩ := app_ints (w := w0.drew) (base := w0.heap.size) (OwnI.nil _ _) (HI1.out.keep (Keep.refl _ _).drew) (by simp; omega) (Nat.le_refl _)
  have K1 : Hid (Keep NoS w0 w1) := Lib.hid ((Keep.refl NoS w0).drew.grown hg1 fun k hk => by cases hk)
  have HO1 : Hid (OwnI w1 w0.heap.size v1 l) := Lib.hid ho1
  refine wp_app_run _ _ 22 _ _ rfl rfl rfl hr1 ?_
  refine hK _ _ ⟨HCL.out _ K1.out, ?_⟩
  clear hK K hr1 ho1 hg1
  simp only [Act.put, List.setIfInBounds_toArray, List.set_cons_zero, List.set_cons_succ]
  obtain ⟨o1, c1, rfl⟩ := HO1.out.len
  (repeat (quiet_step (fail))); refine wpQuiet_nil ?_
  refine wpOp_at (by simp only [List.getElem?_toArray, List.getElem?_cons_zero, List.getElem?_cons_succ]; rfl) (by rfl) (fun K hK => ?_)
  go_simp
  have k2 : Keep NoS w1 (w1.alloc (.cells #[.int .i64 tt] TI)) := (Keep.refl _ _).alloc _
  refine hK _ _ ⟨HCL.out _ (K1.out.both k2), ?_⟩
  have K2 := Lib.hid (K1.out.both k2)
  have HO2 := Lib.hid (HO1.out.keep k2)
  have HS2 := Lib.hid (one_int w1 tt (by unfold I64; omega))
  generalize hbb : w1.heap.size = b2 at HS2 ⊢
  generalize w1.alloc (.cells #[.int .i64 tt] TI) = w2 at *
  clear hK K hbb k2
  (repeat (quiet_step (fail))); refine wpQuiet_nil ?_
  refine wpOp_at (by simp only [List.getElem?_toArray, List.getElem?_cons_zero, List.getElem?_cons_succ]; rfl) (by rfl) (fun K hK => ?_)
  obtain ⟨v3, w3, hr3, ho3, hg3⟩ := app_ints HO2.out HS2.out (by simp; omega) K2.out.size
  have K3 := Lib.hid (K2.out.grown hg3 fun k hk => HO2.out.block k hk)
  have hi3 := ho3.ints HHI.out
  obtain ⟨L, hL⟩ : ∃ L, l ++ [tt] = L := ⟨_, rfl⟩
  have hll3 : L.length ≤ 13 := by rw [← hL]; simp; omega
  rw [hL] at hi3
  have HI3 := Lib.hid hi3
  have HLE := Lib.hid hL
  clear hi3 hL
  refine wp_app_run _ _ 22 _ _ rfl rfl rfl hr3 ?_
  refine hK _ _ ⟨HCL.out _ K3.out, ?_⟩
  clear hK K hr3 ho3 hg3 HO2 HS2 K2
  simp only [Act.put, List.setIfInBounds_toArray, List.set_cons_zero, List.set_cons_succ]
  obtain ⟨oa3, cap3, rfl, hm3⟩ := HI3.out.len
  (repeat (quiet_step (fail))); refine wpQuiet_nil ?_
  clear HO1 K1
  rotate_left
  refine wpOp_at (by simp only [List.getElem?_toArray, List.getElem?_cons_zero, List.getElem?_cons_succ]; rfl) (by rfl) (fun K hK => ?_)
  go_simp
  have k1 : Keep NoS w0 ((w0.alloc (.cells #[.int .i64 tt] TI)).drew) := by (repeat' (first | (with_reducible assumption) | (with_reducible exact HK.out) | (with_reducible exact Keep.refl _ _) | (with_reducible refine Keep.alloc ?_ _) | (with_reducible refine Keep.setCell ?_ _ (fun h => absurd h (by omega))) | (with_reducible refine Keep.drewN ?_ _) | (with_reducible refine Keep.drew ?_)))
  refine hK _ _ ⟨HCL.out _ k1, ?_⟩
  have K1 := Lib.hid k1
  have HS1 : Hid (IsInts (w0.alloc (.cells #[.int .i64 tt] TI)).drew (.slice (some ⟨w0.heap.size, 0, none⟩) 1 1) [tt]) := Lib.hid ((one_int w0 tt (by unfold I64; omega)).keep (Keep.refl _ _).drew)
  generalize hb2 : w0.heap.size = b2 at HS1 ⊢
  generalize (w0.alloc (.cells #[.int .i64 tt] TI)).drew = w1 at *
  clear hK K k1
  (repeat (quiet_step (fail))); refine wpQuiet_nil ?_
  refine wpOp_at (by simp only [List.getElem?_toArray, List.getElem?_cons_zero, List.getElem?_cons_succ]; rfl) (by rfl) (fun K hK => ?_)
  obtain ⟨v2, w2, hr2, ho2, hg2⟩ := app_ints (w := w1) (base := w1.heap.size) (OwnI.nil _ _) (HI1.out.keep K1.out) (by simp; omega) (Nat.le_refl _)
  have kg2 : Keep NoS w1 w2 := (Keep.refl NoS w1).grown hg2 fun k hk => by cases hk
  have K2 := Lib.hid (K1.out.both kg2)
  have HO2 : Hid (OwnI w2 w0.heap.size v2 l) := Lib.hid (World.ownsRow_mono ho2 K1.out.size)
  have HS2 := Lib.hid (HS1.out.keep kg2)
  refine wp_app_run _ _ 22 _ _ rfl rfl rfl hr2 ?_
  refine hK _ _ ⟨HCL.out _ K2.out, ?_⟩
  clear hK K hr2 ho2 hg2 kg2
  simp only [Act.put, List.setIfInBounds_toArray, List.set_cons_zero, List.set_cons_succ]
  obtain ⟨o1, c1, rfl⟩ := HO2.out.len
  (repeat (quiet_step (fail))); refine wpQuiet_nil ?_
  refine wpOp_at (by simp only [List.getElem?_toArray, List.getElem?_cons_zero, List.getElem?_cons_succ]; rfl) (by rfl) (fun K hK => ?_)
  obtain ⟨v3, w3, hr3, ho3, hg3⟩ := app_ints HO2.out HS2.out (by simp; omega) K2.out.size
  have K3 := Lib.hid (K2.out.grown hg3 fun k hk => HO2.out.block k hk)
  have hi3 := ho3.ints HHI.out
  obtain ⟨L, hL⟩ : ∃ L, l ++ [tt] = L := ⟨_, rfl⟩
  have hll3 : L.length ≤ 13 := by rw [← hL]; simp; omega
  rw [hL] at hi3
  have HI3 := Lib.hid hi3
  have HLE := Lib.hid hL
  clear hi3 hL
  refine wp_app_run _ _ 22 _ _ rfl rfl rfl hr3 ?_
  refine hK _ _ ⟨HCL.out _ K3.out, ?_⟩
  clear hK K hr3 ho3 hg3 HO2 HS2 K2
  simp only [Act.put, List.setIfInBounds_toArray, List.set_cons_zero, List.set_cons_succ]
  obtain ⟨oa3, cap3, rfl, hm3⟩ := HI3.out.len
  (repeat (quiet_step (fail))); refine wpQuiet_nil ?_
  clear HS1 K1 hb2
  all_goals
    refine NoPanic.normal ?_
    obtain ⟨p0, p1, p2, q0, q1, q2, l0⟩ := (B0.out.keep K3.out).three
    have HI13 := Lib.hid (HI1.out.keep K3.out)
    have B13 := Lib.hid (B1.out.keep K3.out)
    have hwl3 : w.heap.size + 1 < w3.heap.size := B13.out.lt
    have K03 := Lib.hid (K0.out.both K3.out)
    clear hx0 HCL p0 K3
    rw [HLE.out] at HG HHJ
    go_wp2
    refine wp_region_by (fun w' => Keep NoS w3 w') [8] [([0, 1, 2, 3, 4, 5], 6), ([], 7), ([], 8)] [] (by kernel_rfl) (by kernel_rfl) (by (repeat' (first | (with_reducible assumption) | (with_reducible exact HK.out) | (with_reducible exact Keep.refl _ _) | (with_reducible refine Keep.alloc ?_ _) | (with_reducible refine Keep.setCell ?_ _ (fun h => absurd h (by omega))) | (with_reducible refine Keep.drewN ?_ _) | (with_reducible refine Keep.drew ?_)))) ?_
    intro X W hne hF hcl
    have HCL := Lib.hid hcl
    have hx1 := fun x => ((hF x).cell l0).trans p1
    have hx2 := fun x => ((hF x).cell l0).trans p2
    clear hF hcl
    simp only [wpPlan, pickOps, List.getElem?_toArray, List.getElem?_cons_zero, List.getElem?_cons_succ, clsOf, Bool.false_eq_true, if_false]
    (repeat (quiet_step (fail))); refine wpQuiet_nil ?_
    refine wpOp_at (by simp only [List.getElem?_toArray, List.getElem?_cons_zero, List.getElem?_cons_succ]; rfl) (by rfl) (fun K hK => ?_)
    go_simp
    refine (common_any _ _ L (HI3.out.keep (by (repeat' (first | (with_reducible assumption) | (with_reducible exact HK.out) | (with_reducible exact Keep.refl _ _) | (with_reducible refine Keep.alloc ?_ _) | (with_reducible refine Keep.setCell ?_ _ (fun h => absurd h (by omega))) | (with_reducible refine Keep.drewN ?_ _) | (with_reducible refine Keep.drew ?_))))) (by omega) HHJ.out).mono ?_
    rintro e w4 ⟨rfl, hk4⟩
    have k4 : Keep NoS w3 w4 := Keep.trans (by (repeat' (first | (with_reducible assumption) | (with_reducible exact HK.out) | (with_reducible exact Keep.refl _ _) | (with_reducible refine Keep.alloc ?_ _) | (with_reducible refine Keep.setCell ?_ _ (fun h => absurd h (by omega))) | (with_reducible refine Keep.drewN ?_ _) | (with_reducible refine Keep.drew ?_)))) hk4 fun _ _ _ h => h
    rw [HG.out]
    refine hK _ _ ⟨fun _ => HCL.out _ k4, ?_⟩
    clear hK K hk4
    (repeat (quiet_step (fail))); refine wpQuiet_nil ?_
    refine wpOp_at (by simp only [List.getElem?_toArray, List.getElem?_cons_zero, List.getElem?_cons_succ]; rfl) (by rfl) (fun K hK => ?_)
    go_simp
    refine (rowBy_any _ _ l kind tt G (HI13.out.keep k4) (by omega) HLM.out ⟨by omega, by omega⟩ hG0 hG9).mono ?_
    rintro e w5 ⟨sv, rfl, ho5, hn5, hk5⟩
    have hi5 := ho5.ints hn5
    have hc5 := ho5.cap
    have HN5 := Lib.hid hn5
    clear hn5
    obtain ⟨os, cs, hsv, hms⟩ := hi5.len
    subst hsv
    obtain ⟨Z, hZ⟩ : ∃ Z, (byR l kind tt G).to = Z := ⟨_, rfl⟩
    rw [hZ]
    obtain ⟨n5, hn5⟩ : ∃ n, (byR l kind tt G).of.length = n := ⟨_, rfl⟩
    rw [hn5] at hi5 hc5 ho5 ⊢
    have HZN := Lib.hid (And.intro hZ hn5)
    clear hZ hn5
    have k5 := k4.both hk5
    refine hK _ _ ⟨fun _ => HCL.out _ k5, ?_⟩
    have HO5 := Lib.hid ho5
    have hw4 : w.heap.size + 1 < w4.heap.size := Nat.lt_of_lt_of_le hwl3 k4.size
    have HC5 := Lib.hid hc5
    have B15 := Lib.hid (B13.out.keep k5)
    have K5 := Lib.hid (K03.out.both k5)
    clear hK K hk5 k4 k5 hi5 ho5 hc5 hx1 hx2
    obtain ⟨r0, r1, r2, s0, s1, s2, l1⟩ := B15.out.three
    (repeat (quiet_step (fail))); refine wpQuiet_nil ?_
    refine wpOp_at (by simp only [List.getElem?_toArray, List.getElem?_cons_zero, List.getElem?_cons_succ]; rfl) (by rfl) (fun K hK => ?_)
    go_simp
    refine hK _ _ ⟨fun h => (by simp at h), ?_⟩
    clear hK K
    (repeat (quiet_step (fail))); refine wpQuiet_nil ?_
    refine NoPanic.normal ?_
    go_wp2
    refine bodyPost_ret (by simp [results, Try.results22, go_sem, r0, r1, r2, l1]; rfl) rfl ?_
    rw [← HZN.out.1]
    have hne : (Value.slice os n5 cs).ownBlock ≠ some (w.heap.size + 1) := fun hb => by have := HO5.out.block _ hb; omega
    refine ⟨_, rfl, OwnI.ints (base := w4.heap.size) ?_ HN5.out, HC5.out, ?_⟩
    · repeat' (first | (with_reducible exact HO5.out) | refine World.ownsRow_other ?_ hne | exact HO5.out)
    repeat' (first | (with_reducible exact K5.out) | with_reducible refine keep_at ?_ _ (by omega) | with_reducible refine Keep.drew ?_)
end Go.Proofs.Ytihcbmkjfacooaa

namespace Go.Proofs.Ytihcbmkjfacooaa
open Go.ChangeShapes Go.WideShapes Go.RowKit
set_option linter.unusedVariables false
set_option linter.unusedSimpArgs false

/-- A new block that holds two integers. -/
theorem two_int (w : World) (x y : Int) (hx : I64 x) (hy : I64 y) : IsInts (w.alloc (.cells #[.int .i64 x, .int .i64 y] TI)) (.slice (some ⟨w.heap.size, 0, none⟩) 2 2) [x, y] := by
  refine ⟨_, 2, rfl, by simp [maxLen], by simp [hx, hy], fun _ => ⟨w.heap.size, 0, rfl, by simp, fun i z hi => ?_⟩⟩
  rcases i with _ | _ | i
  · simp at hi; subst hi; simp
  · simp at hi; subst hi; simp
  · simp at hi

theorem gcd_ne {G : Nat} {t : Int} (hG : 0 < G) : Nat.gcd G t.natAbs ≠ G ↔ t.tmod (G : Int) ≠ 0 := by
  refine not_congr ?_
  constructor
  · intro h
    have hd : G ∣ t.natAbs := by rw [← h]; exact Nat.gcd_dvd_right _ _
    exact Int.tmod_eq_zero_of_dvd (Int.ofNat_dvd_left.2 hd)
  · intro h
    have hd : G ∣ t.natAbs := Int.ofNat_dvd_left.1 (Int.dvd_of_tmod_eq_zero h)
    exact Nat.gcd_eq_left hd

theorem byG_to (l : List Int) (k t : Int) (g : Nat) : (byG l k t g).to = t ∨ k = 3 ∧ (byG l k t g).to = -t := by
  unfold byG turnTo
  by_cases h : turnQ k (l.map fun x => x.tdiv g)
  · right; simp only [if_pos h]; exact ⟨h.1, trivial⟩
  · left; simp only [if_neg h]

theorem wholeP_eq {l : List Int} {K T : Int} {G : Nat} (hG : 0 < G) (hd : ∀ x ∈ l, G ∣ x.natAbs) (h1 : -1000001 ≤ T) (h2 : T ≤ 1000000) (h3 : K = 3 → -1000000 ≤ T) :
    (if K = 3 ∧ T.tmod G ≠ 0 then ((⟨[], 3, 1⟩, (0, 0)) : Rw × (Int × Int)) else if T / (G : Int) < -1000000 then (nilRw, (10, 0)) else (byG l K (T / (G : Int)) G, (0, 0))) =
    (if K = 3 ∧ Nat.gcd G T.natAbs ≠ G then (⟨[], K, 1⟩, (0, 0)) else if fitI (byR l K T G).to then (byR l K T G, (0, 0)) else (nilRw, (10, 0))) := by
  by_cases hc : K = 3 ∧ T.tmod G ≠ 0
  · rw [if_pos hc, if_pos ⟨hc.1, (gcd_ne hG).2 hc.2⟩, hc.1]
  · rw [if_neg hc, if_neg (show ¬ (K = 3 ∧ Nat.gcd G T.natAbs ≠ G) from fun h => hc ⟨h.1, (gcd_ne hG).1 h.2⟩)]
    have ht : K = 3 → G ∣ T.natAbs := fun h => Int.ofNat_dvd_left.1 (Int.dvd_of_tmod_eq_zero (Classical.byContradiction fun h' => hc ⟨h, h'⟩))
    rw [byR_eq hG hd ht]
    have hb := ediv_bound T G hG 1000001 (by omega) h1 (by omega)
    have hu : T / (G : Int) ≤ 1000000 := Int.ediv_le_of_le_mul (by omega) (by have : (1000000 : Int) * 1 ≤ 1000000 * (G : Int) := Int.mul_le_mul_of_nonneg_left (by omega) (by omega); omega)
    by_cases hlo : T / (G : Int) < -1000000
    · rw [if_pos hlo, if_neg]
      intro hf
      rcases byG_to l K (T / (G : Int)) G with h | ⟨hk, _⟩
      · rw [h] at hf; exact absurd hf.1 (by omega)
      · have := (ediv_bound T G hG 1000000 (by omega) (h3 hk) (by omega)).1
        omega
    · rw [if_neg hlo, if_pos]
      rcases byG_to l K (T / (G : Int)) G with h | ⟨_, h⟩ <;> rw [h] <;> exact ⟨by omega, by omega⟩

set_option maxRecDepth 100000 in
set_option maxHeartbeats 16000000 in
theorem refWhole_none (w : World) (v : Value) (r : Rw) (h : IsRow w v r) (hc : (chkRow r 12).1 = 0) (h0 : bareL r.of = []) : Calls Try.prog 21 #[v] w (RetRow ⟨[], wholeK r, emptyTo (wholeK r) (wholeT r)⟩ (0, 0) w) := by
  obtain ⟨hcc, hkk, hlen, _, hft⟩ := chk_ok hc
  obtain ⟨sv, rfl, hi, _, _, hcp⟩ := h
  obtain ⟨oa, cap, rfl, hm⟩ := hi.len
  have HI := Lib.hid hi
  have HCP := Lib.hid hcp
  clear hi hcp
  obtain ⟨of, kind, tt⟩ := r
  simp only at *
  obtain ⟨ht1, ht2⟩ := hft
  obtain ⟨K', hK'⟩ : ∃ k, wholeK ⟨of, kind, tt⟩ = k := ⟨_, rfl⟩
  obtain ⟨T', hT'⟩ : ∃ k, wholeT ⟨of, kind, tt⟩ = k := ⟨_, rfl⟩
  rw [hK', hT']
  have HKT : Hid ((kind = 2 → K' = 1 ∧ T' = tt - 1) ∧ (kind ≠ 2 → K' = kind ∧ T' = tt)) := Lib.hid (by
    unfold wholeK at hK'
    unfold wholeT at hT'
    simp only at hK' hT'
    constructor
    · intro h; rw [if_pos h] at hK' hT'; exact ⟨hK'.symm, hT'.symm⟩
    · intro h; rw [if_neg h] at hK' hT'; exact ⟨hK'.symm, hT'.symm⟩)
  have HKK : Hid (K' = 1 ∨ K' = 2 ∨ K' = 3) := Lib.hid (by
    by_cases h : kind = 2
    · exact .inl (HKT.out.1 h).1
    · rw [(HKT.out.2 h).1]; exact hkk)
  have H0 := Lib.hid h0
  clear hcc hc h0 hK' hT' hkk
  go_enter Try.func21, Try.ntmps21
  go_wp2_with fail
  obtain ⟨B0, B1, B2, hk⟩ := head4 (w := w) (sv := .slice oa of.length cap) (k := kind) (t := tt) (Keep.refl NoS _)
  have HK1 := Lib.hid hk
  have HB0 := Lib.hid B0
  have HB1 := Lib.hid B1
  have HB2 := Lib.hid B2
  obtain ⟨t0, t1, t2, f0, f1, f2, l0⟩ := B0.three
  generalize ((w.alloc (.cells #[.slice oa of.length cap, .int .i64 kind, .int .i64 tt] 24)).alloc (.cells #[.slice none 0 0, .int .i64 0, .int .i64 0] 24)).alloc (.cells #[.int .i64 0, .int .i64 0] 26) = w1 at *
  clear hk B0 B1 B2
  refine wp_region_by (fun w' => Keep NoS w1 w') [] [] [0, 1, 2, 3, 4, 5] (by kernel_rfl) (by kernel_rfl) (by (repeat' (first | (with_reducible assumption) | (with_reducible exact HK.out) | (with_reducible exact Keep.refl _ _) | (with_reducible refine Keep.alloc ?_ _) | (with_reducible refine Keep.setCell ?_ _ (fun h => absurd h (by omega))) | (with_reducible refine Keep.drewN ?_ _) | (with_reducible refine Keep.drew ?_)))) ?_
  intro X W hne hF hcl
  have hx1 := fun x => ((hF x).cell l0).trans t1
  have hx2 := fun x => ((hF x).cell l0).trans t2
  clear hF hcl
  simp only [wpPlan, pickOps, List.getElem?_toArray, List.getElem?_cons_zero, List.getElem?_cons_succ, clsOf, Bool.false_eq_true, if_false]
  (repeat (quiet_step (fail))); refine wpQuiet_nil ?_
  refine NoPanic.normal ?_
  clear hx1 hx2
  have kd : Keep NoS w1 w1.drew := (Keep.refl _ _).drew
  have HK1 := Lib.hid (HK1.out.both kd)
  have HB0 := Lib.hid (HB0.out.keep kd)
  have HB1 := Lib.hid (HB1.out.keep kd)
  have HB2 := Lib.hid (HB2.out.keep kd)
  generalize w1.drew = w2 at *
  clear kd t0 t1 t2 f0 f1 f2 l0
  go_upto_if 14 with fail
  go_cut [4, 5] (fun s t wx => s = .int .i64 K' ∧ t = .int .i64 T' ∧ w2 = wx)
  case first =>
    by_cases h2 : kind = 2
    · obtain ⟨rfl, rfl⟩ := HKT.out.1 h2
      subst h2
      go_wp2_with fail
      go_meet
      exact ⟨rfl, rfl, rfl⟩
    · obtain ⟨rfl, rfl⟩ := HKT.out.2 h2
      have e2 : (K' == 2) = false := by rw [beq_eq_false_iff_ne]; exact h2
      go_wp2_with fail
      go_meet
      exact ⟨rfl, rfl, rfl⟩
  case rest =>
    obtain ⟨rfl, rfl, rfl⟩ := hcut
    obtain ⟨t0, t1, t2, _, _, _, l0⟩ := HB0.out.three
    go_wp2_with fail
    refine (bare_any _ _ of (HI.out.keep HK1.out) HCP.out (by omega)).mono ?_
    rintro e w3 ⟨⟨v3, rfl, hi3, hc3⟩, rfl⟩
    rw [H0.out] at hi3
    obtain ⟨oc, cc, rfl, _⟩ := hi3.len
    simp only [List.length_nil]
    clear t0 t1 t2 l0 hi3 hc3
    go_wp2_with fail
    refine (rowNone_any K' T' _ HKK.out).mono ?_
    rintro e w4 ⟨rfl, hk4⟩
    have HK := Lib.hid (HK1.out.both hk4)
    obtain ⟨r0, r1, r2, s0, s1, s2, l1⟩ := (HB1.out.keep hk4).three
    obtain ⟨p0, p1, p2, p3, l2⟩ := (HB2.out.keep hk4).two
    unfold emptyV
    clear hk4
    go_wp2
    refine bodyPost_ret (by simp [results, Try.results21, go_sem, r0, r1, r2, l1, l2, p0, p1]; rfl) rfl ?_
    exact ⟨_, rfl, ints_nil _, cap_nil, by (repeat' (first | (with_reducible assumption) | (with_reducible exact HK.out) | (with_reducible exact Keep.refl _ _) | (with_reducible refine Keep.alloc ?_ _) | (with_reducible refine Keep.setCell ?_ _ (fun h => absurd h (by omega))) | (with_reducible refine Keep.drewN ?_ _) | (with_reducible refine Keep.drew ?_)))⟩

set_option maxRecDepth 100000 in
set_option maxHeartbeats 16000000 in
theorem refWhole_some (w : World) (v : Value) (r : Rw) (h : IsRow w v r) (hc : (chkRow r 12).1 = 0) (h0 : bareL r.of ≠ []) : Calls Try.prog 21 #[v] w (RetRow (wholeP r).1 (wholeP r).2 w) := by
  obtain ⟨hcc, hkk, hlen, hfit, hft⟩ := chk_ok hc
  obtain ⟨sv, rfl, hi, _, _, hcp⟩ := h
  obtain ⟨oa, cap, rfl, hm⟩ := hi.len
  have HI := Lib.hid hi
  have HCP := Lib.hid hcp
  clear hi hcp
  obtain ⟨of, kind, tt⟩ := r
  simp only at *
  obtain ⟨ht1, ht2⟩ := hft
  obtain ⟨l, hl⟩ : ∃ l, bareL of = l := ⟨_, rfl⟩
  obtain ⟨G, hG⟩ : ∃ G, wholeG ⟨of, kind, tt⟩ = G := ⟨_, rfl⟩
  obtain ⟨K', hK'⟩ : ∃ k, wholeK ⟨of, kind, tt⟩ = k := ⟨_, rfl⟩
  obtain ⟨T', hT'⟩ : ∃ k, wholeT ⟨of, kind, tt⟩ = k := ⟨_, rfl⟩
  obtain ⟨P, hP⟩ : ∃ P, wholeP ⟨of, kind, tt⟩ = P := ⟨_, rfl⟩
  have hGe : gcdL l = G := by
    rw [← hG, ← hl]
    rfl
  have HKT : Hid ((kind = 2 → K' = 1 ∧ T' = tt - 1) ∧ (kind ≠ 2 → K' = kind ∧ T' = tt)) := Lib.hid (by
    unfold wholeK at hK'
    unfold wholeT at hT'
    simp only at hK' hT'
    constructor
    · intro h; rw [if_pos h] at hK' hT'; exact ⟨hK'.symm, hT'.symm⟩
    · intro h; rw [if_neg h] at hK' hT'; exact ⟨hK'.symm, hT'.symm⟩)
  have hT9 : -1000001 ≤ T' ∧ T' ≤ 1000000 := by
    by_cases h : kind = 2
    · have := (HKT.out.1 h).2; omega
    · have := (HKT.out.2 h).2; omega
  have hT3 : K' = 3 → -1000000 ≤ T' := by
    intro h3
    by_cases h : kind = 2
    · have := (HKT.out.1 h).1; omega
    · have := (HKT.out.2 h).2; omega
  have hnz := bareL_end of h0
  have hlm : ∀ x ∈ l, -1000000 ≤ x ∧ x ≤ 1000000 := fun x hx => hfit x (bareL_mem (by rw [hl]; exact hx))
  have hll : l.length ≤ 12 := by rw [← hl, bareL_len]; exact Nat.le_trans (bareN_le _ _) hlen
  rw [hl] at hnz h0
  have hl0 : 0 < l.length := List.length_pos_iff.2 h0
  have hGd : ∀ x ∈ l, G ∣ x.natAbs := fun x hx => by rw [← hGe]; exact gcdL_dvd l x hx
  have hG0 : 0 < G := by rw [← hGe]; exact gcdL_pos_of hnz
  have hG9 : G ≤ 9000000 := by
    rw [← hGe]; exact gcdL_le fun x hx => by have := hlm x hx; omega
  have HP : Hid (P = if K' = 3 ∧ Nat.gcd G T'.natAbs ≠ G then (⟨[], K', 1⟩, (0, 0)) else if fitI (byR l K' T' G).to then (byR l K' T' G, (0, 0)) else (nilRw, (10, 0))) := Lib.hid (by
    rw [← hP, ← wholeP_eq hG0 hGd hT9.1 hT9.2 hT3]; unfold wholeP; rw [hK', hT', hG, hl])
  rw [hP]
  have HL := Lib.hid hl
  have HGE := Lib.hid hGe
  have HLM := Lib.hid hlm
  obtain ⟨ht91, ht92⟩ := hT9
  clear hcc hc hkk hl hG hGe hnz hlm hGd hfit h0 hK' hT' hP hT3
  go_enter Try.func21, Try.ntmps21
  go_wp2_with fail
  obtain ⟨B0, B1, B2, hk⟩ := head4 (w := w) (sv := .slice oa of.length cap) (k := kind) (t := tt) (Keep.refl NoS _)
  have HK1 := Lib.hid hk
  have HB0 := Lib.hid B0
  have HB1 := Lib.hid B1
  have HB2 := Lib.hid B2
  obtain ⟨t0, t1, t2, f0, f1, f2, l0⟩ := B0.three
  generalize ((w.alloc (.cells #[.slice oa of.length cap, .int .i64 kind, .int .i64 tt] 24)).alloc (.cells #[.slice none 0 0, .int .i64 0, .int .i64 0] 24)).alloc (.cells #[.int .i64 0, .int .i64 0] 26) = w1 at *
  clear hk B0 B1 B2
  refine wp_region_by (fun w' => Keep NoS w1 w') [] [] [0, 1, 2, 3, 4, 5] (by kernel_rfl) (by kernel_rfl) (by (repeat' (first | (with_reducible assumption) | (with_reducible exact HK.out) | (with_reducible exact Keep.refl _ _) | (with_reducible refine Keep.alloc ?_ _) | (with_reducible refine Keep.setCell ?_ _ (fun h => absurd h (by omega))) | (with_reducible refine Keep.drewN ?_ _) | (with_reducible refine Keep.drew ?_)))) ?_
  intro X W hne hF hcl
  have hx1 := fun x => ((hF x).cell l0).trans t1
  have hx2 := fun x => ((hF x).cell l0).trans t2
  clear hF hcl
  simp only [wpPlan, pickOps, List.getElem?_toArray, List.getElem?_cons_zero, List.getElem?_cons_succ, clsOf, Bool.false_eq_true, if_false]
  (repeat (quiet_step (fail))); refine wpQuiet_nil ?_
  refine NoPanic.normal ?_
  clear hx1 hx2
  have kd : Keep NoS w1 w1.drew := (Keep.refl _ _).drew
  have HK1 := Lib.hid (HK1.out.both kd)
  have HB0 := Lib.hid (HB0.out.keep kd)
  have HB1 := Lib.hid (HB1.out.keep kd)
  have HB2 := Lib.hid (HB2.out.keep kd)
  generalize w1.drew = w2 at *
  clear kd t0 t1 t2 f0 f1 f2 l0
  go_upto_if 14 with fail
  go_cut [4, 5] (fun s t wx => s = .int .i64 K' ∧ t = .int .i64 T' ∧ w2 = wx)
  case first =>
    by_cases h2 : kind = 2
    · obtain ⟨rfl, rfl⟩ := HKT.out.1 h2
      subst h2
      go_wp2_with fail
      go_meet
      exact ⟨rfl, rfl, rfl⟩
    · obtain ⟨rfl, rfl⟩ := HKT.out.2 h2
      have e2 : (K' == 2) = false := by rw [beq_eq_false_iff_ne]; exact h2
      go_wp2_with fail
      go_meet
      exact ⟨rfl, rfl, rfl⟩
  case rest =>
    obtain ⟨rfl, rfl, rfl⟩ := hcut
    obtain ⟨t0, t1, t2, _, _, _, l0⟩ := HB0.out.three
    go_wp2_with fail
    refine (bare_any _ _ of (HI.out.keep HK1.out) HCP.out (by omega)).mono ?_
    rintro e w3 ⟨⟨v3, rfl, hi3, hc3⟩, rfl⟩
    rw [HL.out] at hi3
    obtain ⟨oc, cc, rfl, _⟩ := hi3.len
    have HI3 := Lib.hid hi3
    have ml0 : ¬ l.length = 0 := by omega
    have e0 : ((l.length : Int) == 0) = false := by rw [beq_eq_false_iff_ne]; omega
    clear t0 t1 t2 l0 hi3 hc3
    go_wp2_with fail
    refine (common_any _ _ l HI3.out (by omega) (fun x hx => by have := HLM.out x hx; omega)).mono ?_
    rintro e w4 ⟨rfl, hk4⟩
    rw [HGE.out]
    have HI4 := Lib.hid (HI3.out.keep hk4)
    have HK4 := Lib.hid (HK1.out.both hk4)
    have HB14 := Lib.hid (HB1.out.keep hk4)
    have HB24 := Lib.hid (HB2.out.keep hk4)
    clear hk4
    by_cases h3 : K' = 3
    · subst h3
      have k4 : Keep NoS w4 (w4.alloc (.cells #[.int .i64 G, .int .i64 T'] TI)) := (Keep.refl _ _).alloc _
      have HT2 := Lib.hid (two_int w4 G T' (by unfold I64; omega) (by unfold I64; omega))
      have HGT : Hid (gcdL [(G : Int), T'] = Nat.gcd G T'.natAbs) := Lib.hid (by unfold gcdL; simp)
      go_wp2_with fail
      refine (common_any _ _ [(G : Int), T'] HT2.out (by simp) (fun x hx => by
        rcases List.mem_cons.1 hx with rfl | hx
        · omega
        · obtain rfl : x = T' := by simpa using hx
          omega)).mono ?_
      rintro e w5 ⟨rfl, hk5⟩
      rw [HGT.out]
      have HI5 := Lib.hid (HI4.out.keep (k4.both hk5))
      have HK5 := Lib.hid (HK4.out.both (k4.both hk5))
      have HB15 := Lib.hid (HB14.out.keep (k4.both hk5))
      have HB25 := Lib.hid (HB24.out.keep (k4.both hk5))
      clear k4 hk5 HT2 HGT
      by_cases h4 : Nat.gcd G T'.natAbs = G
      · have e4 : (((Nat.gcd G T'.natAbs : Nat) : Int) != (G : Int)) = false := by rw [bne_eq_false_iff_eq]; omega
        have HPV : Hid (P = if fitI (byR l 3 T' G).to then (byR l 3 T' G, (0, 0)) else (nilRw, (10, 0))) := Lib.hid (by rw [HP.out, if_neg (fun h => h.2 h4)])
        clear h4
        go_wp2_with fail
        clear HI4 HK4 HB14 HB24 HI3 HK1 HB0 HB1 HB2
        have hl2 : w.heap.size + 2 < w5.heap.size := HB25.out.lt
        refine (rowBy_any _ _ l 3 T' G HI5.out (by omega) HLM.out ⟨by omega, by omega⟩ hG0 hG9).mono ?_
        rintro e w6 ⟨sv, rfl, ho6, hn6, hk6⟩
        obtain ⟨os, cs, hsv, hms⟩ := (ho6.ints hn6).len
        subst hsv
        have HN6 := Lib.hid hn6
        have HC6 := Lib.hid ho6.cap
        have HK6 := Lib.hid (HK5.out.both hk6)
        have HB16 := Lib.hid (HB15.out.keep hk6)
        have HB26 := Lib.hid (HB25.out.keep hk6)
        obtain ⟨R, hR⟩ : ∃ R, byR l 3 T' G = R := ⟨_, rfl⟩
        have HRK : Hid (R.kind = 3) := Lib.hid (by rw [← hR]; rfl)
        rw [hR] at HPV HN6 HC6 ho6 ⊢
        have HO6 := Lib.hid ho6
        obtain ⟨Rof, Rk, Rto⟩ := R
        simp only at *
        clear hk6 hn6 ho6 HI5 HK5 HB15 HB25 hR hms
        go_wp2_with fail
        have k7 : Keep NoS w6 (w6.alloc (.cells #[.slice os Rof.length cs, .int .i64 3, .int .i64 Rto] 24)) := by (repeat' (first | (with_reducible assumption) | (with_reducible exact HK.out) | (with_reducible exact Keep.refl _ _) | (with_reducible refine Keep.alloc ?_ _) | (with_reducible refine Keep.setCell ?_ _ (fun h => absurd h (by omega))) | (with_reducible refine Keep.drewN ?_ _) | (with_reducible refine Keep.drew ?_)))
        refine (fits_any Rto _).mono ?_
        rintro e w7 ⟨rfl, rfl⟩
        have HK7 := Lib.hid (HK6.out.both k7)
        have HO7 := Lib.hid (HO6.out.keep k7)
        have HB17 := Lib.hid (HB16.out.keep k7)
        have HB27 := Lib.hid (HB26.out.keep k7)
        obtain ⟨r0, r1, r2, s0, s1, s2, l1⟩ := (HB16.out.keep k7).three
        obtain ⟨p0, p1, p2, p3, l2⟩ := (HB26.out.keep k7).two
        have B7 : Blk (w6.alloc (.cells #[.slice os Rof.length cs, .int .i64 3, .int .i64 Rto] 24)) w6.heap.size #[.slice os Rof.length cs, .int .i64 3, .int .i64 Rto] := by (repeat (first | (refine blk_at _ _ ?_; simp; done) | (refine Blk.old ?_ _)))
        obtain ⟨t0, t1, t2, _, _, _, l0⟩ := B7.three
        have hl7 : w.heap.size + 2 < w6.heap.size := HB26.out.lt
        generalize w6.alloc (.cells #[.slice os Rof.length cs, .int .i64 3, .int .i64 Rto] 24) = w7 at *
        generalize w6.heap.size = b6 at *
        clear B7 k7 HK6 HO6 HB16 HB26
        by_cases hf : fitI Rto
        · have ef : decide (fitI Rto) = true := decide_eq_true hf
          rw [if_pos hf] at HPV
          clear hf
          go_wp2
          refine bodyPost_ret (by simp [results, Try.results21, go_sem, r0, r1, r2, l1, l2, p0, p1]; rfl) rfl ?_
          rw [HPV.out, ← HRK.out]
          have HK := Lib.hid HK7.out
          have hne : ∀ c, c < w.heap.size + 3 → (Value.slice os Rof.length cs).ownBlock ≠ some c := fun c hc hb => by have := HO7.out.block _ hb; omega
          refine ⟨_, rfl, OwnI.ints (base := w5.heap.size) ?_ HN6.out, HC6.out, by (repeat' (first | (with_reducible assumption) | (with_reducible exact HK.out) | (with_reducible exact Keep.refl _ _) | (with_reducible refine Keep.alloc ?_ _) | (with_reducible refine Keep.setCell ?_ _ (fun h => absurd h (by omega))) | (with_reducible refine Keep.drewN ?_ _) | (with_reducible refine Keep.drew ?_)))⟩
          repeat' (first | (with_reducible exact HO7.out) | refine World.ownsRow_other ?_ (hne _ (by omega)) | exact HO7.out)
        · have ef : decide (fitI Rto) = false := decide_eq_false hf
          rw [if_neg hf] at HPV
          clear hf
          go_wp2_with fail
          refine (fault_any 10 0 _).mono ?_
          rintro e w8 ⟨rfl, hk8⟩
          have HK := Lib.hid (HK7.out.both hk8)
          obtain ⟨r0', r1', r2', s0', s1', s2', l1'⟩ := (HB17.out.keep hk8).three
          obtain ⟨p0', p1', p2', p3', l2'⟩ := (HB27.out.keep hk8).two
          clear r0 r1 r2 s0 s1 s2 l1 p0 p1 p2 p3 l2 hk8
          unfold fV
          go_wp2
          refine bodyPost_ret (by simp [results, Try.results21, go_sem, r0', r1', r2', l1', l2', p0', p1']; rfl) rfl ?_
          rw [HPV.out]
          exact ⟨_, rfl, ints_nil _, cap_nil, by (repeat' (first | (with_reducible assumption) | (with_reducible exact HK.out) | (with_reducible exact Keep.refl _ _) | (with_reducible refine Keep.alloc ?_ _) | (with_reducible refine Keep.setCell ?_ _ (fun h => absurd h (by omega))) | (with_reducible refine Keep.drewN ?_ _) | (with_reducible refine Keep.drew ?_)))⟩
      · have e4 : (((Nat.gcd G T'.natAbs : Nat) : Int) != (G : Int)) = true := by rw [bne_iff_ne]; omega
        have HPV : Hid (P = (⟨[], 3, 1⟩, (0, 0))) := Lib.hid (by rw [HP.out, if_pos ⟨by trivial, h4⟩])
        clear h4
        obtain ⟨r0, r1, r2, s0, s1, s2, l1⟩ := HB15.out.three
        obtain ⟨p0, p1, p2, p3, l2⟩ := HB25.out.two
        go_wp2
        refine bodyPost_ret (by simp [results, Try.results21, go_sem, r0, r1, r2, l1, l2, p0, p1]; rfl) rfl ?_
        rw [HPV.out]
        have HK := Lib.hid HK5.out
        exact ⟨_, rfl, ints_nil _, cap_nil, by (repeat' (first | (with_reducible assumption) | (with_reducible exact HK.out) | (with_reducible exact Keep.refl _ _) | (with_reducible refine Keep.alloc ?_ _) | (with_reducible refine Keep.setCell ?_ _ (fun h => absurd h (by omega))) | (with_reducible refine Keep.drewN ?_ _) | (with_reducible refine Keep.drew ?_)))⟩
    · have e31 : (K' == 3) = false := by rw [beq_eq_false_iff_ne]; exact h3
      have HPV : Hid (P = if fitI (byR l K' T' G).to then (byR l K' T' G, (0, 0)) else (nilRw, (10, 0))) := Lib.hid (by rw [HP.out, if_neg (fun h => h3 h.1)])
      clear h3
      generalize hw5 : w4 = w5 at *
      clear hw5
      have HI5 := Lib.hid HI4.out
      have HK5 := Lib.hid HK4.out
      have HB15 := Lib.hid HB14.out
      have HB25 := Lib.hid HB24.out
      go_wp2_with fail
      clear HI4 HK4 HB14 HB24 HI3 HK1 HB0 HB1 HB2
      have hl2 : w.heap.size + 2 < w5.heap.size := HB25.out.lt
      refine (rowBy_any _ _ l K' T' G HI5.out (by omega) HLM.out ⟨by omega, by omega⟩ hG0 hG9).mono ?_
      rintro e w6 ⟨sv, rfl, ho6, hn6, hk6⟩
      obtain ⟨os, cs, hsv, hms⟩ := (ho6.ints hn6).len
      subst hsv
      have HN6 := Lib.hid hn6
      have HC6 := Lib.hid ho6.cap
      have HK6 := Lib.hid (HK5.out.both hk6)
      have HB16 := Lib.hid (HB15.out.keep hk6)
      have HB26 := Lib.hid (HB25.out.keep hk6)
      obtain ⟨R, hR⟩ : ∃ R, byR l K' T' G = R := ⟨_, rfl⟩
      have HRK : Hid (R.kind = K') := Lib.hid (by rw [← hR]; rfl)
      rw [hR] at HPV HN6 HC6 ho6 ⊢
      have HO6 := Lib.hid ho6
      obtain ⟨Rof, Rk, Rto⟩ := R
      simp only at *
      clear hk6 hn6 ho6 HI5 HK5 HB15 HB25 hR hms
      go_wp2_with fail
      have k7 : Keep NoS w6 (w6.alloc (.cells #[.slice os Rof.length cs, .int .i64 K', .int .i64 Rto] 24)) := by (repeat' (first | (with_reducible assumption) | (with_reducible exact HK.out) | (with_reducible exact Keep.refl _ _) | (with_reducible refine Keep.alloc ?_ _) | (with_reducible refine Keep.setCell ?_ _ (fun h => absurd h (by omega))) | (with_reducible refine Keep.drewN ?_ _) | (with_reducible refine Keep.drew ?_)))
      refine (fits_any Rto _).mono ?_
      rintro e w7 ⟨rfl, rfl⟩
      have HK7 := Lib.hid (HK6.out.both k7)
      have HO7 := Lib.hid (HO6.out.keep k7)
      have HB17 := Lib.hid (HB16.out.keep k7)
      have HB27 := Lib.hid (HB26.out.keep k7)
      obtain ⟨r0, r1, r2, s0, s1, s2, l1⟩ := (HB16.out.keep k7).three
      obtain ⟨p0, p1, p2, p3, l2⟩ := (HB26.out.keep k7).two
      have B7 : Blk (w6.alloc (.cells #[.slice os Rof.length cs, .int .i64 K', .int .i64 Rto] 24)) w6.heap.size #[.slice os Rof.length cs, .int .i64 K', .int .i64 Rto] := by (repeat (first | (refine blk_at _ _ ?_; simp; done) | (refine Blk.old ?_ _)))
      obtain ⟨t0, t1, t2, _, _, _, l0⟩ := B7.three
      have hl7 : w.heap.size + 2 < w6.heap.size := HB26.out.lt
      generalize w6.alloc (.cells #[.slice os Rof.length cs, .int .i64 K', .int .i64 Rto] 24) = w7 at *
      generalize w6.heap.size = b6 at *
      clear B7 k7 HK6 HO6 HB16 HB26
      by_cases hf : fitI Rto
      · have ef : decide (fitI Rto) = true := decide_eq_true hf
        rw [if_pos hf] at HPV
        clear hf
        go_wp2
        refine bodyPost_ret (by simp [results, Try.results21, go_sem, r0, r1, r2, l1, l2, p0, p1]; rfl) rfl ?_
        rw [HPV.out, ← HRK.out]
        have HK := Lib.hid HK7.out
        have hne : ∀ c, c < w.heap.size + 3 → (Value.slice os Rof.length cs).ownBlock ≠ some c := fun c hc hb => by have := HO7.out.block _ hb; omega
        refine ⟨_, rfl, OwnI.ints (base := w5.heap.size) ?_ HN6.out, HC6.out, by (repeat' (first | (with_reducible assumption) | (with_reducible exact HK.out) | (with_reducible exact Keep.refl _ _) | (with_reducible refine Keep.alloc ?_ _) | (with_reducible refine Keep.setCell ?_ _ (fun h => absurd h (by omega))) | (with_reducible refine Keep.drewN ?_ _) | (with_reducible refine Keep.drew ?_)))⟩
        repeat' (first | (with_reducible exact HO7.out) | refine World.ownsRow_other ?_ (hne _ (by omega)) | exact HO7.out)
      · have ef : decide (fitI Rto) = false := decide_eq_false hf
        rw [if_neg hf] at HPV
        clear hf
        go_wp2_with fail
        refine (fault_any 10 0 _).mono ?_
        rintro e w8 ⟨rfl, hk8⟩
        have HK := Lib.hid (HK7.out.both hk8)
        obtain ⟨r0', r1', r2', s0', s1', s2', l1'⟩ := (HB17.out.keep hk8).three
        obtain ⟨p0', p1', p2', p3', l2'⟩ := (HB27.out.keep hk8).two
        clear r0 r1 r2 s0 s1 s2 l1 p0 p1 p2 p3 l2 hk8
        unfold fV
        go_wp2
        refine bodyPost_ret (by simp [results, Try.results21, go_sem, r0', r1', r2', l1', l2', p0', p1']; rfl) rfl ?_
        rw [HPV.out]
        exact ⟨_, rfl, ints_nil _, cap_nil, by (repeat' (first | (with_reducible assumption) | (with_reducible exact HK.out) | (with_reducible exact Keep.refl _ _) | (with_reducible refine Keep.alloc ?_ _) | (with_reducible refine Keep.setCell ?_ _ (fun h => absurd h (by omega))) | (with_reducible refine Keep.drewN ?_ _) | (with_reducible refine Keep.drew ?_)))⟩
end Go.Proofs.Ytihcbmkjfacooaa
