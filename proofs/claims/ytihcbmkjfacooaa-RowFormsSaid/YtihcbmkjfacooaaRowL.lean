/- Package row's Tidy, of rows with numbers. -/
import Derived.Test.YtihcbmkjfacooaaRowK
namespace Go.Proofs.Ytihcbmkjfacooaa
open Go.ChangeShapes Go.WideShapes Go.RowKit
set_option linter.unusedVariables false
set_option linter.unusedSimpArgs false

def fgcd (a : Nat) (l : List Int) : Nat := l.foldl (fun g x => Nat.gcd g x.natAbs) a
theorem fgcd_take {a : Nat} {l : List Int} {k : Nat} (hk : k < l.length) : fgcd a (l.take (k + 1)) = Nat.gcd (fgcd a (l.take k)) (l.getD k 0).natAbs := by
  unfold fgcd
  rw [List.take_succ_eq_append_getElem hk, List.foldl_append]
  simp [List.getD, hk]
theorem fgcd_le {a : Nat} {l : List Int} (ha : a ≤ 9000000) (hl : ∀ x ∈ l, x.natAbs ≤ 9000000) : fgcd a l ≤ 9000000 := by
  unfold fgcd
  induction l generalizing a with
  | nil => exact ha
  | cons x l ih =>
    rw [List.foldl_cons]
    refine ih ?_ fun y hy => hl y (by simp [hy])
    rcases Nat.eq_zero_or_pos a with h | h
    · subst h; rw [Nat.gcd_zero_left]; exact hl x (by simp)
    · exact Nat.le_trans (Nat.gcd_le_left _ h) ha

theorem turn_i64 {k : Int} {l : List Int} (h : ∀ x ∈ l, -9000000 ≤ x ∧ x ≤ 9000000) : ∀ x ∈ turnOf k l, I64 x := by
  intro x hx
  unfold turnOf at hx
  split at hx
  · obtain ⟨y, hy, rfl⟩ := List.mem_map.1 hx
    have := h y hy
    unfold I64; omega
  · have := h x hx
    unfold I64; omega

theorem ints_turned {w : World} {g cg n : Nat} {k : Int} {l : List Int} (h : IntBlk w g (turnOf k l)) (hn : n = l.length) (hl : n ≤ 1000) (hx : ∀ x ∈ l, -9000000 ≤ x ∧ x ≤ 9000000) : IsInts w (.slice (some ⟨g, 0, none⟩) n cg) (turnOf k l) := by
  have htl : (turnOf k l).length = n := by rw [hn]; unfold turnOf; split <;> simp
  have hti := h.ints cg (by rw [htl]; unfold maxLen; omega) (turn_i64 hx)
  rwa [htl] at hti

set_option maxRecDepth 100000 in
set_option maxHeartbeats 16000000 in
theorem tidy_some (w : World) (v : Value) (r : Rw) (h : IsRow w v r) (hc : (chkRow r 12).1 = 0) (h0 : bareL r.of ≠ []) : Calls Try.prog 16 #[v] w (RetRow (byG (bareL r.of) r.kind (r.to.tdiv (tidyG r)) (tidyG r)) (0, 0) w) := by
  have H := Lib.hid h
  obtain ⟨hcc, hkk, hlen, hfit, hft⟩ := chk_ok hc
  obtain ⟨sv, rfl, hi, _, _, hcp⟩ := h
  obtain ⟨oa, cap, rfl, hm⟩ := hi.len
  have HI := Lib.hid hi
  have HCP := Lib.hid hcp
  clear hi hcp
  obtain ⟨of, kind, tt⟩ := r
  simp only at *
  have HCA := Lib.hid hcc
  obtain ⟨ht1, ht2⟩ := hft
  obtain ⟨l, hl⟩ : ∃ l, bareL of = l := ⟨_, rfl⟩
  obtain ⟨G, hG⟩ : ∃ G, tidyG ⟨of, kind, tt⟩ = G := ⟨_, rfl⟩
  have hGe : fgcd tt.natAbs l = G := by
    rw [← hG, ← hl]
    unfold fgcd tidyG
    rw [foldl_gcd, Nat.gcd_comm]
  have hnz := bareL_end of h0
  have hlm : ∀ x ∈ l, -1000000 ≤ x ∧ x ≤ 1000000 := fun x hx => hfit x (bareL_mem (by rw [hl]; exact hx))
  have hll : l.length ≤ 12 := by rw [← hl, bareL_len]; exact Nat.le_trans (bareN_le _ _) hlen
  rw [hl] at hnz h0
  rw [hl, hG]
  have hl0 : 0 < l.length := List.length_pos_iff.2 h0
  have hGd : (∀ x ∈ l, G ∣ x.natAbs) ∧ G ∣ tt.natAbs := by
    refine ⟨fun x hx => ?_, ?_⟩
    · rw [← hG, tidyG, hl]; exact Nat.dvd_trans (Nat.gcd_dvd_left _ _) (gcdL_dvd l x hx)
    · rw [← hG, tidyG]; exact Nat.gcd_dvd_right _ _
  have hG0 : 0 < G := by
    obtain ⟨i, h1, h2⟩ := hnz
    rcases Nat.eq_zero_or_pos G with h | h
    · have := hGd.1 _ (mem_of_getD h1)
      rw [h] at this
      have := Nat.eq_zero_of_zero_dvd this
      omega
    · exact h
  have hG9 : G ≤ 9000000 := by
    rw [← hGe]; exact fgcd_le (by omega) fun x hx => by have := hlm x hx; omega
  have HL := Lib.hid hl
  have HGE := Lib.hid hGe
  have HNZ := Lib.hid hnz
  have HLM := Lib.hid hlm
  have HGD := Lib.hid hGd
  clear hcc hc hkk hl hG hGe hnz hlm hGd hfit h0
  go_enter Try.func16, Try.ntmps16
  go_wp2_with fail
  refine (rowCheck_any _ _ ⟨of, kind, tt⟩ 12 (H.out.keep (by (repeat' (first | (with_reducible assumption) | (with_reducible exact HK.out) | (with_reducible exact Keep.refl _ _) | (with_reducible refine Keep.alloc ?_ _) | (with_reducible refine Keep.setCell ?_ _ (fun h => absurd h (by omega))) | (with_reducible refine Keep.drewN ?_ _) | (with_reducible refine Keep.drew ?_)))))).mono ?_
  rintro e w1 ⟨rfl, hk1⟩
  obtain ⟨B0, B1, B2, hk⟩ := head4 hk1
  have HK1 := Lib.hid hk
  rw [HCA.out]
  obtain ⟨t0, t1, t2, _, _, _, l0⟩ := B0.three
  unfold fV
  have HB0 := Lib.hid B0
  have HB1 := Lib.hid B1
  have HB2 := Lib.hid B2
  clear hk1 hk B0 B1 B2
  have n0 : ¬ w1.heap.size = w.heap.size := by omega
  go_wp2_with fail
  have k2 : Keep NoS w1 (w1.alloc (.cells #[.int .i64 0, .int .i64 0] 26)) := (Keep.refl _ _).alloc _
  refine (trimmed_any _ _ of (HI.out.keep (HK1.out.both k2)) HCP.out (by omega)).mono ?_
  rintro e w2 ⟨v2, rfl, ho2, hk2⟩
  rw [HL.out] at ho2
  have hkk2 := k2.both hk2
  have K2 := Lib.hid hkk2
  have HB0' := Lib.hid (HB0.out.keep hkk2)
  have HB1' := Lib.hid (HB1.out.keep hkk2)
  have HB2' := Lib.hid (HB2.out.keep hkk2)
  obtain ⟨g, cg, hv2, hgb, hcg, hib⟩ := ho2.blk hl0
  subst hv2
  have hgw : w1.heap.size ≤ g := by simp at hgb; omega
  have hgb' : w.heap.size + 3 ≤ g := by have := HK1.out.size; have := HB2.out.lt; simp at hgb; omega
  have hw3 : w.heap.size + 3 ≤ w1.heap.size := by have := HB2.out.lt; omega
  have HIB := Lib.hid hib
  have ml0 : ¬ l.length = 0 := by omega
  have e0 : ((l.length : Int) == 0) = false := by rw [beq_eq_false_iff_ne]; omega
  clear t0 t1 t2 l0 n0 k2 hk2 hkk2 ho2 hgb hib
  obtain ⟨t0, t1, t2, q0, q1, q2, l0⟩ := HB0'.out.three
  go_wp2_with fail
  refine (rowGcd_any tt 0 _ (by omega) (by omega)).mono ?_
  rintro e w3 ⟨rfl, nd, rfl⟩
  have hg0 : Nat.gcd tt.natAbs (0 : Int).natAbs = fgcd tt.natAbs (l.take 0) := by simp [fgcd]
  rw [hg0]
  clear hg0
  go_wp2
  clear t0 t1 t2 q0 q1 q2 l0
  go_loopw [34, 6] (fun s t wr => ∃ j : Nat, j ≤ l.length ∧ s = .int .i64 j ∧ t = .int .i64 (fgcd tt.natAbs (l.take j) : Nat) ∧ ∃ m, wr = w2.drewN m) (fun s _ _ => (l.length - intOf s).toNat)
  case atStart => exact ⟨0, by omega, rfl, rfl, _, rfl⟩
  case round =>
    obtain ⟨j, hj, rfl, rfl, m, rfl⟩ := hrel
    by_cases hjl : j < l.length
    · have hlt : (j : Int) < (l.length : Int) := by omega
      have cj := HIB.out.cell hjl
      have hxj := HLM.out _ (mem_of_getD hjl)
      have hg9 : fgcd tt.natAbs (l.take j) ≤ 9000000 := fgcd_le (by omega) fun x hx => by have := HLM.out x (List.mem_of_mem_take hx); omega
      have HS := Lib.hid (fgcd_take (a := tt.natAbs) hjl)
      obtain ⟨x, hX⟩ : ∃ x, l.getD j 0 = x := ⟨_, rfl⟩
      rw [hX] at cj hxj HS
      obtain ⟨q, hQ⟩ : ∃ q, fgcd tt.natAbs (l.take j) = q := ⟨_, rfl⟩
      rw [hQ] at HS hg9 ⊢
      obtain ⟨hx1, hx2⟩ := hxj
      have hgl := HIB.out.lt
      clear hX hQ
      go_wp2_with fail
      refine (rowGcd_any q x _ (by omega) (by omega)).mono ?_
      rintro e w3 ⟨rfl, nd', rfl⟩
      rw [Int.natAbs_natCast, ← HS.out]
      go_wp2
      go_roundw
      case rel => exact ⟨j + 1, by omega, by go_num, rfl, _, rfl⟩
      case measure => simp [intOf]; omega
    · have hlt : ¬ (j : Int) < (l.length : Int) := by omega
      obtain rfl : j = l.length := by omega
      rw [List.take_length, HGE.out]
      have kd := keep_drewN w2 m
      have K3 := Lib.hid (K2.out.both kd)
      have D0 := Lib.hid (HB0'.out.keep kd)
      have D1 := Lib.hid (HB1'.out.keep kd)
      have D2 := Lib.hid (HB2'.out.keep kd)
      have DI := Lib.hid (HIB.out.keep kd)
      generalize w2.drewN m = w3 at *
      clear kd
      go_wp2
      go_loopw [44] (fun s wr => ∃ j : Nat, j ≤ l.length ∧ s = .int .i64 j ∧ Keep NoS w1 wr ∧ IntBlk wr g (mapK (fun x => x.tdiv G) l j) ∧ Blk wr w.heap.size #[.slice oa of.length cap, .int .i64 kind, .int .i64 tt] ∧ Blk wr (w.heap.size + 1) #[.slice none 0 0, .int .i64 0, .int .i64 0] ∧ Blk wr (w.heap.size + 1 + 1) #[.int .i64 0, .int .i64 0]) (fun s _ => (l.length - intOf s).toNat)
      case atStart => exact ⟨0, by omega, rfl, K3.out, by simpa [mapK] using DI.out, D0.out, D1.out, D2.out⟩
      case round =>
        obtain ⟨j, hj, rfl, hkr, hbr, hb0, hb1, hb2⟩ := hrel
        have HKR := Lib.hid hkr
        have HBR := Lib.hid hbr
        have E0 := Lib.hid hb0
        have E1 := Lib.hid hb1
        have E2 := Lib.hid hb2
        by_cases hjl : j < l.length
        · have hlt : (j : Int) < (l.length : Int) := by omega
          have cj := hbr.cell (i := j) (by rw [mapK_len]; exact hjl)
          rw [mapK_at _ l j hjl] at cj
          have fj := hbr.free j
          have glr := hbr.lt
          have hxj := HLM.out _ (mem_of_getD hjl)
          have HS := Lib.hid (mapK_set (fun x => x.tdiv G) l j hjl)
          obtain ⟨x, hX⟩ : ∃ x, l.getD j 0 = x := ⟨_, rfl⟩
          rw [hX] at cj hxj HS
          obtain ⟨hx1, hx2⟩ := hxj
          have hGz : ¬ (G : Int) = 0 := by omega
          have hq : (x.tdiv G).natAbs ≤ 1000000 := by rw [Int.natAbs_tdiv]; exact Nat.le_trans (Nat.div_le_self _ _) (by omega)
          have hq1 : -1000000 ≤ x.tdiv G := by omega
          have hq2 : x.tdiv G ≤ 1000000 := by omega
          clear hX hkr hbr hb0 hb1 hb2 hq
          go_wp2
          go_roundw
          case rel =>
            have hng : ∀ c, c < w.heap.size + 3 → ¬ c = g := fun c hc => by omega
            refine ⟨j + 1, by omega, by go_num, keep_at HKR.out _ (by omega), ?_, E0.out.setOther _ _ (hng _ (by omega)), E1.out.setOther _ _ (hng _ (by omega)), E2.out.setOther _ _ (hng _ (by omega))⟩
            rw [← HS.out]
            exact IntBlk.set HBR.out _
          case measure => simp [intOf]; omega
        · have hlt : ¬ (j : Int) < (l.length : Int) := by omega
          obtain rfl : j = l.length := by omega
          rw [mapK_all] at HBR
          have glr := hbr.lt
          obtain ⟨t0, t1, t2, q0, q1, q2, l0⟩ := hb0.three
          have hdl : ∀ y ∈ l.map (fun x => x.tdiv G), -9000000 ≤ y ∧ y ≤ 9000000 := by
            intro y hy
            obtain ⟨x, hx, rfl⟩ := List.mem_map.1 hy
            have := HLM.out x hx
            have hq : (x.tdiv G).natAbs ≤ 1000000 := by rw [Int.natAbs_tdiv]; exact Nat.le_trans (Nat.div_le_self _ _) (by omega)
            omega
          have hdt : (tt.tdiv G).natAbs ≤ 1000000 := by rw [Int.natAbs_tdiv]; exact Nat.le_trans (Nat.div_le_self _ _) (by omega)
          have hdn : ∃ i, i < (l.map fun x => x.tdiv G).length ∧ (l.map fun x => x.tdiv G).getD i 0 ≠ 0 := by
            obtain ⟨i, h1, h2⟩ := HNZ.out
            refine ⟨i, by simpa using h1, ?_⟩
            rw [List.getD_eq_getElem?_getD, List.getElem?_map, List.getElem?_eq_getElem h1]
            have h3 : l.getD i 0 = l[i] := by rw [List.getD_eq_getElem?_getD, List.getElem?_eq_getElem h1]; rfl
            rw [h3] at h2
            obtain ⟨c, hcc⟩ := Int.ofNat_dvd_left.2 (HGD.out.1 _ (List.getElem_mem h1))
            simp only [Option.map_some, Option.getD_some]
            rw [hcc, Int.mul_tdiv_cancel_left _ (by omega)]
            rintro rfl
            rw [Int.mul_zero] at hcc
            exact h2 hcc
          have HDL := Lib.hid hdl
          have HDN := Lib.hid hdn
          have hdt1 : -1000000 ≤ tt.tdiv G := by omega
          have hdt2 : tt.tdiv G ≤ 1000000 := by omega
          have hGz : ¬ (G : Int) = 0 := by omega
          have hGz2 : ¬ G = 0 := by omega
          have hml : (l.map fun x => x.tdiv G).length = l.length := List.length_map _
          have HML := Lib.hid hml
          clear hkr hbr hb0 hb1 hb2 hdl hdn hdt hml
          go_wp2
          have hwr : IntKind.i64.wrap (tt.tdiv G) = tt.tdiv G := Go.IntWalk.i64_in _ (by omega)
          refine wp_region_two (fun w' => Keep NoS wr w') (fun _ => True) [0, 1, 3, 5, 8, 9, 10, 11] [([0, 1, 3, 5, 9], [2, 4, 6, 7], 8), ([], [], 10), ([], [], 11)] ([], []) (by kernel_rfl) (by kernel_rfl) (fun _ _ => trivial) (by (repeat' (first | (with_reducible assumption) | (with_reducible exact HK.out) | (with_reducible exact Keep.refl _ _) | (with_reducible refine Keep.alloc ?_ _) | (with_reducible refine Keep.setCell ?_ _ (fun h => absurd h (by omega))) | (with_reducible refine Keep.drewN ?_ _) | (with_reducible refine Keep.drew ?_)))) ?_
          intro X Y W V hne1 hne2 hF hcl hG' hgg
          have HGG := Lib.hid hgg
          have hx1 := fun z => ((hF z).cell l0).trans t1
          have hx2 := fun z => ((hF z).cell l0).trans t2
          clear hF hcl hG' hgg
          simp only [wpPlanD, pickOps, List.getElem?_toArray, List.getElem?_cons_zero, List.getElem?_cons_succ, Bool.false_eq_true, if_false]
          (repeat (quiet_step (fail))); repeat (refine wpQuiet_nil ?_)
          refine wpOp_at (by simp only [List.getElem?_toArray, List.getElem?_cons_zero, List.getElem?_cons_succ]; rfl) (by rfl) (fun K hK => ?_)
          go_simp
          try rw [hwr]
          have ht := turned_any w1 wr.drew g cg (l.map fun x => x.tdiv G) kind (tt.tdiv G) HKR.out.drew (by omega) (HBR.out.keep (Keep.refl _ _).drew) (by rw [HML.out]; omega) (by rw [HML.out]; omega) HDL.out ⟨by omega, by omega⟩ HDN.out
          rw [HML.out] at ht
          refine ht.mono ?_
          rintro e w5 ⟨rfl, hk5, hb5⟩
          refine hK _ _ ⟨⟨fun h => (by simp at h), HGG.out _ trivial⟩, ?_⟩
          clear hK K ht hx1 hx2
          have F1 := Lib.hid (HB1.out.keep hk5)
          have F2 := Lib.hid (HB2.out.keep hk5)
          have HK5 := Lib.hid hk5
          have HB5 := Lib.hid hb5
          obtain ⟨r0, r1, r2, s0, s1, s2, m1⟩ := F1.out.three
          obtain ⟨p0, p1, p2, p3, m2⟩ := F2.out.two
          clear hk5 hb5
          repeat (refine wpQuiet_nil ?_)
          refine wpOp_at (by simp only [List.getElem?_toArray, List.getElem?_cons_zero, List.getElem?_cons_succ]; rfl) (by rfl) (fun K hK => ?_)
          go_simp
          refine hK _ _ ⟨⟨fun h => (by simp at h), HGG.out _ trivial⟩, ?_⟩
          clear hK K
          repeat (refine wpQuiet_nil ?_)
          refine wpOp_at (by simp only [List.getElem?_toArray, List.getElem?_cons_zero, List.getElem?_cons_succ]; rfl) (by rfl) (fun K hK => ?_)
          go_simp
          refine hK _ _ ⟨⟨fun h => (by simp at h), HGG.out _ trivial⟩, ?_⟩
          clear hK K
          repeat (refine wpQuiet_nil ?_)
          refine NoPanic.normal ?_
          go_wp2
          refine bodyPost_ret (by simp [results, Try.results16, go_sem, r0, r1, r2, m1, m2, p0, p1]; rfl) rfl ?_
          have hng : ∀ c, c < w.heap.size + 3 → g ≠ c := fun c hc => by omega
          refine ⟨_, rfl, ints_turned ?_ HML.out.symm (by omega) HDL.out, ⟨_, _, _, rfl, hcg⟩, ?_⟩
          · repeat' (first | (with_reducible exact HB5.out) | with_reducible refine IntBlk.setOther ?_ _ _ (hng _ (by omega)))
          · repeat' (first | (with_reducible exact HK1.out.both HK5.out) | with_reducible refine keep_at ?_ _ (by omega))
end Go.Proofs.Ytihcbmkjfacooaa
