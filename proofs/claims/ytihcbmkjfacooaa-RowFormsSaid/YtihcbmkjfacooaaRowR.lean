/- The reference's RowTidy. -/
import Derived.Test.YtihcbmkjfacooaaRowQ
namespace Go.Proofs.Ytihcbmkjfacooaa
open Go.ChangeShapes Go.WideShapes Go.RowKit
set_option linter.unusedVariables false
set_option linter.unusedSimpArgs false

/-- A row alone is returned. -/
def RetR (s : Rw) (w : World) (e : Ending) (w' : World) : Prop :=
  ∃ sv, e = .returned (.agg #[sv, .int .i64 s.kind, .int .i64 s.to]) ∧ IsInts w' sv s.of ∧ CapOK sv ∧ Keep NoS w w'

theorem turnQ_map {k : Int} {l : List Int} {g : Nat} (hg : 0 < g) (hd : ∀ x ∈ l, g ∣ x.natAbs) : turnQ k (l.map fun x => x.tdiv g) ↔ turnQ k l := by
  unfold turnQ; rw [sgnL_tdiv hg l hd]

theorem byR_eq {l : List Int} {k t : Int} {g : Nat} (hg : 0 < g) (hd : ∀ x ∈ l, g ∣ x.natAbs) (ht : k = 3 → g ∣ t.natAbs) : byR l k t g = byG l k (t / (g : Int)) g := by
  unfold byR byG turnOf turnTo
  by_cases h : turnQ k l
  · have hk := h.1
    have hs : byS k l = -1 := by unfold byS sgq; rw [if_pos hk, if_pos h.2]
    rw [if_pos ((turnQ_map hg hd).2 h), if_pos ((turnQ_map hg hd).2 h), hs]
    have e1 : (fun x : Int => (-1 * x).tdiv (g : Int)) = fun x => -(x.tdiv (g : Int)) := by funext x; rw [Int.neg_one_mul, Int.neg_tdiv]
    rw [e1, Int.neg_one_mul, List.map_map]
    have hdv : (g : Int) ∣ t := Int.ofNat_dvd_left.2 (ht hk)
    rw [Int.neg_ediv_of_dvd hdv]
    rfl
  · have hs : byS k l = 1 := by
      unfold byS sgq
      by_cases hk : k = 3
      · rw [if_pos hk, if_neg (fun h' => h ⟨hk, h'⟩)]
      · rw [if_neg hk]
    rw [if_neg (fun h' => h ((turnQ_map hg hd).1 h')), if_neg (fun h' => h ((turnQ_map hg hd).1 h')), hs]
    simp only [Int.one_mul]

theorem gcdL_pos_of {l : List Int} (h : ∃ i, i < l.length ∧ l.getD i 0 ≠ 0) : 0 < gcdL l := by
  obtain ⟨i, h1, h2⟩ := h
  exact gcdL_pos (mem_of_getD h1) h2

theorem gcdL_le {l : List Int} (hl : ∀ x ∈ l, x.natAbs ≤ 9000000) : gcdL l ≤ 9000000 := fgcd_le (by omega) hl

set_option maxRecDepth 100000 in
set_option maxHeartbeats 16000000 in
theorem refTidy_none (w : World) (v : Value) (r : Rw) (h : IsRow w v r) (hc : (chkRow r 12).1 = 0) (h0 : bareL r.of = []) : Calls Try.prog 22 #[v] w (RetR (tidyR r) w) := by
  obtain ⟨hcc, hkk, hlen, _, hft⟩ := chk_ok hc
  obtain ⟨sv, rfl, hi, _, _, hcp⟩ := h
  obtain ⟨oa, cap, rfl, hm⟩ := hi.len
  have HI := Lib.hid hi
  have HCP := Lib.hid hcp
  have HT : Hid (tidyR r = ⟨[], r.kind, emptyTo r.kind r.to⟩) := Lib.hid (by unfold tidyR; rw [if_pos h0])
  clear hi hcp
  obtain ⟨of, kind, tt⟩ := r
  simp only at *
  have H0 := Lib.hid h0
  have HKK := Lib.hid hkk
  clear hcc hc h0 hkk
  rw [HT.out]
  go_enter Try.func22, Try.ntmps22
  go_wp2_with fail
  have k0 : Keep NoS w ((w.alloc (.cells #[.slice oa of.length cap, .int .i64 kind, .int .i64 tt] 24)).alloc (.cells #[.slice none 0 0, .int .i64 0, .int .i64 0] 24)) := by (repeat' (first | (with_reducible assumption) | (with_reducible exact HK.out) | (with_reducible exact Keep.refl _ _) | (with_reducible refine Keep.alloc ?_ _) | (with_reducible refine Keep.setCell ?_ _ (fun h => absurd h (by omega))) | (with_reducible refine Keep.drewN ?_ _) | (with_reducible refine Keep.drew ?_)))
  have b0 : Blk ((w.alloc (.cells #[.slice oa of.length cap, .int .i64 kind, .int .i64 tt] 24)).alloc (.cells #[.slice none 0 0, .int .i64 0, .int .i64 0] 24)) w.heap.size #[.slice oa of.length cap, .int .i64 kind, .int .i64 tt] := by (repeat (first | (refine blk_at _ _ ?_; simp; done) | (refine Blk.old ?_ _)))
  have b1 : Blk ((w.alloc (.cells #[.slice oa of.length cap, .int .i64 kind, .int .i64 tt] 24)).alloc (.cells #[.slice none 0 0, .int .i64 0, .int .i64 0] 24)) (w.heap.size + 1) #[.slice none 0 0, .int .i64 0, .int .i64 0] := by (repeat (first | (refine blk_at _ _ ?_; simp; done) | (refine Blk.old ?_ _)))
  refine (bare_any _ _ of (HI.out.keep k0) HCP.out (by omega)).mono ?_
  rintro e w1 ⟨⟨v1, rfl, hi1, hc1⟩, rfl⟩
  rw [H0.out] at hi1
  have K1 := Lib.hid k0
  have B0 := Lib.hid b0
  have B1 := Lib.hid b1
  obtain ⟨oc, cc, rfl, _⟩ := hi1.len
  simp only [List.length_nil]
  generalize (w.alloc (.cells #[.slice oa of.length cap, .int .i64 kind, .int .i64 tt] 24)).alloc (.cells #[.slice none 0 0, .int .i64 0, .int .i64 0] 24) = w1 at *
  obtain ⟨p0, p1, p2, q0, q1, q2, l0⟩ := b0.three
  clear k0 b0 b1 hi1 hc1
  go_wp2_with fail
  refine (rowNone_any kind tt _ HKK.out).mono ?_
  rintro e w2 ⟨rfl, hk2⟩
  have K2 := Lib.hid (K1.out.both hk2)
  obtain ⟨r0, r1, r2, s0, s1, s2, l1⟩ := (B1.out.keep hk2).three
  unfold emptyV
  clear p0 p1 p2 q0 q1 q2 l0 hk2
  go_wp2
  refine bodyPost_ret (by simp [results, Try.results22, go_sem, r0, r1, r2, l1]; rfl) rfl ?_
  refine ⟨_, rfl, ints_nil _, cap_nil, ?_⟩
  repeat' (first | (with_reducible exact K2.out) | with_reducible refine keep_at ?_ _ (by omega))

set_option maxRecDepth 100000 in
set_option maxHeartbeats 16000000 in
theorem refTidy_some (w : World) (v : Value) (r : Rw) (h : IsRow w v r) (hc : (chkRow r 12).1 = 0) (h0 : bareL r.of ≠ []) : Calls Try.prog 22 #[v] w (RetR (tidyR r) w) := by
  obtain ⟨hcc, hkk, hlen, hfit, hft⟩ := chk_ok hc
  obtain ⟨sv, rfl, hi, _, _, hcp⟩ := h
  obtain ⟨oa, cap, rfl, hm⟩ := hi.len
  have HI := Lib.hid hi
  have HCP := Lib.hid hcp
  clear hi hcp
  obtain ⟨of, kind, tt⟩ := r
  simp only at *
  obtain ⟨ht1, ht2⟩ := hft
  obtain ⟨l, hl⟩ : ∃ l, bareL of = l := ⟨_, rfl⟩
  have hlm : ∀ x ∈ l, -1000000 ≤ x ∧ x ≤ 1000000 := fun x hx => hfit x (bareL_mem (by rw [hl]; exact hx))
  have hll : l.length ≤ 12 := by rw [← hl, bareL_len]; exact Nat.le_trans (bareN_le _ _) hlen
  have hnz := bareL_end of h0
  rw [hl] at hnz h0
  obtain ⟨G, hG⟩ : ∃ G, gcdL (l ++ [tt]) = G := ⟨_, rfl⟩
  have hGt : tidyG ⟨of, kind, tt⟩ = G := by rw [← hG, gcdL_app, tidyG, hl]
  have hGd : ∀ x ∈ l, G ∣ x.natAbs := fun x hx => by rw [← hG]; exact gcdL_dvd _ x (List.mem_append_left _ hx)
  have hGtd : G ∣ tt.natAbs := by rw [← hG]; exact gcdL_dvd _ tt (by simp)
  have hG0 : 0 < G := by
    obtain ⟨i, h1, h2⟩ := hnz
    rw [← hG]
    exact gcdL_pos (List.mem_append_left _ (mem_of_getD h1)) h2
  have hG9 : G ≤ 9000000 := by
    rw [← hG]
    refine gcdL_le fun x hx => ?_
    rcases List.mem_append.1 hx with h | h
    · have := hlm x h; omega
    · obtain rfl : x = tt := by simpa using h
      omega
  have HT : Hid (tidyR ⟨of, kind, tt⟩ = byR l kind tt G) := Lib.hid (by
    rw [byR_eq hG0 hGd fun _ => hGtd]
    unfold tidyR
    rw [hGt]
    simp only [hl]
    rw [if_neg h0, tdiv_eq hGtd])
  have hl0 : 0 < l.length := List.length_pos_iff.2 h0
  have HL := Lib.hid hl
  have HG := Lib.hid hG
  have HLM := Lib.hid hlm
  have HKB : Hid ((byR l kind tt G).kind = kind) := Lib.hid rfl
  clear hcc hc hkk hl hG hGt hnz hlm hGd hGtd hfit h0
  rw [HT.out]
  go_enter Try.func22, Try.ntmps22
  go_wp2_with fail
  have k0 : Keep NoS w ((w.alloc (.cells #[.slice oa of.length cap, .int .i64 kind, .int .i64 tt] 24)).alloc (.cells #[.slice none 0 0, .int .i64 0, .int .i64 0] 24)) := by (repeat' (first | (with_reducible assumption) | (with_reducible exact HK.out) | (with_reducible exact Keep.refl _ _) | (with_reducible refine Keep.alloc ?_ _) | (with_reducible refine Keep.setCell ?_ _ (fun h => absurd h (by omega))) | (with_reducible refine Keep.drewN ?_ _) | (with_reducible refine Keep.drew ?_)))
  have b0 : Blk ((w.alloc (.cells #[.slice oa of.length cap, .int .i64 kind, .int .i64 tt] 24)).alloc (.cells #[.slice none 0 0, .int .i64 0, .int .i64 0] 24)) w.heap.size #[.slice oa of.length cap, .int .i64 kind, .int .i64 tt] := by (repeat (first | (refine blk_at _ _ ?_; simp; done) | (refine Blk.old ?_ _)))
  have b1 : Blk ((w.alloc (.cells #[.slice oa of.length cap, .int .i64 kind, .int .i64 tt] 24)).alloc (.cells #[.slice none 0 0, .int .i64 0, .int .i64 0] 24)) (w.heap.size + 1) #[.slice none 0 0, .int .i64 0, .int .i64 0] := by (repeat (first | (refine blk_at _ _ ?_; simp; done) | (refine Blk.old ?_ _)))
  refine (bare_any _ _ of (HI.out.keep k0) HCP.out (by omega)).mono ?_
  rintro e w0 ⟨⟨v1, rfl, hi1, hc1⟩, rfl⟩
  rw [HL.out] at hi1
  have K0 := Lib.hid k0
  have B0 := Lib.hid b0
  have B1 := Lib.hid b1
  have HI1 := Lib.hid hi1
  obtain ⟨oc, cc, rfl, hm1⟩ := hi1.len
  generalize (w.alloc (.cells #[.slice oa of.length cap, .int .i64 kind, .int .i64 tt] 24)).alloc (.cells #[.slice none 0 0, .int .i64 0, .int .i64 0] 24) = w0 at *
  obtain ⟨p0, p1, p2, q0, q1, q2, l0⟩ := b0.three
  have e0 : ((l.length : Int) == 0) = false := by rw [beq_eq_false_iff_ne]; omega
  have ml0 : ¬ l.length = 0 := by omega
  have hwl : w.heap.size + 1 < w0.heap.size := b1.lt
  have HHI : Hid (∀ x ∈ l ++ [tt], I64 x) := Lib.hid (by
    intro x hx
    rcases List.mem_append.1 hx with h | h
    · have := HLM.out x h; unfold I64; omega
    · obtain rfl : x = tt := by simpa using h
      unfold I64; omega)
  have HHJ : Hid (∀ x ∈ l ++ [tt], -9000000 ≤ x ∧ x ≤ 9000000) := Lib.hid (by
    intro x hx
    rcases List.mem_append.1 hx with h | h
    · have := HLM.out x h; omega
    · obtain rfl : x = tt := by simpa using h
      omega)
  clear k0 b0 b1 hi1 hc1
  go_wp2
  refine wp_region_tree (fun w' => Keep NoS w0 w') (.two [0, 2, 3] 1 (.one [] 4 (.one [] 5 (.fin [6]))) 4 (.one [] 1 (.one [] 5 (.fin [6])))) (by kernel_rfl) (by kernel_rfl) (by (repeat' (first | (with_reducible assumption) | (with_reducible exact HK.out) | (with_reducible exact Keep.refl _ _) | (with_reducible refine Keep.alloc ?_ _) | (with_reducible refine Keep.setCell ?_ _ (fun h => absurd h (by omega))) | (with_reducible refine Keep.drewN ?_ _) | (with_reducible refine Keep.drew ?_)))) ?_
  intro X W hne hF hcl
  have HCL := Lib.hid hcl
  have hx0 := fun x => ((hF x).cell l0).trans p2
  clear hF hcl
  simp only [wpPlanT, pickOps, List.getElem?_toArray, List.getElem?_cons_zero, List.getElem?_cons_succ, clsOf, Bool.false_eq_true, if_false]
  (repeat (quiet_step (fail))); refine wpQuiet_nil ?_
  refine ⟨?_, ?_⟩
  refine wpOp_at (by simp only [List.getElem?_toArray, List.getElem?_cons_zero, List.getElem?_cons_succ]; rfl) (by rfl) (fun K hK => ?_)
  obtain ⟨v1, w1, hr1, ho1, hg1⟩ := app_ints (w := w0.drew) (base := w0.heap.size) (OwnI.nil _ _) (HI1.out.keep (Keep.refl _ _).drew) (by simp; omega) (Nat.le_refl _)
  have K1 : Hid (Keep NoS w0 w1) := Lib.hid ((Keep.refl NoS w0).drew.grown hg1 fun k hk => by cases hk)
  have HO1 : Hid (OwnI w1 w0.heap.size v1 l) := Lib.hid ho1
  refine wp_app_run _ _ 22 _ _ rfl rfl rfl hr1 ?_
  refine hK _ _ ⟨HCL.out _ K1.out, ?_⟩
  clear hK K hr1 ho1 hg1
  simp only [Act.put, List.setIfInBounds_toArray, List.set_cons_zero, List.set_cons_succ]
  obtain ⟨o1, c1, rfl⟩ := HO1.out.len
  (repeat (quiet_step (fail))); refine wpQuiet_nil ?_
  refine wpOp_at (by simp only [List.getElem?_toArray, List.getElem?_cons_zero, List.getElem?_cons_succ]; rfl) (by rfl) (fun K hK => ?_)
  go_simp
  have k2 : Keep NoS w1 (w1.alloc (.cells #[.int .i64 tt] TI)) := (Keep.refl _ _).alloc _
  refine hK _ _ ⟨HCL.out _ (K1.out.both k2), ?_⟩
  have K2 := Lib.hid (K1.out.both k2)
  have HO2 := Lib.hid (HO1.out.keep k2)
  have HS2 := Lib.hid (one_int w1 tt (by unfold I64; omega))
  generalize hbb : w1.heap.size = b2 at HS2 ⊢
  generalize w1.alloc (.cells #[.int .i64 tt] TI) = w2 at *
  clear hK K hbb k2
  (repeat (quiet_step (fail))); refine wpQuiet_nil ?_
  refine wpOp_at (by simp only [List.getElem?_toArray, List.getElem?_cons_zero, List.getElem?_cons_succ]; rfl) (by rfl) (fun K hK => ?_)
  obtain ⟨v3, w3, hr3, ho3, hg3⟩ := app_ints HO2.out HS2.out (by simp; omega) K2.out.size
  have K3 := Lib.hid (K2.out.grown hg3 fun k hk => HO2.out.block k hk)
  have hi3 := ho3.ints HHI.out
  obtain ⟨L, hL⟩ : ∃ L, l ++ [tt] = L := ⟨_, rfl⟩
  have hll3 : L.length ≤ 13 := by rw [← hL]; simp; omega
  rw [hL] at hi3
  have HI3 := Lib.hid hi3
  have HLE := Lib.hid hL
  clear hi3 hL
  refine wp_app_run _ _ 22 _ _ rfl rfl rfl hr3 ?_
  refine hK _ _ ⟨HCL.out _ K3.out, ?_⟩
  clear hK K hr3 ho3 hg3 HO2 HS2 K2
  simp only [Act.put, List.setIfInBounds_toArray, List.set_cons_zero, List.set_cons_succ]
  obtain ⟨oa3, cap3, rfl, hm3⟩ := HI3.out.len
  (repeat (quiet_step (fail))); refine wpQuiet_nil ?_
  clear HO1 K1
  rotate_left
  refine wpOp_at (by simp only [List.getElem?_toArray, List.getElem?_cons_zero, List.getElem?_cons_succ]; rfl) (by rfl) (fun K hK => ?_)
  go_simp
  have k1 : Keep NoS w0 ((w0.alloc (.cells #[.int .i64 tt] TI)).drew) := by (repeat' (first | (with_reducible assumption) | (with_reducible exact HK.out) | (with_reducible exact Keep.refl _ _) | (with_reducible refine Keep.alloc ?_ _) | (with_reducible refine Keep.setCell ?_ _ (fun h => absurd h (by omega))) | (with_reducible refine Keep.drewN ?_ _) | (with_reducible refine Keep.drew ?_)))
  refine hK _ _ ⟨HCL.out _ k1, ?_⟩
  have K1 := Lib.hid k1
  have HS1 : Hid (IsInts (w0.alloc (.cells #[.int .i64 tt] TI)).drew (.slice (some ⟨w0.heap.size, 0, none⟩) 1 1) [tt]) := Lib.hid ((one_int w0 tt (by unfold I64; omega)).keep (Keep.refl _ _).drew)
  generalize hb2 : w0.heap.size = b2 at HS1 ⊢
  generalize (w0.alloc (.cells #[.int .i64 tt] TI)).drew = w1 at *
  clear hK K k1
  (repeat (quiet_step (fail))); refine wpQuiet_nil ?_
  refine wpOp_at (by simp only [List.getElem?_toArray, List.getElem?_cons_zero, List.getElem?_cons_succ]; rfl) (by rfl) (fun K hK => ?_)
  obtain ⟨v2, w2, hr2, ho2, hg2⟩ := app_ints (w := w1) (base := w1.heap.size) (OwnI.nil _ _) (HI1.out.keep K1.out) (by simp; omega) (Nat.le_refl _)
  have kg2 : Keep NoS w1 w2 := (Keep.refl NoS w1).grown hg2 fun k hk => by cases hk
  have K2 := Lib.hid (K1.out.both kg2)
  have HO2 : Hid (OwnI w2 w0.heap.size v2 l) := Lib.hid (World.ownsRow_mono ho2 K1.out.size)
  have HS2 := Lib.hid (HS1.out.keep kg2)
  refine wp_app_run _ _ 22 _ _ rfl rfl rfl hr2 ?_
  refine hK _ _ ⟨HCL.out _ K2.out, ?_⟩
  clear hK K hr2 ho2 hg2 kg2
  simp only [Act.put, List.setIfInBounds_toArray, List.set_cons_zero, List.set_cons_succ]
  obtain ⟨o1, c1, rfl⟩ := HO2.out.len
  (repeat (quiet_step (fail))); refine wpQuiet_nil ?_
  refine wpOp_at (by simp only [List.getElem?_toArray, List.getElem?_cons_zero, List.getElem?_cons_succ]; rfl) (by rfl) (fun K hK => ?_)
  obtain ⟨v3, w3, hr3, ho3, hg3⟩ := app_ints HO2.out HS2.out (by simp; omega) K2.out.size
  have K3 := Lib.hid (K2.out.grown hg3 fun k hk => HO2.out.block k hk)
  have hi3 := ho3.ints HHI.out
  obtain ⟨L, hL⟩ : ∃ L, l ++ [tt] = L := ⟨_, rfl⟩
  have hll3 : L.length ≤ 13 := by rw [← hL]; simp; omega
  rw [hL] at hi3
  have HI3 := Lib.hid hi3
  have HLE := Lib.hid hL
  clear hi3 hL
  refine wp_app_run _ _ 22 _ _ rfl rfl rfl hr3 ?_
  refine hK _ _ ⟨HCL.out _ K3.out, ?_⟩
  clear hK K hr3 ho3 hg3 HO2 HS2 K2
  simp only [Act.put, List.setIfInBounds_toArray, List.set_cons_zero, List.set_cons_succ]
  obtain ⟨oa3, cap3, rfl, hm3⟩ := HI3.out.len
  (repeat (quiet_step (fail))); refine wpQuiet_nil ?_
  clear HS1 K1 hb2
  all_goals
    refine NoPanic.normal ?_
    obtain ⟨p0, p1, p2, q0, q1, q2, l0⟩ := (B0.out.keep K3.out).three
    have HI13 := Lib.hid (HI1.out.keep K3.out)
    have B13 := Lib.hid (B1.out.keep K3.out)
    have hwl3 : w.heap.size + 1 < w3.heap.size := B13.out.lt
    have K03 := Lib.hid (K0.out.both K3.out)
    clear hx0 HCL p0 K3
    rw [HLE.out] at HG HHJ
    go_wp2
    refine wp_region_by (fun w' => Keep NoS w3 w') [8] [([0, 1, 2, 3, 4, 5], 6), ([], 7), ([], 8)] [] (by kernel_rfl) (by kernel_rfl) (by (repeat' (first | (with_reducible assumption) | (with_reducible exact HK.out) | (with_reducible exact Keep.refl _ _) | (with_reducible refine Keep.alloc ?_ _) | (with_reducible refine Keep.setCell ?_ _ (fun h => absurd h (by omega))) | (with_reducible refine Keep.drewN ?_ _) | (with_reducible refine Keep.drew ?_)))) ?_
    intro X W hne hF hcl
    have HCL := Lib.hid hcl
    have hx1 := fun x => ((hF x).cell l0).trans p1
    have hx2 := fun x => ((hF x).cell l0).trans p2
    clear hF hcl
    simp only [wpPlan, pickOps, List.getElem?_toArray, List.getElem?_cons_zero, List.getElem?_cons_succ, clsOf, Bool.false_eq_true, if_false]
    (repeat (quiet_step (fail))); refine wpQuiet_nil ?_
    refine wpOp_at (by simp only [List.getElem?_toArray, List.getElem?_cons_zero, List.getElem?_cons_succ]; rfl) (by rfl) (fun K hK => ?_)
    go_simp
    refine (common_any _ _ L (HI3.out.keep (by (repeat' (first | (with_reducible assumption) | (with_reducible exact HK.out) | (with_reducible exact Keep.refl _ _) | (with_reducible refine Keep.alloc ?_ _) | (with_reducible refine Keep.setCell ?_ _ (fun h => absurd h (by omega))) | (with_reducible refine Keep.drewN ?_ _) | (with_reducible refine Keep.drew ?_))))) (by omega) HHJ.out).mono ?_
    rintro e w4 ⟨rfl, hk4⟩
    have k4 : Keep NoS w3 w4 := Keep.trans (by (repeat' (first | (with_reducible assumption) | (with_reducible exact HK.out) | (with_reducible exact Keep.refl _ _) | (with_reducible refine Keep.alloc ?_ _) | (with_reducible refine Keep.setCell ?_ _ (fun h => absurd h (by omega))) | (with_reducible refine Keep.drewN ?_ _) | (with_reducible refine Keep.drew ?_)))) hk4 fun _ _ _ h => h
    rw [HG.out]
    refine hK _ _ ⟨fun _ => HCL.out _ k4, ?_⟩
    clear hK K hk4
    (repeat (quiet_step (fail))); refine wpQuiet_nil ?_
    refine wpOp_at (by simp only [List.getElem?_toArray, List.getElem?_cons_zero, List.getElem?_cons_succ]; rfl) (by rfl) (fun K hK => ?_)
    go_simp
    refine (rowBy_any _ _ l kind tt G (HI13.out.keep k4) (by omega) HLM.out ⟨by omega, by omega⟩ hG0 hG9).mono ?_
    rintro e w5 ⟨sv, rfl, ho5, hn5, hk5⟩
    have hi5 := ho5.ints hn5
    have hc5 := ho5.cap
    have HN5 := Lib.hid hn5
    clear hn5
    obtain ⟨os, cs, hsv, hms⟩ := hi5.len
    subst hsv
    obtain ⟨Z, hZ⟩ : ∃ Z, (byR l kind tt G).to = Z := ⟨_, rfl⟩
    rw [hZ]
    obtain ⟨n5, hn5⟩ : ∃ n, (byR l kind tt G).of.length = n := ⟨_, rfl⟩
    rw [hn5] at hi5 hc5 ho5 ⊢
    have HZN := Lib.hid (And.intro hZ hn5)
    clear hZ hn5
    have k5 := k4.both hk5
    refine hK _ _ ⟨fun _ => HCL.out _ k5, ?_⟩
    have HO5 := Lib.hid ho5
    have hw4 : w.heap.size + 1 < w4.heap.size := Nat.lt_of_lt_of_le hwl3 k4.size
    have HC5 := Lib.hid hc5
    have B15 := Lib.hid (B13.out.keep k5)
    have K5 := Lib.hid (K03.out.both k5)
    clear hK K hk5 k4 k5 hi5 ho5 hc5 hx1 hx2
    obtain ⟨r0, r1, r2, s0, s1, s2, l1⟩ := B15.out.three
    (repeat (quiet_step (fail))); refine wpQuiet_nil ?_
    refine wpOp_at (by simp only [List.getElem?_toArray, List.getElem?_cons_zero, List.getElem?_cons_succ]; rfl) (by rfl) (fun K hK => ?_)
    go_simp
    refine hK _ _ ⟨fun h => (by simp at h), ?_⟩
    clear hK K
    (repeat (quiet_step (fail))); refine wpQuiet_nil ?_
    refine NoPanic.normal ?_
    go_wp2
    refine bodyPost_ret (by simp [results, Try.results22, go_sem, r0, r1, r2, l1]; rfl) rfl ?_
    rw [← HZN.out.1]
    have hne : (Value.slice os n5 cs).ownBlock ≠ some (w.heap.size + 1) := fun hb => by have := HO5.out.block _ hb; omega
    refine ⟨_, rfl, OwnI.ints (base := w4.heap.size) ?_ HN5.out, HC5.out, ?_⟩
    · repeat' (first | (with_reducible exact HO5.out) | refine World.ownsRow_other ?_ hne | exact HO5.out)
    repeat' (first | (with_reducible exact K5.out) | with_reducible refine keep_at ?_ _ (by omega) | with_reducible refine Keep.drew ?_)
end Go.Proofs.Ytihcbmkjfacooaa
