/- Package row's Whole. -/
import Derived.Test.YtihcbmkjfacooaaRowN
namespace Go.Proofs.Ytihcbmkjfacooaa
open Go.ChangeShapes Go.WideShapes Go.RowKit
set_option linter.unusedVariables false
set_option linter.unusedSimpArgs false

def wholeK (r : Rw) : Int := if r.kind = 2 then 1 else r.kind
def wholeT (r : Rw) : Int := if r.kind = 2 then r.to - 1 else r.to
def wholeG (r : Rw) : Nat := gcdL (bareL r.of)

set_option maxRecDepth 100000 in
set_option maxHeartbeats 16000000 in
theorem whole_bad (w : World) (v : Value) (r : Rw) (h : IsRow w v r) (hc : (chkRow r 12).1 ≠ 0) : Calls Try.prog 17 #[v] w (RetRow nilRw (chkRow r 12) w) := by
  have H := Lib.hid h
  obtain ⟨sv, rfl, hi, _, _⟩ := h
  obtain ⟨oa, cap, rfl, hm⟩ := hi.len
  clear hi
  obtain ⟨of, kind, tt⟩ := r
  simp only at *
  obtain ⟨c, a, hca⟩ : ∃ c a, chkRow ⟨of, kind, tt⟩ 12 = (c, a) := ⟨_, _, rfl⟩
  have hcc : (c != 0) = true := by rw [bne_iff_ne]; rw [hca] at hc; exact hc
  have HCA := Lib.hid hca
  clear hca hc
  go_enter Try.func17, Try.ntmps17
  go_wp2_with fail
  refine (rowCheck_any _ _ ⟨of, kind, tt⟩ 12 (H.out.keep (by (repeat' (first | (with_reducible assumption) | (with_reducible exact HK.out) | (with_reducible exact Keep.refl _ _) | (with_reducible refine Keep.alloc ?_ _) | (with_reducible refine Keep.setCell ?_ _ (fun h => absurd h (by omega))) | (with_reducible refine Keep.drewN ?_ _) | (with_reducible refine Keep.drew ?_)))))).mono ?_
  rintro e w1 ⟨rfl, hk1⟩
  obtain ⟨B0, B1, B2, hk⟩ := head4 hk1
  have HK := Lib.hid hk
  rw [HCA.out]
  obtain ⟨r0, r1, r2, s0, s1, s2, l1⟩ := B1.three
  obtain ⟨p0, p1, p2, p3, l2⟩ := B2.two
  unfold fV
  clear hk1 hk B0 B1 B2
  have n1 : ¬ w1.heap.size = w.heap.size + 1 := by omega
  have n2 : ¬ w1.heap.size = w.heap.size + 1 + 1 := by omega
  have n3 : ¬ w.heap.size + 1 = w1.heap.size := by omega
  have n4 : ¬ w.heap.size + 1 + 1 = w1.heap.size := by omega
  go_wp2
  go_region
  go_wp2
  refine bodyPost_ret (by simp [results, Try.results17, go_sem, r0, r1, r2, l1, l2, p0, p1, n1, n2, n3, n4]; rfl) rfl ?_
  exact ⟨_, by rw [HCA.out]; rfl, ints_nil _, cap_nil, by (repeat' (first | (with_reducible assumption) | (with_reducible exact HK.out) | (with_reducible exact Keep.refl _ _) | (with_reducible refine Keep.alloc ?_ _) | (with_reducible refine Keep.setCell ?_ _ (fun h => absurd h (by omega))) | (with_reducible refine Keep.drewN ?_ _) | (with_reducible refine Keep.drew ?_)))⟩

set_option maxRecDepth 100000 in
set_option maxHeartbeats 16000000 in
theorem whole_none (w : World) (v : Value) (r : Rw) (h : IsRow w v r) (hc : (chkRow r 12).1 = 0) (h0 : bareL r.of = []) : Calls Try.prog 17 #[v] w (RetRow ⟨[], wholeK r, emptyTo (wholeK r) (wholeT r)⟩ (0, 0) w) := by
  have H := Lib.hid h
  obtain ⟨hcc, hkk, hlen, _, hft⟩ := chk_ok hc
  obtain ⟨sv, rfl, hi, _, _, hcp⟩ := h
  obtain ⟨oa, cap, rfl, hm⟩ := hi.len
  have HI := Lib.hid hi
  have HCP := Lib.hid hcp
  clear hi hcp
  obtain ⟨of, kind, tt⟩ := r
  simp only at *
  obtain ⟨ht1, ht2⟩ := hft
  obtain ⟨K', hK'⟩ : ∃ k, wholeK ⟨of, kind, tt⟩ = k := ⟨_, rfl⟩
  obtain ⟨T', hT'⟩ : ∃ k, wholeT ⟨of, kind, tt⟩ = k := ⟨_, rfl⟩
  rw [hK', hT']
  have HKT : Hid ((kind = 2 → K' = 1 ∧ T' = tt - 1) ∧ (kind ≠ 2 → K' = kind ∧ T' = tt)) := Lib.hid (by
    unfold wholeK at hK'
    unfold wholeT at hT'
    simp only at hK' hT'
    constructor
    · intro h; rw [if_pos h] at hK' hT'; exact ⟨hK'.symm, hT'.symm⟩
    · intro h; rw [if_neg h] at hK' hT'; exact ⟨hK'.symm, hT'.symm⟩)
  have HKK : Hid (K' = 1 ∨ K' = 2 ∨ K' = 3) := Lib.hid (by
    by_cases h : kind = 2
    · exact .inl (HKT.out.1 h).1
    · rw [(HKT.out.2 h).1]; exact hkk)
  have HCA := Lib.hid hcc
  have H0 := Lib.hid h0
  clear hcc hc h0 hK' hT' hkk
  go_enter Try.func17, Try.ntmps17
  go_wp2_with fail
  refine (rowCheck_any _ _ ⟨of, kind, tt⟩ 12 (H.out.keep (by (repeat' (first | (with_reducible assumption) | (with_reducible exact HK.out) | (with_reducible exact Keep.refl _ _) | (with_reducible refine Keep.alloc ?_ _) | (with_reducible refine Keep.setCell ?_ _ (fun h => absurd h (by omega))) | (with_reducible refine Keep.drewN ?_ _) | (with_reducible refine Keep.drew ?_)))))).mono ?_
  rintro e w1 ⟨rfl, hk1⟩
  obtain ⟨B0, B1, B2, hk⟩ := head4 hk1
  have HK1 := Lib.hid hk
  rw [HCA.out]
  obtain ⟨t0, t1, t2, f0, f1, f2, l0⟩ := B0.three
  unfold fV
  have HB0 := Lib.hid B0
  have HB1 := Lib.hid B1
  have HB2 := Lib.hid B2
  clear hk1 hk B0 B1 B2
  have n0 : ¬ w1.heap.size = w.heap.size := by omega
  have n1 : ¬ w.heap.size = w1.heap.size := by omega
  go_upto_if 20 with fail
  go_cut [] (fun wx => Keep NoS w wx ∧ Blk wx w.heap.size #[.slice oa of.length cap, .int .i64 K', .int .i64 T'] ∧ Blk wx (w.heap.size + 1) #[.slice none 0 0, .int .i64 0, .int .i64 0] ∧ Blk wx (w.heap.size + 1 + 1) #[.int .i64 0, .int .i64 0])
  case first =>
    by_cases h2 : kind = 2
    · obtain ⟨rfl, rfl⟩ := HKT.out.1 h2
      subst h2
      go_wp2_with fail
      go_meet
      refine ⟨(keep_at (keep_at HK1.out _ (Nat.le_refl _)) _ (Nat.le_refl _)).alloc _, ?_, ?_, ?_⟩
      · exact Blk.old (by simpa using Blk.set (Blk.set HB0.out 1 (.int .i64 1)) 2 (.int .i64 (tt - 1))) _
      · exact Blk.old ((HB1.out.setOther _ _ (by omega)).setOther _ _ (by omega)) _
      · exact Blk.old ((HB2.out.setOther _ _ (by omega)).setOther _ _ (by omega)) _
    · obtain ⟨rfl, rfl⟩ := HKT.out.2 h2
      have e2 : (K' == 2) = false := by rw [beq_eq_false_iff_ne]; exact h2
      go_wp2_with fail
      go_meet
      exact ⟨HK1.out.alloc _, Blk.old HB0.out _, Blk.old HB1.out _, Blk.old HB2.out _⟩
  case rest =>
    obtain ⟨hk2, hb0, hb1, hb2⟩ := hcut
    obtain ⟨w2, rfl⟩ : ∃ W : World, W = wc := ⟨_, rfl⟩
    have K2 := Lib.hid hk2
    have C0 := Lib.hid hb0
    have C1 := Lib.hid hb1
    have C2 := Lib.hid hb2
    clear t0 t1 t2 f0 f1 f2 l0 n0 n1 hk2 hb1 hb2 HB0 HB1 HB2 HK1
    obtain ⟨t0, t1, t2, _, _, _, l0⟩ := hb0.three
    clear hb0
    go_wp2_with fail
    refine (trimmed_any _ _ of (HI.out.keep K2.out) HCP.out (by omega)).mono ?_
    rintro e w3 ⟨v3, rfl, ho3, hk3⟩
    rw [H0.out] at ho3
    obtain ⟨t0', t1', t2', _, _, _, l0'⟩ := (C0.out.keep hk3).three
    obtain ⟨oc, cc, hv3⟩ := ho3.len
    simp only [List.length_nil] at hv3
    subst hv3
    have HB1' := Lib.hid (C1.out.keep hk3)
    have HB2' := Lib.hid (C2.out.keep hk3)
    have K3 := Lib.hid (K2.out.both hk3)
    clear t0 t1 t2 l0 hk3 ho3 C0 C1 C2 K2
    go_wp2_with fail
    refine (empty_any K' T' _ HKK.out).mono ?_
    rintro e w4 ⟨rfl, hk4⟩
    have HK := Lib.hid (K3.out.both hk4)
    obtain ⟨r0, r1, r2, s0, s1, s2, l1⟩ := (HB1'.out.keep hk4).three
    obtain ⟨p0, p1, p2, p3, l2⟩ := (HB2'.out.keep hk4).two
    unfold emptyV
    clear t0' t1' t2' l0' hk4
    go_wp2
    refine bodyPost_ret (by simp [results, Try.results17, go_sem, r0, r1, r2, l1, l2, p0, p1]; rfl) rfl ?_
    exact ⟨_, rfl, ints_nil _, cap_nil, by (repeat' (first | (with_reducible assumption) | (with_reducible exact HK.out) | (with_reducible exact Keep.refl _ _) | (with_reducible refine Keep.alloc ?_ _) | (with_reducible refine Keep.setCell ?_ _ (fun h => absurd h (by omega))) | (with_reducible refine Keep.drewN ?_ _) | (with_reducible refine Keep.drew ?_)))⟩
end Go.Proofs.Ytihcbmkjfacooaa
