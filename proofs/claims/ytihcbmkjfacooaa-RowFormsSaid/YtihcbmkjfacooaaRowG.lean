/- Package row's turned: the walk. -/
import Derived.Test.YtihcbmkjfacooaaRowF
namespace Go.Proofs.Ytihcbmkjfacooaa
open Go.ChangeShapes Go.WideShapes Go.RowKit
set_option linter.unusedVariables false
set_option linter.unusedSimpArgs false

/-- A row of the call's own numbers. -/
abbrev rowV (g n cap : Nat) (k t : Int) : Value := .agg #[.slice (some ⟨g, 0, none⟩) n cap, .int .i64 k, .int .i64 t]

theorem Blk.three {w : World} {k : Nat} {x y z : Value} (h : Blk w k #[x, y, z]) :
    w.cell? ⟨k, 0, none⟩ = some x ∧ w.cell? ⟨k, 1, none⟩ = some y ∧ w.cell? ⟨k, 2, none⟩ = some z ∧ w.frozen? ⟨k, 0, none⟩ = false ∧ w.frozen? ⟨k, 1, none⟩ = false ∧ w.frozen? ⟨k, 2, none⟩ = false ∧ k < w.heap.size :=
  ⟨h.cell 0, h.cell 1, h.cell 2, h.free 0, h.free 1, h.free 2, h.lt⟩

theorem keep_at {w0 w : World} (h : Keep NoS w0 w) {b i : Nat} (v : Value) (hb : w0.heap.size ≤ b) : Keep NoS w0 (w.setCell ⟨b, i, none⟩ v) := h.setCell _ fun hh => absurd hh (by omega)

set_option maxRecDepth 100000 in
set_option maxHeartbeats 16000000 in
theorem turned_any (w0 w : World) (g cap : Nat) (xs : List Int) (k t : Int) (hk0 : Keep NoS w0 w) (hg : w0.heap.size ≤ g) (hb : IntBlk w g xs) (h0 : 0 < xs.length) (hl : xs.length ≤ 12) (hx : ∀ x ∈ xs, -9000000 ≤ x ∧ x ≤ 9000000) (ht : -9000000 ≤ t ∧ t ≤ 9000000)
    (hnz : ∃ i, i < xs.length ∧ xs.getD i 0 ≠ 0) :
    Calls Try.prog 56 #[rowV g xs.length cap k t] w fun e w' => e = .returned (rowV g xs.length cap k (turnTo k xs t)) ∧ Keep NoS w0 w' ∧ IntBlk w' g (turnOf k xs) := by
  have HB := Lib.hid hb
  have HG := Lib.hid hg
  have hgl := hb.lt
  have hi64 : ∀ x ∈ xs, I64 x := fun x h => by have := hx x h; unfold I64; omega
  have HI := Lib.hid (hb.ints cap (by unfold maxLen; omega) hi64)
  have HX := Lib.hid hx
  have HNZ := Lib.hid hnz
  have K0 := Lib.hid hk0
  obtain ⟨ht1, ht2⟩ := ht
  clear hx hnz hk0 hb hi64 hg
  go_enter Try.func56, Try.ntmps56
  go_wp2_with fail
  have k1 : Keep NoS w ((w.alloc (.cells #[.slice (some ⟨g, 0, none⟩) xs.length cap, .int .i64 k, .int .i64 t] 24)).alloc (.cells #[.slice none 0 0, .int .i64 0, .int .i64 0] 24)) := by (repeat' (first | (with_reducible assumption) | (with_reducible exact HK.out) | (with_reducible exact Keep.refl _ _) | (with_reducible refine Keep.alloc ?_ _) | (with_reducible refine Keep.setCell ?_ _ (fun h => absurd h (by omega))) | (with_reducible refine Keep.drewN ?_ _) | (with_reducible refine Keep.drew ?_)))
  have b0 : Blk ((w.alloc (.cells #[.slice (some ⟨g, 0, none⟩) xs.length cap, .int .i64 k, .int .i64 t] 24)).alloc (.cells #[.slice none 0 0, .int .i64 0, .int .i64 0] 24)) w.heap.size #[.slice (some ⟨g, 0, none⟩) xs.length cap, .int .i64 k, .int .i64 t] := by (repeat (first | (refine blk_at _ _ ?_; simp; done) | (refine Blk.old ?_ _)))
  have b1 : Blk ((w.alloc (.cells #[.slice (some ⟨g, 0, none⟩) xs.length cap, .int .i64 k, .int .i64 t] 24)).alloc (.cells #[.slice none 0 0, .int .i64 0, .int .i64 0] 24)) (w.heap.size + 1) #[.slice none 0 0, .int .i64 0, .int .i64 0] := by (repeat (first | (refine blk_at _ _ ?_; simp; done) | (refine Blk.old ?_ _)))
  refine (indexNZ_any _ _ xs (HI.out.keep k1) (by omega)).mono ?_
  rintro e w1 ⟨⟨z, rfl, hz⟩, rfl⟩
  have K1 := Lib.hid (K0.out.both k1)
  have HB1 := Lib.hid (HB.out.keep k1)
  have HI1 := Lib.hid (HI.out.keep k1)
  have hs := K0.out.size
  generalize (w.alloc (.cells #[.slice (some ⟨g, 0, none⟩) xs.length cap, .int .i64 k, .int .i64 t] 24)).alloc (.cells #[.slice none 0 0, .int .i64 0, .int .i64 0] 24) = w1 at *
  obtain ⟨i, rfl, hil, hiz, hib⟩ : ∃ i : Nat, z = i ∧ i < xs.length ∧ xs.getD i 0 ≠ 0 ∧ ∀ j, j < i → xs.getD j 0 = 0 := by
    rcases hz with h | h
    · exact h
    · obtain ⟨i, h1, h2⟩ := HNZ.out
      exact absurd (h i h1) h2
  have HSG := Lib.hid (sgnL_at hil hiz hib)
  obtain ⟨p0, p1, p2, q0, q1, q2, l0⟩ := b0.three
  obtain ⟨r0, r1, r2, s0, s1, s2, l1⟩ := b1.three
  have ci := HB1.out.cell hil
  have hxi := HX.out (xs.getD i 0) (by rw [List.getD_eq_getElem?_getD, List.getElem?_eq_getElem hil]; exact List.getElem_mem hil)
  have gl1 := HB1.out.lt
  have hii : (i : Int) < (xs.length : Int) := by omega
  clear hz k1 hiz hib HNZ
  obtain ⟨x, hX⟩ : ∃ x, xs.getD i 0 = x := ⟨_, rfl⟩
  rw [hX] at HSG ci hxi
  clear hX
  by_cases hk : k = 3
  · subst hk
    by_cases hx0 : x < 0
    · have HT : Hid (turnQ 3 xs) := Lib.hid ⟨rfl, by rw [HSG.out, Int.sign_neg_iff]; exact hx0⟩
      have e1 : decide (x < 0) = true := dec_t hx0
      have B0 := Lib.hid b0
      have B1 := Lib.hid b1
      clear hx0 b0 b1
      go_wp2
      clear p0 p1 p2 q0 q1 q2 r0 r1 r2 s0 s1 s2 ci
      go_loopw [22] (fun s wr => ∃ j : Nat, j ≤ xs.length ∧ s = .int .i64 j ∧ Keep NoS w0 wr ∧ IntBlk wr g (negs xs j) ∧ Blk wr w.heap.size #[.slice (some ⟨g, 0, none⟩) xs.length cap, .int .i64 3, .int .i64 t] ∧ Blk wr (w.heap.size + 1) #[.slice none 0 0, .int .i64 0, .int .i64 0]) (fun s _ => (xs.length - intOf s).toNat)
      case atStart => exact ⟨0, by omega, rfl, K1.out, by simpa [negs] using HB1.out, B0.out, B1.out⟩
      case round =>
        obtain ⟨j, hj, rfl, hkr, hbr, hb0, hb1⟩ := hrel
        have HKR := Lib.hid hkr
        have HBR := Lib.hid hbr
        have HB0 := Lib.hid hb0
        have HB2 := Lib.hid hb1
        obtain ⟨p0, p1, p2, q0, q1, q2, l0⟩ := hb0.three
        obtain ⟨r0, r1, r2, s0, s1, s2, l1⟩ := hb1.three
        have glr := hbr.lt
        by_cases hjl : j < xs.length
        · have hlt : (j : Int) < (xs.length : Int) := by omega
          have cj := hbr.cell (i := j) (by rw [negs_len]; exact hjl)
          rw [negs_at xs j hjl] at cj
          have fj := hbr.free j
          have hxj := HX.out (xs.getD j 0) (by rw [List.getD_eq_getElem?_getD, List.getElem?_eq_getElem hjl]; exact List.getElem_mem hjl)
          have HS := Lib.hid (negs_set xs j hjl)
          obtain ⟨y, hY⟩ : ∃ y, xs.getD j 0 = y := ⟨_, rfl⟩
          rw [hY] at cj hxj HS
          obtain ⟨hy1, hy2⟩ := hxj
          clear hY hkr hbr hb0 hb1
          go_wp2
          refine wp_region_by (fun w' => Keep NoS wr w') [10] [([0, 1, 2, 3, 4, 5, 6, 7, 8, 9], 10)] [] (by kernel_rfl) (by kernel_rfl) (by (repeat' (first | (with_reducible assumption) | (with_reducible exact HK.out) | (with_reducible exact Keep.refl _ _) | (with_reducible refine Keep.alloc ?_ _) | (with_reducible refine Keep.setCell ?_ _ (fun h => absurd h (by omega))) | (with_reducible refine Keep.drewN ?_ _) | (with_reducible refine Keep.drew ?_)))) ?_
          intro X W hne hF hcl
          have hx0 := fun z => ((hF z).cell l0).trans p0
          have hx1 := fun z => ((hF z).cell glr).trans cj
          clear hF hcl
          simp only [wpPlan, pickOps, List.getElem?_toArray, List.getElem?_cons_zero, List.getElem?_cons_succ, clsOf, Bool.false_eq_true, if_false]
          (repeat (quiet_step (fail))); refine wpQuiet_nil ?_
          refine wpOp_at (by simp only [List.getElem?_toArray, List.getElem?_cons_zero, List.getElem?_cons_succ]; rfl) (by rfl) (fun K hK => ?_)
          go_simp
          refine hK _ _ ⟨fun h => (by simp at h), ?_⟩
          clear hK K hx0 hx1
          (repeat (quiet_step (fail))); refine wpQuiet_nil ?_
          refine NoPanic.normal ?_
          go_wp2
          go_roundw
          case rel =>
            have hng : ¬ w.heap.size = g := by omega
            have hng1 : ¬ w.heap.size + 1 = g := by omega
            refine ⟨j + 1, by omega, by go_num, (keep_at HKR.out _ HG.out).drew, ?_, ?_, ?_⟩
            · rw [← HS.out]
              exact IntBlk.keep (IntBlk.set HBR.out (-y)) (Keep.refl _ _).drew
            · exact Blk.keep (HB0.out.setOther j _ hng) (Keep.refl _ _).drew
            · exact Blk.keep (HB2.out.setOther j _ hng1) (Keep.refl _ _).drew
          case measure => simp [intOf]; omega
        · have hlt : ¬ (j : Int) < (xs.length : Int) := by omega
          obtain rfl : j = xs.length := by omega
          have HV : Hid (turnTo 3 xs t = -t ∧ turnOf 3 xs = xs.map fun x => -x) := Lib.hid ⟨if_pos HT.out, if_pos HT.out⟩
          rw [negs_all] at HBR
          clear hkr hbr hb0 hb1
          go_wp2
          rw [HV.out.1]
          refine bodyPost_ret (by simp [results, Try.results56, go_sem, p0, p1, p2, q0, q1, q2, r0, r1, r2, l0, l1]; rfl) rfl ?_
          refine ⟨rfl, ?_, ?_⟩
          · repeat' (first | (with_reducible exact HKR.out) | with_reducible refine keep_at ?_ _ (by omega))
          · rw [HV.out.2]
            repeat' (first | (with_reducible exact HBR.out) | with_reducible refine IntBlk.setOther ?_ _ _ (by omega))
    · have HV : Hid (turnTo 3 xs t = t ∧ turnOf 3 xs = xs) := Lib.hid (by
        have : ¬ turnQ 3 xs := fun h => by have := h.2; rw [HSG.out, Int.sign_neg_iff] at this; exact hx0 this
        exact ⟨if_neg this, if_neg this⟩)
      have e1 : decide (x < 0) = false := dec_f hx0
      clear hx0 b0 b1
      go_wp2
      rw [HV.out.1]
      refine bodyPost_ret (by simp [results, Try.results56, go_sem, p0, p1, p2, q0, q1, q2, r0, r1, r2, l0, l1]; rfl) rfl ?_
      refine ⟨rfl, ?_, ?_⟩
      · repeat' (first | (with_reducible exact K1.out) | with_reducible refine keep_at ?_ _ (by omega))
      · rw [HV.out.2]
        repeat' (first | (with_reducible exact HB1.out) | with_reducible refine IntBlk.setOther ?_ _ _ (by omega))
  · have HV : Hid (turnTo k xs t = t ∧ turnOf k xs = xs) := Lib.hid (by
      have : ¬ turnQ k xs := fun h => hk h.1
      exact ⟨if_neg this, if_neg this⟩)
    have e1 : (k == 3) = false := by rw [beq_eq_false_iff_ne]; exact hk
    clear hk b0 b1
    go_wp2
    rw [HV.out.1]
    refine bodyPost_ret (by simp [results, Try.results56, go_sem, p0, p1, p2, q0, q1, q2, r0, r1, r2, l0, l1]; rfl) rfl ?_
    refine ⟨rfl, ?_, ?_⟩
    · repeat' (first | (with_reducible exact K1.out) | with_reducible refine keep_at ?_ _ (by omega))
    · rw [HV.out.2]
      repeat' (first | (with_reducible exact HB1.out) | with_reducible refine IntBlk.setOther ?_ _ _ (by omega))
end Go.Proofs.Ytihcbmkjfacooaa
