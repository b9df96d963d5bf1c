/- The reference's Row: what is wrong with a row. -/
import Derived.Test.YtihcbmkjfacooaaRowD
namespace Go.Proofs.Ytihcbmkjfacooaa
open Go.ChangeShapes Go.WideShapes Go.RowKit
set_option linter.unusedVariables false
set_option linter.unusedSimpArgs false


set_option maxRecDepth 100000 in
set_option maxHeartbeats 8000000 in
theorem refRow_out (w : World) (v : Value) (r : Rw) (n : Int) (h : IsRow w v r) (hn : n < 0 ∨ 12 < n) :
    Calls Try.prog 19 #[v, .int .i64 n] w fun e w' => e = .returned (fV (3, -1)) ∧ Keep NoS w w' := by
  obtain ⟨sv, rfl, hi, _, _⟩ := h
  obtain ⟨oa, cap, rfl, _⟩ := hi.len
  clear hi
  by_cases h1 : n < 0
  · have e1 : decide (n < 0) = true := dec_t h1
    clear hn h1
    go_enter Try.func19, Try.ntmps19
    go_wp2_with fail
    refine (fault_any 3 (-1) _).mono ?_
    rintro e wf ⟨rfl, hkf⟩
    have HK : Hid (Keep NoS w wf) := Lib.hid (Keep.both (by (repeat' (first | (with_reducible assumption) | (with_reducible exact HK.out) | (with_reducible exact Keep.refl _ _) | (with_reducible refine Keep.alloc ?_ _) | (with_reducible refine Keep.setCell ?_ _ (fun h => absurd h (by omega))) | (with_reducible refine Keep.drewN ?_ _) | (with_reducible refine Keep.drew ?_)))) hkf)
    have B1f : Blk wf (w.heap.size + 1) #[.int .i64 0, .int .i64 0] := Blk.keep (by (repeat (first | (refine blk_at _ _ ?_; simp; done) | (refine Blk.old ?_ _)))) hkf
    obtain ⟨r0, r1, r2, r3, rl⟩ := B1f.two
    have rn : ¬ wf.heap.size = w.heap.size + 1 := by omega
    clear B1f hkf
    unfold fV
    go_wp2
    refine bodyPost_ret (by simp [results, Try.results19, go_sem, r0, r1, rl, rn]; rfl) rfl ?_
    exact ⟨rfl, by (repeat' (first | (with_reducible assumption) | (with_reducible exact HK.out) | (with_reducible exact Keep.refl _ _) | (with_reducible refine Keep.alloc ?_ _) | (with_reducible refine Keep.setCell ?_ _ (fun h => absurd h (by omega))) | (with_reducible refine Keep.drewN ?_ _) | (with_reducible refine Keep.drew ?_)))⟩

  · have e1 : decide (n < 0) = false := dec_f h1
    have e2 : decide (12 < n) = true := dec_t (by omega)
    clear hn h1
    go_enter Try.func19, Try.ntmps19
    go_wp2_with fail
    refine (fault_any 3 (-1) _).mono ?_
    rintro e wf ⟨rfl, hkf⟩
    have HK : Hid (Keep NoS w wf) := Lib.hid (Keep.both (by (repeat' (first | (with_reducible assumption) | (with_reducible exact HK.out) | (with_reducible exact Keep.refl _ _) | (with_reducible refine Keep.alloc ?_ _) | (with_reducible refine Keep.setCell ?_ _ (fun h => absurd h (by omega))) | (with_reducible refine Keep.drewN ?_ _) | (with_reducible refine Keep.drew ?_)))) hkf)
    have B1f : Blk wf (w.heap.size + 1) #[.int .i64 0, .int .i64 0] := Blk.keep (by (repeat (first | (refine blk_at _ _ ?_; simp; done) | (refine Blk.old ?_ _)))) hkf
    obtain ⟨r0, r1, r2, r3, rl⟩ := B1f.two
    have rn : ¬ wf.heap.size = w.heap.size + 1 := by omega
    clear B1f hkf
    unfold fV
    go_wp2
    refine bodyPost_ret (by simp [results, Try.results19, go_sem, r0, r1, rl, rn]; rfl) rfl ?_
    exact ⟨rfl, by (repeat' (first | (with_reducible assumption) | (with_reducible exact HK.out) | (with_reducible exact Keep.refl _ _) | (with_reducible refine Keep.alloc ?_ _) | (with_reducible refine Keep.setCell ?_ _ (fun h => absurd h (by omega))) | (with_reducible refine Keep.drewN ?_ _) | (with_reducible refine Keep.drew ?_)))⟩


set_option maxRecDepth 100000 in
set_option maxHeartbeats 8000000 in
theorem refRow_kind (w : World) (v : Value) (r : Rw) (n : Int) (h : IsRow w v r) (hn : ¬ (n < 0 ∨ 12 < n)) (hk : ¬ (r.kind = 1 ∨ r.kind = 2 ∨ r.kind = 3)) :
    Calls Try.prog 19 #[v, .int .i64 n] w fun e w' => e = .returned (fV (4, 0)) ∧ Keep NoS w w' := by
  obtain ⟨sv, rfl, hi, _, _⟩ := h
  obtain ⟨oa, cap, rfl, _⟩ := hi.len
  clear hi
  obtain ⟨of, kind, tt⟩ := r
  simp only at *
  have e1 : decide (n < 0) = false := dec_f (by omega)
  have e2 : decide (12 < n) = false := dec_f (by omega)
  have f3 : (kind != 1) = true := by rw [bne_iff_ne]; omega
  have f4 : (kind != 2) = true := by rw [bne_iff_ne]; omega
  have f5 : (kind != 3) = true := by rw [bne_iff_ne]; omega
  have e3 : (kind == 1) = false := by rw [beq_eq_false_iff_ne]; omega
  have e4 : (kind == 2) = false := by rw [beq_eq_false_iff_ne]; omega
  have e5 : (kind == 3) = false := by rw [beq_eq_false_iff_ne]; omega
  clear hn hk
  go_enter Try.func19, Try.ntmps19
  go_wp2_with fail
  refine (fault_any 4 0 _).mono ?_
  rintro e wf ⟨rfl, hkf⟩
  have HK : Hid (Keep NoS w wf) := Lib.hid (Keep.both (by (repeat' (first | (with_reducible assumption) | (with_reducible exact HK.out) | (with_reducible exact Keep.refl _ _) | (with_reducible refine Keep.alloc ?_ _) | (with_reducible refine Keep.setCell ?_ _ (fun h => absurd h (by omega))) | (with_reducible refine Keep.drewN ?_ _) | (with_reducible refine Keep.drew ?_)))) hkf)
  have B1f : Blk wf (w.heap.size + 1) #[.int .i64 0, .int .i64 0] := Blk.keep (by (repeat (first | (refine blk_at _ _ ?_; simp; done) | (refine Blk.old ?_ _)))) hkf
  obtain ⟨r0, r1, r2, r3, rl⟩ := B1f.two
  have rn : ¬ wf.heap.size = w.heap.size + 1 := by omega
  clear B1f hkf
  unfold fV
  go_wp2
  refine bodyPost_ret (by simp [results, Try.results19, go_sem, r0, r1, rl, rn]; rfl) rfl ?_
  exact ⟨rfl, by (repeat' (first | (with_reducible assumption) | (with_reducible exact HK.out) | (with_reducible exact Keep.refl _ _) | (with_reducible refine Keep.alloc ?_ _) | (with_reducible refine Keep.setCell ?_ _ (fun h => absurd h (by omega))) | (with_reducible refine Keep.drewN ?_ _) | (with_reducible refine Keep.drew ?_)))⟩


set_option maxRecDepth 100000 in
set_option maxHeartbeats 8000000 in
theorem refRow_size (w : World) (v : Value) (r : Rw) (n : Int) (h : IsRow w v r) (hn : ¬ (n < 0 ∨ 12 < n)) (hk : r.kind = 1 ∨ r.kind = 2 ∨ r.kind = 3) (hl : n < r.of.length) :
    Calls Try.prog 19 #[v, .int .i64 n] w fun e w' => e = .returned (fV (9, 0)) ∧ Keep NoS w w' := by
  obtain ⟨sv, rfl, hi, _, _⟩ := h
  obtain ⟨oa, cap, rfl, hm⟩ := hi.len
  clear hi
  obtain ⟨of, kind, tt⟩ := r
  simp only at *
  have e1 : decide (n < 0) = false := dec_f (by omega)
  have e2 : decide (12 < n) = false := dec_f (by omega)
  have e6 : decide (n < (of.length : Int)) = true := dec_t hl
  unfold maxLen at hm
  clear hn
  rcases hk with rfl | rfl | rfl
  · go_enter Try.func19, Try.ntmps19
    go_wp2_with fail
    refine (fault_any 9 0 _).mono ?_
    rintro e wf ⟨rfl, hkf⟩
    have HK : Hid (Keep NoS w wf) := Lib.hid (Keep.both (by (repeat' (first | (with_reducible assumption) | (with_reducible exact HK.out) | (with_reducible exact Keep.refl _ _) | (with_reducible refine Keep.alloc ?_ _) | (with_reducible refine Keep.setCell ?_ _ (fun h => absurd h (by omega))) | (with_reducible refine Keep.drewN ?_ _) | (with_reducible refine Keep.drew ?_)))) hkf)
    have B1f : Blk wf (w.heap.size + 1) #[.int .i64 0, .int .i64 0] := Blk.keep (by (repeat (first | (refine blk_at _ _ ?_; simp; done) | (refine Blk.old ?_ _)))) hkf
    obtain ⟨r0, r1, r2, r3, rl⟩ := B1f.two
    have rn : ¬ wf.heap.size = w.heap.size + 1 := by omega
    clear B1f hkf
    unfold fV
    go_wp2
    refine bodyPost_ret (by simp [results, Try.results19, go_sem, r0, r1, rl, rn]; rfl) rfl ?_
    exact ⟨rfl, by (repeat' (first | (with_reducible assumption) | (with_reducible exact HK.out) | (with_reducible exact Keep.refl _ _) | (with_reducible refine Keep.alloc ?_ _) | (with_reducible refine Keep.setCell ?_ _ (fun h => absurd h (by omega))) | (with_reducible refine Keep.drewN ?_ _) | (with_reducible refine Keep.drew ?_)))⟩

  · go_enter Try.func19, Try.ntmps19
    go_wp2_with fail
    refine (fault_any 9 0 _).mono ?_
    rintro e wf ⟨rfl, hkf⟩
    have HK : Hid (Keep NoS w wf) := Lib.hid (Keep.both (by (repeat' (first | (with_reducible assumption) | (with_reducible exact HK.out) | (with_reducible exact Keep.refl _ _) | (with_reducible refine Keep.alloc ?_ _) | (with_reducible refine Keep.setCell ?_ _ (fun h => absurd h (by omega))) | (with_reducible refine Keep.drewN ?_ _) | (with_reducible refine Keep.drew ?_)))) hkf)
    have B1f : Blk wf (w.heap.size + 1) #[.int .i64 0, .int .i64 0] := Blk.keep (by (repeat (first | (refine blk_at _ _ ?_; simp; done) | (refine Blk.old ?_ _)))) hkf
    obtain ⟨r0, r1, r2, r3, rl⟩ := B1f.two
    have rn : ¬ wf.heap.size = w.heap.size + 1 := by omega
    clear B1f hkf
    unfold fV
    go_wp2
    refine bodyPost_ret (by simp [results, Try.results19, go_sem, r0, r1, rl, rn]; rfl) rfl ?_
    exact ⟨rfl, by (repeat' (first | (with_reducible assumption) | (with_reducible exact HK.out) | (with_reducible exact Keep.refl _ _) | (with_reducible refine Keep.alloc ?_ _) | (with_reducible refine Keep.setCell ?_ _ (fun h => absurd h (by omega))) | (with_reducible refine Keep.drewN ?_ _) | (with_reducible refine Keep.drew ?_)))⟩

  · go_enter Try.func19, Try.ntmps19
    go_wp2_with fail
    refine (fault_any 9 0 _).mono ?_
    rintro e wf ⟨rfl, hkf⟩
    have HK : Hid (Keep NoS w wf) := Lib.hid (Keep.both (by (repeat' (first | (with_reducible assumption) | (with_reducible exact HK.out) | (with_reducible exact Keep.refl _ _) | (with_reducible refine Keep.alloc ?_ _) | (with_reducible refine Keep.setCell ?_ _ (fun h => absurd h (by omega))) | (with_reducible refine Keep.drewN ?_ _) | (with_reducible refine Keep.drew ?_)))) hkf)
    have B1f : Blk wf (w.heap.size + 1) #[.int .i64 0, .int .i64 0] := Blk.keep (by (repeat (first | (refine blk_at _ _ ?_; simp; done) | (refine Blk.old ?_ _)))) hkf
    obtain ⟨r0, r1, r2, r3, rl⟩ := B1f.two
    have rn : ¬ wf.heap.size = w.heap.size + 1 := by omega
    clear B1f hkf
    unfold fV
    go_wp2
    refine bodyPost_ret (by simp [results, Try.results19, go_sem, r0, r1, rl, rn]; rfl) rfl ?_
    exact ⟨rfl, by (repeat' (first | (with_reducible assumption) | (with_reducible exact HK.out) | (with_reducible exact Keep.refl _ _) | (with_reducible refine Keep.alloc ?_ _) | (with_reducible refine Keep.setCell ?_ _ (fun h => absurd h (by omega))) | (with_reducible refine Keep.drewN ?_ _) | (with_reducible refine Keep.drew ?_)))⟩


set_option maxRecDepth 100000 in
set_option maxHeartbeats 16000000 in
theorem refRow_in1 (w : World) (sv : Value) (of : List Int) (tt n : Int) (hi : IsInts w sv of) (hto : I64 tt) (hn : ¬ (n < 0 ∨ 12 < n)) (hl : ¬ n < of.length) :
    Calls Try.prog 19 #[.agg #[sv, .int .i64 1, .int .i64 tt], .int .i64 n] w fun e w' => e = .returned (fV (firstOut (of ++ [tt]) 0)) ∧ Keep NoS w w' := by
  have HI := Lib.hid hi
  obtain ⟨oa, cap, hsv, hm⟩ := hi.len
  have e1 : decide (n < 0) = false := dec_f (by omega)
  have e2 : decide (12 < n) = false := dec_f (by omega)
  have e6 : decide (n < (of.length : Int)) = false := dec_f hl
  unfold maxLen at hm
  subst hsv
  have hl12 : of.length ≤ 12 := by omega
  clear hn hl hi
  obtain ⟨l, hL⟩ : ∃ l, of ++ [tt] = l := ⟨_, rfl⟩
  have HL := Lib.hid hL
  have HLN : Hid (l.length = of.length + 1) := Lib.hid (by rw [← hL]; simp)
  rw [hL]
  clear hL
  go_enter Try.func19, Try.ntmps19
  go_wp2
  have HK0 := Lib.hid (show Keep NoS w ((w.alloc (.cells #[.slice oa of.length cap, .int .i64 1, .int .i64 tt] 24)).alloc (.cells #[.int .i64 0, .int .i64 0] 26)) by (repeat' (first | (with_reducible assumption) | (with_reducible exact HK.out) | (with_reducible exact Keep.refl _ _) | (with_reducible refine Keep.alloc ?_ _) | (with_reducible refine Keep.setCell ?_ _ (fun h => absurd h (by omega))) | (with_reducible refine Keep.drewN ?_ _) | (with_reducible refine Keep.drew ?_))))
  have B0 := (show Blk ((w.alloc (.cells #[.slice oa of.length cap, .int .i64 1, .int .i64 tt] 24)).alloc (.cells #[.int .i64 0, .int .i64 0] 26)) w.heap.size #[.slice oa of.length cap, .int .i64 1, .int .i64 tt] by (repeat (first | (refine blk_at _ _ ?_; simp; done) | (refine Blk.old ?_ _))))
  have B1 := (show Blk ((w.alloc (.cells #[.slice oa of.length cap, .int .i64 1, .int .i64 tt] 24)).alloc (.cells #[.int .i64 0, .int .i64 0] 26)) (w.heap.size + 1) #[.int .i64 0, .int .i64 0] by (repeat (first | (refine blk_at _ _ ?_; simp; done) | (refine Blk.old ?_ _))))
  have HI0 := Lib.hid (HI.out.keep HK0.out)
  generalize hw0 : ((w.alloc (.cells #[.slice oa of.length cap, .int .i64 1, .int .i64 tt] 24)).alloc (.cells #[.int .i64 0, .int .i64 0] 26)) = w0 at *
  clear hw0
  have p0 := B0.cell 0
  have p2 := B0.cell 2
  simp at p0 p2
  have lt0 := B0.lt
  obtain ⟨s0, s1, s2, s3, s4⟩ := B1.two
  go_loop [5] (fun s => ∃ k : Nat, k ≤ of.length ∧ s = .int .i64 k ∧ firstOut l 0 = firstOut (l.drop k) k) (fun s => (of.length - intOf s).toNat)
  case atStart => exact ⟨0, by omega, rfl, rfl⟩
  case round =>
    obtain ⟨k, hk, rfl, hf⟩ := hrel
    have HF := Lib.hid hf
    clear hf
    by_cases hkl : k < of.length
    · have hlt : (k : Int) < (of.length : Int) := by omega
      obtain ⟨b, o, cp, hsl, hb, hc⟩ := HI0.out.at hkl
      cases hsl
      have hge : l[k]'(by rw [HLN.out]; omega) = of[k] := by
        have := HL.out
        subst this
        exact List.getElem_append_left hkl
      have HIN := Lib.hid (firstOut_in (l := l) (k := k) (i := k) (by rw [HLN.out]; omega))
      have HOUT := Lib.hid (firstOut_out (l := l) (k := k) (i := k) (by rw [HLN.out]; omega))
      rw [hge] at HIN HOUT
      clear hge
      generalize of[k] = x at *
      go_wp2_with fail
      refine (fits_any x _).mono ?_
      rintro e w4 ⟨rfl, rfl⟩
      by_cases hx : fitI x
      · rw [dec_t hx]
        have HN := Lib.hid (HF.out.trans (HIN.out hx))
        clear hx
        go_wp2
        go_round
        case rel => exact ⟨k + 1, by omega, by go_num, HN.out⟩
        case measure => simp [intOf]; omega
      · rw [dec_f hx]
        have HN := Lib.hid (HF.out.trans (HOUT.out hx))
        clear hx
        go_wp2_with fail
        refine (fault_any 3 (k : Int) _).mono ?_
        rintro e wf ⟨rfl, hkf⟩
        have HK : Hid (Keep NoS w wf) := Lib.hid (Keep.both (HK0.out) hkf)
        have B1f : Blk wf (w.heap.size + 1) #[.int .i64 0, .int .i64 0] := Blk.keep (B1) hkf
        obtain ⟨r0, r1, r2, r3, rl⟩ := B1f.two
        have rn : ¬ wf.heap.size = w.heap.size + 1 := by omega
        clear B1f hkf
        unfold fV
        go_wp2
        refine bodyPost_ret (by simp [results, Try.results19, go_sem, r0, r1, rl, rn]; rfl) rfl ?_
        exact ⟨by rw [HN.out]; rfl, by (repeat' (first | (with_reducible assumption) | (with_reducible exact HK.out) | (with_reducible exact Keep.refl _ _) | (with_reducible refine Keep.alloc ?_ _) | (with_reducible refine Keep.setCell ?_ _ (fun h => absurd h (by omega))) | (with_reducible refine Keep.drewN ?_ _) | (with_reducible refine Keep.drew ?_)))⟩
    · have hlt : ¬ (k : Int) < (of.length : Int) := by omega
      obtain rfl : k = of.length := by omega
      have hge : l[of.length]'(by rw [HLN.out]; omega) = tt := by
        have := HL.out
        subst this
        simp
      have HIN := Lib.hid (firstOut_in (l := l) (k := of.length) (i := of.length) (by rw [HLN.out]; omega))
      have HOUT := Lib.hid (firstOut_out (l := l) (k := of.length) (i := of.length) (by rw [HLN.out]; omega))
      rw [hge] at HIN HOUT
      clear hge
      go_wp2_with fail
      refine (fits_any tt _).mono ?_
      rintro e w4 ⟨rfl, rfl⟩
      by_cases hx : fitI tt
      · rw [dec_t hx]
        have HN := Lib.hid ((HF.out.trans (HIN.out hx)).trans (firstOut_end (by rw [HLN.out]; omega)))
        have HK := HK0
        clear hx
        go_wp2
        refine bodyPost_ret (by simp [results, Try.results19, go_sem, s0, s1, s4]; rfl) rfl ?_
        exact ⟨by rw [HN.out]; rfl, by (repeat' (first | (with_reducible assumption) | (with_reducible exact HK.out) | (with_reducible exact Keep.refl _ _) | (with_reducible refine Keep.alloc ?_ _) | (with_reducible refine Keep.setCell ?_ _ (fun h => absurd h (by omega))) | (with_reducible refine Keep.drewN ?_ _) | (with_reducible refine Keep.drew ?_)))⟩
      · rw [dec_f hx]
        have HN := Lib.hid (HF.out.trans (HOUT.out hx))
        clear hx
        go_wp2_with fail
        refine (fault_any 3 (of.length : Int) _).mono ?_
        rintro e wf ⟨rfl, hkf⟩
        have HK : Hid (Keep NoS w wf) := Lib.hid (Keep.both (HK0.out) hkf)
        have B1f : Blk wf (w.heap.size + 1) #[.int .i64 0, .int .i64 0] := Blk.keep (B1) hkf
        obtain ⟨r0, r1, r2, r3, rl⟩ := B1f.two
        have rn : ¬ wf.heap.size = w.heap.size + 1 := by omega
        clear B1f hkf
        unfold fV
        go_wp2
        refine bodyPost_ret (by simp [results, Try.results19, go_sem, r0, r1, rl, rn]; rfl) rfl ?_
        exact ⟨by rw [HN.out]; rfl, by (repeat' (first | (with_reducible assumption) | (with_reducible exact HK.out) | (with_reducible exact Keep.refl _ _) | (with_reducible refine Keep.alloc ?_ _) | (with_reducible refine Keep.setCell ?_ _ (fun h => absurd h (by omega))) | (with_reducible refine Keep.drewN ?_ _) | (with_reducible refine Keep.drew ?_)))⟩

set_option maxRecDepth 100000 in
set_option maxHeartbeats 16000000 in
theorem refRow_in2 (w : World) (sv : Value) (of : List Int) (tt n : Int) (hi : IsInts w sv of) (hto : I64 tt) (hn : ¬ (n < 0 ∨ 12 < n)) (hl : ¬ n < of.length) :
    Calls Try.prog 19 #[.agg #[sv, .int .i64 2, .int .i64 tt], .int .i64 n] w fun e w' => e = .returned (fV (firstOut (of ++ [tt]) 0)) ∧ Keep NoS w w' := by
  have HI := Lib.hid hi
  obtain ⟨oa, cap, hsv, hm⟩ := hi.len
  have e1 : decide (n < 0) = false := dec_f (by omega)
  have e2 : decide (12 < n) = false := dec_f (by omega)
  have e6 : decide (n < (of.length : Int)) = false := dec_f hl
  unfold maxLen at hm
  subst hsv
  have hl12 : of.length ≤ 12 := by omega
  clear hn hl hi
  obtain ⟨l, hL⟩ : ∃ l, of ++ [tt] = l := ⟨_, rfl⟩
  have HL := Lib.hid hL
  have HLN : Hid (l.length = of.length + 1) := Lib.hid (by rw [← hL]; simp)
  rw [hL]
  clear hL
  go_enter Try.func19, Try.ntmps19
  go_wp2
  have HK0 := Lib.hid (show Keep NoS w ((w.alloc (.cells #[.slice oa of.length cap, .int .i64 2, .int .i64 tt] 24)).alloc (.cells #[.int .i64 0, .int .i64 0] 26)) by (repeat' (first | (with_reducible assumption) | (with_reducible exact HK.out) | (with_reducible exact Keep.refl _ _) | (with_reducible refine Keep.alloc ?_ _) | (with_reducible refine Keep.setCell ?_ _ (fun h => absurd h (by omega))) | (with_reducible refine Keep.drewN ?_ _) | (with_reducible refine Keep.drew ?_))))
  have B0 := (show Blk ((w.alloc (.cells #[.slice oa of.length cap, .int .i64 2, .int .i64 tt] 24)).alloc (.cells #[.int .i64 0, .int .i64 0] 26)) w.heap.size #[.slice oa of.length cap, .int .i64 2, .int .i64 tt] by (repeat (first | (refine blk_at _ _ ?_; simp; done) | (refine Blk.old ?_ _))))
  have B1 := (show Blk ((w.alloc (.cells #[.slice oa of.length cap, .int .i64 2, .int .i64 tt] 24)).alloc (.cells #[.int .i64 0, .int .i64 0] 26)) (w.heap.size + 1) #[.int .i64 0, .int .i64 0] by (repeat (first | (refine blk_at _ _ ?_; simp; done) | (refine Blk.old ?_ _))))
  have HI0 := Lib.hid (HI.out.keep HK0.out)
  generalize hw0 : ((w.alloc (.cells #[.slice oa of.length cap, .int .i64 2, .int .i64 tt] 24)).alloc (.cells #[.int .i64 0, .int .i64 0] 26)) = w0 at *
  clear hw0
  have p0 := B0.cell 0
  have p2 := B0.cell 2
  simp at p0 p2
  have lt0 := B0.lt
  obtain ⟨s0, s1, s2, s3, s4⟩ := B1.two
  go_loop [5] (fun s => ∃ k : Nat, k ≤ of.length ∧ s = .int .i64 k ∧ firstOut l 0 = firstOut (l.drop k) k) (fun s => (of.length - intOf s).toNat)
  case atStart => exact ⟨0, by omega, rfl, rfl⟩
  case round =>
    obtain ⟨k, hk, rfl, hf⟩ := hrel
    have HF := Lib.hid hf
    clear hf
    by_cases hkl : k < of.length
    · have hlt : (k : Int) < (of.length : Int) := by omega
      obtain ⟨b, o, cp, hsl, hb, hc⟩ := HI0.out.at hkl
      cases hsl
      have hge : l[k]'(by rw [HLN.out]; omega) = of[k] := by
        have := HL.out
        subst this
        exact List.getElem_append_left hkl
      have HIN := Lib.hid (firstOut_in (l := l) (k := k) (i := k) (by rw [HLN.out]; omega))
      have HOUT := Lib.hid (firstOut_out (l := l) (k := k) (i := k) (by rw [HLN.out]; omega))
      rw [hge] at HIN HOUT
      clear hge
      generalize of[k] = x at *
      go_wp2_with fail
      refine (fits_any x _).mono ?_
      rintro e w4 ⟨rfl, rfl⟩
      by_cases hx : fitI x
      · rw [dec_t hx]
        have HN := Lib.hid (HF.out.trans (HIN.out hx))
        clear hx
        go_wp2
        go_round
        case rel => exact ⟨k + 1, by omega, by go_num, HN.out⟩
        case measure => simp [intOf]; omega
      · rw [dec_f hx]
        have HN := Lib.hid (HF.out.trans (HOUT.out hx))
        clear hx
        go_wp2_with fail
        refine (fault_any 3 (k : Int) _).mono ?_
        rintro e wf ⟨rfl, hkf⟩
        have HK : Hid (Keep NoS w wf) := Lib.hid (Keep.both (HK0.out) hkf)
        have B1f : Blk wf (w.heap.size + 1) #[.int .i64 0, .int .i64 0] := Blk.keep (B1) hkf
        obtain ⟨r0, r1, r2, r3, rl⟩ := B1f.two
        have rn : ¬ wf.heap.size = w.heap.size + 1 := by omega
        clear B1f hkf
        unfold fV
        go_wp2
        refine bodyPost_ret (by simp [results, Try.results19, go_sem, r0, r1, rl, rn]; rfl) rfl ?_
        exact ⟨by rw [HN.out]; rfl, by (repeat' (first | (with_reducible assumption) | (with_reducible exact HK.out) | (with_reducible exact Keep.refl _ _) | (with_reducible refine Keep.alloc ?_ _) | (with_reducible refine Keep.setCell ?_ _ (fun h => absurd h (by omega))) | (with_reducible refine Keep.drewN ?_ _) | (with_reducible refine Keep.drew ?_)))⟩
    · have hlt : ¬ (k : Int) < (of.length : Int) := by omega
      obtain rfl : k = of.length := by omega
      have hge : l[of.length]'(by rw [HLN.out]; omega) = tt := by
        have := HL.out
        subst this
        simp
      have HIN := Lib.hid (firstOut_in (l := l) (k := of.length) (i := of.length) (by rw [HLN.out]; omega))
      have HOUT := Lib.hid (firstOut_out (l := l) (k := of.length) (i := of.length) (by rw [HLN.out]; omega))
      rw [hge] at HIN HOUT
      clear hge
      go_wp2_with fail
      refine (fits_any tt _).mono ?_
      rintro e w4 ⟨rfl, rfl⟩
      by_cases hx : fitI tt
      · rw [dec_t hx]
        have HN := Lib.hid ((HF.out.trans (HIN.out hx)).trans (firstOut_end (by rw [HLN.out]; omega)))
        have HK := HK0
        clear hx
        go_wp2
        refine bodyPost_ret (by simp [results, Try.results19, go_sem, s0, s1, s4]; rfl) rfl ?_
        exact ⟨by rw [HN.out]; rfl, by (repeat' (first | (with_reducible assumption) | (with_reducible exact HK.out) | (with_reducible exact Keep.refl _ _) | (with_reducible refine Keep.alloc ?_ _) | (with_reducible refine Keep.setCell ?_ _ (fun h => absurd h (by omega))) | (with_reducible refine Keep.drewN ?_ _) | (with_reducible refine Keep.drew ?_)))⟩
      · rw [dec_f hx]
        have HN := Lib.hid (HF.out.trans (HOUT.out hx))
        clear hx
        go_wp2_with fail
        refine (fault_any 3 (of.length : Int) _).mono ?_
        rintro e wf ⟨rfl, hkf⟩
        have HK : Hid (Keep NoS w wf) := Lib.hid (Keep.both (HK0.out) hkf)
        have B1f : Blk wf (w.heap.size + 1) #[.int .i64 0, .int .i64 0] := Blk.keep (B1) hkf
        obtain ⟨r0, r1, r2, r3, rl⟩ := B1f.two
        have rn : ¬ wf.heap.size = w.heap.size + 1 := by omega
        clear B1f hkf
        unfold fV
        go_wp2
        refine bodyPost_ret (by simp [results, Try.results19, go_sem, r0, r1, rl, rn]; rfl) rfl ?_
        exact ⟨by rw [HN.out]; rfl, by (repeat' (first | (with_reducible assumption) | (with_reducible exact HK.out) | (with_reducible exact Keep.refl _ _) | (with_reducible refine Keep.alloc ?_ _) | (with_reducible refine Keep.setCell ?_ _ (fun h => absurd h (by omega))) | (with_reducible refine Keep.drewN ?_ _) | (with_reducible refine Keep.drew ?_)))⟩

set_option maxRecDepth 100000 in
set_option maxHeartbeats 16000000 in
theorem refRow_in3 (w : World) (sv : Value) (of : List Int) (tt n : Int) (hi : IsInts w sv of) (hto : I64 tt) (hn : ¬ (n < 0 ∨ 12 < n)) (hl : ¬ n < of.length) :
    Calls Try.prog 19 #[.agg #[sv, .int .i64 3, .int .i64 tt], .int .i64 n] w fun e w' => e = .returned (fV (firstOut (of ++ [tt]) 0)) ∧ Keep NoS w w' := by
  have HI := Lib.hid hi
  obtain ⟨oa, cap, hsv, hm⟩ := hi.len
  have e1 : decide (n < 0) = false := dec_f (by omega)
  have e2 : decide (12 < n) = false := dec_f (by omega)
  have e6 : decide (n < (of.length : Int)) = false := dec_f hl
  unfold maxLen at hm
  subst hsv
  have hl12 : of.length ≤ 12 := by omega
  clear hn hl hi
  obtain ⟨l, hL⟩ : ∃ l, of ++ [tt] = l := ⟨_, rfl⟩
  have HL := Lib.hid hL
  have HLN : Hid (l.length = of.length + 1) := Lib.hid (by rw [← hL]; simp)
  rw [hL]
  clear hL
  go_enter Try.func19, Try.ntmps19
  go_wp2
  have HK0 := Lib.hid (show Keep NoS w ((w.alloc (.cells #[.slice oa of.length cap, .int .i64 3, .int .i64 tt] 24)).alloc (.cells #[.int .i64 0, .int .i64 0] 26)) by (repeat' (first | (with_reducible assumption) | (with_reducible exact HK.out) | (with_reducible exact Keep.refl _ _) | (with_reducible refine Keep.alloc ?_ _) | (with_reducible refine Keep.setCell ?_ _ (fun h => absurd h (by omega))) | (with_reducible refine Keep.drewN ?_ _) | (with_reducible refine Keep.drew ?_))))
  have B0 := (show Blk ((w.alloc (.cells #[.slice oa of.length cap, .int .i64 3, .int .i64 tt] 24)).alloc (.cells #[.int .i64 0, .int .i64 0] 26)) w.heap.size #[.slice oa of.length cap, .int .i64 3, .int .i64 tt] by (repeat (first | (refine blk_at _ _ ?_; simp; done) | (refine Blk.old ?_ _))))
  have B1 := (show Blk ((w.alloc (.cells #[.slice oa of.length cap, .int .i64 3, .int .i64 tt] 24)).alloc (.cells #[.int .i64 0, .int .i64 0] 26)) (w.heap.size + 1) #[.int .i64 0, .int .i64 0] by (repeat (first | (refine blk_at _ _ ?_; simp; done) | (refine Blk.old ?_ _))))
  have HI0 := Lib.hid (HI.out.keep HK0.out)
  generalize hw0 : ((w.alloc (.cells #[.slice oa of.length cap, .int .i64 3, .int .i64 tt] 24)).alloc (.cells #[.int .i64 0, .int .i64 0] 26)) = w0 at *
  clear hw0
  have p0 := B0.cell 0
  have p2 := B0.cell 2
  simp at p0 p2
  have lt0 := B0.lt
  obtain ⟨s0, s1, s2, s3, s4⟩ := B1.two
  go_loop [5] (fun s => ∃ k : Nat, k ≤ of.length ∧ s = .int .i64 k ∧ firstOut l 0 = firstOut (l.drop k) k) (fun s => (of.length - intOf s).toNat)
  case atStart => exact ⟨0, by omega, rfl, rfl⟩
  case round =>
    obtain ⟨k, hk, rfl, hf⟩ := hrel
    have HF := Lib.hid hf
    clear hf
    by_cases hkl : k < of.length
    · have hlt : (k : Int) < (of.length : Int) := by omega
      obtain ⟨b, o, cp, hsl, hb, hc⟩ := HI0.out.at hkl
      cases hsl
      have hge : l[k]'(by rw [HLN.out]; omega) = of[k] := by
        have := HL.out
        subst this
        exact List.getElem_append_left hkl
      have HIN := Lib.hid (firstOut_in (l := l) (k := k) (i := k) (by rw [HLN.out]; omega))
      have HOUT := Lib.hid (firstOut_out (l := l) (k := k) (i := k) (by rw [HLN.out]; omega))
      rw [hge] at HIN HOUT
      clear hge
      generalize of[k] = x at *
      go_wp2_with fail
      refine (fits_any x _).mono ?_
      rintro e w4 ⟨rfl, rfl⟩
      by_cases hx : fitI x
      · rw [dec_t hx]
        have HN := Lib.hid (HF.out.trans (HIN.out hx))
        clear hx
        go_wp2
        go_round
        case rel => exact ⟨k + 1, by omega, by go_num, HN.out⟩
        case measure => simp [intOf]; omega
      · rw [dec_f hx]
        have HN := Lib.hid (HF.out.trans (HOUT.out hx))
        clear hx
        go_wp2_with fail
        refine (fault_any 3 (k : Int) _).mono ?_
        rintro e wf ⟨rfl, hkf⟩
        have HK : Hid (Keep NoS w wf) := Lib.hid (Keep.both (HK0.out) hkf)
        have B1f : Blk wf (w.heap.size + 1) #[.int .i64 0, .int .i64 0] := Blk.keep (B1) hkf
        obtain ⟨r0, r1, r2, r3, rl⟩ := B1f.two
        have rn : ¬ wf.heap.size = w.heap.size + 1 := by omega
        clear B1f hkf
        unfold fV
        go_wp2
        refine bodyPost_ret (by simp [results, Try.results19, go_sem, r0, r1, rl, rn]; rfl) rfl ?_
        exact ⟨by rw [HN.out]; rfl, by (repeat' (first | (with_reducible assumption) | (with_reducible exact HK.out) | (with_reducible exact Keep.refl _ _) | (with_reducible refine Keep.alloc ?_ _) | (with_reducible refine Keep.setCell ?_ _ (fun h => absurd h (by omega))) | (with_reducible refine Keep.drewN ?_ _) | (with_reducible refine Keep.drew ?_)))⟩
    · have hlt : ¬ (k : Int) < (of.length : Int) := by omega
      obtain rfl : k = of.length := by omega
      have hge : l[of.length]'(by rw [HLN.out]; omega) = tt := by
        have := HL.out
        subst this
        simp
      have HIN := Lib.hid (firstOut_in (l := l) (k := of.length) (i := of.length) (by rw [HLN.out]; omega))
      have HOUT := Lib.hid (firstOut_out (l := l) (k := of.length) (i := of.length) (by rw [HLN.out]; omega))
      rw [hge] at HIN HOUT
      clear hge
      go_wp2_with fail
      refine (fits_any tt _).mono ?_
      rintro e w4 ⟨rfl, rfl⟩
      by_cases hx : fitI tt
      · rw [dec_t hx]
        have HN := Lib.hid ((HF.out.trans (HIN.out hx)).trans (firstOut_end (by rw [HLN.out]; omega)))
        have HK := HK0
        clear hx
        go_wp2
        refine bodyPost_ret (by simp [results, Try.results19, go_sem, s0, s1, s4]; rfl) rfl ?_
        exact ⟨by rw [HN.out]; rfl, by (repeat' (first | (with_reducible assumption) | (with_reducible exact HK.out) | (with_reducible exact Keep.refl _ _) | (with_reducible refine Keep.alloc ?_ _) | (with_reducible refine Keep.setCell ?_ _ (fun h => absurd h (by omega))) | (with_reducible refine Keep.drewN ?_ _) | (with_reducible refine Keep.drew ?_)))⟩
      · rw [dec_f hx]
        have HN := Lib.hid (HF.out.trans (HOUT.out hx))
        clear hx
        go_wp2_with fail
        refine (fault_any 3 (of.length : Int) _).mono ?_
        rintro e wf ⟨rfl, hkf⟩
        have HK : Hid (Keep NoS w wf) := Lib.hid (Keep.both (HK0.out) hkf)
        have B1f : Blk wf (w.heap.size + 1) #[.int .i64 0, .int .i64 0] := Blk.keep (B1) hkf
        obtain ⟨r0, r1, r2, r3, rl⟩ := B1f.two
        have rn : ¬ wf.heap.size = w.heap.size + 1 := by omega
        clear B1f hkf
        unfold fV
        go_wp2
        refine bodyPost_ret (by simp [results, Try.results19, go_sem, r0, r1, rl, rn]; rfl) rfl ?_
        exact ⟨by rw [HN.out]; rfl, by (repeat' (first | (with_reducible assumption) | (with_reducible exact HK.out) | (with_reducible exact Keep.refl _ _) | (with_reducible refine Keep.alloc ?_ _) | (with_reducible refine Keep.setCell ?_ _ (fun h => absurd h (by omega))) | (with_reducible refine Keep.drewN ?_ _) | (with_reducible refine Keep.drew ?_)))⟩

theorem refRow_any (w : World) (v : Value) (r : Rw) (n : Int) (h : IsRow w v r) :
    Calls Try.prog 19 #[v, .int .i64 n] w fun e w' => e = .returned (fV (chkRow r n)) ∧ Keep NoS w w' := by
  unfold chkRow
  by_cases hn : n < 0 ∨ 12 < n
  · rw [if_pos hn]; exact refRow_out w v r n h hn
  rw [if_neg hn]
  by_cases hk : r.kind = 1 ∨ r.kind = 2 ∨ r.kind = 3
  · rw [if_neg (not_not_intro hk)]
    by_cases hl : n < r.of.length
    · rw [if_pos hl]; exact refRow_size w v r n h hn hk hl
    · rw [if_neg hl]
      obtain ⟨of, kind, tt⟩ := r
      obtain ⟨sv, rfl, hi, _, ht, _⟩ := h
      simp only at *
      rcases hk with rfl | rfl | rfl
      · exact refRow_in1 w sv of tt n hi ht hn hl
      · exact refRow_in2 w sv of tt n hi ht hn hl
      · exact refRow_in3 w sv of tt n hi ht hn hl
  · rw [if_pos hk]; exact refRow_kind w v r n h hn hk
end Go.Proofs.Ytihcbmkjfacooaa
