/- The reference's Times. -/
import Derived.Test.YtihcbmkjfacooaaListB
import Derived.Test.YtihcbmkjfacooaaFkA
import Derived.Test.YtihcbmkjfacooaaPtAA
namespace Go.Proofs.Ytihcbmkjfacooaa
open Go.ChangeShapes Go.WideShapes Go.RowKit
set_option linter.unusedVariables false
set_option linter.unusedSimpArgs false

set_option maxRecDepth 100000 in
set_option maxHeartbeats 8000000 in
theorem refTimes_any (w : World) (v : Value) (rows : List Rw) (n : Int) (vt : Value) (times : List Fq) (h : IsRows w v rows) (hn : I64 n) (ht : IsFracs w vt times) :
    Calls Try.prog 29 #[v, .int .i64 n, vt] w fun e w' => e = .returned (fV (farkF rows n times)) ∧ Keep NoS w w' := by
  have CH := fun w' (k : Keep NoS w w') => Lib.hid (refRows_any w' v rows n (h.keep k) hn)
  have HN := Lib.hid ht
  have HP : Hid (farkF rows n times = if (listF rows n).1 ≠ 0 then listF rows n else if times.length ≠ rows.length then (9, 0) else firstBad times 0) := Lib.hid rfl
  have HLO : Hid ((listF rows n).1 = 0 → listF rows n = (0, 0)) := Lib.hid fun h0 => by
    have hf : (farkF rows n (List.replicate rows.length ⟨0, 1⟩)).1 = (firstBad (List.replicate rows.length ⟨0, 1⟩) 0).1 := by unfold farkF; rw [if_neg (by simp [h0]), if_neg (by simp)]
    unfold listF at h0 ⊢
    by_cases h1 : n < 0 ∨ 12 < n
    · rw [if_pos h1] at h0; simp at h0
    · rw [if_neg h1] at h0 ⊢
      by_cases h2 : 40 < rows.length
      · rw [if_pos h2] at h0; simp at h0
      · rw [if_neg h2] at h0 ⊢
        exact (firstRow_all h0).1
  generalize farkF rows n times = pf at *
  generalize listF rows n = c at *
  obtain ⟨c1, c2⟩ := c
  obtain ⟨oa, ca, rfl, _, hma⟩ := h.len
  obtain ⟨ot, ct, rfl, _, hmt⟩ := ht.len
  unfold maxLen at hma hmt
  unfold fV at CH ⊢
  simp only at CH HP HLO
  clear h ht
  go_enter Try.func29, Try.ntmps29
  go_wp2_with fail
  refine (CH _ (by (repeat' (first | (with_reducible assumption) | (with_reducible exact HK.out) | (with_reducible exact Keep.refl _ _) | (with_reducible refine Keep.alloc ?_ _) | (with_reducible refine Keep.setCell ?_ _ (fun h => absurd h (by omega))) | (with_reducible refine Keep.drewN ?_ _) | (with_reducible refine Keep.drew ?_))))).out.mono ?_
  rintro e w1 ⟨rfl, hk1⟩
  have B4 : Blk w1 w.heap.size #[.int .i64 0, .int .i64 0] := Blk.keep (by (repeat (first | (with_reducible assumption) | (refine blk_at _ _ ?_; simp; done) | (refine Blk.old ?_ _)))) hk1
  have K1 : Hid (Keep NoS w w1) := Lib.hid (Keep.both (by (repeat' (first | (with_reducible assumption) | (with_reducible exact HK.out) | (with_reducible exact Keep.refl _ _) | (with_reducible refine Keep.alloc ?_ _) | (with_reducible refine Keep.setCell ?_ _ (fun h => absurd h (by omega))) | (with_reducible refine Keep.drewN ?_ _) | (with_reducible refine Keep.drew ?_)))) hk1)
  have h45 : w.heap.size ≠ w1.heap.size := by have := B4.lt; omega
  have HB4 := Lib.hid (B4.old (.cells #[.int .i64 c1, .int .i64 c2] 26))
  have HB5 : Hid (Blk (w1.alloc (.cells #[.int .i64 c1, .int .i64 c2] 26)) w1.heap.size #[.int .i64 c1, .int .i64 c2]) := Lib.hid (blk_at _ _ rfl)
  have HK0 : Hid (Keep NoS w (w1.alloc (.cells #[.int .i64 c1, .int .i64 c2] 26))) := Lib.hid (K1.out.alloc _)
  have HS5 : Hid (w.heap.size ≤ w1.heap.size) := Lib.hid K1.out.size
  clear hk1 CH B4 K1
  by_cases hc : c1 = 0
  case neg =>
    have e1 : (c1 == 0) = false := by rw [beq_eq_false_iff_ne]; exact hc
    have hpf := HP.out
    rw [if_pos hc] at hpf
    have HPS : Hid (c1 ≠ 0 ∧ pf = (c1, c2) ∨ (c1, c2) = (0, 0) ∧ pf = firstBad (times.drop 0) 0) := Lib.hid (.inl ⟨hc, hpf⟩)
    clear hpf HP hc HLO
    go_wp2_with fail
    clear e1
    generalize w1.alloc (.cells #[.int .i64 c1, .int .i64 c2] 26) = w2 at *
    generalize w1.heap.size = b5 at *
    generalize hb4 : w.heap.size = b4 at HB4 h45 ⊢
    have HS4 : Hid (w.heap.size ≤ b4) := Lib.hid (by omega)
    clear hb4
    go_loopw [8] (fun s wr => ∃ k : Nat, ∃ f1 f2 : Int, k ≤ times.length ∧ s = .int .i64 k ∧ Keep NoS w wr ∧ Blk wr b4 #[.int .i64 0, .int .i64 0] ∧ Blk wr b5 #[.int .i64 f1, .int .i64 f2] ∧ (f1 ≠ 0 ∧ pf = (f1, f2) ∨ (f1, f2) = (0, 0) ∧ pf = firstBad (times.drop k) k)) (fun s _ => (times.length - intOf s).toNat)
    case atStart => exact ⟨0, c1, c2, by omega, rfl, HK0.out, HB4.out, HB5.out, HPS.out⟩
    case round =>
      obtain ⟨k, f1, f2, hk, rfl, hkr, hb4, hb5, hp⟩ := hrel
      have HKR := Lib.hid hkr
      have HB4 := Lib.hid hb4
      have HB5 := Lib.hid hb5
      clear hkr hb4 hb5 HK0
      by_cases hend : k < times.length ∧ f1 = 0
      · obtain ⟨hkl, rfl⟩ := hend
        rcases hp with ⟨h0, _⟩ | ⟨hf, hp⟩
        · exact absurd rfl h0
        have HPK := Lib.hid hp
        obtain rfl : f2 = 0 := congrArg Prod.snd hf
        clear hf hp
        have hlt : (k : Int) < (times.length : Int) := by omega
        obtain ⟨b, o, rfl, hbl, p0, p1⟩ := (HN.out.keep HKR.out).at hkl
        obtain ⟨s0, s1, t0, t1, sl⟩ := HB5.out.two
        have HIN := Lib.hid (fun h => firstBad_in (i := k) hkl h)
        have HOUT := Lib.hid (fun h => firstBad_out (i := k) hkl h)
        generalize times[k].N = gn at *
        generalize times[k].D = gd at *
        by_cases hx : FracOK gn gd
        · have CC := fun w => Lib.hid (refRight_any gn gd w)
          rw [decide_eq_true hx] at CC
          have HNX := Lib.hid (HPK.out.trans (HIN.out hx))
          clear hx HIN HOUT HPK
          go_wp2_with fail
          refine (CC _).out.mono ?_
          rintro e w4 ⟨rfl, hk4⟩
          have HB4 := Lib.hid (HB4.out.keep hk4)
          have HB5 := Lib.hid (HB5.out.keep hk4)
          have K4 := Lib.hid (HKR.out.both hk4)
          clear hk4 p0 p1 CC s0 s1 t0 t1 sl
          go_wp2
          go_roundw
          case rel => exact ⟨k + 1, 0, 0, by omega, by go_num, K4.out, HB4.out, HB5.out, .inr ⟨rfl, HNX.out⟩⟩
          case measure => simp [intOf]; omega
        · have CC := fun w => Lib.hid (refRight_any gn gd w)
          rw [decide_eq_false hx] at CC
          have HNX := Lib.hid (HPK.out.trans (HOUT.out hx))
          clear hx HIN HOUT HPK
          go_wp2_with fail
          refine (CC _).out.mono ?_
          rintro e w4 ⟨rfl, hk4⟩
          have HB4 := Lib.hid (HB4.out.keep hk4)
          have HB5 := Lib.hid (HB5.out.keep hk4)
          have K4 := Lib.hid (HKR.out.both hk4)
          clear hk4 p0 p1 CC s0 s1 t0 t1 sl
          go_wp2_with fail
          refine (fault_any 5 k w4).mono ?_
          rintro e w5 ⟨rfl, hk5⟩
          have HB4 := Lib.hid (HB4.out.keep hk5)
          have HB5 := Lib.hid (HB5.out.keep hk5)
          have K5 := Lib.hid (K4.out.both hk5)
          clear hk5
          obtain ⟨s0, s1, t0, t1, sl⟩ := HB5.out.two
          unfold fV
          go_wp2
          go_roundw
          case rel => exact ⟨k + 1, 5, k, by omega, by go_num, keep_set2 K5.out HS5.out _ _, HB4.out.other2 h45 _ _, HB5.out.set2 _ _, .inl ⟨by omega, HNX.out⟩⟩
          case measure => simp [intOf]; omega
      · have hpf2 : pf = (f1, f2) := by
          rcases hp with ⟨_, h⟩ | ⟨hf, h⟩
          · exact h
          · have h1 : f1 = 0 := congrArg Prod.fst hf
            rw [h, hf]
            exact firstBad_end (by omega)
        have HPE := Lib.hid hpf2
        clear hp hpf2
        obtain ⟨s0, s1, t0, t1, sl⟩ := HB5.out.two
        obtain ⟨r0, r1, q0, q1, rl⟩ := HB4.out.two
        by_cases hkl : k < times.length
        · have hlt : (k : Int) < (times.length : Int) := by omega
          have e1 : (f1 == 0) = false := by rw [beq_eq_false_iff_ne]; intro h; exact hend ⟨hkl, h⟩
          go_wp2
          refine bodyPost_ret (by simp [results, Try.results29, go_sem, r0, r1, rl]; rfl) rfl ?_
          exact ⟨by rw [HPE.out], keep_set2 HKR.out HS4.out _ _⟩
        · have hlt : ¬ (k : Int) < (times.length : Int) := by omega
          go_wp2
          refine bodyPost_ret (by simp [results, Try.results29, go_sem, r0, r1, rl]; rfl) rfl ?_
          exact ⟨by rw [HPE.out], keep_set2 HKR.out HS4.out _ _⟩
  case pos =>
    subst hc
    have hcc := HLO.out rfl
    obtain rfl : c2 = 0 := congrArg Prod.snd hcc
    have hpf := HP.out
    rw [if_neg (by simp)] at hpf
    by_cases hl : times.length = rows.length
    case pos =>
      have HPS : Hid (pf = firstBad (times.drop 0) 0) := Lib.hid (by rw [hpf, if_neg (by simp [hl])]; rfl)
      have e1 : ((times.length : Int) != (rows.length : Int)) = false := by rw [bne_eq_false_iff_eq]; omega
      clear hpf HP hcc HLO hl
      go_wp2_with fail
      clear e1
      generalize w1.alloc (.cells #[.int .i64 0, .int .i64 0] 26) = w2 at *
      generalize w1.heap.size = b5 at *
      generalize hb4 : w.heap.size = b4 at HB4 h45 ⊢
      have HS4 : Hid (w.heap.size ≤ b4) := Lib.hid (by omega)
      clear hb4
      go_loopw [8] (fun s wr => ∃ k : Nat, ∃ f1 f2 : Int, k ≤ times.length ∧ s = .int .i64 k ∧ Keep NoS w wr ∧ Blk wr b4 #[.int .i64 0, .int .i64 0] ∧ Blk wr b5 #[.int .i64 f1, .int .i64 f2] ∧ (f1 ≠ 0 ∧ pf = (f1, f2) ∨ (f1, f2) = (0, 0) ∧ pf = firstBad (times.drop k) k)) (fun s _ => (times.length - intOf s).toNat)
      case atStart => exact ⟨0, 0, 0, by omega, rfl, HK0.out, HB4.out, HB5.out, .inr ⟨rfl, HPS.out⟩⟩
      case round =>
        obtain ⟨k, f1, f2, hk, rfl, hkr, hb4, hb5, hp⟩ := hrel
        have HKR := Lib.hid hkr
        have HB4 := Lib.hid hb4
        have HB5 := Lib.hid hb5
        clear hkr hb4 hb5 HK0
        by_cases hend : k < times.length ∧ f1 = 0
        · obtain ⟨hkl, rfl⟩ := hend
          rcases hp with ⟨h0, _⟩ | ⟨hf, hp⟩
          · exact absurd rfl h0
          have HPK := Lib.hid hp
          obtain rfl : f2 = 0 := congrArg Prod.snd hf
          clear hf hp
          have hlt : (k : Int) < (times.length : Int) := by omega
          obtain ⟨b, o, rfl, hbl, p0, p1⟩ := (HN.out.keep HKR.out).at hkl
          obtain ⟨s0, s1, t0, t1, sl⟩ := HB5.out.two
          have HIN := Lib.hid (fun h => firstBad_in (i := k) hkl h)
          have HOUT := Lib.hid (fun h => firstBad_out (i := k) hkl h)
          generalize times[k].N = gn at *
          generalize times[k].D = gd at *
          by_cases hx : FracOK gn gd
          · have CC := fun w => Lib.hid (refRight_any gn gd w)
            rw [decide_eq_true hx] at CC
            have HNX := Lib.hid (HPK.out.trans (HIN.out hx))
            clear hx HIN HOUT HPK
            go_wp2_with fail
            refine (CC _).out.mono ?_
            rintro e w4 ⟨rfl, hk4⟩
            have HB4 := Lib.hid (HB4.out.keep hk4)
            have HB5 := Lib.hid (HB5.out.keep hk4)
            have K4 := Lib.hid (HKR.out.both hk4)
            clear hk4 p0 p1 CC s0 s1 t0 t1 sl
            go_wp2
            go_roundw
            case rel => exact ⟨k + 1, 0, 0, by omega, by go_num, K4.out, HB4.out, HB5.out, .inr ⟨rfl, HNX.out⟩⟩
            case measure => simp [intOf]; omega
          · have CC := fun w => Lib.hid (refRight_any gn gd w)
            rw [decide_eq_false hx] at CC
            have HNX := Lib.hid (HPK.out.trans (HOUT.out hx))
            clear hx HIN HOUT HPK
            go_wp2_with fail
            refine (CC _).out.mono ?_
            rintro e w4 ⟨rfl, hk4⟩
            have HB4 := Lib.hid (HB4.out.keep hk4)
            have HB5 := Lib.hid (HB5.out.keep hk4)
            have K4 := Lib.hid (HKR.out.both hk4)
            clear hk4 p0 p1 CC s0 s1 t0 t1 sl
            go_wp2_with fail
            refine (fault_any 5 k w4).mono ?_
            rintro e w5 ⟨rfl, hk5⟩
            have HB4 := Lib.hid (HB4.out.keep hk5)
            have HB5 := Lib.hid (HB5.out.keep hk5)
            have K5 := Lib.hid (K4.out.both hk5)
            clear hk5
            obtain ⟨s0, s1, t0, t1, sl⟩ := HB5.out.two
            unfold fV
            go_wp2
            go_roundw
            case rel => exact ⟨k + 1, 5, k, by omega, by go_num, keep_set2 K5.out HS5.out _ _, HB4.out.other2 h45 _ _, HB5.out.set2 _ _, .inl ⟨by omega, HNX.out⟩⟩
            case measure => simp [intOf]; omega
        · have hpf2 : pf = (f1, f2) := by
            rcases hp with ⟨_, h⟩ | ⟨hf, h⟩
            · exact h
            · have h1 : f1 = 0 := congrArg Prod.fst hf
              rw [h, hf]
              exact firstBad_end (by omega)
          have HPE := Lib.hid hpf2
          clear hp hpf2
          obtain ⟨s0, s1, t0, t1, sl⟩ := HB5.out.two
          obtain ⟨r0, r1, q0, q1, rl⟩ := HB4.out.two
          by_cases hkl : k < times.length
          · have hlt : (k : Int) < (times.length : Int) := by omega
            have e1 : (f1 == 0) = false := by rw [beq_eq_false_iff_ne]; intro h; exact hend ⟨hkl, h⟩
            go_wp2
            refine bodyPost_ret (by simp [results, Try.results29, go_sem, r0, r1, rl]; rfl) rfl ?_
            exact ⟨by rw [HPE.out], keep_set2 HKR.out HS4.out _ _⟩
          · have hlt : ¬ (k : Int) < (times.length : Int) := by omega
            go_wp2
            refine bodyPost_ret (by simp [results, Try.results29, go_sem, r0, r1, rl]; rfl) rfl ?_
            exact ⟨by rw [HPE.out], keep_set2 HKR.out HS4.out _ _⟩
    case neg =>
      have HPS : Hid ((9 : Int) ≠ 0 ∧ pf = (9, 0) ∨ ((9 : Int), (0 : Int)) = (0, 0) ∧ pf = firstBad (times.drop 0) 0) := Lib.hid (.inl ⟨by omega, by rw [hpf, if_pos hl]⟩)
      have e1 : ((times.length : Int) != (rows.length : Int)) = true := by rw [bne_iff_ne]; omega
      clear hpf HP hcc HLO hl
      go_wp2_with fail
      clear e1
      refine (fault_any 9 0 _).mono ?_
      rintro e w3 ⟨rfl, hk3⟩
      have HB4 := Lib.hid (HB4.out.keep hk3)
      have HB5 := Lib.hid (HB5.out.keep hk3)
      have K3 := Lib.hid (HK0.out.both hk3)
      obtain ⟨s0, s1, t0, t1, sl⟩ := HB5.out.two
      unfold fV
      have HB4 := Lib.hid (HB4.out.other2 h45 (.int .i64 9) (.int .i64 0))
      have HB5 := Lib.hid (HB5.out.set2 (.int .i64 9) (.int .i64 0))
      have HK0 := Lib.hid (keep_set2 K3.out HS5.out (.int .i64 9) (.int .i64 0))
      clear hk3 K3
      go_wp2_with fail
      clear s0 s1 t0 t1 sl
      generalize (w3.setCell ⟨w1.heap.size, 0, none⟩ (.int .i64 9)).setCell ⟨w1.heap.size, 1, none⟩ (.int .i64 0) = w2 at *
      generalize w1.heap.size = b5 at *
      generalize hb4 : w.heap.size = b4 at HB4 h45 ⊢
      have HS4 : Hid (w.heap.size ≤ b4) := Lib.hid (by omega)
      clear hb4
      go_loopw [8] (fun s wr => ∃ k : Nat, ∃ f1 f2 : Int, k ≤ times.length ∧ s = .int .i64 k ∧ Keep NoS w wr ∧ Blk wr b4 #[.int .i64 0, .int .i64 0] ∧ Blk wr b5 #[.int .i64 f1, .int .i64 f2] ∧ (f1 ≠ 0 ∧ pf = (f1, f2) ∨ (f1, f2) = (0, 0) ∧ pf = firstBad (times.drop k) k)) (fun s _ => (times.length - intOf s).toNat)
      case atStart => exact ⟨0, 9, 0, by omega, rfl, HK0.out, HB4.out, HB5.out, HPS.out⟩
      case round =>
        obtain ⟨k, f1, f2, hk, rfl, hkr, hb4, hb5, hp⟩ := hrel
        have HKR := Lib.hid hkr
        have HB4 := Lib.hid hb4
        have HB5 := Lib.hid hb5
        clear hkr hb4 hb5 HK0
        by_cases hend : k < times.length ∧ f1 = 0
        · obtain ⟨hkl, rfl⟩ := hend
          rcases hp with ⟨h0, _⟩ | ⟨hf, hp⟩
          · exact absurd rfl h0
          have HPK := Lib.hid hp
          obtain rfl : f2 = 0 := congrArg Prod.snd hf
          clear hf hp
          have hlt : (k : Int) < (times.length : Int) := by omega
          obtain ⟨b, o, rfl, hbl, p0, p1⟩ := (HN.out.keep HKR.out).at hkl
          obtain ⟨s0, s1, t0, t1, sl⟩ := HB5.out.two
          have HIN := Lib.hid (fun h => firstBad_in (i := k) hkl h)
          have HOUT := Lib.hid (fun h => firstBad_out (i := k) hkl h)
          generalize times[k].N = gn at *
          generalize times[k].D = gd at *
          by_cases hx : FracOK gn gd
          · have CC := fun w => Lib.hid (refRight_any gn gd w)
            rw [decide_eq_true hx] at CC
            have HNX := Lib.hid (HPK.out.trans (HIN.out hx))
            clear hx HIN HOUT HPK
            go_wp2_with fail
            refine (CC _).out.mono ?_
            rintro e w4 ⟨rfl, hk4⟩
            have HB4 := Lib.hid (HB4.out.keep hk4)
            have HB5 := Lib.hid (HB5.out.keep hk4)
            have K4 := Lib.hid (HKR.out.both hk4)
            clear hk4 p0 p1 CC s0 s1 t0 t1 sl
            go_wp2
            go_roundw
            case rel => exact ⟨k + 1, 0, 0, by omega, by go_num, K4.out, HB4.out, HB5.out, .inr ⟨rfl, HNX.out⟩⟩
            case measure => simp [intOf]; omega
          · have CC := fun w => Lib.hid (refRight_any gn gd w)
            rw [decide_eq_false hx] at CC
            have HNX := Lib.hid (HPK.out.trans (HOUT.out hx))
            clear hx HIN HOUT HPK
            go_wp2_with fail
            refine (CC _).out.mono ?_
            rintro e w4 ⟨rfl, hk4⟩
            have HB4 := Lib.hid (HB4.out.keep hk4)
            have HB5 := Lib.hid (HB5.out.keep hk4)
            have K4 := Lib.hid (HKR.out.both hk4)
            clear hk4 p0 p1 CC s0 s1 t0 t1 sl
            go_wp2_with fail
            refine (fault_any 5 k w4).mono ?_
            rintro e w5 ⟨rfl, hk5⟩
            have HB4 := Lib.hid (HB4.out.keep hk5)
            have HB5 := Lib.hid (HB5.out.keep hk5)
            have K5 := Lib.hid (K4.out.both hk5)
            clear hk5
            obtain ⟨s0, s1, t0, t1, sl⟩ := HB5.out.two
            unfold fV
            go_wp2
            go_roundw
            case rel => exact ⟨k + 1, 5, k, by omega, by go_num, keep_set2 K5.out HS5.out _ _, HB4.out.other2 h45 _ _, HB5.out.set2 _ _, .inl ⟨by omega, HNX.out⟩⟩
            case measure => simp [intOf]; omega
        · have hpf2 : pf = (f1, f2) := by
            rcases hp with ⟨_, h⟩ | ⟨hf, h⟩
            · exact h
            · have h1 : f1 = 0 := congrArg Prod.fst hf
              rw [h, hf]
              exact firstBad_end (by omega)
          have HPE := Lib.hid hpf2
          clear hp hpf2
          obtain ⟨s0, s1, t0, t1, sl⟩ := HB5.out.two
          obtain ⟨r0, r1, q0, q1, rl⟩ := HB4.out.two
          by_cases hkl : k < times.length
          · have hlt : (k : Int) < (times.length : Int) := by omega
            have e1 : (f1 == 0) = false := by rw [beq_eq_false_iff_ne]; intro h; exact hend ⟨hkl, h⟩
            go_wp2
            refine bodyPost_ret (by simp [results, Try.results29, go_sem, r0, r1, rl]; rfl) rfl ?_
            exact ⟨by rw [HPE.out], keep_set2 HKR.out HS4.out _ _⟩
          · have hlt : ¬ (k : Int) < (times.length : Int) := by omega
            go_wp2
            refine bodyPost_ret (by simp [results, Try.results29, go_sem, r0, r1, rl]; rfl) rfl ?_
            exact ⟨by rw [HPE.out], keep_set2 HKR.out HS4.out _ _⟩
end Go.Proofs.Ytihcbmkjfacooaa
