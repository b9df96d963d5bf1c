/- Package farkas's Take. -/
import Derived.Test.YtamjmcdlddocgaaFkQ
import Derived.Test.YtamjmcdlddocgaaFkC
namespace Go.Proofs.Ytamjmcdlddocgaa
open Go.ChangeShapes Go.WideShapes Go.RowKit
set_option linter.unusedVariables false
set_option linter.unusedSimpArgs false

set_option maxRecDepth 100000 in
set_option maxHeartbeats 16000000 in
theorem takeFk_any (w : World) (v : Value) (rows : List Rw) (n : Int) (vt : Value) (times : List Fq) (h : IsRows w v rows) (hn : I64 n) (ht : IsFracs w vt times) :
    Calls Try.prog 18 #[v, .int .i64 n, vt] w fun e w' => e = .returned (.tuple #[.bool (fkB rows times n), fV (farkF rows n times)]) ∧ Keep NoS w w' := by
  have CH := fun w' (k : Keep NoS w w') => Lib.hid (farkChk_any w' v rows n vt times (h.keep k) hn (ht.keep k))
  unfold fkB
  by_cases hc : (farkF rows n times).1 = 0
  case neg =>
    rw [if_neg hc]
    generalize farkF rows n times = c at *
    obtain ⟨c1, c2⟩ := c
    simp only at hc
    unfold fV at CH ⊢
    simp only at CH ⊢
    have e1 : (c1 != 0) = true := by rw [bne_iff_ne]; exact hc
    obtain ⟨oa, ca, rfl, _, _⟩ := h.len
    obtain ⟨ot, ct, rfl, _, _⟩ := ht.len
    clear hc h ht
    go_enter Try.func18, Try.ntmps18
    go_wp2_with fail
    refine (CH _ (by (repeat' (with_reducible first | assumption | exact HK.out | exact keR | refine keA ?_ | refine keS ?_ fun h => absurd h (by omega) | refine keN ?_ | refine keD ?_)))).out.mono ?_
    rintro e w1 ⟨rfl, hk1⟩
    have B5 : Blk w1 w.heap.size #[.int .i64 0, .int .i64 0] := Blk.keep (by (repeat (first | (with_reducible assumption) | (refine blk_at _ _ ?_; simp; done) | (refine Blk.old ?_ _)))) hk1
    have K1 : Hid (Keep NoS w w1) := Lib.hid (Keep.both (by (repeat' (with_reducible first | assumption | exact HK.out | exact keR | refine keA ?_ | refine keS ?_ fun h => absurd h (by omega) | refine keN ?_ | refine keD ?_))) hk1)
    have HB5 := Lib.hid B5
    clear hk1 CH B5
    generalize hb5 : w.heap.size = b5 at HB5 ⊢
    have HS5 : Hid (w.heap.size ≤ b5) := Lib.hid (by omega)
    clear hb5
    go_upto_region 3 with fail
    have HK0 : Hid (Keep NoS w (w1.alloc (.cells #[.int .i64 c1, .int .i64 c2] 24))) := Lib.hid (K1.out.alloc _)
    have HB6 : Hid (Blk (w1.alloc (.cells #[.int .i64 c1, .int .i64 c2] 24)) w1.heap.size #[.int .i64 c1, .int .i64 c2]) := Lib.hid (blk_at _ _ rfl)
    have HB5 := Lib.hid (HB5.out.old (.cells #[.int .i64 c1, .int .i64 c2] 24))
    generalize w1.alloc (.cells #[.int .i64 c1, .int .i64 c2] 24) = w3 at *
    generalize w1.heap.size = b6 at *
    obtain ⟨s0, s1, t0, t1, sl⟩ := HB5.out.two
    refine wp_region_by (fun w' => Keep NoS w3 w') [2] [([0, 1], 2)] [] (by kernel_rfl) (by kernel_rfl) (by (repeat' (with_reducible first | assumption | exact HK.out | exact keR | refine keA ?_ | refine keS ?_ fun h => absurd h (by omega) | refine keN ?_ | refine keD ?_))) ?_
    intro X W hne hF hcl
    have hx0 := fun x => (HB6.out.keep (hF x)).two
    clear hF hcl
    simp only [wpPlan, pickOps, List.getElem?_toArray, List.getElem?_cons_zero, List.getElem?_cons_succ, clsOf, Bool.false_eq_true, if_false]
    (repeat (quiet_step (fail))); refine wpQuiet_nil ?_
    refine wpAt rfl rfl fun K hK => ?_
    go_simp
    refine hK _ _ ⟨fun h => (by simp at h), ?_⟩
    have HB5' : Hid (Blk ((w3.setCell ⟨b5, 0, none⟩ (.int .i64 c1)).setCell ⟨b5, 1, none⟩ (.int .i64 c2)).drew b5 #[.int .i64 c1, .int .i64 c2]) := Lib.hid ((HB5.out.set2 (.int .i64 c1) (.int .i64 c2)).keep (Keep.refl NoS _).drew)
    have K14 : Hid (Keep NoS w ((w3.setCell ⟨b5, 0, none⟩ (.int .i64 c1)).setCell ⟨b5, 1, none⟩ (.int .i64 c2)).drew) := Lib.hid (keep_set2 HK0.out HS5.out (.int .i64 c1) (.int .i64 c2)).drew
    clear hK K s0 s1 t0 t1 sl
    generalize ((w3.setCell ⟨b5, 0, none⟩ (.int .i64 c1)).setCell ⟨b5, 1, none⟩ (.int .i64 c2)).drew = w5 at *
    (repeat (quiet_step (fail))); refine wpQuiet_nil ?_
    refine NoPanic.normal ?_
    obtain ⟨s0, s1, t0, t1, sl⟩ := HB5'.out.two
    go_wp2
    refine bodyPost_ret (by simp [results, Try.results18, go_sem, s0, s1, sl]; rfl) rfl ?_
    exact ⟨rfl, K14.out⟩
  case pos =>
    obtain ⟨hc0, hl0, hlen, hfr⟩ := farkF_ok hc
    obtain ⟨hn0, hn12, h40, hok⟩ := listF_ok hl0
    obtain ⟨N, rfl⟩ : ∃ N : Nat, n = (N : Int) := ⟨n.toNat, by omega⟩
    have hN : N ≤ 12 := by omega
    rw [if_pos hc, hc0]
    rw [hc0] at CH
    rw [show ((N : Int)).toNat = N from by omega]
    have HR := Lib.hid h
    have HT := Lib.hid ht
    have HOK := Lib.hid hok
    have HFR := Lib.hid hfr
    have hnt : ∀ q ∈ times.map Fq.q, NB 1 q := by
      intro q hq
      obtain ⟨g, hg, rfl⟩ := List.mem_map.1 hq
      exact nb_frac (hfr g hg)
    have HTE := Lib.hid (show refB rows (times.map Fq.q) N = (posK rows (times.map Fq.q) rows.length && (!((colL rows (times.map Fq.q) N rows.length).any nzP) && endB rows (times.map Fq.q))) from by unfold refB; rw [zeroK_any])
    have CN := fun w' (k : Keep NoS w w') => Lib.hid (numbers_any w' vt times (ht.keep k) hfr (by omega))
    have CB := fun w' (k : Keep NoS w w') vu (hu : IsNums w' vu (times.map Fq.q)) => Lib.hid (combined_any w' v rows N vu (times.map Fq.q) (h.keep k) hok h40 hN hu (by rw [List.length_map]; exact hlen) hnt)
    generalize refB rows (times.map Fq.q) N = tb at *
    unfold fV at CH ⊢
    simp only at CH ⊢
    obtain ⟨oa, ca, rfl, hca, hma⟩ := h.len
    obtain ⟨ot, ct, rfl, hct, hmt⟩ := ht.len
    unfold maxLen at hma hmt
    have HLEN := Lib.hid hlen
    clear hc hc0 hl0 hn0 hn12 hok hfr h ht hca hct hnt hlen
    go_enter Try.func18, Try.ntmps18
    go_wp2_with fail
    refine (CH _ (by (repeat' (with_reducible first | assumption | exact HK.out | exact keR | refine keA ?_ | refine keS ?_ fun h => absurd h (by omega) | refine keN ?_ | refine keD ?_)))).out.mono ?_
    rintro e w1 ⟨rfl, hk1⟩
    have B7 : Blk w1 w.heap.size #[.int .i64 0, .int .i64 0] := Blk.keep (by (repeat (first | (with_reducible assumption) | (refine blk_at _ _ ?_; simp; done) | (refine Blk.old ?_ _)))) hk1
    have K1 : Hid (Keep NoS w w1) := Lib.hid (Keep.both (by (repeat' (with_reducible first | assumption | exact HK.out | exact keR | refine keA ?_ | refine keS ?_ fun h => absurd h (by omega) | refine keN ?_ | refine keD ?_))) hk1)
    have HB7 := Lib.hid (B7.old (.cells #[.int .i64 0, .int .i64 0] 24))
    have HK0 := Lib.hid (K1.out.alloc (.cells #[.int .i64 0, .int .i64 0] 24))
    clear hk1 CH B7 K1
    generalize hb7 : w.heap.size = b7 at HB7 ⊢
    have HS7 : Hid (w.heap.size ≤ b7) := Lib.hid (by omega)
    clear hb7
    go_wp2
    generalize w1.alloc (.cells #[.int .i64 0, .int .i64 0] 24) = w2 at *
    go_loopw [24] (fun s wr => ∃ k : Nat, k ≤ rows.length ∧ s = .int .i64 k ∧ posK rows (times.map Fq.q) k = true ∧ Keep NoS w wr ∧ Blk wr b7 #[.int .i64 0, .int .i64 0]) (fun s _ => (rows.length - intOf s).toNat)
    case atStart => exact ⟨0, by omega, rfl, rfl, HK0.out, HB7.out⟩
    case round =>
      obtain ⟨k, hk, rfl, hp, hkr, hbr⟩ := hrel
      have HP := Lib.hid hp
      have HKR := Lib.hid hkr
      have HB7 := Lib.hid hbr
      clear hp hkr hbr HK0
      by_cases hkl : k < rows.length
      case pos =>
        have hlt : (k : Int) < (rows.length : Int) := by omega
        have hltt : (k : Int) < (times.length : Int) := by have := HLEN.out; omega
        have hkt : k < times.length := by omega
        obtain ⟨b, o, rfl, hbl, hrow⟩ := HR.out.at hkl
        obtain ⟨os, cs, p0, p1, p2, hrow⟩ := hrow.row
        obtain ⟨b', o', rfl, hbl', c0, c1⟩ := HT.out.at hkt
        have p0 := (HKR.out.cell hbl).trans p0
        have p1 := (HKR.out.cell hbl).trans p1
        have p2 := (HKR.out.cell hbl).trans p2
        have c0 := (HKR.out.cell hbl').trans c0
        have c1 := (HKR.out.cell hbl').trans c1
        have hblr := Nat.lt_of_lt_of_le hbl HKR.out.size
        have hblr' := Nat.lt_of_lt_of_le hbl' HKR.out.size
        have hkd := (HOK.out _ (List.getElem_mem hkl)).kind
        have hst : posK rows (times.map Fq.q) (k + 1) = (decide (rows[k].kind = 3) || decide (0 ≤ (times[k]).N)) := by
          simp only [posK]
          rw [HP.out, row_getD hkl, map_getD hkt]
          simp only [frac_nonneg (HFR.out _ (List.getElem_mem hkt)), Bool.true_and]
        generalize rows[k] = r at *
        obtain ⟨rof, rkd, rto⟩ := r
        generalize (times[k]).N = gn at *
        generalize (times[k]).D = gd at *
        simp only at p0 p1 p2 hkd hst
        obtain ⟨r0, r1, f0, f1, rl⟩ := HB7.out.two
        have hlw := HB7.out.lt
        have hn1 : ¬ b7 = wr.heap.size := by omega
        have hn2 : ¬ b = wr.heap.size := by omega
        have hn3 : ¬ b' = wr.heap.size := by omega
        clear hrow hbl hbl'
        rcases hkd with rfl | rfl | rfl
        · by_cases hg : gn < 0
          · have HST : Hid (posK rows (times.map Fq.q) rows.length = false) := Lib.hid (by
              have h0 : posK rows (times.map Fq.q) (k + 1) = false := by rw [hst]; simp; omega
              have := posK_mono h0 (rows.length - (k + 1))
              rwa [show k + 1 + (rows.length - (k + 1)) = rows.length by omega] at this)
            have hgd : decide (gn < 0) = true := dec_t hg
            have HTB := HTE.out
            rw [HST.out, Bool.false_and] at HTB
            subst HTB
            clear hst HTE
            go_wp2
            refine bodyPost_ret (by simp [results, Try.results18, go_sem, r0, r1, rl, hn1]; rfl) rfl ?_
            have HK := HKR
            have hs7 := HS7.out
            exact ⟨rfl, by (repeat' (with_reducible first | assumption | exact HK.out | exact keR | refine keA ?_ | refine keS ?_ fun h => absurd h (by omega) | refine keN ?_ | refine keD ?_))⟩
          · have HST : Hid (posK rows (times.map Fq.q) (k + 1) = true) := Lib.hid (by rw [hst]; simp; omega)
            have hgd : decide (gn < 0) = false := dec_f hg
            clear hst
            go_wp2
            go_roundw
            case rel => exact ⟨k + 1, by omega, by go_num, HST.out, HKR.out.alloc _, HB7.out.old _⟩
            case measure => simp [intOf]; omega
        · by_cases hg : gn < 0
          · have HST : Hid (posK rows (times.map Fq.q) rows.length = false) := Lib.hid (by
              have h0 : posK rows (times.map Fq.q) (k + 1) = false := by rw [hst]; simp; omega
              have := posK_mono h0 (rows.length - (k + 1))
              rwa [show k + 1 + (rows.length - (k + 1)) = rows.length by omega] at this)
            have hgd : decide (gn < 0) = true := dec_t hg
            have HTB := HTE.out
            rw [HST.out, Bool.false_and] at HTB
            subst HTB
            clear hst HTE
            go_wp2
            refine bodyPost_ret (by simp [results, Try.results18, go_sem, r0, r1, rl, hn1]; rfl) rfl ?_
            have HK := HKR
            have hs7 := HS7.out
            exact ⟨rfl, by (repeat' (with_reducible first | assumption | exact HK.out | exact keR | refine keA ?_ | refine keS ?_ fun h => absurd h (by omega) | refine keN ?_ | refine keD ?_))⟩
          · have HST : Hid (posK rows (times.map Fq.q) (k + 1) = true) := Lib.hid (by rw [hst]; simp; omega)
            have hgd : decide (gn < 0) = false := dec_f hg
            clear hst
            go_wp2
            go_roundw
            case rel => exact ⟨k + 1, by omega, by go_num, HST.out, HKR.out.alloc _, HB7.out.old _⟩
            case measure => simp [intOf]; omega
        · have HST : Hid (posK rows (times.map Fq.q) (k + 1) = true) := Lib.hid (by rw [hst]; simp)
          clear hst
          go_wp2
          go_roundw
          case rel => exact ⟨k + 1, by omega, by go_num, HST.out, HKR.out.alloc _, HB7.out.old _⟩
          case measure => simp [intOf]; omega
      case neg =>
        have hlt : ¬ (k : Int) < (rows.length : Int) := by omega
        obtain rfl : k = rows.length := by omega
        have HTE := Lib.hid (show tb = (!((colL rows (times.map Fq.q) N rows.length).any nzP) && endB rows (times.map Fq.q)) from by rw [HTE.out, HP.out, Bool.true_and])
        clear HP
        go_wp2_with fail
        refine (CN _ HKR.out).out.mono ?_
        rintro e w4 ⟨u, rfl, hou, hk4⟩
        have K4 := Lib.hid (HKR.out.both hk4)
        have HB7 := Lib.hid (HB7.out.keep hk4)
        have CB := fun w' (k : Keep NoS w4 w') => CB w' (K4.out.both k) u (hou.nums.keep k)
        obtain ⟨ou, cu, hu⟩ := hou.len
        rw [List.length_map] at hu
        subst hu
        clear hk4 CN hou
        go_wp2_with fail
        refine (CB _ (Keep.refl _ _)).out.mono ?_
        rintro e w5 ⟨g, uv, rfl, hg, hnb, hun, hk5⟩
        have K5 := Lib.hid (K4.out.both hk5)
        have HB7 := Lib.hid (HB7.out.keep hk5)
        obtain ⟨⟨xb, xS, yb, yS⟩, hux⟩ := isNum_nv hun
        subst hux
        unfold NV.v at hun ⊢
        simp only at hun ⊢
        have HUN := Lib.hid hun
        have hcl : (colL rows (times.map Fq.q) N rows.length).length = N := colL_len
        have HNS := Lib.hid (hnb.nums (n := N) (cap := N) hcl.symm (by omega) (by unfold maxLen; omega))
        have CA := fun w' (k : Keep NoS w5 w') => Lib.hid (nzAny_any w' _ _ (HNS.out.keep k))
        have CS := fun w => Lib.hid (exSign_num HUN.out w)
        have HNZ := Lib.hid (show endB rows (times.map Fq.q) = (decide (toK rows (times.map Fq.q) rows.length < 0) || (decide (toK rows (times.map Fq.q) rows.length = 0) && strK rows (times.map Fq.q) rows.length)) from rfl)
        generalize (colL rows (times.map Fq.q) N rows.length).any nzP = az at *
        generalize toK rows (times.map Fq.q) rows.length = tq at *
        generalize strK rows (times.map Fq.q) rows.length = sb at *
        generalize endB rows (times.map Fq.q) = eb at *
        clear hk5 CB hnb hun hcl hg HNS
        go_wp2_with fail
        refine (CA _ (by (repeat' (with_reducible first | assumption | exact HK.out | exact keR | refine keA ?_ | refine keS ?_ fun h => absurd h (by omega) | refine keN ?_ | refine keD ?_)))).out.mono ?_
        rintro e w6 ⟨rfl, hk6⟩
        have B12 : Blk w6 w5.heap.size #[.bool xb, .string xS, .bool yb, .string yS] := Blk.keep (by (repeat (first | (with_reducible assumption) | (refine blk_at _ _ ?_; simp; done) | (refine Blk.old ?_ _)))) hk6
        have hlt7 := HB7.out.lt
        have k6 : Keep NoS w5 w6 := Keep.trans (by (repeat' (with_reducible first | assumption | exact HK.out | exact keR | refine keA ?_ | refine keS ?_ fun h => absurd h (by omega) | refine keN ?_ | refine keD ?_))) hk6 fun _ _ _ h => h
        have K6 := Lib.hid (K5.out.both k6)
        have HB7 := Lib.hid (HB7.out.keep k6)
        have HB12 := Lib.hid B12
        have h712 : ¬ b7 = w5.heap.size := by omega
        clear hk6 k6 CA B12 K5 hlt7
        generalize w5.heap.size = b12 at *
        obtain ⟨r0, r1, f0, f1, rl⟩ := HB7.out.two
        have HTB := HTE.out
        cases az
        case true =>
          subst HTB
          go_wp2
          refine bodyPost_ret (by simp [results, Try.results18, go_sem, r0, r1, rl]; rfl) rfl ?_
          exact ⟨rfl, keep_set2 K6.out HS7.out _ _⟩
        case false =>
          have HTB2 : tb = eb := by rw [HTB]; rfl
          subst HTB2
          clear HTB HTE
          obtain ⟨q0, q1, q2, q3, _, _, _, _, ql⟩ := HB12.out.four
          by_cases hs : tq < 0
          case pos =>
            rw [sign_neg hs] at CS
            have HZ := HNZ.out
            rw [decide_eq_true hs, Bool.true_or] at HZ
            subst HZ
            clear HNZ hs HUN
            go_wp2_with fail
            refine (CS _).out.mono ?_
            rintro e w7 ⟨rfl, hk7⟩
            have HB7 := Lib.hid (HB7.out.keep hk7)
            have K7 := Lib.hid (K6.out.both hk7)
            clear hk7 r0 r1 f0 f1 rl q0 q1 q2 q3 ql
            obtain ⟨r0, r1, f0, f1, rl⟩ := HB7.out.two
            go_wp2
            refine bodyPost_ret (by simp [results, Try.results18, go_sem, r0, r1, rl]; rfl) rfl ?_
            exact ⟨rfl, keep_set2 K7.out HS7.out _ _⟩
          case neg =>
            have hZ0 : tb = (decide (tq = 0) && sb) := by rw [HNZ.out, decide_eq_false hs, Bool.false_or]
            by_cases hs0 : tq = 0
            case pos =>
              rw [num_zero_of hs0] at CS
              rw [decide_eq_true hs0, Bool.true_and] at hZ0
              subst hZ0
              clear HNZ hs hs0 HUN
              go_wp2_with fail
              refine (CS _).out.mono ?_
              rintro e w7 ⟨rfl, hk7⟩
              have HB7 := Lib.hid (HB7.out.keep hk7)
              have HB12 := Lib.hid (HB12.out.keep hk7)
              have K7 := Lib.hid (K6.out.both hk7)
              clear hk7 r0 r1 f0 f1 rl q0 q1 q2 q3 ql
              obtain ⟨q0, q1, q2, q3, _, _, _, _, ql⟩ := HB12.out.four
              go_wp2_with fail
              refine (CS _).out.mono ?_
              rintro e w8 ⟨rfl, hk8⟩
              have HB7 := Lib.hid (HB7.out.keep hk8)
              have K8 := Lib.hid (K7.out.both hk8)
              clear hk8 q0 q1 q2 q3 ql
              obtain ⟨r0, r1, f0, f1, rl⟩ := HB7.out.two
              go_wp2
              refine bodyPost_ret (by simp [results, Try.results18, go_sem, r0, r1, rl]; rfl) rfl ?_
              exact ⟨rfl, keep_set2 K8.out HS7.out _ _⟩
            case neg =>
              rw [sign_pos' (q := tq) (by grind)] at CS
              rw [decide_eq_false hs0, Bool.false_and] at hZ0
              subst hZ0
              clear HNZ hs hs0 HUN
              go_wp2_with fail
              refine (CS _).out.mono ?_
              rintro e w7 ⟨rfl, hk7⟩
              have HB7 := Lib.hid (HB7.out.keep hk7)
              have HB12 := Lib.hid (HB12.out.keep hk7)
              have K7 := Lib.hid (K6.out.both hk7)
              clear hk7 r0 r1 f0 f1 rl q0 q1 q2 q3 ql
              obtain ⟨q0, q1, q2, q3, _, _, _, _, ql⟩ := HB12.out.four
              go_wp2_with fail
              refine (CS _).out.mono ?_
              rintro e w8 ⟨rfl, hk8⟩
              have HB7 := Lib.hid (HB7.out.keep hk8)
              have K8 := Lib.hid (K7.out.both hk8)
              clear hk8 q0 q1 q2 q3 ql
              obtain ⟨r0, r1, f0, f1, rl⟩ := HB7.out.two
              go_wp2
              refine bodyPost_ret (by simp [results, Try.results18, go_sem, r0, r1, rl]; rfl) rfl ?_
              exact ⟨rfl, keep_set2 K8.out HS7.out _ _⟩
end Go.Proofs.Ytamjmcdlddocgaa
