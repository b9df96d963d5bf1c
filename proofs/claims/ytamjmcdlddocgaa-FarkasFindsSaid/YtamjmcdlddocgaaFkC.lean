/- Package farkas's Combined: the combination of rows. -/
import Derived.Test.YtamjmcdlddocgaaFkP
import Derived.Test.YtamjmcdlddocgaaFkB
namespace Go.Proofs.Ytamjmcdlddocgaa
open Go.ChangeShapes Go.WideShapes Go.RowKit
set_option linter.unusedVariables false
set_option linter.unusedSimpArgs false

set_option maxRecDepth 100000 in
set_option maxHeartbeats 16000000 in
theorem combined_any (w : World) (v : Value) (rows : List Rw) (N : Nat) (vt : Value) (ts : List Rat) (h : IsRows w v rows) (hr : ∀ r ∈ rows, RowOK r N) (hl : rows.length ≤ 40) (hN : N ≤ 12) (ht : IsNums w vt ts) (htl : ts.length = rows.length) (htn : ∀ q ∈ ts, NB 1 q) :
    Calls Try.prog 37 #[v, .int .i64 (N : Int), vt] w fun e w' => ∃ g u, e = .returned (.tuple #[.slice (some ⟨g, 0, none⟩) N N, u, .bool (strK rows ts rows.length)]) ∧ w.heap.size ≤ g ∧ NumBlk w' g (colL rows ts N rows.length) ∧ IsNum u (toK rows ts rows.length) ∧ Keep NoS w w' := by
  have HR := Lib.hid h
  have HT := Lib.hid ht
  have HOK := Lib.hid hr
  have HTN := Lib.hid htn
  obtain ⟨oa, ca, rfl, hca, hma⟩ := h.len
  obtain ⟨ot, ct, rfl, hct, hmt⟩ := ht.len
  clear ht hct hmt
  rw [htl] at HT ⊢
  have HTL := Lib.hid htl
  obtain ⟨w1, hr1, hn1, hk1⟩ := make_nums (w.alloc (.cells #[.bool false, .string ⟨#[]⟩, .bool false, .string ⟨#[]⟩] 77)) N (by omega)
  have e1 : (w.alloc (.cells #[.bool false, .string ⟨#[]⟩, .bool false, .string ⟨#[]⟩] 77)).heap.size = w.heap.size + 1 := by simp
  rw [e1] at hr1 hn1
  have B7 : Blk w1 w.heap.size #[.bool false, .string ⟨#[]⟩, .bool false, .string ⟨#[]⟩] := Blk.keep (blk_at _ _ rfl) hk1
  have K1 : Keep NoS w w1 := Keep.both (by (repeat' (with_reducible first | assumption | exact HK.out | exact keR | refine keA ?_ | refine keS ?_ fun h => absurd h (by omega) | refine keN ?_ | refine keD ?_))) hk1
  have l1 := hn1.lt
  clear h hr hca hma e1 hk1 htn htl
  go_enter Try.func37, Try.ntmps37
  go_wp2
  clear hr1
  have HB7 := Lib.hid (B7.old (.cells #[.bool false, .string ⟨#[]⟩, .bool false, .string ⟨#[]⟩] 77))
  have HBN := Lib.hid (hn1.old (.cells #[.bool false, .string ⟨#[]⟩, .bool false, .string ⟨#[]⟩] 77))
  have HB10 : Hid (Blk (w1.alloc (.cells #[.bool false, .string ⟨#[]⟩, .bool false, .string ⟨#[]⟩] 77)) w1.heap.size #[.bool false, .string ⟨#[]⟩, .bool false, .string ⟨#[]⟩]) := Lib.hid (blk_at _ _ rfl)
  have HK0 := Lib.hid (K1.alloc (.cells #[.bool false, .string ⟨#[]⟩, .bool false, .string ⟨#[]⟩] 77))
  have HSZ : Hid (w.heap.size ≤ w.heap.size ∧ w.heap.size ≤ w.heap.size + 1 ∧ w.heap.size ≤ w1.heap.size) := Lib.hid ⟨by omega, by omega, K1.size⟩
  have HNE : Hid (w.heap.size ≠ w.heap.size + 1 ∧ w.heap.size ≠ w1.heap.size ∧ w.heap.size + 1 ≠ w1.heap.size) := Lib.hid ⟨by omega, by omega, by omega⟩
  clear B7 K1 l1 hn1
  generalize w1.alloc (.cells #[.bool false, .string ⟨#[]⟩, .bool false, .string ⟨#[]⟩] 77) = w2 at *
  generalize hb10 : w1.heap.size = b10 at HB10 HSZ HNE ⊢
  generalize hbn : w.heap.size + 1 = bn at HBN HSZ HNE ⊢
  clear hb10 hbn
  generalize hb7 : w.heap.size = b7 at HB7 HNE ⊢
  have HS7 : Hid (w.heap.size ≤ b7) := Lib.hid (by omega)
  clear hb7
  go_loopw [20, 11] (fun s z wr => ∃ i : Nat, i ≤ rows.length ∧ s = .int .i64 i ∧ z = .bool (strK rows ts i) ∧ Keep NoS w wr ∧ Blk wr b7 #[.bool false, .string ⟨#[]⟩, .bool false, .string ⟨#[]⟩] ∧ NumBlk wr bn (colL rows ts N i) ∧ ∃ nb nS db dS, Blk wr b10 #[.bool nb, .string nS, .bool db, .string dS] ∧ IsNum (.agg #[.bool nb, .string nS, .bool db, .string dS]) (toK rows ts i)) (fun s _ _ => (rows.length - intOf s).toNat)
  case atStart => exact ⟨0, by omega, rfl, rfl, HK0.out, HB7.out, by rw [colL_zero]; exact HBN.out, _, _, _, _, HB10.out, nv0_num⟩
  case round =>
    obtain ⟨i, hi, rfl, rfl, hkr, hb7, hbn, nb, nS, db, dS, hb10, hnum⟩ := hrel
    have HKR := Lib.hid hkr
    have HB7 := Lib.hid hb7
    have HBN := Lib.hid hbn
    have HB10 := Lib.hid hb10
    have HNU := Lib.hid hnum
    clear hkr hb7 hbn hb10 hnum HK0
    by_cases hil : i < rows.length
    case neg =>
      have hlt : ¬ (i : Int) < (rows.length : Int) := by omega
      obtain rfl : i = rows.length := by omega
      obtain ⟨q0, q1, q2, q3, _, _, _, _, ql⟩ := HB10.out.four
      obtain ⟨r0, r1, r2, r3, f0, f1, f2, f3, rl⟩ := HB7.out.four
      go_wp2
      refine wp_region_by (fun w' => Keep NoS wr w') [2, 4, 5] [([2, 0, 1, 3], 4)] [5] (by kernel_rfl) (by kernel_rfl) (by (repeat' (with_reducible first | assumption | exact HK.out | exact keR | refine keA ?_ | refine keS ?_ fun h => absurd h (by omega) | refine keN ?_ | refine keD ?_))) ?_
      intro X W hne hF hcl
      have HCL := Lib.hid hcl
      have hx0 := fun x => (HB10.out.keep (hF x)).four
      clear hF hcl
      simp only [wpPlan, pickOps, List.getElem?_toArray, List.getElem?_cons_zero, List.getElem?_cons_succ, clsOf, Bool.false_eq_true, if_false]
      (repeat (quiet_step (fail))); refine wpQuiet_nil ?_
      refine wpAt rfl rfl fun K hK => ?_
      go_simp
      refine hK _ _ ⟨fun h => (by simp at h), ?_⟩
      have HBX : Hid (Blk ((((wr.setCell ⟨b7, 0, none⟩ (.bool nb)).setCell ⟨b7, 1, none⟩ (.string nS)).setCell ⟨b7, 2, none⟩ (.bool db)).setCell ⟨b7, 3, none⟩ (.string dS)).drew b7 #[.bool nb, .string nS, .bool db, .string dS]) := Lib.hid ((HB7.out.set4 _ _ _ _).keep ((Keep.refl _ _).drew))
      have HKX : Hid (Keep NoS w ((((wr.setCell ⟨b7, 0, none⟩ (.bool nb)).setCell ⟨b7, 1, none⟩ (.string nS)).setCell ⟨b7, 2, none⟩ (.bool db)).setCell ⟨b7, 3, none⟩ (.string dS)).drew) := Lib.hid ((keep_set4 HKR.out HS7.out _ _ _ _).drew)
      have HNX : Hid (NumBlk ((((wr.setCell ⟨b7, 0, none⟩ (.bool nb)).setCell ⟨b7, 1, none⟩ (.string nS)).setCell ⟨b7, 2, none⟩ (.bool db)).setCell ⟨b7, 3, none⟩ (.string dS)).drew bn (colL rows ts N rows.length)) := Lib.hid ((HBN.out.otherN (o := 0) (Ne.symm HNE.out.1) _ _ _ _).keep ((Keep.refl _ _).drew))
      clear hK K hx0 q0 q1 q2 q3 ql r0 r1 r2 r3 f0 f1 f2 f3 rl
      (repeat (quiet_step (fail))); refine wpQuiet_nil ?_
      generalize ((((wr.setCell ⟨b7, 0, none⟩ (.bool nb)).setCell ⟨b7, 1, none⟩ (.string nS)).setCell ⟨b7, 2, none⟩ (.bool db)).setCell ⟨b7, 3, none⟩ (.string dS)).drew = w3 at *
      refine NoPanic.normal ?_
      obtain ⟨r0, r1, r2, r3, f0, f1, f2, f3, rl⟩ := HBX.out.four
      go_wp2
      refine bodyPost_ret (by simp [results, Try.results37, go_sem, r0, r1, r2, r3, rl]; rfl) rfl ?_
      exact ⟨bn, _, rfl, HSZ.out.2.1, HNX.out, HNU.out, HKX.out⟩
    case pos =>
      have hlt : (i : Int) < (rows.length : Int) := by omega
      obtain ⟨b, o, rfl, hbl, hrow⟩ := HR.out.at hil
      have hok := HOK.out _ (List.getElem_mem hil)
      have hgi : rows.getD i nilRw = rows[i] := by rw [List.getD_eq_getElem?_getD, List.getElem?_eq_getElem hil]; rfl
      have htl := HTL.out
      have hti : ts.getD i 0 = ts[i] := by rw [List.getD_eq_getElem?_getD, List.getElem?_eq_getElem (by omega)]; rfl
      have hcol : ∀ k, colK rows ts k (i + 1) = colK rows ts k i + (rows[i].of.getD k 0 : Rat) * ts[i] := fun k => by rw [← hgi, ← hti]; rfl
      have hto : toK rows ts (i + 1) = toK rows ts i + (rows[i].to : Rat) * ts[i] := by rw [← hgi, ← hti]; rfl
      have hstr : strK rows ts (i + 1) = (strK rows ts i || (decide (rows[i].kind = 2) && decide (ts[i] ≠ 0))) := by rw [← hgi, ← hti]; rfl
      have hall : mixL rows ts N i rows[i].of.length = colL rows ts N (i + 1) := mixL_all fun m hm => by rw [hgi, getD_out hm]
      have nbi := fun k => nb_col HOK.out HTN.out k i
      have nbj := fun k => nb_col HOK.out HTN.out k (i + 1)
      have nti := nb_to HOK.out HTN.out i
      have nt1 := HTN.out _ (List.getElem_mem (l := ts) (n := i) (by omega))
      obtain ⟨b', o', rfl, hb', tb, tS, eb, eS, c0, c1, c2, c3, htnum⟩ := HT.out.at (k := i) (by omega)
      have HCOL := Lib.hid hcol
      have HTO := Lib.hid hto
      have HSTR := Lib.hid hstr
      have HALL := Lib.hid hall
      have HNI := Lib.hid (And.intro nbi nbj)
      have HNT := Lib.hid nti
      have HN1 := Lib.hid nt1
      have HTM := Lib.hid htnum
      generalize rows[i] = r at *
      generalize ts[i] = t at *
      obtain ⟨os, cs, p0, p1, p2, hrow⟩ := hrow.row
      have p0 := (HKR.out.cell hbl).trans p0
      have p1 := (HKR.out.cell hbl).trans p1
      have p2 := (HKR.out.cell hbl).trans p2
      have hblr := Nat.lt_of_lt_of_le hbl HKR.out.size
      have hrlen : r.of.length ≤ N := by have := hok.len; omega
      have HFT := Lib.hid (And.intro hok.fit hok.fto)
      have HIR := Lib.hid hrow
      have HC := Lib.hid (And.intro c0 (And.intro c1 (And.intro c2 c3)))
      clear htl hgi hti hcol hto hstr hall nbi nbj nti nt1 htnum hok hrow c0 c1 c2 c3
      go_upto_region 7 with fail
      have HKA : Hid (Keep NoS wr (wr.alloc (.cells #[.slice os r.of.length cs, .int .i64 r.kind, .int .i64 r.to] 42))) := Lib.hid (by (repeat' (with_reducible first | assumption | exact HK.out | exact keR | refine keA ?_ | refine keS ?_ fun h => absurd h (by omega) | refine keN ?_ | refine keD ?_)))
      have HB13 : Hid (Blk (wr.alloc (.cells #[.slice os r.of.length cs, .int .i64 r.kind, .int .i64 r.to] 42)) wr.heap.size #[.slice os r.of.length cs, .int .i64 r.kind, .int .i64 r.to]) := Lib.hid (blk_at _ _ rfl)
      have HNE3 : Hid (b7 ≠ wr.heap.size ∧ bn ≠ wr.heap.size ∧ b10 ≠ wr.heap.size) := Lib.hid ⟨by have := HB7.out.lt; omega, by have := HBN.out.lt; omega, by have := HB10.out.lt; omega⟩
      have HB7 := Lib.hid (HB7.out.keep HKA.out)
      have HBN := Lib.hid (HBN.out.keep HKA.out)
      have HB10 := Lib.hid (HB10.out.keep HKA.out)
      clear p0 p1 p2
      generalize hb13 : wr.heap.size = b13 at HB13 HNE3 ⊢
      clear hb13
      generalize wr.alloc (.cells #[.slice os r.of.length cs, .int .i64 r.kind, .int .i64 r.to] 42) = wa at *
      obtain ⟨s0, s1, s2, _, _, _, l13⟩ := HB13.out.three
      go_wp2_with fail
      have HBM : Hid (NumBlk wa bn (mixL rows ts N i 0)) := Lib.hid (by rw [mixL_zero]; exact HBN.out)
      have HIN : Hid (IsInts w (.slice os r.of.length cs) r.of) := Lib.hid (by obtain ⟨sv, hsv, h, _⟩ := HIR.out; cases hsv; exact h)
      have HKA := Lib.hid (HKR.out.both HKA.out)
      clear HBN s0 s1 s2 l13 HIR HKR hlt
      go_loopw [28] (fun s wr => ∃ k : Nat, k ≤ r.of.length ∧ s = .int .i64 k ∧ Keep NoS w wr ∧ Blk wr b7 #[.bool false, .string ⟨#[]⟩, .bool false, .string ⟨#[]⟩] ∧ NumBlk wr bn (mixL rows ts N i k) ∧ Blk wr b10 #[.bool nb, .string nS, .bool db, .string dS] ∧ Blk wr b13 #[.slice os r.of.length cs, .int .i64 r.kind, .int .i64 r.to]) (fun s _ => (r.of.length - intOf s).toNat)
      case atStart => exact ⟨0, by omega, rfl, HKA.out, HB7.out, HBM.out, HB10.out, HB13.out⟩
      case round =>
        obtain ⟨k, hk, rfl, hkr, hb7, hbn, hb10, hb13⟩ := hrel
        have HKX := Lib.hid hkr
        have HB7 := Lib.hid hb7
        have HBN := Lib.hid hbn
        have HB10 := Lib.hid hb10
        have HB13 := Lib.hid hb13
        clear hkr hb7 hbn hb10 hb13 HKA
        by_cases hkl : k < r.of.length
        case pos =>
          have hlt : (k : Int) < (r.of.length : Int) := by omega
          have hltN : (k : Int) < (N : Int) := by omega
          have hkN : k < N := by omega
          obtain ⟨bi, oi, cp, hsl, hbi, hxi⟩ := (HIN.out).at hkl
          simp at hsl
          obtain ⟨rfl, rfl⟩ := hsl
          have hfk := HFT.out.1 _ (List.getElem_mem hkl)
          have hstep : colK rows ts k (i + 1) = colK rows ts k i + (r.of[k] : Rat) * t := by
            rw [HCOL.out k, List.getD_eq_getElem?_getD, List.getElem?_eq_getElem hkl]; rfl
          obtain ⟨xb, xS, yb, yS, q0, q1, q2, q3, hqn, g0, g1, g2, g3⟩ := HBN.out.at (k := k) (by rw [mixL_len]; exact hkN)
          rw [mixL_get hkN] at hqn
          have hln := HBN.out.lt
          generalize r.of[k] = c at *
          obtain ⟨ib, iS, jb, jS, lx⟩ := numQ_agg (c : Rat)
          obtain ⟨mb, mS, ub, uS, lt'⟩ := numQ_agg ((c : Rat) * t)
          obtain ⟨sb, sS, zb, zS, ls⟩ := numQ_agg (colK rows ts k (i + 1))
          have C0 := fun w => Lib.hid (exInt_any w c (by unfold fitI at hfk; omega) (by unfold fitI at hfk; omega))
          rw [← numQ_int, lx] at C0
          have C1 := fun w => Lib.hid (exTimes_any w _ (c : Rat) (isNum_Q _) ((nb_fitI hfk).mono (by omega)) _ t HTM.out (HN1.out.mono (by omega)))
          rw [lx, lt'] at C1
          have C2 := fun w => Lib.hid (exPlus_any w _ (colK rows ts k i) hqn ((HNI.out.1 k).mono (by omega)) _ ((c : Rat) * t) (isNum_Q _) (((nb_fitI hfk).mul HN1.out).mono (by omega)))
          rw [← hstep, lt', ls] at C2
          have HNN : Hid (IsNum (.agg #[.bool sb, .string sS, .bool zb, .string zS]) (colK rows ts k (i + 1))) := Lib.hid (by rw [← ls]; exact isNum_Q _)
          have c0 := (HKX.out.cell hb').trans HC.out.1
          have c1 := (HKX.out.cell hb').trans HC.out.2.1
          have c2 := (HKX.out.cell hb').trans HC.out.2.2.1
          have c3 := (HKX.out.cell hb').trans HC.out.2.2.2
          have hbr := Nat.lt_of_lt_of_le hb' HKX.out.size
          have hir := Nat.lt_of_lt_of_le hbi HKX.out.size
          have hxi := (HKX.out.cell hbi).trans hxi
          clear lx lt' ls hstep hqn hfk
          go_wp2
          refine wp_region_by (fun w' => Keep NoS wr w') [15] [([0, 1, 2, 3, 4, 5, 6, 8, 9, 10, 11], 7), ([], 12), ([], 13), ([14], 15)] [] (by kernel_rfl) (by kernel_rfl) (by (repeat' (with_reducible first | assumption | exact HK.out | exact keR | refine keA ?_ | refine keS ?_ fun h => absurd h (by omega) | refine keN ?_ | refine keD ?_))) ?_
          intro X W hne hF hcl
          have HCL := Lib.hid hcl
          have a0 := fun x => ((hF x).cell hln).trans q0
          have a1 := fun x => ((hF x).cell hln).trans q1
          have a2 := fun x => ((hF x).cell hln).trans q2
          have a3 := fun x => ((hF x).cell hln).trans q3
          have b0 := fun x => ((hF x).cell hbr).trans c0
          have b1 := fun x => ((hF x).cell hbr).trans c1
          have b2 := fun x => ((hF x).cell hbr).trans c2
          have b3 := fun x => ((hF x).cell hbr).trans c3
          clear hF hcl
          simp only [wpPlan, pickOps, List.getElem?_toArray, List.getElem?_cons_zero, List.getElem?_cons_succ, clsOf, Bool.false_eq_true, if_false]
          (repeat (quiet_step (fail))); refine wpQuiet_nil ?_
          refine wpAt rfl rfl fun K hK => ?_
          go_simp
          refine (C0 _).out.mono ?_
          rintro e w1 ⟨rfl, hk1⟩
          have k1 : Keep NoS wr w1 := Keep.trans (by (repeat' (with_reducible first | assumption | exact HK.out | exact keR | refine keA ?_ | refine keS ?_ fun h => absurd h (by omega) | refine keN ?_ | refine keD ?_))) hk1 fun _ _ _ h => h
          refine hK _ _ ⟨fun _ => HCL.out _ k1, ?_⟩
          clear hK K hk1
          (repeat (quiet_step (fail))); refine wpQuiet_nil ?_
          refine wpAt rfl rfl fun K hK => ?_
          go_simp
          refine (C1 _).out.mono ?_
          rintro e w2 ⟨rfl, hk2⟩
          have k2 := k1.both hk2
          refine hK _ _ ⟨fun _ => HCL.out _ k2, ?_⟩
          clear hK K hk2
          (repeat (quiet_step (fail))); refine wpQuiet_nil ?_
          refine wpAt rfl rfl fun K hK => ?_
          go_simp
          refine (C2 _).out.mono ?_
          rintro e w4 ⟨rfl, hk4⟩
          have k4 := k2.both hk4
          refine hK _ _ ⟨fun _ => HCL.out _ k4, ?_⟩
          have HK4 := Lib.hid (HKX.out.both k4)
          have HB74 := Lib.hid (HB7.out.keep k4)
          have HBN4 := Lib.hid (HBN.out.keep k4)
          have HB104 := Lib.hid (HB10.out.keep k4)
          have HB134 := Lib.hid (HB13.out.keep k4)
          clear hK K hk4 k1 k2 k4 a0 a1 a2 a3 b0 b1 b2 b3 q0 q1 q2 q3 g0 g1 g2 g3 c0 c1 c2 c3 hln hbr C0 C1 C2
          obtain ⟨xb', xS', yb', yS', q0, q1, q2, q3, hqn, g0, g1, g2, g3⟩ := HBN4.out.at (k := k) (by rw [mixL_len]; exact hkN)
          have hln := HBN4.out.lt
          clear hqn
          (repeat (quiet_step (fail))); refine wpQuiet_nil ?_
          refine wpAt rfl rfl fun K hK => ?_
          go_simp
          refine hK _ _ ⟨fun h => (by simp at h), ?_⟩
          have HBN5 := Lib.hid (HBN4.out.set (k := k) HNN.out)
          have HB75 := Lib.hid (HB74.out.otherN (o := k * 4) HNE.out.1 (.bool sb) (.string sS) (.bool zb) (.string zS))
          have HB105 := Lib.hid (HB104.out.otherN (o := k * 4) (Ne.symm HNE.out.2.2) (.bool sb) (.string sS) (.bool zb) (.string zS))
          have HB135 := Lib.hid (HB134.out.otherN (o := k * 4) (Ne.symm HNE3.out.2.1) (.bool sb) (.string sS) (.bool zb) (.string zS))
          have HK5 := Lib.hid (keep_setN (o := k * 4) HK4.out HSZ.out.2.1 (.bool sb) (.string sS) (.bool zb) (.string zS))
          rw [mixL_set hkN] at HBN5
          clear hK K q0 q1 q2 q3 g0 g1 g2 g3 hln
          generalize (((w4.setCell ⟨bn, k * 4, none⟩ (.bool sb)).setCell ⟨bn, k * 4 + 1, none⟩ (.string sS)).setCell ⟨bn, k * 4 + 2, none⟩ (.bool zb)).setCell ⟨bn, k * 4 + 3, none⟩ (.string zS) = w5 at *
          (repeat (quiet_step (fail))); refine wpQuiet_nil ?_
          refine NoPanic.normal ?_
          go_wp2
          go_roundw
          case rel => exact ⟨k + 1, by omega, by go_num, HK5.out, HB75.out, HBN5.out, HB105.out, HB135.out⟩
          case measure => simp [intOf]; omega
        case neg =>
          have hlt : ¬ (k : Int) < (r.of.length : Int) := by omega
          obtain rfl : k = r.of.length := by omega
          have HBN : Hid (NumBlk wr bn (colL rows ts N (i + 1))) := Lib.hid (by rw [← HALL.out]; exact HBN.out)
          go_upto_region 12 with fail
          obtain ⟨ib, iS, jb, jS, lx⟩ := numQ_agg (r.to : Rat)
          obtain ⟨mb, mS, ub, uS, lt'⟩ := numQ_agg ((r.to : Rat) * t)
          obtain ⟨sb, sS, zb, zS, ls⟩ := numQ_agg (toK rows ts (i + 1))
          have hft := HFT.out.2
          have C0 := fun w => Lib.hid (exInt_any w r.to (by unfold fitI at hft; omega) (by unfold fitI at hft; omega))
          rw [← numQ_int, lx] at C0
          have C1 := fun w => Lib.hid (exTimes_any w _ (r.to : Rat) (isNum_Q _) ((nb_fitI hft).mono (by omega)) _ t HTM.out (HN1.out.mono (by omega)))
          rw [lx, lt'] at C1
          have C2 := fun w => Lib.hid (exPlus_any w _ (toK rows ts i) HNU.out (HNT.out.mono (by omega)) _ ((r.to : Rat) * t) (isNum_Q _) (((nb_fitI hft).mul HN1.out).mono (by omega)))
          rw [← HTO.out, lt', ls] at C2
          have HNN : Hid (IsNum (.agg #[.bool sb, .string sS, .bool zb, .string zS]) (toK rows ts (i + 1))) := Lib.hid (by rw [← ls]; exact isNum_Q _)
          have c0 := (HKX.out.cell hb').trans HC.out.1
          have c1 := (HKX.out.cell hb').trans HC.out.2.1
          have c2 := (HKX.out.cell hb').trans HC.out.2.2.1
          have c3 := (HKX.out.cell hb').trans HC.out.2.2.2
          have hbr := Nat.lt_of_lt_of_le hb' HKX.out.size
          clear lx lt' ls hft
          refine wp_region_by (fun w' => Keep NoS wr w') [10] [([0, 1, 2, 4, 5, 6, 7], 3), ([], 8), ([], 9), ([], 10)] [] (by kernel_rfl) (by kernel_rfl) (by (repeat' (with_reducible first | assumption | exact HK.out | exact keR | refine keA ?_ | refine keS ?_ fun h => absurd h (by omega) | refine keN ?_ | refine keD ?_))) ?_
          intro X W hne hF hcl
          have HCL := Lib.hid hcl
          have a0 := fun x => (HB10.out.keep (hF x)).four
          have a1 := fun x => (HB13.out.keep (hF x)).three
          have b0 := fun x => ((hF x).cell hbr).trans c0
          have b1 := fun x => ((hF x).cell hbr).trans c1
          have b2 := fun x => ((hF x).cell hbr).trans c2
          have b3 := fun x => ((hF x).cell hbr).trans c3
          clear hF hcl
          simp only [wpPlan, pickOps, List.getElem?_toArray, List.getElem?_cons_zero, List.getElem?_cons_succ, clsOf, Bool.false_eq_true, if_false]
          (repeat (quiet_step (fail))); refine wpQuiet_nil ?_
          refine wpAt rfl rfl fun K hK => ?_
          go_simp
          refine (C0 _).out.mono ?_
          rintro e w1 ⟨rfl, hk1⟩
          have k1 : Keep NoS wr w1 := Keep.trans (by (repeat' (with_reducible first | assumption | exact HK.out | exact keR | refine keA ?_ | refine keS ?_ fun h => absurd h (by omega) | refine keN ?_ | refine keD ?_))) hk1 fun _ _ _ h => h
          refine hK _ _ ⟨fun _ => HCL.out _ k1, ?_⟩
          clear hK K hk1
          (repeat (quiet_step (fail))); refine wpQuiet_nil ?_
          refine wpAt rfl rfl fun K hK => ?_
          go_simp
          refine (C1 _).out.mono ?_
          rintro e w2 ⟨rfl, hk2⟩
          have k2 := k1.both hk2
          refine hK _ _ ⟨fun _ => HCL.out _ k2, ?_⟩
          clear hK K hk2
          (repeat (quiet_step (fail))); refine wpQuiet_nil ?_
          refine wpAt rfl rfl fun K hK => ?_
          go_simp
          refine (C2 _).out.mono ?_
          rintro e w4 ⟨rfl, hk4⟩
          have k4 := k2.both hk4
          refine hK _ _ ⟨fun _ => HCL.out _ k4, ?_⟩
          have HK4 := Lib.hid (HKX.out.both k4)
          have HB74 := Lib.hid (HB7.out.keep k4)
          have HBN4 := Lib.hid (HBN.out.keep k4)
          have HB104 := Lib.hid (HB10.out.keep k4)
          have HB134 := Lib.hid (HB13.out.keep k4)
          clear hK K hk4 k1 k2 k4 a0 a1 b0 b1 b2 b3 c0 c1 c2 c3 hbr C0 C1 C2
          obtain ⟨q0, q1, q2, q3, g0, g1, g2, g3, ql⟩ := HB104.out.four
          (repeat (quiet_step (fail))); refine wpQuiet_nil ?_
          refine wpAt rfl rfl fun K hK => ?_
          go_simp
          refine hK _ _ ⟨fun h => (by simp at h), ?_⟩
          have HBN5 : Hid (NumBlk ((((w4.setCell ⟨b10, 0, none⟩ (.bool sb)).setCell ⟨b10, 1, none⟩ (.string sS)).setCell ⟨b10, 2, none⟩ (.bool zb)).setCell ⟨b10, 3, none⟩ (.string zS)) bn (colL rows ts N (i + 1))) := Lib.hid (HBN4.out.otherN (o := 0) (Ne.symm (Ne.symm HNE.out.2.2)) (.bool sb) (.string sS) (.bool zb) (.string zS))
          have HB75 : Hid (Blk ((((w4.setCell ⟨b10, 0, none⟩ (.bool sb)).setCell ⟨b10, 1, none⟩ (.string sS)).setCell ⟨b10, 2, none⟩ (.bool zb)).setCell ⟨b10, 3, none⟩ (.string zS)) b7 #[.bool false, .string ⟨#[]⟩, .bool false, .string ⟨#[]⟩]) := Lib.hid (HB74.out.otherN (o := 0) HNE.out.2.1 (.bool sb) (.string sS) (.bool zb) (.string zS))
          have HB105 : Hid (Blk ((((w4.setCell ⟨b10, 0, none⟩ (.bool sb)).setCell ⟨b10, 1, none⟩ (.string sS)).setCell ⟨b10, 2, none⟩ (.bool zb)).setCell ⟨b10, 3, none⟩ (.string zS)) b10 #[.bool sb, .string sS, .bool zb, .string zS]) := Lib.hid (HB104.out.set4 (.bool sb) (.string sS) (.bool zb) (.string zS))
          have HB135 : Hid (Blk ((((w4.setCell ⟨b10, 0, none⟩ (.bool sb)).setCell ⟨b10, 1, none⟩ (.string sS)).setCell ⟨b10, 2, none⟩ (.bool zb)).setCell ⟨b10, 3, none⟩ (.string zS)) b13 #[.slice os r.of.length cs, .int .i64 r.kind, .int .i64 r.to]) := Lib.hid (HB134.out.otherN (o := 0) (Ne.symm HNE3.out.2.2) (.bool sb) (.string sS) (.bool zb) (.string zS))
          have HK5 : Hid (Keep NoS w ((((w4.setCell ⟨b10, 0, none⟩ (.bool sb)).setCell ⟨b10, 1, none⟩ (.string sS)).setCell ⟨b10, 2, none⟩ (.bool zb)).setCell ⟨b10, 3, none⟩ (.string zS))) := Lib.hid (keep_set4 HK4.out HSZ.out.2.2 (.bool sb) (.string sS) (.bool zb) (.string zS))
          clear hK K q0 q1 q2 q3 g0 g1 g2 g3 ql HK4 HB74 HBN4 HB104 HB134
          generalize ((((w4.setCell ⟨b10, 0, none⟩ (.bool sb)).setCell ⟨b10, 1, none⟩ (.string sS)).setCell ⟨b10, 2, none⟩ (.bool zb)).setCell ⟨b10, 3, none⟩ (.string zS)) = w5 at *
          (repeat (quiet_step (fail))); refine wpQuiet_nil ?_
          refine NoPanic.normal ?_
          have HDONE : Hid (strK rows ts (i + 1) = (strK rows ts i || (decide (r.kind = 2) && decide (t ≠ 0)))) := HSTR
          have C3 := fun w => Lib.hid (exSign_num HTM.out w)
          generalize strK rows ts i = sv at *
          have HEND : ∀ wx, Keep NoS w5 wx → True → Hid (Keep NoS w wx ∧ Blk wx b7 #[.bool false, .string ⟨#[]⟩, .bool false, .string ⟨#[]⟩] ∧ NumBlk wx bn (colL rows ts N (i + 1)) ∧ Blk wx b10 #[.bool sb, .string sS, .bool zb, .string zS]) := fun wx k _ => Lib.hid ⟨HK5.out.both k, HB75.out.keep k, HBN5.out.keep k, HB105.out.keep k⟩
          obtain ⟨s0, s1, s2, _, _, _, l13⟩ := HB135.out.three
          have c0 := (HK5.out.cell hb').trans HC.out.1
          have c1 := (HK5.out.cell hb').trans HC.out.2.1
          have c2 := (HK5.out.cell hb').trans HC.out.2.2.1
          have c3 := (HK5.out.cell hb').trans HC.out.2.2.2
          have hbr := Nat.lt_of_lt_of_le hb' HK5.out.size
          clear HSTR HB7 HBN HB10 HB13
          cases sv
          case true =>
            have HSW : Hid (strK rows ts (i + 1) = true) := Lib.hid (by rw [HDONE.out]; rfl)
            have HF := (HEND w5 (Keep.refl _ _) trivial)
            clear HEND HDONE
            go_wp2
            go_roundw
            case rel => exact ⟨i + 1, by omega, by go_num, by rw [HSW.out], HF.out.1, HF.out.2.1, HF.out.2.2.1, _, _, _, _, HF.out.2.2.2, HNN.out⟩
            case measure => simp [intOf]; omega
          case false =>
            by_cases hk2 : r.kind = 2
            case pos =>
              have e1 : (r.kind == 2) = true := by rw [beq_iff_eq]; exact hk2
              by_cases ht0 : t = 0
              case pos =>
                have HSW : Hid (strK rows ts (i + 1) = false) := Lib.hid (by rw [HDONE.out]; simp [ht0])
                rw [num_zero_of ht0] at C3
                have HF := fun wx k => (HEND wx k trivial)
                clear HEND HDONE
                go_wp2_with fail
                refine (C3 _).out.mono ?_
                rintro e w6 ⟨rfl, hk6⟩
                have HF := HF w6 hk6
                clear hk6 C3
                go_wp2
                go_roundw
                case rel => exact ⟨i + 1, by omega, by go_num, by rw [HSW.out], HF.out.1, HF.out.2.1, HF.out.2.2.1, _, _, _, _, HF.out.2.2.2, HNN.out⟩
                case measure => simp [intOf]; omega
              case neg =>
                have HSW : Hid (strK rows ts (i + 1) = true) := Lib.hid (by rw [HDONE.out]; simp [ht0, hk2])
                have hsg : (t.num.sign != 0) = true := by rw [bne_iff_ne]; exact num_sign_ne ht0
                generalize t.num.sign = sg at *
                have HF := fun wx k => (HEND wx k trivial)
                clear HEND HDONE
                go_wp2_with fail
                refine (C3 _).out.mono ?_
                rintro e w6 ⟨rfl, hk6⟩
                have HF := HF w6 hk6
                clear hk6 C3
                go_wp2
                go_roundw
                case rel => exact ⟨i + 1, by omega, by go_num, by rw [HSW.out], HF.out.1, HF.out.2.1, HF.out.2.2.1, _, _, _, _, HF.out.2.2.2, HNN.out⟩
                case measure => simp [intOf]; omega
            case neg =>
              have e1 : (r.kind == 2) = false := by rw [beq_eq_false_iff_ne]; exact hk2
              have HSW : Hid (strK rows ts (i + 1) = false) := Lib.hid (by rw [HDONE.out]; simp [hk2])
              have HF := (HEND w5 (Keep.refl _ _) trivial)
              clear HEND HDONE
              go_wp2
              go_roundw
              case rel => exact ⟨i + 1, by omega, by go_num, by rw [HSW.out], HF.out.1, HF.out.2.1, HF.out.2.2.1, _, _, _, _, HF.out.2.2.2, HNN.out⟩
              case measure => simp [intOf]; omega
end Go.Proofs.Ytamjmcdlddocgaa
