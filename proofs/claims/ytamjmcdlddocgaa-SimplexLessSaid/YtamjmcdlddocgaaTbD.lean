/- Package tableau's can. -/
import Derived.Test.YtamjmcdlddocgaaTbC
namespace Go.Proofs.Ytamjmcdlddocgaa
open Go.ChangeShapes Go.WideShapes Go.RowKit Go.Maps
set_option linter.unusedVariables false
set_option linter.unusedSimpArgs false

theorem val_at {S : TS} {v : Nat} (h : v < S.vals.length) : S.val v = S.vals[v] := by
  unfold TS.val
  rw [List.getD_eq_getElem?_getD, List.getElem?_eq_getElem h]; rfl
theorem up_ok {S : TS} (h : S.wf) (v : Nat) : (upP S.n S.rows v).ok 1 := by
  unfold upP
  split
  · exact ⟨nb_zero, nb_zero⟩
  · refine ⟨nb_fitI (row_ok h v), ?_⟩
    simp only
    split
    · exact nb_int (x := -1) (by decide)
    · exact nb_zero
theorem lo_ok {S : TS} (h : S.wf) (v : Nat) : (loP S.n S.rows v).ok 1 := by
  unfold loP
  split
  · exact ⟨nb_zero, nb_zero⟩
  · exact ⟨nb_fitI (row_ok h v), nb_zero⟩
theorem Pr.ok.mono {j k : Nat} {a : Pr} (h : a.ok j) (hk : j ≤ k) : a.ok k := ⟨h.1.mono hk, h.2.mono hk⟩

set_option maxRecDepth 100000 in
set_option maxHeartbeats 8000000 in
theorem can_any (w0 w : World) (bT nm : Nat) (S : TS) (h : IsT w0 w bT nm S) (hw : S.wf) (hn : S.nb 900) (v : Nat) (hv : v < S.n + S.rows.length) (way : Int) (hway : I64 way) :
    Calls Try.prog 68 #[.pointer (some ⟨bT, 0, none⟩), .int .i64 (v : Int), .int .i64 way] w fun e w' => e = .returned (.bool (S.canB v way)) ∧ Keep NoS w w' := by
  obtain ⟨L, h⟩ := h
  have hvl : v < S.vals.length := by rw [hw.vl]; exact hv
  obtain ⟨px, hpx, c0, c1, c2, c3, c4, c5, c6, c7⟩ := PairAt h.v hvl
  obtain ⟨_, _, _, _, _, t5, _, hltT⟩ := h.t.seven
  have hltV := h.v.lt
  have CU := fun w' (k : Keep NoS w w') => Lib.hid (upper_any w' bT S.n _ _ _ _ _ _ S.rows v (h.t.keep k) (h.rows.keep (h.k.both k)) hw.n12 hw.r40 hv)
  have CL := fun w' (k : Keep NoS w w') => Lib.hid (lower_any w' bT S.n _ _ _ _ _ _ S.rows v (h.t.keep k) (h.rows.keep (h.k.both k)) hw.n12 hw.r40 hv)
  have HCB : Hid (S.canB v way = if 0 < way then !hasUp S.n v || decide ((S.vals[v]).cmp (upP S.n S.rows v) < 0) else !hasLo S.n S.rows v || decide (0 < (S.vals[v]).cmp (loP S.n S.rows v))) := Lib.hid (by unfold TS.canB; rw [val_at hvl])
  have HNU := up_ok hw v
  have HNL := lo_ok hw v
  have HNV : Hid ((S.vals[v]).ok 900) := Lib.hid (hn.v _ (List.getElem_mem hvl))
  have HPX := Lib.hid hpx
  have xs := h.cv.1
  have xs' := h.cv.2
  unfold maxLen at xs'
  have hvI : (v : Int) < (S.vals.length : Int) := by omega
  obtain ⟨⟨xb, xS, xc, xU⟩, ⟨yb, yS, yc, yU⟩⟩ := px
  simp only at c0 c1 c2 c3 c4 c5 c6 c7
  generalize S.canB v way = cb at *
  clear h hn hpx
  by_cases hp : 0 < way
  case pos =>
    rw [if_pos hp] at HCB
    clear CL HNL
    go_enter Try.func68, Try.ntmps68
    go_wp2_with fail
    refine (CU _ (by (repeat' (with_reducible first | assumption | exact HK.out | exact keR | refine keA ?_ | refine keS ?_ fun h => absurd h (by omega) | refine keN ?_ | refine keD ?_)))).out.mono ?_
    rintro e w1 ⟨⟨⟨pb, pS, pc, pU⟩, ⟨qb, qS, qc, qU⟩⟩, rfl, hz, hk⟩
    have K1 : Hid (Keep NoS w w1) := Lib.hid (Keep.trans (by (repeat' (with_reducible first | assumption | exact HK.out | exact keR | refine keA ?_ | refine keS ?_ fun h => absurd h (by omega) | refine keN ?_ | refine keD ?_))) hk fun _ _ _ h => h)
    have HZ := Lib.hid hz
    clear hk hz CU
    have HB : Hid (Blk (w1.alloc (.cells #[.bool pb, .string pS, .bool pc, .string pU, .bool qb, .string qS, .bool qc, .string qU] 119)) w1.heap.size #[.bool pb, .string pS, .bool pc, .string pU, .bool qb, .string qS, .bool qc, .string qU]) := Lib.hid (blk_at _ _ rfl)
    have K2 : Hid (Keep NoS w (w1.alloc (.cells #[.bool pb, .string pS, .bool pc, .string pU, .bool qb, .string qS, .bool qc, .string qU] 119))) := Lib.hid (K1.out.alloc _)
    unfold PV.v
    go_upto_region 3 with fail
    generalize w1.alloc (.cells #[.bool pb, .string pS, .bool pc, .string pU, .bool qb, .string qS, .bool qc, .string qU] 119) = w2 at *
    generalize w1.heap.size = b7 at *
    refine wp_region_by (fun w' => Keep NoS w2 w') [] [([0, 1, 2, 3, 4, 5, 6, 7, 8, 9, 10], 11)] [12, 13, 14] (by kernel_rfl) (by kernel_rfl) (by (repeat' (with_reducible first | assumption | exact HK.out | exact keR | refine keA ?_ | refine keS ?_ fun h => absurd h (by omega) | refine keN ?_ | refine keD ?_))) ?_
    intro X W hne hF hcl
    have HCL := Lib.hid hcl
    have hlt2 := Nat.lt_of_lt_of_le hltT K2.out.size
    have hlv2 := Nat.lt_of_lt_of_le hltV K2.out.size
    have x0 := fun x => ((hF x).cell hlt2).trans ((K2.out.cell hltT).trans t5)
    have y0 := fun x => ((hF x).cell hlv2).trans ((K2.out.cell hltV).trans c0)
    have y1 := fun x => ((hF x).cell hlv2).trans ((K2.out.cell hltV).trans c1)
    have y2 := fun x => ((hF x).cell hlv2).trans ((K2.out.cell hltV).trans c2)
    have y3 := fun x => ((hF x).cell hlv2).trans ((K2.out.cell hltV).trans c3)
    have y4 := fun x => ((hF x).cell hlv2).trans ((K2.out.cell hltV).trans c4)
    have y5 := fun x => ((hF x).cell hlv2).trans ((K2.out.cell hltV).trans c5)
    have y6 := fun x => ((hF x).cell hlv2).trans ((K2.out.cell hltV).trans c6)
    have y7 := fun x => ((hF x).cell hlv2).trans ((K2.out.cell hltV).trans c7)
    have z0 := fun x => (HB.out.keep (hF x)).eight
    clear hF hcl
    have CC := fun w => Lib.hid (vCmp_any w _ _ HPX.out (HNV.out.mono (by omega)) _ _ HZ.out (HNU.mono (by omega)))
    unfold PV.v at CC
    simp only at CC
    generalize hcm : (S.vals[v]).cmp (upP S.n S.rows v) = cm at *
    generalize hhu : hasUp S.n v = hu at *
    clear hcm hhu
    cases hu
    case false =>
      simp only [wpPlan, pickOps, List.getElem?_toArray, List.getElem?_cons_zero, List.getElem?_cons_succ, clsOf, Bool.false_eq_true, if_false]
      (repeat (go_big_quiet_step (fail))); refine wpQuiet_nil ?_
      refine wpOp_unwanted (by simp only [List.getElem?_toArray, List.getElem?_cons_zero, List.getElem?_cons_succ]; rfl) (by rfl) ?_
      simp only [Act.put, List.setIfInBounds_toArray, List.set_cons_zero, List.set_cons_succ]
      refine ⟨fun _ => HCL.out _ (Keep.refl NoS w2).drew, ?_⟩
      (repeat (go_big_quiet_step (fail))); refine wpQuiet_nil ?_
      refine NoPanic.normal ?_
      have K9 := Lib.hid (K2.out.drew)
      go_simp
      repeat go_step
      refine bodyPost_ret (by simp [results, Try.results68, go_sem]; rfl) rfl ?_
      exact ⟨by rw [HCB.out]; rfl, K9.out⟩
    case true =>
      simp only [wpPlan, pickOps, List.getElem?_toArray, List.getElem?_cons_zero, List.getElem?_cons_succ, clsOf, Bool.false_eq_true, if_false]
      (repeat (go_big_quiet_step (fail))); refine wpQuiet_nil ?_
      refine wpWa rfl rfl fun K hK => ?_
      go_simp
      refine (CC _).out.mono ?_
      rintro e w3 ⟨rfl, hk3⟩
      have k3 : Keep NoS w2 w3 := Keep.trans (by (repeat' (with_reducible first | assumption | exact HK.out | exact keR | refine keA ?_ | refine keS ?_ fun h => absurd h (by omega) | refine keN ?_ | refine keD ?_))) hk3 fun _ _ _ h => h
      refine hK _ _ ⟨fun _ => HCL.out _ k3, ?_⟩
      have K2 := Lib.hid (K2.out.both k3)
      clear hK K hk3 CC k3 x0 y0 y1 y2 y3 y4 y5 y6 y7 z0
      (repeat (go_big_quiet_step (fail))); refine wpQuiet_nil ?_
      refine NoPanic.normal ?_
      have K9 := K2
      go_simp
      repeat go_step
      refine bodyPost_ret (by simp [results, Try.results68, go_sem]; rfl) rfl ?_
      exact ⟨by rw [HCB.out]; rfl, K9.out⟩
  case neg =>
    rw [if_neg hp] at HCB
    clear CU HNU
    go_enter Try.func68, Try.ntmps68
    go_wp2_with fail
    refine (CL _ (by (repeat' (with_reducible first | assumption | exact HK.out | exact keR | refine keA ?_ | refine keS ?_ fun h => absurd h (by omega) | refine keN ?_ | refine keD ?_)))).out.mono ?_
    rintro e w1 ⟨⟨⟨pb, pS, pc, pU⟩, ⟨qb, qS, qc, qU⟩⟩, rfl, hz, hk⟩
    have K1 : Hid (Keep NoS w w1) := Lib.hid (Keep.trans (by (repeat' (with_reducible first | assumption | exact HK.out | exact keR | refine keA ?_ | refine keS ?_ fun h => absurd h (by omega) | refine keN ?_ | refine keD ?_))) hk fun _ _ _ h => h)
    have HZ := Lib.hid hz
    clear hk hz CL
    have HB : Hid (Blk (w1.alloc (.cells #[.bool pb, .string pS, .bool pc, .string pU, .bool qb, .string qS, .bool qc, .string qU] 119)) w1.heap.size #[.bool pb, .string pS, .bool pc, .string pU, .bool qb, .string qS, .bool qc, .string qU]) := Lib.hid (blk_at _ _ rfl)
    have K2 : Hid (Keep NoS w (w1.alloc (.cells #[.bool pb, .string pS, .bool pc, .string pU, .bool qb, .string qS, .bool qc, .string qU] 119))) := Lib.hid (K1.out.alloc _)
    unfold PV.v
    go_upto_region 5 with fail
    generalize w1.alloc (.cells #[.bool pb, .string pS, .bool pc, .string pU, .bool qb, .string qS, .bool qc, .string qU] 119) = w2 at *
    generalize w1.heap.size = b7 at *
    refine wp_region_by (fun w' => Keep NoS w2 w') [] [([0, 1, 2, 3, 4, 5, 6, 7, 8, 9, 10], 11)] [12, 13, 14] (by kernel_rfl) (by kernel_rfl) (by (repeat' (with_reducible first | assumption | exact HK.out | exact keR | refine keA ?_ | refine keS ?_ fun h => absurd h (by omega) | refine keN ?_ | refine keD ?_))) ?_
    intro X W hne hF hcl
    have HCL := Lib.hid hcl
    have hlt2 := Nat.lt_of_lt_of_le hltT K2.out.size
    have hlv2 := Nat.lt_of_lt_of_le hltV K2.out.size
    have x0 := fun x => ((hF x).cell hlt2).trans ((K2.out.cell hltT).trans t5)
    have y0 := fun x => ((hF x).cell hlv2).trans ((K2.out.cell hltV).trans c0)
    have y1 := fun x => ((hF x).cell hlv2).trans ((K2.out.cell hltV).trans c1)
    have y2 := fun x => ((hF x).cell hlv2).trans ((K2.out.cell hltV).trans c2)
    have y3 := fun x => ((hF x).cell hlv2).trans ((K2.out.cell hltV).trans c3)
    have y4 := fun x => ((hF x).cell hlv2).trans ((K2.out.cell hltV).trans c4)
    have y5 := fun x => ((hF x).cell hlv2).trans ((K2.out.cell hltV).trans c5)
    have y6 := fun x => ((hF x).cell hlv2).trans ((K2.out.cell hltV).trans c6)
    have y7 := fun x => ((hF x).cell hlv2).trans ((K2.out.cell hltV).trans c7)
    have z0 := fun x => (HB.out.keep (hF x)).eight
    clear hF hcl
    have CC := fun w => Lib.hid (vCmp_any w _ _ HPX.out (HNV.out.mono (by omega)) _ _ HZ.out (HNL.mono (by omega)))
    unfold PV.v at CC
    simp only at CC
    generalize hcm : (S.vals[v]).cmp (loP S.n S.rows v) = cm at *
    generalize hhu : hasLo S.n S.rows v = hu at *
    clear hcm hhu
    cases hu
    case false =>
      simp only [wpPlan, pickOps, List.getElem?_toArray, List.getElem?_cons_zero, List.getElem?_cons_succ, clsOf, Bool.false_eq_true, if_false]
      (repeat (go_big_quiet_step (fail))); refine wpQuiet_nil ?_
      refine wpOp_unwanted (by simp only [List.getElem?_toArray, List.getElem?_cons_zero, List.getElem?_cons_succ]; rfl) (by rfl) ?_
      simp only [Act.put, List.setIfInBounds_toArray, List.set_cons_zero, List.set_cons_succ]
      refine ⟨fun _ => HCL.out _ (Keep.refl NoS w2).drew, ?_⟩
      (repeat (go_big_quiet_step (fail))); refine wpQuiet_nil ?_
      refine NoPanic.normal ?_
      have K9 := Lib.hid (K2.out.drew)
      go_simp
      repeat go_step
      refine bodyPost_ret (by simp [results, Try.results68, go_sem]; rfl) rfl ?_
      exact ⟨by rw [HCB.out]; rfl, K9.out⟩
    case true =>
      simp only [wpPlan, pickOps, List.getElem?_toArray, List.getElem?_cons_zero, List.getElem?_cons_succ, clsOf, Bool.false_eq_true, if_false]
      (repeat (go_big_quiet_step (fail))); refine wpQuiet_nil ?_
      refine wpWa rfl rfl fun K hK => ?_
      go_simp
      refine (CC _).out.mono ?_
      rintro e w3 ⟨rfl, hk3⟩
      have k3 : Keep NoS w2 w3 := Keep.trans (by (repeat' (with_reducible first | assumption | exact HK.out | exact keR | refine keA ?_ | refine keS ?_ fun h => absurd h (by omega) | refine keN ?_ | refine keD ?_))) hk3 fun _ _ _ h => h
      refine hK _ _ ⟨fun _ => HCL.out _ k3, ?_⟩
      have K2 := Lib.hid (K2.out.both k3)
      clear hK K hk3 CC k3 x0 y0 y1 y2 y3 y4 y5 y6 y7 z0
      (repeat (go_big_quiet_step (fail))); refine wpQuiet_nil ?_
      refine NoPanic.normal ?_
      have K9 := K2
      go_simp
      repeat go_step
      refine bodyPost_ret (by simp [results, Try.results68, go_sem]; rfl) rfl ?_
      exact ⟨by rw [HCB.out]; rfl, K9.out⟩
end Go.Proofs.Ytamjmcdlddocgaa
