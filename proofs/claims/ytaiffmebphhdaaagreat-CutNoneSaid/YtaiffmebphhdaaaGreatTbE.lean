/- Package tableau's broken. -/
import Derived.Test.YtaiffmebphhdaaaGreatTbBB
namespace Go.Proofs.YtaiffmebphhdaaaGreat
set_option maxRecDepth 100000
set_option maxHeartbeats 32000000
set_option linter.unusedSimpArgs false
set_option linter.unusedVariables false
open Go.ChangeShapes Go.WideShapes Go.RowKit Go.Maps
def TS.brkStep (S:TS)(st:Int × Int)(b:Nat):Int × Int:=
 if 0≤st.1∧st.1<(b:Int)then st
 else if hasLo S.n S.rows b=true∧(S.val b).cmp (loP S.n S.rows b)<0 then((b:Int),1)
 else if hasUp S.n b=true∧0<(S.val b).cmp (upP S.n S.rows b)then((b:Int),-1)else st
def TS.broken (S:TS):Int × Int:=S.basic.foldl S.brkStep (-1,0)
theorem fold_take {α β:Type}{f:β→α→β}{b:β}{l:List α}{k:Nat}(h:k<l.length):(l.take (k+1)).foldl f b=f ((l.take k).foldl f b) l[k]:=by
 rw [List.take_succ_eq_append_getElem h,List.foldl_append];rfl
theorem broken_any (w0 w:World)(bT nm:Nat)(S:TS)(h:IsT w0 w bT nm S)(hw:S.wf)(hn:S.nb 900):
  Calls Tryz.prog 42 #[.pointer (some ⟨bT,0,none⟩)] w fun e w'=>e= .returned (.tuple #[.int .i64 S.broken.1,.int .i64 S.broken.2])∧Keep NoS w w':=by
 obtain⟨L,h⟩:=h;have HLT:=zh h;have HW:=zh hw;have HN:=zh hn;obtain⟨_,_,t2,_,_,t5,_,hltT⟩:=h.t.seven;have HT5:=zh t5;have hltV:=h.v.lt;have xs:=h.cv.1;have xs':=h.cv.2;have ys:=h.cb.1;have ys':=h.cb.2;have hvl:=hw.vl;have hbl:=hw.bl;have h40:=hw.r40;have h12:=hw.n12;unfold maxLen at xs' ys';clear h hw hn t5;go_enter Tryz.func42,Tryz.ntmps42;go_wp2;clear t2;go_loopw [4,5,17] (fun s4 s5 s17 wr=>∃(k:Nat) (b wy:Int),k≤S.basic.length∧s17= .int .i64 k∧s4= .int .i64 b∧s5= .int .i64 wy∧(S.basic.take k).foldl S.brkStep (-1,0)=(b,wy)∧ -1≤b∧b<1000∧ -1≤wy∧Keep NoS w wr) (fun _ _ s _=>(S.basic.length-intOf s).toNat)
 case atStart=>exact⟨0,-1,0,by omega,rfl,rfl,rfl,rfl,by omega,by omega,by omega,Keep.refl _ _⟩
 case round=>
  obtain⟨k,b,wy,hk,rfl,rfl,rfl,hf,hb1,hb2,hw1,hkr⟩:=hrel;have HF:=zh hf;have HKR:=zh hkr;clear hf hkr
  by_cases hkl:k<S.basic.length
  case neg=>
   have hlt:¬(k:Int)<(S.basic.length:Int):=by omega
   obtain rfl:k=S.basic.length:=by omega
   have HB:Hid (S.broken=(b,wy)):=zh (by unfold TS.broken;rw [← HF.out,List.take_length])
   go_wp2;go_ret2;exact⟨by rw [HB.out];rfl,HKR.out⟩
  case pos=>
   have hlt:(k:Int)<(S.basic.length:Int):=by omega
   have HTK:Hid ((S.basic.take (k+1)).foldl S.brkStep (-1,0)=S.brkStep (b,wy) S.basic[k]):=zh (by rw [fold_take hkl,HF.out])
   obtain⟨hob,hib⟩:=HLT.out.b (by intro h0;rw [h0]at hkl;simp at hkl)
   obtain⟨c0,_⟩:=hib.at hkl;have hgl:=hib.lt;rw [hob];have c0:=(HKR.out.cell hgl).trans c0;have hglr:=Nat.lt_of_lt_of_le hgl HKR.out.size;have hxk:=HW.out.bb _ (List.getElem_mem hkl);have hxv:S.basic[k]<S.vals.length:=by omega
   have HNU:=zh (up_ok HW.out S.basic[k]);have HNL:=zh (lo_ok HW.out S.basic[k]);have HNV:Hid ((S.val S.basic[k]).ok 900):=zh (by rw [val_at hxv];exact HN.out.v _ (List.getElem_mem hxv))
   obtain⟨px,hpx,e0,e1,e2,e3,e4,e5,e6,e7⟩:=PairAt HLT.out.v hxv;rw [← val_at hxv]at hpx;have HPX:=zh hpx;obtain⟨⟨xb,xS,xc,xU⟩,⟨yb,yS,yc,yU⟩⟩:=px;simp only at e0 e1 e2 e3 e4 e5 e6 e7;have HC:=zh (And.intro e0 (And.intro e1 (And.intro e2 (And.intro e3 (And.intro e4 (And.intro e5 (And.intro e6 e7)))))));have CU:=fun w' (k':Keep NoS w w')=>zh (upper_any w' bT S.n _ _ _ _ _ _ S.rows S.basic[k] (HLT.out.t.keep k') (HLT.out.rows.keep (HLT.out.k.both k')) HW.out.n12 HW.out.r40 hxk)
   have CL:=fun w' (k':Keep NoS w w')=>zh (lower_any w' bT S.n _ _ _ _ _ _ S.rows S.basic[k] (HLT.out.t.keep k') (HLT.out.rows.keep (HLT.out.k.both k')) HW.out.n12 HW.out.r40 hxk)
   have hxI:(S.basic[k]:Int)<(S.vals.length:Int):=by omega
   have hxI2:(S.basic[k]:Int)<1000:=by omega
   clear e0 e1 e2 e3 e4 e5 e6 e7 hpx hib hob hgl
   by_cases h0:0≤b
   case neg=>
    have hb0:¬(0:Int)≤b:=h0;have HS:Hid (¬ (0≤b∧b<(S.basic[k]:Int))):=zh (by omega)
    clear h0;go_upto_region 6 with fail
    clear c0 hglr;go_wp2_with fail;refine(CU _ HKR.out).out.mono ?_;rintro e wA1 ⟨⟨⟨pb,pS,pc,pU⟩,⟨qb,qS,qc,qU⟩⟩,rfl,hz,hk⟩;have KA1:=zh (HKR.out.both hk);have HZ1:=zh hz;clear hk hz CU;have HB1:Hid (Blk (wA1.alloc (.cells #[.bool pb,.string pS,.bool pc,.string pU,.bool qb,.string qS,.bool qc,.string qU] 101)) wA1.heap.size #[.bool pb,.string pS,.bool pc,.string pU,.bool qb,.string qS,.bool qc,.string qU]):=zh (blk_at _ _ rfl);have KB1:Hid (Keep NoS w (wA1.alloc (.cells #[.bool pb,.string pS,.bool pc,.string pU,.bool qb,.string qS,.bool qc,.string qU] 101))):=zh (KA1.out.alloc _);unfold PV.v;go_upto_region 7 with fail
    generalize wA1.alloc (.cells #[.bool pb,.string pS,.bool pc,.string pU,.bool qb,.string qS,.bool qc,.string qU] 101)=wB1 at *;generalize wA1.heap.size=b71 at *;refine wp_region_by (fun w'=>Keep NoS wB1 w') [] [([0,1,2,3,4,5,6,7,8,9],10)] [11,12] (by kernel_rfl) (by kernel_rfl) kp ?_
    intro X W hne hF hcl;have HCL:=zh hcl;have hlt2:=Nat.lt_of_lt_of_le hltT KB1.out.size;have hlv2:=Nat.lt_of_lt_of_le hltV KB1.out.size;have x0:=fun x=>((hF x).cell hlt2).trans ((KB1.out.cell hltT).trans HT5.out)
    have y0:=fun x=>((hF x).cell hlv2).trans ((KB1.out.cell hltV).trans HC.out.1)
    have y1:=fun x=>((hF x).cell hlv2).trans ((KB1.out.cell hltV).trans HC.out.2.1)
    have y2:=fun x=>((hF x).cell hlv2).trans ((KB1.out.cell hltV).trans HC.out.2.2.1)
    have y3:=fun x=>((hF x).cell hlv2).trans ((KB1.out.cell hltV).trans HC.out.2.2.2.1)
    have y4:=fun x=>((hF x).cell hlv2).trans ((KB1.out.cell hltV).trans HC.out.2.2.2.2.1)
    have y5:=fun x=>((hF x).cell hlv2).trans ((KB1.out.cell hltV).trans HC.out.2.2.2.2.2.1)
    have y6:=fun x=>((hF x).cell hlv2).trans ((KB1.out.cell hltV).trans HC.out.2.2.2.2.2.2.1)
    have y7:=fun x=>((hF x).cell hlv2).trans ((KB1.out.cell hltV).trans HC.out.2.2.2.2.2.2.2)
    have z0:=fun x=>(HB1.out.keep (hF x)).eight
    clear hF hcl;have CC:=fun w=>zh (vCmp_any w _ _ HPX.out (HNV.out.mono (by omega)) _ _ HZ1.out (HNU.out.mono (by omega)))
    unfold PV.v at CC;simp only at CC;generalize hhu:hasUp S.n S.basic[k]=hu at *;generalize hcm1:(S.val S.basic[k]).cmp (upP S.n S.rows S.basic[k])=cm1 at*
    cases hu
    case false=>
     have HQU:Hid (¬ (hasUp S.n S.basic[k]=true∧0<(S.val S.basic[k]).cmp (upP S.n S.rows S.basic[k]))):=zh (fun h=>by rw [hhu]at h;cases h.1)
     clear hhu hcm1;simp only [wpPlan,pickOps,zl0,zl1,zl2,clsOf,Bool.false_eq_true,if_false]
     (repeat(go_big_quiet_step (fail)));refine wpQuiet_nil ?_
     refine wpOp_unwanted (by simp only [zl0,zl1,zl2];rfl) (by rfl) ?_
     simp only [Act.put,List.setIfInBounds_toArray,List.set_cons_zero,List.set_cons_succ];refine⟨fun _=>HCL.out _ (Keep.refl NoS wB1).drew,?_⟩
     (repeat(go_big_quiet_step (fail)));refine wpQuiet_nil ?_
     refine NoPanic.normal ?_;have KD1:=zh (KB1.out.drew);clear x0 y0 y1 y2 y3 y4 y5 y6 y7 z0 CC HCL;generalize wB1.drew=wD1 at *;go_wp2_with fail;refine(CL _ KD1.out).out.mono ?_;rintro e wA2 ⟨⟨⟨pb,pS,pc,pU⟩,⟨qb,qS,qc,qU⟩⟩,rfl,hz,hk⟩;have KA2:=zh (KD1.out.both hk);have HZ2:=zh hz;clear hk hz CL;have HB2:Hid (Blk (wA2.alloc (.cells #[.bool pb,.string pS,.bool pc,.string pU,.bool qb,.string qS,.bool qc,.string qU] 101)) wA2.heap.size #[.bool pb,.string pS,.bool pc,.string pU,.bool qb,.string qS,.bool qc,.string qU]):=zh (blk_at _ _ rfl);have KB2:Hid (Keep NoS w (wA2.alloc (.cells #[.bool pb,.string pS,.bool pc,.string pU,.bool qb,.string qS,.bool qc,.string qU] 101))):=zh (KA2.out.alloc _);unfold PV.v;go_upto_region 10 with fail
     generalize wA2.alloc (.cells #[.bool pb,.string pS,.bool pc,.string pU,.bool qb,.string qS,.bool qc,.string qU] 101)=wB2 at *;generalize wA2.heap.size=b72 at *;refine wp_region_by (fun w'=>Keep NoS wB2 w') [] [([0,1,2,3,4,5,6,7,8,9],10)] [11,12] (by kernel_rfl) (by kernel_rfl) kp ?_
     intro X W hne hF hcl;have HCL:=zh hcl;have hlt2:=Nat.lt_of_lt_of_le hltT KB2.out.size;have hlv2:=Nat.lt_of_lt_of_le hltV KB2.out.size;have x0:=fun x=>((hF x).cell hlt2).trans ((KB2.out.cell hltT).trans HT5.out)
     have y0:=fun x=>((hF x).cell hlv2).trans ((KB2.out.cell hltV).trans HC.out.1)
     have y1:=fun x=>((hF x).cell hlv2).trans ((KB2.out.cell hltV).trans HC.out.2.1)
     have y2:=fun x=>((hF x).cell hlv2).trans ((KB2.out.cell hltV).trans HC.out.2.2.1)
     have y3:=fun x=>((hF x).cell hlv2).trans ((KB2.out.cell hltV).trans HC.out.2.2.2.1)
     have y4:=fun x=>((hF x).cell hlv2).trans ((KB2.out.cell hltV).trans HC.out.2.2.2.2.1)
     have y5:=fun x=>((hF x).cell hlv2).trans ((KB2.out.cell hltV).trans HC.out.2.2.2.2.2.1)
     have y6:=fun x=>((hF x).cell hlv2).trans ((KB2.out.cell hltV).trans HC.out.2.2.2.2.2.2.1)
     have y7:=fun x=>((hF x).cell hlv2).trans ((KB2.out.cell hltV).trans HC.out.2.2.2.2.2.2.2)
     have z0:=fun x=>(HB2.out.keep (hF x)).eight
     clear hF hcl;have CC:=fun w=>zh (vCmp_any w _ _ HPX.out (HNV.out.mono (by omega)) _ _ HZ2.out (HNL.out.mono (by omega)))
     unfold PV.v at CC;simp only at CC;generalize hhl:hasLo S.n S.rows S.basic[k]=hl at *;generalize hcm2:(S.val S.basic[k]).cmp (loP S.n S.rows S.basic[k])=cm2 at*
     cases hl
     case false=>
      have HQL:Hid (¬ (hasLo S.n S.rows S.basic[k]=true∧(S.val S.basic[k]).cmp (loP S.n S.rows S.basic[k])<0)):=zh (fun h=>by rw [hhl]at h;cases h.1)
      clear hhl hcm2;simp only [wpPlan,pickOps,zl0,zl1,zl2,clsOf,Bool.false_eq_true,if_false]
      (repeat(go_big_quiet_step (fail)));refine wpQuiet_nil ?_
      refine wpOp_unwanted (by simp only [zl0,zl1,zl2];rfl) (by rfl) ?_
      simp only [Act.put,List.setIfInBounds_toArray,List.set_cons_zero,List.set_cons_succ];refine⟨fun _=>HCL.out _ (Keep.refl NoS wB2).drew,?_⟩
      (repeat(go_big_quiet_step (fail)));refine wpQuiet_nil ?_
      refine NoPanic.normal ?_;have KD2:=zh (KB2.out.drew);clear x0 y0 y1 y2 y3 y4 y5 y6 y7 z0 CC HCL;generalize wB2.drew=wD2 at *;go_wp2_with fail;go_roundw
      case rel=>exact⟨k+1,b,wy,by omega,by go_num,rfl,rfl,by rw [HTK.out];unfold TS.brkStep;rw [if_neg HS.out,if_neg HQL.out,if_neg HQU.out],by omega,by omega,by omega,KD2.out⟩
      case measure=>simp [intOf];omega
     case true=>
      by_cases hc2:cm2<0
      case pos=>
       have HQL:Hid (hasLo S.n S.rows S.basic[k]=true∧(S.val S.basic[k]).cmp (loP S.n S.rows S.basic[k])<0):=zh ⟨hhl,by rw [hcm2];exact hc2⟩
       clear hhl hcm2;simp only [wpPlan,pickOps,zl0,zl1,zl2,clsOf,Bool.false_eq_true,if_false]
       (repeat(go_big_quiet_step (fail)));refine wpQuiet_nil ?_
       refine wpWa rfl rfl fun K hK=> ?_
       go_simp;refine(CC _).out.mono ?_;rintro e wD2 ⟨rfl,hk3⟩;have k3:Keep NoS wB2 wD2:=Keep.trans kp hk3 fun _ _ _ h=>h
       refine hK _ _ ⟨fun _=>HCL.out _ k3,?_⟩
       have KD2:=zh (KB2.out.both k3);clear hK K hk3 CC k3 x0 y0 y1 y2 y3 y4 y5 y6 y7 z0 HCL
       (repeat(go_big_quiet_step (fail)));refine wpQuiet_nil ?_
       refine NoPanic.normal ?_;go_wp2_with fail;go_roundw
       case rel=>exact⟨k+1,(S.basic[k]:Int),1,by omega,by go_num,rfl,rfl,by rw [HTK.out];unfold TS.brkStep;rw [if_neg HS.out,if_pos HQL.out],by omega,by omega,by omega,KD2.out⟩
       case measure=>simp [intOf];omega
      case neg=>
       have HQL:Hid (¬ (hasLo S.n S.rows S.basic[k]=true∧(S.val S.basic[k]).cmp (loP S.n S.rows S.basic[k])<0)):=zh (fun h=>hc2 (by rw [← hcm2];exact h.2))
       clear hhl hcm2;simp only [wpPlan,pickOps,zl0,zl1,zl2,clsOf,Bool.false_eq_true,if_false]
       (repeat(go_big_quiet_step (fail)));refine wpQuiet_nil ?_
       refine wpWa rfl rfl fun K hK=> ?_
       go_simp;refine(CC _).out.mono ?_;rintro e wD2 ⟨rfl,hk3⟩;have k3:Keep NoS wB2 wD2:=Keep.trans kp hk3 fun _ _ _ h=>h
       refine hK _ _ ⟨fun _=>HCL.out _ k3,?_⟩
       have KD2:=zh (KB2.out.both k3);clear hK K hk3 CC k3 x0 y0 y1 y2 y3 y4 y5 y6 y7 z0 HCL
       (repeat(go_big_quiet_step (fail)));refine wpQuiet_nil ?_
       refine NoPanic.normal ?_;go_wp2_with fail;go_roundw
       case rel=>exact⟨k+1,b,wy,by omega,by go_num,rfl,rfl,by rw [HTK.out];unfold TS.brkStep;rw [if_neg HS.out,if_neg HQL.out,if_neg HQU.out],by omega,by omega,by omega,KD2.out⟩
       case measure=>simp [intOf];omega
    case true=>
     by_cases hc1:0<cm1
     case pos=>
      have HQU:Hid (hasUp S.n S.basic[k]=true∧0<(S.val S.basic[k]).cmp (upP S.n S.rows S.basic[k])):=zh ⟨hhu,by rw [hcm1];exact hc1⟩
      clear hhu hcm1;simp only [wpPlan,pickOps,zl0,zl1,zl2,clsOf,Bool.false_eq_true,if_false]
      (repeat(go_big_quiet_step (fail)));refine wpQuiet_nil ?_
      refine wpWa rfl rfl fun K hK=> ?_
      go_simp;refine(CC _).out.mono ?_;rintro e wD1 ⟨rfl,hk3⟩;have k3:Keep NoS wB1 wD1:=Keep.trans kp hk3 fun _ _ _ h=>h
      refine hK _ _ ⟨fun _=>HCL.out _ k3,?_⟩
      have KD1:=zh (KB1.out.both k3);clear hK K hk3 CC k3 x0 y0 y1 y2 y3 y4 y5 y6 y7 z0 HCL
      (repeat(go_big_quiet_step (fail)));refine wpQuiet_nil ?_
      refine NoPanic.normal ?_;go_wp2_with fail;refine(CL _ KD1.out).out.mono ?_;rintro e wA2 ⟨⟨⟨pb,pS,pc,pU⟩,⟨qb,qS,qc,qU⟩⟩,rfl,hz,hk⟩;have KA2:=zh (KD1.out.both hk);have HZ2:=zh hz;clear hk hz CL;have HB2:Hid (Blk (wA2.alloc (.cells #[.bool pb,.string pS,.bool pc,.string pU,.bool qb,.string qS,.bool qc,.string qU] 101)) wA2.heap.size #[.bool pb,.string pS,.bool pc,.string pU,.bool qb,.string qS,.bool qc,.string qU]):=zh (blk_at _ _ rfl);have KB2:Hid (Keep NoS w (wA2.alloc (.cells #[.bool pb,.string pS,.bool pc,.string pU,.bool qb,.string qS,.bool qc,.string qU] 101))):=zh (KA2.out.alloc _);unfold PV.v;go_upto_region 10 with fail
      generalize wA2.alloc (.cells #[.bool pb,.string pS,.bool pc,.string pU,.bool qb,.string qS,.bool qc,.string qU] 101)=wB2 at *;generalize wA2.heap.size=b72 at *;refine wp_region_by (fun w'=>Keep NoS wB2 w') [] [([0,1,2,3,4,5,6,7,8,9],10)] [11,12] (by kernel_rfl) (by kernel_rfl) kp ?_
      intro X W hne hF hcl;have HCL:=zh hcl;have hlt2:=Nat.lt_of_lt_of_le hltT KB2.out.size;have hlv2:=Nat.lt_of_lt_of_le hltV KB2.out.size;have x0:=fun x=>((hF x).cell hlt2).trans ((KB2.out.cell hltT).trans HT5.out)
      have y0:=fun x=>((hF x).cell hlv2).trans ((KB2.out.cell hltV).trans HC.out.1)
      have y1:=fun x=>((hF x).cell hlv2).trans ((KB2.out.cell hltV).trans HC.out.2.1)
      have y2:=fun x=>((hF x).cell hlv2).trans ((KB2.out.cell hltV).trans HC.out.2.2.1)
      have y3:=fun x=>((hF x).cell hlv2).trans ((KB2.out.cell hltV).trans HC.out.2.2.2.1)
      have y4:=fun x=>((hF x).cell hlv2).trans ((KB2.out.cell hltV).trans HC.out.2.2.2.2.1)
      have y5:=fun x=>((hF x).cell hlv2).trans ((KB2.out.cell hltV).trans HC.out.2.2.2.2.2.1)
      have y6:=fun x=>((hF x).cell hlv2).trans ((KB2.out.cell hltV).trans HC.out.2.2.2.2.2.2.1)
      have y7:=fun x=>((hF x).cell hlv2).trans ((KB2.out.cell hltV).trans HC.out.2.2.2.2.2.2.2)
      have z0:=fun x=>(HB2.out.keep (hF x)).eight
      clear hF hcl;have CC:=fun w=>zh (vCmp_any w _ _ HPX.out (HNV.out.mono (by omega)) _ _ HZ2.out (HNL.out.mono (by omega)))
      unfold PV.v at CC;simp only at CC;generalize hhl:hasLo S.n S.rows S.basic[k]=hl at *;generalize hcm2:(S.val S.basic[k]).cmp (loP S.n S.rows S.basic[k])=cm2 at*
      cases hl
      case false=>
       have HQL:Hid (¬ (hasLo S.n S.rows S.basic[k]=true∧(S.val S.basic[k]).cmp (loP S.n S.rows S.basic[k])<0)):=zh (fun h=>by rw [hhl]at h;cases h.1)
       clear hhl hcm2;simp only [wpPlan,pickOps,zl0,zl1,zl2,clsOf,Bool.false_eq_true,if_false]
       (repeat(go_big_quiet_step (fail)));refine wpQuiet_nil ?_
       refine wpOp_unwanted (by simp only [zl0,zl1,zl2];rfl) (by rfl) ?_
       simp only [Act.put,List.setIfInBounds_toArray,List.set_cons_zero,List.set_cons_succ];refine⟨fun _=>HCL.out _ (Keep.refl NoS wB2).drew,?_⟩
       (repeat(go_big_quiet_step (fail)));refine wpQuiet_nil ?_
       refine NoPanic.normal ?_;have KD2:=zh (KB2.out.drew);clear x0 y0 y1 y2 y3 y4 y5 y6 y7 z0 CC HCL;generalize wB2.drew=wD2 at *;go_wp2_with fail;go_roundw
       case rel=>exact⟨k+1,(S.basic[k]:Int),(-1),by omega,by go_num,rfl,rfl,by rw [HTK.out];unfold TS.brkStep;rw [if_neg HS.out,if_neg HQL.out,if_pos HQU.out],by omega,by omega,by omega,KD2.out⟩
       case measure=>simp [intOf];omega
      case true=>
       by_cases hc2:cm2<0
       case pos=>
        have HQL:Hid (hasLo S.n S.rows S.basic[k]=true∧(S.val S.basic[k]).cmp (loP S.n S.rows S.basic[k])<0):=zh ⟨hhl,by rw [hcm2];exact hc2⟩
        clear hhl hcm2;simp only [wpPlan,pickOps,zl0,zl1,zl2,clsOf,Bool.false_eq_true,if_false]
        (repeat(go_big_quiet_step (fail)));refine wpQuiet_nil ?_
        refine wpWa rfl rfl fun K hK=> ?_
        go_simp;refine(CC _).out.mono ?_;rintro e wD2 ⟨rfl,hk3⟩;have k3:Keep NoS wB2 wD2:=Keep.trans kp hk3 fun _ _ _ h=>h
        refine hK _ _ ⟨fun _=>HCL.out _ k3,?_⟩
        have KD2:=zh (KB2.out.both k3);clear hK K hk3 CC k3 x0 y0 y1 y2 y3 y4 y5 y6 y7 z0 HCL
        (repeat(go_big_quiet_step (fail)));refine wpQuiet_nil ?_
        refine NoPanic.normal ?_;go_wp2_with fail;go_roundw
        case rel=>exact⟨k+1,(S.basic[k]:Int),1,by omega,by go_num,rfl,rfl,by rw [HTK.out];unfold TS.brkStep;rw [if_neg HS.out,if_pos HQL.out],by omega,by omega,by omega,KD2.out⟩
        case measure=>simp [intOf];omega
       case neg=>
        have HQL:Hid (¬ (hasLo S.n S.rows S.basic[k]=true∧(S.val S.basic[k]).cmp (loP S.n S.rows S.basic[k])<0)):=zh (fun h=>hc2 (by rw [← hcm2];exact h.2))
        clear hhl hcm2;simp only [wpPlan,pickOps,zl0,zl1,zl2,clsOf,Bool.false_eq_true,if_false]
        (repeat(go_big_quiet_step (fail)));refine wpQuiet_nil ?_
        refine wpWa rfl rfl fun K hK=> ?_
        go_simp;refine(CC _).out.mono ?_;rintro e wD2 ⟨rfl,hk3⟩;have k3:Keep NoS wB2 wD2:=Keep.trans kp hk3 fun _ _ _ h=>h
        refine hK _ _ ⟨fun _=>HCL.out _ k3,?_⟩
        have KD2:=zh (KB2.out.both k3);clear hK K hk3 CC k3 x0 y0 y1 y2 y3 y4 y5 y6 y7 z0 HCL
        (repeat(go_big_quiet_step (fail)));refine wpQuiet_nil ?_
        refine NoPanic.normal ?_;go_wp2_with fail;go_roundw
        case rel=>exact⟨k+1,(S.basic[k]:Int),(-1),by omega,by go_num,rfl,rfl,by rw [HTK.out];unfold TS.brkStep;rw [if_neg HS.out,if_neg HQL.out,if_pos HQU.out],by omega,by omega,by omega,KD2.out⟩
        case measure=>simp [intOf];omega
     case neg=>
      have HQU:Hid (¬ (hasUp S.n S.basic[k]=true∧0<(S.val S.basic[k]).cmp (upP S.n S.rows S.basic[k]))):=zh (fun h=>hc1 (by rw [← hcm1];exact h.2))
      clear hhu hcm1;simp only [wpPlan,pickOps,zl0,zl1,zl2,clsOf,Bool.false_eq_true,if_false]
      (repeat(go_big_quiet_step (fail)));refine wpQuiet_nil ?_
      refine wpWa rfl rfl fun K hK=> ?_
      go_simp;refine(CC _).out.mono ?_;rintro e wD1 ⟨rfl,hk3⟩;have k3:Keep NoS wB1 wD1:=Keep.trans kp hk3 fun _ _ _ h=>h
      refine hK _ _ ⟨fun _=>HCL.out _ k3,?_⟩
      have KD1:=zh (KB1.out.both k3);clear hK K hk3 CC k3 x0 y0 y1 y2 y3 y4 y5 y6 y7 z0 HCL
      (repeat(go_big_quiet_step (fail)));refine wpQuiet_nil ?_
      refine NoPanic.normal ?_;go_wp2_with fail;refine(CL _ KD1.out).out.mono ?_;rintro e wA2 ⟨⟨⟨pb,pS,pc,pU⟩,⟨qb,qS,qc,qU⟩⟩,rfl,hz,hk⟩;have KA2:=zh (KD1.out.both hk);have HZ2:=zh hz;clear hk hz CL;have HB2:Hid (Blk (wA2.alloc (.cells #[.bool pb,.string pS,.bool pc,.string pU,.bool qb,.string qS,.bool qc,.string qU] 101)) wA2.heap.size #[.bool pb,.string pS,.bool pc,.string pU,.bool qb,.string qS,.bool qc,.string qU]):=zh (blk_at _ _ rfl);have KB2:Hid (Keep NoS w (wA2.alloc (.cells #[.bool pb,.string pS,.bool pc,.string pU,.bool qb,.string qS,.bool qc,.string qU] 101))):=zh (KA2.out.alloc _);unfold PV.v;go_upto_region 10 with fail
      generalize wA2.alloc (.cells #[.bool pb,.string pS,.bool pc,.string pU,.bool qb,.string qS,.bool qc,.string qU] 101)=wB2 at *;generalize wA2.heap.size=b72 at *;refine wp_region_by (fun w'=>Keep NoS wB2 w') [] [([0,1,2,3,4,5,6,7,8,9],10)] [11,12] (by kernel_rfl) (by kernel_rfl) kp ?_
      intro X W hne hF hcl;have HCL:=zh hcl;have hlt2:=Nat.lt_of_lt_of_le hltT KB2.out.size;have hlv2:=Nat.lt_of_lt_of_le hltV KB2.out.size;have x0:=fun x=>((hF x).cell hlt2).trans ((KB2.out.cell hltT).trans HT5.out)
      have y0:=fun x=>((hF x).cell hlv2).trans ((KB2.out.cell hltV).trans HC.out.1)
      have y1:=fun x=>((hF x).cell hlv2).trans ((KB2.out.cell hltV).trans HC.out.2.1)
      have y2:=fun x=>((hF x).cell hlv2).trans ((KB2.out.cell hltV).trans HC.out.2.2.1)
      have y3:=fun x=>((hF x).cell hlv2).trans ((KB2.out.cell hltV).trans HC.out.2.2.2.1)
      have y4:=fun x=>((hF x).cell hlv2).trans ((KB2.out.cell hltV).trans HC.out.2.2.2.2.1)
      have y5:=fun x=>((hF x).cell hlv2).trans ((KB2.out.cell hltV).trans HC.out.2.2.2.2.2.1)
      have y6:=fun x=>((hF x).cell hlv2).trans ((KB2.out.cell hltV).trans HC.out.2.2.2.2.2.2.1)
      have y7:=fun x=>((hF x).cell hlv2).trans ((KB2.out.cell hltV).trans HC.out.2.2.2.2.2.2.2)
      have z0:=fun x=>(HB2.out.keep (hF x)).eight
      clear hF hcl;have CC:=fun w=>zh (vCmp_any w _ _ HPX.out (HNV.out.mono (by omega)) _ _ HZ2.out (HNL.out.mono (by omega)))
      unfold PV.v at CC;simp only at CC;generalize hhl:hasLo S.n S.rows S.basic[k]=hl at *;generalize hcm2:(S.val S.basic[k]).cmp (loP S.n S.rows S.basic[k])=cm2 at*
      cases hl
      case false=>
       have HQL:Hid (¬ (hasLo S.n S.rows S.basic[k]=true∧(S.val S.basic[k]).cmp (loP S.n S.rows S.basic[k])<0)):=zh (fun h=>by rw [hhl]at h;cases h.1)
       clear hhl hcm2;simp only [wpPlan,pickOps,zl0,zl1,zl2,clsOf,Bool.false_eq_true,if_false]
       (repeat(go_big_quiet_step (fail)));refine wpQuiet_nil ?_
       refine wpOp_unwanted (by simp only [zl0,zl1,zl2];rfl) (by rfl) ?_
       simp only [Act.put,List.setIfInBounds_toArray,List.set_cons_zero,List.set_cons_succ];refine⟨fun _=>HCL.out _ (Keep.refl NoS wB2).drew,?_⟩
       (repeat(go_big_quiet_step (fail)));refine wpQuiet_nil ?_
       refine NoPanic.normal ?_;have KD2:=zh (KB2.out.drew);clear x0 y0 y1 y2 y3 y4 y5 y6 y7 z0 CC HCL;generalize wB2.drew=wD2 at *;go_wp2_with fail;go_roundw
       case rel=>exact⟨k+1,b,wy,by omega,by go_num,rfl,rfl,by rw [HTK.out];unfold TS.brkStep;rw [if_neg HS.out,if_neg HQL.out,if_neg HQU.out],by omega,by omega,by omega,KD2.out⟩
       case measure=>simp [intOf];omega
      case true=>
       by_cases hc2:cm2<0
       case pos=>
        have HQL:Hid (hasLo S.n S.rows S.basic[k]=true∧(S.val S.basic[k]).cmp (loP S.n S.rows S.basic[k])<0):=zh ⟨hhl,by rw [hcm2];exact hc2⟩
        clear hhl hcm2;simp only [wpPlan,pickOps,zl0,zl1,zl2,clsOf,Bool.false_eq_true,if_false]
        (repeat(go_big_quiet_step (fail)));refine wpQuiet_nil ?_
        refine wpWa rfl rfl fun K hK=> ?_
        go_simp;refine(CC _).out.mono ?_;rintro e wD2 ⟨rfl,hk3⟩;have k3:Keep NoS wB2 wD2:=Keep.trans kp hk3 fun _ _ _ h=>h
        refine hK _ _ ⟨fun _=>HCL.out _ k3,?_⟩
        have KD2:=zh (KB2.out.both k3);clear hK K hk3 CC k3 x0 y0 y1 y2 y3 y4 y5 y6 y7 z0 HCL
        (repeat(go_big_quiet_step (fail)));refine wpQuiet_nil ?_
        refine NoPanic.normal ?_;go_wp2_with fail;go_roundw
        case rel=>exact⟨k+1,(S.basic[k]:Int),1,by omega,by go_num,rfl,rfl,by rw [HTK.out];unfold TS.brkStep;rw [if_neg HS.out,if_pos HQL.out],by omega,by omega,by omega,KD2.out⟩
        case measure=>simp [intOf];omega
       case neg=>
        have HQL:Hid (¬ (hasLo S.n S.rows S.basic[k]=true∧(S.val S.basic[k]).cmp (loP S.n S.rows S.basic[k])<0)):=zh (fun h=>hc2 (by rw [← hcm2];exact h.2))
        clear hhl hcm2;simp only [wpPlan,pickOps,zl0,zl1,zl2,clsOf,Bool.false_eq_true,if_false]
        (repeat(go_big_quiet_step (fail)));refine wpQuiet_nil ?_
        refine wpWa rfl rfl fun K hK=> ?_
        go_simp;refine(CC _).out.mono ?_;rintro e wD2 ⟨rfl,hk3⟩;have k3:Keep NoS wB2 wD2:=Keep.trans kp hk3 fun _ _ _ h=>h
        refine hK _ _ ⟨fun _=>HCL.out _ k3,?_⟩
        have KD2:=zh (KB2.out.both k3);clear hK K hk3 CC k3 x0 y0 y1 y2 y3 y4 y5 y6 y7 z0 HCL
        (repeat(go_big_quiet_step (fail)));refine wpQuiet_nil ?_
        refine NoPanic.normal ?_;go_wp2_with fail;go_roundw
        case rel=>exact⟨k+1,b,wy,by omega,by go_num,rfl,rfl,by rw [HTK.out];unfold TS.brkStep;rw [if_neg HS.out,if_neg HQL.out,if_neg HQU.out],by omega,by omega,by omega,KD2.out⟩
        case measure=>simp [intOf];omega
   case pos=>
    by_cases hbx:b<(S.basic[k]:Int)
    case pos=>
     have HS:Hid (0≤b∧b<(S.basic[k]:Int)):=zh ⟨h0,hbx⟩;go_wp2_with fail;go_roundw
     case rel=>exact⟨k+1,b,wy,by omega,by go_num,rfl,rfl,by rw [HTK.out];simp [TS.brkStep,HS.out],by omega,by omega,by omega,HKR.out⟩
     case measure=>simp [intOf];omega
    case neg=>
     have HS:Hid (¬ (0≤b∧b<(S.basic[k]:Int))):=zh (by omega)
     go_upto_region 6 with fail
     clear c0 hglr;go_wp2_with fail;refine(CU _ HKR.out).out.mono ?_;rintro e wA1 ⟨⟨⟨pb,pS,pc,pU⟩,⟨qb,qS,qc,qU⟩⟩,rfl,hz,hk⟩;have KA1:=zh (HKR.out.both hk);have HZ1:=zh hz;clear hk hz CU;have HB1:Hid (Blk (wA1.alloc (.cells #[.bool pb,.string pS,.bool pc,.string pU,.bool qb,.string qS,.bool qc,.string qU] 101)) wA1.heap.size #[.bool pb,.string pS,.bool pc,.string pU,.bool qb,.string qS,.bool qc,.string qU]):=zh (blk_at _ _ rfl);have KB1:Hid (Keep NoS w (wA1.alloc (.cells #[.bool pb,.string pS,.bool pc,.string pU,.bool qb,.string qS,.bool qc,.string qU] 101))):=zh (KA1.out.alloc _);unfold PV.v;go_upto_region 7 with fail
     generalize wA1.alloc (.cells #[.bool pb,.string pS,.bool pc,.string pU,.bool qb,.string qS,.bool qc,.string qU] 101)=wB1 at *;generalize wA1.heap.size=b71 at *;refine wp_region_by (fun w'=>Keep NoS wB1 w') [] [([0,1,2,3,4,5,6,7,8,9],10)] [11,12] (by kernel_rfl) (by kernel_rfl) kp ?_
     intro X W hne hF hcl;have HCL:=zh hcl;have hlt2:=Nat.lt_of_lt_of_le hltT KB1.out.size;have hlv2:=Nat.lt_of_lt_of_le hltV KB1.out.size;have x0:=fun x=>((hF x).cell hlt2).trans ((KB1.out.cell hltT).trans HT5.out)
     have y0:=fun x=>((hF x).cell hlv2).trans ((KB1.out.cell hltV).trans HC.out.1)
     have y1:=fun x=>((hF x).cell hlv2).trans ((KB1.out.cell hltV).trans HC.out.2.1)
     have y2:=fun x=>((hF x).cell hlv2).trans ((KB1.out.cell hltV).trans HC.out.2.2.1)
     have y3:=fun x=>((hF x).cell hlv2).trans ((KB1.out.cell hltV).trans HC.out.2.2.2.1)
     have y4:=fun x=>((hF x).cell hlv2).trans ((KB1.out.cell hltV).trans HC.out.2.2.2.2.1)
     have y5:=fun x=>((hF x).cell hlv2).trans ((KB1.out.cell hltV).trans HC.out.2.2.2.2.2.1)
     have y6:=fun x=>((hF x).cell hlv2).trans ((KB1.out.cell hltV).trans HC.out.2.2.2.2.2.2.1)
     have y7:=fun x=>((hF x).cell hlv2).trans ((KB1.out.cell hltV).trans HC.out.2.2.2.2.2.2.2)
     have z0:=fun x=>(HB1.out.keep (hF x)).eight
     clear hF hcl;have CC:=fun w=>zh (vCmp_any w _ _ HPX.out (HNV.out.mono (by omega)) _ _ HZ1.out (HNU.out.mono (by omega)))
     unfold PV.v at CC;simp only at CC;generalize hhu:hasUp S.n S.basic[k]=hu at *;generalize hcm1:(S.val S.basic[k]).cmp (upP S.n S.rows S.basic[k])=cm1 at*
     cases hu
     case false=>
      have HQU:Hid (¬ (hasUp S.n S.basic[k]=true∧0<(S.val S.basic[k]).cmp (upP S.n S.rows S.basic[k]))):=zh (fun h=>by rw [hhu]at h;cases h.1)
      clear hhu hcm1;simp only [wpPlan,pickOps,zl0,zl1,zl2,clsOf,Bool.false_eq_true,if_false]
      (repeat(go_big_quiet_step (fail)));refine wpQuiet_nil ?_
      refine wpOp_unwanted (by simp only [zl0,zl1,zl2];rfl) (by rfl) ?_
      simp only [Act.put,List.setIfInBounds_toArray,List.set_cons_zero,List.set_cons_succ];refine⟨fun _=>HCL.out _ (Keep.refl NoS wB1).drew,?_⟩
      (repeat(go_big_quiet_step (fail)));refine wpQuiet_nil ?_
      refine NoPanic.normal ?_;have KD1:=zh (KB1.out.drew);clear x0 y0 y1 y2 y3 y4 y5 y6 y7 z0 CC HCL;generalize wB1.drew=wD1 at *;go_wp2_with fail;refine(CL _ KD1.out).out.mono ?_;rintro e wA2 ⟨⟨⟨pb,pS,pc,pU⟩,⟨qb,qS,qc,qU⟩⟩,rfl,hz,hk⟩;have KA2:=zh (KD1.out.both hk);have HZ2:=zh hz;clear hk hz CL;have HB2:Hid (Blk (wA2.alloc (.cells #[.bool pb,.string pS,.bool pc,.string pU,.bool qb,.string qS,.bool qc,.string qU] 101)) wA2.heap.size #[.bool pb,.string pS,.bool pc,.string pU,.bool qb,.string qS,.bool qc,.string qU]):=zh (blk_at _ _ rfl);have KB2:Hid (Keep NoS w (wA2.alloc (.cells #[.bool pb,.string pS,.bool pc,.string pU,.bool qb,.string qS,.bool qc,.string qU] 101))):=zh (KA2.out.alloc _);unfold PV.v;go_upto_region 10 with fail
      generalize wA2.alloc (.cells #[.bool pb,.string pS,.bool pc,.string pU,.bool qb,.string qS,.bool qc,.string qU] 101)=wB2 at *;generalize wA2.heap.size=b72 at *;refine wp_region_by (fun w'=>Keep NoS wB2 w') [] [([0,1,2,3,4,5,6,7,8,9],10)] [11,12] (by kernel_rfl) (by kernel_rfl) kp ?_
      intro X W hne hF hcl;have HCL:=zh hcl;have hlt2:=Nat.lt_of_lt_of_le hltT KB2.out.size;have hlv2:=Nat.lt_of_lt_of_le hltV KB2.out.size;have x0:=fun x=>((hF x).cell hlt2).trans ((KB2.out.cell hltT).trans HT5.out)
      have y0:=fun x=>((hF x).cell hlv2).trans ((KB2.out.cell hltV).trans HC.out.1)
      have y1:=fun x=>((hF x).cell hlv2).trans ((KB2.out.cell hltV).trans HC.out.2.1)
      have y2:=fun x=>((hF x).cell hlv2).trans ((KB2.out.cell hltV).trans HC.out.2.2.1)
      have y3:=fun x=>((hF x).cell hlv2).trans ((KB2.out.cell hltV).trans HC.out.2.2.2.1)
      have y4:=fun x=>((hF x).cell hlv2).trans ((KB2.out.cell hltV).trans HC.out.2.2.2.2.1)
      have y5:=fun x=>((hF x).cell hlv2).trans ((KB2.out.cell hltV).trans HC.out.2.2.2.2.2.1)
      have y6:=fun x=>((hF x).cell hlv2).trans ((KB2.out.cell hltV).trans HC.out.2.2.2.2.2.2.1)
      have y7:=fun x=>((hF x).cell hlv2).trans ((KB2.out.cell hltV).trans HC.out.2.2.2.2.2.2.2)
      have z0:=fun x=>(HB2.out.keep (hF x)).eight
      clear hF hcl;have CC:=fun w=>zh (vCmp_any w _ _ HPX.out (HNV.out.mono (by omega)) _ _ HZ2.out (HNL.out.mono (by omega)))
      unfold PV.v at CC;simp only at CC;generalize hhl:hasLo S.n S.rows S.basic[k]=hl at *;generalize hcm2:(S.val S.basic[k]).cmp (loP S.n S.rows S.basic[k])=cm2 at*
      cases hl
      case false=>
       have HQL:Hid (¬ (hasLo S.n S.rows S.basic[k]=true∧(S.val S.basic[k]).cmp (loP S.n S.rows S.basic[k])<0)):=zh (fun h=>by rw [hhl]at h;cases h.1)
       clear hhl hcm2;simp only [wpPlan,pickOps,zl0,zl1,zl2,clsOf,Bool.false_eq_true,if_false]
       (repeat(go_big_quiet_step (fail)));refine wpQuiet_nil ?_
       refine wpOp_unwanted (by simp only [zl0,zl1,zl2];rfl) (by rfl) ?_
       simp only [Act.put,List.setIfInBounds_toArray,List.set_cons_zero,List.set_cons_succ];refine⟨fun _=>HCL.out _ (Keep.refl NoS wB2).drew,?_⟩
       (repeat(go_big_quiet_step (fail)));refine wpQuiet_nil ?_
       refine NoPanic.normal ?_;have KD2:=zh (KB2.out.drew);clear x0 y0 y1 y2 y3 y4 y5 y6 y7 z0 CC HCL;generalize wB2.drew=wD2 at *;go_wp2_with fail;go_roundw
       case rel=>exact⟨k+1,b,wy,by omega,by go_num,rfl,rfl,by rw [HTK.out];unfold TS.brkStep;rw [if_neg HS.out,if_neg HQL.out,if_neg HQU.out],by omega,by omega,by omega,KD2.out⟩
       case measure=>simp [intOf];omega
      case true=>
       by_cases hc2:cm2<0
       case pos=>
        have HQL:Hid (hasLo S.n S.rows S.basic[k]=true∧(S.val S.basic[k]).cmp (loP S.n S.rows S.basic[k])<0):=zh ⟨hhl,by rw [hcm2];exact hc2⟩
        clear hhl hcm2;simp only [wpPlan,pickOps,zl0,zl1,zl2,clsOf,Bool.false_eq_true,if_false]
        (repeat(go_big_quiet_step (fail)));refine wpQuiet_nil ?_
        refine wpWa rfl rfl fun K hK=> ?_
        go_simp;refine(CC _).out.mono ?_;rintro e wD2 ⟨rfl,hk3⟩;have k3:Keep NoS wB2 wD2:=Keep.trans kp hk3 fun _ _ _ h=>h
        refine hK _ _ ⟨fun _=>HCL.out _ k3,?_⟩
        have KD2:=zh (KB2.out.both k3);clear hK K hk3 CC k3 x0 y0 y1 y2 y3 y4 y5 y6 y7 z0 HCL
        (repeat(go_big_quiet_step (fail)));refine wpQuiet_nil ?_
        refine NoPanic.normal ?_;go_wp2_with fail;go_roundw
        case rel=>exact⟨k+1,(S.basic[k]:Int),1,by omega,by go_num,rfl,rfl,by rw [HTK.out];unfold TS.brkStep;rw [if_neg HS.out,if_pos HQL.out],by omega,by omega,by omega,KD2.out⟩
        case measure=>simp [intOf];omega
       case neg=>
        have HQL:Hid (¬ (hasLo S.n S.rows S.basic[k]=true∧(S.val S.basic[k]).cmp (loP S.n S.rows S.basic[k])<0)):=zh (fun h=>hc2 (by rw [← hcm2];exact h.2))
        clear hhl hcm2;simp only [wpPlan,pickOps,zl0,zl1,zl2,clsOf,Bool.false_eq_true,if_false]
        (repeat(go_big_quiet_step (fail)));refine wpQuiet_nil ?_
        refine wpWa rfl rfl fun K hK=> ?_
        go_simp;refine(CC _).out.mono ?_;rintro e wD2 ⟨rfl,hk3⟩;have k3:Keep NoS wB2 wD2:=Keep.trans kp hk3 fun _ _ _ h=>h
        refine hK _ _ ⟨fun _=>HCL.out _ k3,?_⟩
        have KD2:=zh (KB2.out.both k3);clear hK K hk3 CC k3 x0 y0 y1 y2 y3 y4 y5 y6 y7 z0 HCL
        (repeat(go_big_quiet_step (fail)));refine wpQuiet_nil ?_
        refine NoPanic.normal ?_;go_wp2_with fail;go_roundw
        case rel=>exact⟨k+1,b,wy,by omega,by go_num,rfl,rfl,by rw [HTK.out];unfold TS.brkStep;rw [if_neg HS.out,if_neg HQL.out,if_neg HQU.out],by omega,by omega,by omega,KD2.out⟩
        case measure=>simp [intOf];omega
     case true=>
      by_cases hc1:0<cm1
      case pos=>
       have HQU:Hid (hasUp S.n S.basic[k]=true∧0<(S.val S.basic[k]).cmp (upP S.n S.rows S.basic[k])):=zh ⟨hhu,by rw [hcm1];exact hc1⟩
       clear hhu hcm1;simp only [wpPlan,pickOps,zl0,zl1,zl2,clsOf,Bool.false_eq_true,if_false]
       (repeat(go_big_quiet_step (fail)));refine wpQuiet_nil ?_
       refine wpWa rfl rfl fun K hK=> ?_
       go_simp;refine(CC _).out.mono ?_;rintro e wD1 ⟨rfl,hk3⟩;have k3:Keep NoS wB1 wD1:=Keep.trans kp hk3 fun _ _ _ h=>h
       refine hK _ _ ⟨fun _=>HCL.out _ k3,?_⟩
       have KD1:=zh (KB1.out.both k3);clear hK K hk3 CC k3 x0 y0 y1 y2 y3 y4 y5 y6 y7 z0 HCL
       (repeat(go_big_quiet_step (fail)));refine wpQuiet_nil ?_
       refine NoPanic.normal ?_;go_wp2_with fail;refine(CL _ KD1.out).out.mono ?_;rintro e wA2 ⟨⟨⟨pb,pS,pc,pU⟩,⟨qb,qS,qc,qU⟩⟩,rfl,hz,hk⟩;have KA2:=zh (KD1.out.both hk);have HZ2:=zh hz;clear hk hz CL;have HB2:Hid (Blk (wA2.alloc (.cells #[.bool pb,.string pS,.bool pc,.string pU,.bool qb,.string qS,.bool qc,.string qU] 101)) wA2.heap.size #[.bool pb,.string pS,.bool pc,.string pU,.bool qb,.string qS,.bool qc,.string qU]):=zh (blk_at _ _ rfl);have KB2:Hid (Keep NoS w (wA2.alloc (.cells #[.bool pb,.string pS,.bool pc,.string pU,.bool qb,.string qS,.bool qc,.string qU] 101))):=zh (KA2.out.alloc _);unfold PV.v;go_upto_region 10 with fail
       generalize wA2.alloc (.cells #[.bool pb,.string pS,.bool pc,.string pU,.bool qb,.string qS,.bool qc,.string qU] 101)=wB2 at *;generalize wA2.heap.size=b72 at *;refine wp_region_by (fun w'=>Keep NoS wB2 w') [] [([0,1,2,3,4,5,6,7,8,9],10)] [11,12] (by kernel_rfl) (by kernel_rfl) kp ?_
       intro X W hne hF hcl;have HCL:=zh hcl;have hlt2:=Nat.lt_of_lt_of_le hltT KB2.out.size;have hlv2:=Nat.lt_of_lt_of_le hltV KB2.out.size;have x0:=fun x=>((hF x).cell hlt2).trans ((KB2.out.cell hltT).trans HT5.out)
       have y0:=fun x=>((hF x).cell hlv2).trans ((KB2.out.cell hltV).trans HC.out.1)
       have y1:=fun x=>((hF x).cell hlv2).trans ((KB2.out.cell hltV).trans HC.out.2.1)
       have y2:=fun x=>((hF x).cell hlv2).trans ((KB2.out.cell hltV).trans HC.out.2.2.1)
       have y3:=fun x=>((hF x).cell hlv2).trans ((KB2.out.cell hltV).trans HC.out.2.2.2.1)
       have y4:=fun x=>((hF x).cell hlv2).trans ((KB2.out.cell hltV).trans HC.out.2.2.2.2.1)
       have y5:=fun x=>((hF x).cell hlv2).trans ((KB2.out.cell hltV).trans HC.out.2.2.2.2.2.1)
       have y6:=fun x=>((hF x).cell hlv2).trans ((KB2.out.cell hltV).trans HC.out.2.2.2.2.2.2.1)
       have y7:=fun x=>((hF x).cell hlv2).trans ((KB2.out.cell hltV).trans HC.out.2.2.2.2.2.2.2)
       have z0:=fun x=>(HB2.out.keep (hF x)).eight
       clear hF hcl;have CC:=fun w=>zh (vCmp_any w _ _ HPX.out (HNV.out.mono (by omega)) _ _ HZ2.out (HNL.out.mono (by omega)))
       unfold PV.v at CC;simp only at CC;generalize hhl:hasLo S.n S.rows S.basic[k]=hl at *;generalize hcm2:(S.val S.basic[k]).cmp (loP S.n S.rows S.basic[k])=cm2 at*
       cases hl
       case false=>
        have HQL:Hid (¬ (hasLo S.n S.rows S.basic[k]=true∧(S.val S.basic[k]).cmp (loP S.n S.rows S.basic[k])<0)):=zh (fun h=>by rw [hhl]at h;cases h.1)
        clear hhl hcm2;simp only [wpPlan,pickOps,zl0,zl1,zl2,clsOf,Bool.false_eq_true,if_false]
        (repeat(go_big_quiet_step (fail)));refine wpQuiet_nil ?_
        refine wpOp_unwanted (by simp only [zl0,zl1,zl2];rfl) (by rfl) ?_
        simp only [Act.put,List.setIfInBounds_toArray,List.set_cons_zero,List.set_cons_succ];refine⟨fun _=>HCL.out _ (Keep.refl NoS wB2).drew,?_⟩
        (repeat(go_big_quiet_step (fail)));refine wpQuiet_nil ?_
        refine NoPanic.normal ?_;have KD2:=zh (KB2.out.drew);clear x0 y0 y1 y2 y3 y4 y5 y6 y7 z0 CC HCL;generalize wB2.drew=wD2 at *;go_wp2_with fail;go_roundw
        case rel=>exact⟨k+1,(S.basic[k]:Int),(-1),by omega,by go_num,rfl,rfl,by rw [HTK.out];unfold TS.brkStep;rw [if_neg HS.out,if_neg HQL.out,if_pos HQU.out],by omega,by omega,by omega,KD2.out⟩
        case measure=>simp [intOf];omega
       case true=>
        by_cases hc2:cm2<0
        case pos=>
         have HQL:Hid (hasLo S.n S.rows S.basic[k]=true∧(S.val S.basic[k]).cmp (loP S.n S.rows S.basic[k])<0):=zh ⟨hhl,by rw [hcm2];exact hc2⟩
         clear hhl hcm2;simp only [wpPlan,pickOps,zl0,zl1,zl2,clsOf,Bool.false_eq_true,if_false]
         (repeat(go_big_quiet_step (fail)));refine wpQuiet_nil ?_
         refine wpWa rfl rfl fun K hK=> ?_
         go_simp;refine(CC _).out.mono ?_;rintro e wD2 ⟨rfl,hk3⟩;have k3:Keep NoS wB2 wD2:=Keep.trans kp hk3 fun _ _ _ h=>h
         refine hK _ _ ⟨fun _=>HCL.out _ k3,?_⟩
         have KD2:=zh (KB2.out.both k3);clear hK K hk3 CC k3 x0 y0 y1 y2 y3 y4 y5 y6 y7 z0 HCL
         (repeat(go_big_quiet_step (fail)));refine wpQuiet_nil ?_
         refine NoPanic.normal ?_;go_wp2_with fail;go_roundw
         case rel=>exact⟨k+1,(S.basic[k]:Int),1,by omega,by go_num,rfl,rfl,by rw [HTK.out];unfold TS.brkStep;rw [if_neg HS.out,if_pos HQL.out],by omega,by omega,by omega,KD2.out⟩
         case measure=>simp [intOf];omega
        case neg=>
         have HQL:Hid (¬ (hasLo S.n S.rows S.basic[k]=true∧(S.val S.basic[k]).cmp (loP S.n S.rows S.basic[k])<0)):=zh (fun h=>hc2 (by rw [← hcm2];exact h.2))
         clear hhl hcm2;simp only [wpPlan,pickOps,zl0,zl1,zl2,clsOf,Bool.false_eq_true,if_false]
         (repeat(go_big_quiet_step (fail)));refine wpQuiet_nil ?_
         refine wpWa rfl rfl fun K hK=> ?_
         go_simp;refine(CC _).out.mono ?_;rintro e wD2 ⟨rfl,hk3⟩;have k3:Keep NoS wB2 wD2:=Keep.trans kp hk3 fun _ _ _ h=>h
         refine hK _ _ ⟨fun _=>HCL.out _ k3,?_⟩
         have KD2:=zh (KB2.out.both k3);clear hK K hk3 CC k3 x0 y0 y1 y2 y3 y4 y5 y6 y7 z0 HCL
         (repeat(go_big_quiet_step (fail)));refine wpQuiet_nil ?_
         refine NoPanic.normal ?_;go_wp2_with fail;go_roundw
         case rel=>exact⟨k+1,(S.basic[k]:Int),(-1),by omega,by go_num,rfl,rfl,by rw [HTK.out];unfold TS.brkStep;rw [if_neg HS.out,if_neg HQL.out,if_pos HQU.out],by omega,by omega,by omega,KD2.out⟩
         case measure=>simp [intOf];omega
      case neg=>
       have HQU:Hid (¬ (hasUp S.n S.basic[k]=true∧0<(S.val S.basic[k]).cmp (upP S.n S.rows S.basic[k]))):=zh (fun h=>hc1 (by rw [← hcm1];exact h.2))
       clear hhu hcm1;simp only [wpPlan,pickOps,zl0,zl1,zl2,clsOf,Bool.false_eq_true,if_false]
       (repeat(go_big_quiet_step (fail)));refine wpQuiet_nil ?_
       refine wpWa rfl rfl fun K hK=> ?_
       go_simp;refine(CC _).out.mono ?_;rintro e wD1 ⟨rfl,hk3⟩;have k3:Keep NoS wB1 wD1:=Keep.trans kp hk3 fun _ _ _ h=>h
       refine hK _ _ ⟨fun _=>HCL.out _ k3,?_⟩
       have KD1:=zh (KB1.out.both k3);clear hK K hk3 CC k3 x0 y0 y1 y2 y3 y4 y5 y6 y7 z0 HCL
       (repeat(go_big_quiet_step (fail)));refine wpQuiet_nil ?_
       refine NoPanic.normal ?_;go_wp2_with fail;refine(CL _ KD1.out).out.mono ?_;rintro e wA2 ⟨⟨⟨pb,pS,pc,pU⟩,⟨qb,qS,qc,qU⟩⟩,rfl,hz,hk⟩;have KA2:=zh (KD1.out.both hk);have HZ2:=zh hz;clear hk hz CL;have HB2:Hid (Blk (wA2.alloc (.cells #[.bool pb,.string pS,.bool pc,.string pU,.bool qb,.string qS,.bool qc,.string qU] 101)) wA2.heap.size #[.bool pb,.string pS,.bool pc,.string pU,.bool qb,.string qS,.bool qc,.string qU]):=zh (blk_at _ _ rfl);have KB2:Hid (Keep NoS w (wA2.alloc (.cells #[.bool pb,.string pS,.bool pc,.string pU,.bool qb,.string qS,.bool qc,.string qU] 101))):=zh (KA2.out.alloc _);unfold PV.v;go_upto_region 10 with fail
       generalize wA2.alloc (.cells #[.bool pb,.string pS,.bool pc,.string pU,.bool qb,.string qS,.bool qc,.string qU] 101)=wB2 at *;generalize wA2.heap.size=b72 at *;refine wp_region_by (fun w'=>Keep NoS wB2 w') [] [([0,1,2,3,4,5,6,7,8,9],10)] [11,12] (by kernel_rfl) (by kernel_rfl) kp ?_
       intro X W hne hF hcl;have HCL:=zh hcl;have hlt2:=Nat.lt_of_lt_of_le hltT KB2.out.size;have hlv2:=Nat.lt_of_lt_of_le hltV KB2.out.size;have x0:=fun x=>((hF x).cell hlt2).trans ((KB2.out.cell hltT).trans HT5.out)
       have y0:=fun x=>((hF x).cell hlv2).trans ((KB2.out.cell hltV).trans HC.out.1)
       have y1:=fun x=>((hF x).cell hlv2).trans ((KB2.out.cell hltV).trans HC.out.2.1)
       have y2:=fun x=>((hF x).cell hlv2).trans ((KB2.out.cell hltV).trans HC.out.2.2.1)
       have y3:=fun x=>((hF x).cell hlv2).trans ((KB2.out.cell hltV).trans HC.out.2.2.2.1)
       have y4:=fun x=>((hF x).cell hlv2).trans ((KB2.out.cell hltV).trans HC.out.2.2.2.2.1)
       have y5:=fun x=>((hF x).cell hlv2).trans ((KB2.out.cell hltV).trans HC.out.2.2.2.2.2.1)
       have y6:=fun x=>((hF x).cell hlv2).trans ((KB2.out.cell hltV).trans HC.out.2.2.2.2.2.2.1)
       have y7:=fun x=>((hF x).cell hlv2).trans ((KB2.out.cell hltV).trans HC.out.2.2.2.2.2.2.2)
       have z0:=fun x=>(HB2.out.keep (hF x)).eight
       clear hF hcl;have CC:=fun w=>zh (vCmp_any w _ _ HPX.out (HNV.out.mono (by omega)) _ _ HZ2.out (HNL.out.mono (by omega)))
       unfold PV.v at CC;simp only at CC;generalize hhl:hasLo S.n S.rows S.basic[k]=hl at *;generalize hcm2:(S.val S.basic[k]).cmp (loP S.n S.rows S.basic[k])=cm2 at*
       cases hl
       case false=>
        have HQL:Hid (¬ (hasLo S.n S.rows S.basic[k]=true∧(S.val S.basic[k]).cmp (loP S.n S.rows S.basic[k])<0)):=zh (fun h=>by rw [hhl]at h;cases h.1)
        clear hhl hcm2;simp only [wpPlan,pickOps,zl0,zl1,zl2,clsOf,Bool.false_eq_true,if_false]
        (repeat(go_big_quiet_step (fail)));refine wpQuiet_nil ?_
        refine wpOp_unwanted (by simp only [zl0,zl1,zl2];rfl) (by rfl) ?_
        simp only [Act.put,List.setIfInBounds_toArray,List.set_cons_zero,List.set_cons_succ];refine⟨fun _=>HCL.out _ (Keep.refl NoS wB2).drew,?_⟩
        (repeat(go_big_quiet_step (fail)));refine wpQuiet_nil ?_
        refine NoPanic.normal ?_;have KD2:=zh (KB2.out.drew);clear x0 y0 y1 y2 y3 y4 y5 y6 y7 z0 CC HCL;generalize wB2.drew=wD2 at *;go_wp2_with fail;go_roundw
        case rel=>exact⟨k+1,b,wy,by omega,by go_num,rfl,rfl,by rw [HTK.out];unfold TS.brkStep;rw [if_neg HS.out,if_neg HQL.out,if_neg HQU.out],by omega,by omega,by omega,KD2.out⟩
        case measure=>simp [intOf];omega
       case true=>
        by_cases hc2:cm2<0
        case pos=>
         have HQL:Hid (hasLo S.n S.rows S.basic[k]=true∧(S.val S.basic[k]).cmp (loP S.n S.rows S.basic[k])<0):=zh ⟨hhl,by rw [hcm2];exact hc2⟩
         clear hhl hcm2;simp only [wpPlan,pickOps,zl0,zl1,zl2,clsOf,Bool.false_eq_true,if_false]
         (repeat(go_big_quiet_step (fail)));refine wpQuiet_nil ?_
         refine wpWa rfl rfl fun K hK=> ?_
         go_simp;refine(CC _).out.mono ?_;rintro e wD2 ⟨rfl,hk3⟩;have k3:Keep NoS wB2 wD2:=Keep.trans kp hk3 fun _ _ _ h=>h
         refine hK _ _ ⟨fun _=>HCL.out _ k3,?_⟩
         have KD2:=zh (KB2.out.both k3);clear hK K hk3 CC k3 x0 y0 y1 y2 y3 y4 y5 y6 y7 z0 HCL
         (repeat(go_big_quiet_step (fail)));refine wpQuiet_nil ?_
         refine NoPanic.normal ?_;go_wp2_with fail;go_roundw
         case rel=>exact⟨k+1,(S.basic[k]:Int),1,by omega,by go_num,rfl,rfl,by rw [HTK.out];unfold TS.brkStep;rw [if_neg HS.out,if_pos HQL.out],by omega,by omega,by omega,KD2.out⟩
         case measure=>simp [intOf];omega
        case neg=>
         have HQL:Hid (¬ (hasLo S.n S.rows S.basic[k]=true∧(S.val S.basic[k]).cmp (loP S.n S.rows S.basic[k])<0)):=zh (fun h=>hc2 (by rw [← hcm2];exact h.2))
         clear hhl hcm2;simp only [wpPlan,pickOps,zl0,zl1,zl2,clsOf,Bool.false_eq_true,if_false]
         (repeat(go_big_quiet_step (fail)));refine wpQuiet_nil ?_
         refine wpWa rfl rfl fun K hK=> ?_
         go_simp;refine(CC _).out.mono ?_;rintro e wD2 ⟨rfl,hk3⟩;have k3:Keep NoS wB2 wD2:=Keep.trans kp hk3 fun _ _ _ h=>h
         refine hK _ _ ⟨fun _=>HCL.out _ k3,?_⟩
         have KD2:=zh (KB2.out.both k3);clear hK K hk3 CC k3 x0 y0 y1 y2 y3 y4 y5 y6 y7 z0 HCL
         (repeat(go_big_quiet_step (fail)));refine wpQuiet_nil ?_
         refine NoPanic.normal ?_;go_wp2_with fail;go_roundw
         case rel=>exact⟨k+1,b,wy,by omega,by go_num,rfl,rfl,by rw [HTK.out];unfold TS.brkStep;rw [if_neg HS.out,if_neg HQL.out,if_neg HQU.out],by omega,by omega,by omega,KD2.out⟩
         case measure=>simp [intOf];omega
end Go.Proofs.YtaiffmebphhdaaaGreat
