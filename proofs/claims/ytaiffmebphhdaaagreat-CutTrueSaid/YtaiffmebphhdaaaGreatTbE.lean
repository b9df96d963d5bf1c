/- Package tableau's broken. -/
import Derived.Test.YtaiffmebphhdaaaGreatTbBB
namespace Go.Proofs.YtaiffmebphhdaaaGreat
set_option maxRecDepth 100000
set_option maxHeartbeats 32000000
set_option linter.unusedSimpArgs false
set_option linter.unusedVariables false
open Go.ChangeShapes Go.WideShapes Go.RowKit Go.Maps
def TS.brkStep (S:TS)(st:Int × Int)(b:Nat):Int × Int:=
 if 0≤st.1∧st.1<(b:Int)then st
 else if hasLo S.n S.rows b=true∧(S.val b).cmp (uD S.n S.rows b)<0 then((b:Int),1)
 else if jw S.n b=true∧0<(S.val b).cmp (jH S.n S.rows b)then((b:Int),-1)else st
def TS.broken (S:TS):Int × Int:=S.basic.foldl S.brkStep (-1,0)
theorem Rv {α β:Type}{f:β→α→β}{b:β}{l:List α}{k:Nat}(h:k<l.length):(l.take (k+1)).foldl f b=f ((l.take k).foldl f b) l[k]:=by
 rw [List.take_succ_eq_append_getElem h,List.foldl_append];rfl
theorem Nt (w0 w:World)(bT nm:Nat)(S:TS)(h:DX w0 w bT nm S)(hw:S.wf)(hn:S.nb 900):
  Calls Tryz.prog 42 #[.pointer (some ⟨bT,0,none⟩)] w fun e w'=>e= .returned (.tuple #[.int .i64 S.broken.1,.int .i64 S.broken.2])∧Keep au w w':=by
 obtain⟨L,h⟩:=h;have nM:=zh h;have HW:=zh hw;have HN:=zh hn;obtain⟨_,_,t2,_,_,t5,_,eT⟩:=h.t.seven;have JM:=zh t5;have bP:=h.v.lt;have xs:=h.cv.1;have xs':=h.cv.2;have ys:=h.cb.1;have ys':=h.cb.2;have hvl:=hw.vl;have hbl:=hw.bl;have h40:=hw.r40;have h12:=hw.n12;unfold maxLen at xs' ys';clear h hw hn t5;go_enter Tryz.func42,Tryz.ntmps42;go_wp2;clear t2;go_loopw [4,5,17] (fun s4 s5 s17 wr=>∃(k:Nat) (b wy:Int),k≤S.basic.length∧s17= .int .i64 k∧s4= .int .i64 b∧s5= .int .i64 wy∧(S.basic.take k).foldl S.brkStep (-1,0)=(b,wy)∧ -1≤b∧b<1000∧ -1≤wy∧Keep au w wr) (fun _ _ s _=>(S.basic.length-intOf s).toNat)
 case atStart=>exact⟨0,-1,0,om,rfl,rfl,rfl,rfl,om,om,om,Keep.refl _ _⟩
 obtain⟨k,b,wy,hk,rfl,rfl,rfl,hf,hb1,hb2,hw1,hkr⟩:=hrel;have HF:=zh hf;have cK:=zh hkr;clear hf hkr;by_cases hkl:k<S.basic.length
 case neg=>
  have hlt:¬(k:Int)<(S.basic.length:Int):=om;obtain rfl:k=S.basic.length:=om;have HB:Hid (S.broken=(b,wy)):=zh (by unfold TS.broken;rw [← HF.out,List.take_length]);go_wp2;go_ret2;exact⟨by rw [HB.out];rfl,cK.out⟩
 have hlt:(k:Int)<(S.basic.length:Int):=om;have Es:Hid ((S.basic.take (k+1)).foldl S.brkStep (-1,0)=S.brkStep (b,wy) S.basic[k]):=zh (by rw [Rv hkl,HF.out]);obtain⟨JW,hib⟩:=nM.out.b (by intro h0;rw [h0]at hkl;simp at hkl);obtain⟨c0,_⟩:=hib.at hkl;have hgl:=hib.lt;rw [JW];have c0:=(cK.out.cell hgl).trans c0;have zbB:=dJ hgl cK.out.size;have hxk:=HW.out.bb _ (List.getElem_mem hkl);have hxv:S.basic[k]<S.vals.length:=om;have XH:=zh (Gl HW.out S.basic[k]);have Yc:=zh (ZM HW.out S.basic[k]);have Aa:Hid ((S.val S.basic[k]).ok 900):=zh (by rw [kg hxv];exact HN.out.v _ (List.getElem_mem hxv));obtain⟨px,hpx,e0,e1,e2,e3,e4,e5,e6,e7⟩:=qP nM.out.v hxv;rw [← kg hxv]at hpx;have J2:=zh hpx;obtain⟨⟨xb,xS,xc,xU⟩,⟨yb,yS,yc,yU⟩⟩:=px;simp only at e0 e1 e2 e3 e4 e5 e6 e7;have HC:=zh (And.intro e0 (And.intro e1 (And.intro e2 (And.intro e3 (And.intro e4 (And.intro e5 (And.intro e6 e7)))))));have CU:=fun w' (k':Keep au w w')=>zh (wu w' bT S.n _ _ _ _ _ _ S.rows S.basic[k] (nM.out.t.keep k') (nM.out.rows.keep (nM.out.k.both k')) HW.out.n12 HW.out.r40 hxk);have CL:=fun w' (k':Keep au w w')=>zh (Ah w' bT S.n _ _ _ _ _ _ S.rows S.basic[k] (nM.out.t.keep k') (nM.out.rows.keep (nM.out.k.both k')) HW.out.n12 HW.out.r40 hxk);have hxI:(S.basic[k]:Int)<(S.vals.length:Int):=om;have hxI2:(S.basic[k]:Int)<1000:=om;clear e0 e1 e2 e3 e4 e5 e6 e7 hpx hib JW hgl;by_cases h0:0≤b
 case neg=>
  have hb0:¬(0:Int)≤b:=h0;have HS:Hid (¬ (0≤b∧b<(S.basic[k]:Int))):=zh om;clear h0;go_upto_region 6 with fail;clear c0 zbB;go_wp2_with fail;refine(CU _ cK.out).out.mono ?_;rintro e Vd ⟨⟨⟨pb,pS,pc,pU⟩,⟨qb,qS,qc,qU⟩⟩,rfl,hz,hk⟩;have KA1:=zh (cK.out.both hk);have HZ1:=zh hz;clear hk hz CU;have HB1:Hid (aL (Vd.alloc (.cells #[.bool pb,.string pS,.bool pc,.string pU,.bool qb,.string qS,.bool qc,.string qU] 101)) Vd.heap.size #[.bool pb,.string pS,.bool pc,.string pU,.bool qb,.string qS,.bool qc,.string qU]):=zh (aP _ _ rfl);have yY:Hid (Keep au w (Vd.alloc (.cells #[.bool pb,.string pS,.bool pc,.string pU,.bool qb,.string qS,.bool qc,.string qU] 101))):=zh (KA1.out.alloc _);unfold PV.v;go_upto_region 7 with fail;generalize Vd.alloc (.cells #[.bool pb,.string pS,.bool pc,.string pU,.bool qb,.string qS,.bool qc,.string qU] 101)=Ve at *;generalize Vd.heap.size=b71 at *;refine aD (fun w'=>Keep au Ve w') [] [([0,1,2,3,4,5,6,7,8,9],10)] [11,12] kr kr kp ?_;intro X W hne hF hcl;have aQ:=zh hcl;have hlt2:=dJ eT yY.out.size;have hlv2:=dJ bP yY.out.size;have x0:=fun x=>((hF x).cell hlt2).trans ((yY.out.cell eT).trans JM.out);have y0:=fun x=>((hF x).cell hlv2).trans ((yY.out.cell bP).trans HC.out.1);have y1:=fun x=>((hF x).cell hlv2).trans ((yY.out.cell bP).trans HC.out.2.1);have y2:=fun x=>((hF x).cell hlv2).trans ((yY.out.cell bP).trans HC.out.2.2.1);have y3:=fun x=>((hF x).cell hlv2).trans ((yY.out.cell bP).trans HC.out.2.2.2.1);have y4:=fun x=>((hF x).cell hlv2).trans ((yY.out.cell bP).trans HC.out.2.2.2.2.1);have y5:=fun x=>((hF x).cell hlv2).trans ((yY.out.cell bP).trans HC.out.2.2.2.2.2.1);have y6:=fun x=>((hF x).cell hlv2).trans ((yY.out.cell bP).trans HC.out.2.2.2.2.2.2.1);have y7:=fun x=>((hF x).cell hlv2).trans ((yY.out.cell bP).trans HC.out.2.2.2.2.2.2.2);have z0:=fun x=>(HB1.out.keep (hF x)).eight;clear hF hcl;have CC:=fun w=>zh (jW w _ _ J2.out (Aa.out.mono om) _ _ HZ1.out (XH.out.mono om));unfold PV.v at CC;simp only at CC;generalize Gv:jw S.n S.basic[k]=hu at *;generalize hcm1:(S.val S.basic[k]).cmp (jH S.n S.rows S.basic[k])=cm1 at*;cases hu
  case false=>
   have Km:Hid (¬ (jw S.n S.basic[k]=true∧0<(S.val S.basic[k]).cmp (jH S.n S.rows S.basic[k]))):=zh (fun h=>by rw [Gv]at h;cases h.1);clear Gv hcm1;simp only [aO,aJ,zl0,zl1,zl2,aR,Bool.false_eq_true,if_false]
   (repeat(go_big_quiet_step (fail)));refine wpQuiet_nil ?_
   refine bR (by simp only [zl0,zl1,zl2];rfl) (by rfl) ?_;simp only [Act.put,List.setIfInBounds_toArray,List.set_cons_zero,List.set_cons_succ];refine⟨fun _=>aQ.out _ (Keep.refl au Ve).drew,?_⟩
   (repeat(go_big_quiet_step (fail)));refine wpQuiet_nil ?_
   refine NoPanic.normal ?_;have Kn:=zh (yY.out.drew);clear x0 y0 y1 y2 y3 y4 y5 y6 y7 z0 CC aQ;generalize Ve.drew=Yp at *;go_wp2_with fail;refine(CL _ Kn.out).out.mono ?_;rintro e vF ⟨⟨⟨pb,pS,pc,pU⟩,⟨qb,qS,qc,qU⟩⟩,rfl,hz,hk⟩;have Vf:=zh (Kn.out.both hk);have HZ2:=zh hz;clear hk hz CL;have HB2:Hid (aL (vF.alloc (.cells #[.bool pb,.string pS,.bool pc,.string pU,.bool qb,.string qS,.bool qc,.string qU] 101)) vF.heap.size #[.bool pb,.string pS,.bool pc,.string pU,.bool qb,.string qS,.bool qc,.string qU]):=zh (aP _ _ rfl);have iD:Hid (Keep au w (vF.alloc (.cells #[.bool pb,.string pS,.bool pc,.string pU,.bool qb,.string qS,.bool qc,.string qU] 101))):=zh (Vf.out.alloc _);unfold PV.v;go_upto_region 10 with fail;generalize vF.alloc (.cells #[.bool pb,.string pS,.bool pc,.string pU,.bool qb,.string qS,.bool qc,.string qU] 101)=vG at *;generalize vF.heap.size=b72 at *;refine aD (fun w'=>Keep au vG w') [] [([0,1,2,3,4,5,6,7,8,9],10)] [11,12] kr kr kp ?_;intro X W hne hF hcl;have aQ:=zh hcl;have hlt2:=dJ eT iD.out.size;have hlv2:=dJ bP iD.out.size;have x0:=fun x=>((hF x).cell hlt2).trans ((iD.out.cell eT).trans JM.out);have y0:=fun x=>((hF x).cell hlv2).trans ((iD.out.cell bP).trans HC.out.1);have y1:=fun x=>((hF x).cell hlv2).trans ((iD.out.cell bP).trans HC.out.2.1);have y2:=fun x=>((hF x).cell hlv2).trans ((iD.out.cell bP).trans HC.out.2.2.1);have y3:=fun x=>((hF x).cell hlv2).trans ((iD.out.cell bP).trans HC.out.2.2.2.1);have y4:=fun x=>((hF x).cell hlv2).trans ((iD.out.cell bP).trans HC.out.2.2.2.2.1);have y5:=fun x=>((hF x).cell hlv2).trans ((iD.out.cell bP).trans HC.out.2.2.2.2.2.1);have y6:=fun x=>((hF x).cell hlv2).trans ((iD.out.cell bP).trans HC.out.2.2.2.2.2.2.1);have y7:=fun x=>((hF x).cell hlv2).trans ((iD.out.cell bP).trans HC.out.2.2.2.2.2.2.2);have z0:=fun x=>(HB2.out.keep (hF x)).eight;clear hF hcl;have CC:=fun w=>zh (jW w _ _ J2.out (Aa.out.mono om) _ _ HZ2.out (Yc.out.mono om));unfold PV.v at CC;simp only at CC;generalize sI:hasLo S.n S.rows S.basic[k]=hl at *;generalize hcm2:(S.val S.basic[k]).cmp (uD S.n S.rows S.basic[k])=cm2 at*;cases hl
   case false=>
    have vH:Hid (¬ (hasLo S.n S.rows S.basic[k]=true∧(S.val S.basic[k]).cmp (uD S.n S.rows S.basic[k])<0)):=zh (fun h=>by rw [sI]at h;cases h.1);clear sI hcm2;simp only [aO,aJ,zl0,zl1,zl2,aR,Bool.false_eq_true,if_false]
    (repeat(go_big_quiet_step (fail)));refine wpQuiet_nil ?_
    refine bR (by simp only [zl0,zl1,zl2];rfl) (by rfl) ?_;simp only [Act.put,List.setIfInBounds_toArray,List.set_cons_zero,List.set_cons_succ];refine⟨fun _=>aQ.out _ (Keep.refl au vG).drew,?_⟩
    (repeat(go_big_quiet_step (fail)));refine wpQuiet_nil ?_
    refine NoPanic.normal ?_;have vJ:=zh (iD.out.drew);clear x0 y0 y1 y2 y3 y4 y5 y6 y7 z0 CC aQ;generalize vG.drew=yZ at *;go_wp2_with fail;go_roundw
    case rel=>exact⟨k+1,b,wy,om,gn,rfl,rfl,by rw [Es.out];unfold TS.brkStep;rw [if_neg HS.out,if_neg vH.out,if_neg Km.out],om,om,om,vJ.out⟩
    simp [intOf];omega
   by_cases hc2:cm2<0
   case pos=>
    have vH:Hid (hasLo S.n S.rows S.basic[k]=true∧(S.val S.basic[k]).cmp (uD S.n S.rows S.basic[k])<0):=zh ⟨sI,by rw [hcm2];exact hc2⟩;clear sI hcm2;simp only [aO,aJ,zl0,zl1,zl2,aR,Bool.false_eq_true,if_false]
    (repeat(go_big_quiet_step (fail)));refine wpQuiet_nil ?_
    refine qw rfl rfl fun K hK=> ?_;go_simp;refine(CC _).out.mono ?_;rintro e yZ ⟨rfl,hk3⟩;have k3:Keep au vG yZ:=Keep.trans kp hk3 fun _ _ _ h=>h;refine hK _ _ ⟨fun _=>aQ.out _ k3,?_⟩;have vJ:=zh (iD.out.both k3);clear hK K hk3 CC k3 x0 y0 y1 y2 y3 y4 y5 y6 y7 z0 aQ
    (repeat(go_big_quiet_step (fail)));refine wpQuiet_nil ?_
    refine NoPanic.normal ?_;go_wp2_with fail;go_roundw
    case rel=>exact⟨k+1,(S.basic[k]:Int),1,om,gn,rfl,rfl,by rw [Es.out];unfold TS.brkStep;rw [if_neg HS.out,if_pos vH.out],om,om,om,vJ.out⟩
    simp [intOf];omega
   have vH:Hid (¬ (hasLo S.n S.rows S.basic[k]=true∧(S.val S.basic[k]).cmp (uD S.n S.rows S.basic[k])<0)):=zh (fun h=>hc2 (by rw [← hcm2];exact h.2));clear sI hcm2;simp only [aO,aJ,zl0,zl1,zl2,aR,Bool.false_eq_true,if_false]
   (repeat(go_big_quiet_step (fail)));refine wpQuiet_nil ?_
   refine qw rfl rfl fun K hK=> ?_;go_simp;refine(CC _).out.mono ?_;rintro e yZ ⟨rfl,hk3⟩;have k3:Keep au vG yZ:=Keep.trans kp hk3 fun _ _ _ h=>h;refine hK _ _ ⟨fun _=>aQ.out _ k3,?_⟩;have vJ:=zh (iD.out.both k3);clear hK K hk3 CC k3 x0 y0 y1 y2 y3 y4 y5 y6 y7 z0 aQ
   (repeat(go_big_quiet_step (fail)));refine wpQuiet_nil ?_
   refine NoPanic.normal ?_;go_wp2_with fail;go_roundw
   case rel=>exact⟨k+1,b,wy,om,gn,rfl,rfl,by rw [Es.out];unfold TS.brkStep;rw [if_neg HS.out,if_neg vH.out,if_neg Km.out],om,om,om,vJ.out⟩
   simp [intOf];omega
  by_cases hc1:0<cm1
  case pos=>
   have Km:Hid (jw S.n S.basic[k]=true∧0<(S.val S.basic[k]).cmp (jH S.n S.rows S.basic[k])):=zh ⟨Gv,by rw [hcm1];exact hc1⟩;clear Gv hcm1;simp only [aO,aJ,zl0,zl1,zl2,aR,Bool.false_eq_true,if_false]
   (repeat(go_big_quiet_step (fail)));refine wpQuiet_nil ?_
   refine qw rfl rfl fun K hK=> ?_;go_simp;refine(CC _).out.mono ?_;rintro e Yp ⟨rfl,hk3⟩;have k3:Keep au Ve Yp:=Keep.trans kp hk3 fun _ _ _ h=>h;refine hK _ _ ⟨fun _=>aQ.out _ k3,?_⟩;have Kn:=zh (yY.out.both k3);clear hK K hk3 CC k3 x0 y0 y1 y2 y3 y4 y5 y6 y7 z0 aQ
   (repeat(go_big_quiet_step (fail)));refine wpQuiet_nil ?_
   refine NoPanic.normal ?_;go_wp2_with fail;refine(CL _ Kn.out).out.mono ?_;rintro e vF ⟨⟨⟨pb,pS,pc,pU⟩,⟨qb,qS,qc,qU⟩⟩,rfl,hz,hk⟩;have Vf:=zh (Kn.out.both hk);have HZ2:=zh hz;clear hk hz CL;have HB2:Hid (aL (vF.alloc (.cells #[.bool pb,.string pS,.bool pc,.string pU,.bool qb,.string qS,.bool qc,.string qU] 101)) vF.heap.size #[.bool pb,.string pS,.bool pc,.string pU,.bool qb,.string qS,.bool qc,.string qU]):=zh (aP _ _ rfl);have iD:Hid (Keep au w (vF.alloc (.cells #[.bool pb,.string pS,.bool pc,.string pU,.bool qb,.string qS,.bool qc,.string qU] 101))):=zh (Vf.out.alloc _);unfold PV.v;go_upto_region 10 with fail;generalize vF.alloc (.cells #[.bool pb,.string pS,.bool pc,.string pU,.bool qb,.string qS,.bool qc,.string qU] 101)=vG at *;generalize vF.heap.size=b72 at *;refine aD (fun w'=>Keep au vG w') [] [([0,1,2,3,4,5,6,7,8,9],10)] [11,12] kr kr kp ?_;intro X W hne hF hcl;have aQ:=zh hcl;have hlt2:=dJ eT iD.out.size;have hlv2:=dJ bP iD.out.size;have x0:=fun x=>((hF x).cell hlt2).trans ((iD.out.cell eT).trans JM.out);have y0:=fun x=>((hF x).cell hlv2).trans ((iD.out.cell bP).trans HC.out.1);have y1:=fun x=>((hF x).cell hlv2).trans ((iD.out.cell bP).trans HC.out.2.1);have y2:=fun x=>((hF x).cell hlv2).trans ((iD.out.cell bP).trans HC.out.2.2.1);have y3:=fun x=>((hF x).cell hlv2).trans ((iD.out.cell bP).trans HC.out.2.2.2.1);have y4:=fun x=>((hF x).cell hlv2).trans ((iD.out.cell bP).trans HC.out.2.2.2.2.1);have y5:=fun x=>((hF x).cell hlv2).trans ((iD.out.cell bP).trans HC.out.2.2.2.2.2.1);have y6:=fun x=>((hF x).cell hlv2).trans ((iD.out.cell bP).trans HC.out.2.2.2.2.2.2.1);have y7:=fun x=>((hF x).cell hlv2).trans ((iD.out.cell bP).trans HC.out.2.2.2.2.2.2.2);have z0:=fun x=>(HB2.out.keep (hF x)).eight;clear hF hcl;have CC:=fun w=>zh (jW w _ _ J2.out (Aa.out.mono om) _ _ HZ2.out (Yc.out.mono om));unfold PV.v at CC;simp only at CC;generalize sI:hasLo S.n S.rows S.basic[k]=hl at *;generalize hcm2:(S.val S.basic[k]).cmp (uD S.n S.rows S.basic[k])=cm2 at*;cases hl
   case false=>
    have vH:Hid (¬ (hasLo S.n S.rows S.basic[k]=true∧(S.val S.basic[k]).cmp (uD S.n S.rows S.basic[k])<0)):=zh (fun h=>by rw [sI]at h;cases h.1);clear sI hcm2;simp only [aO,aJ,zl0,zl1,zl2,aR,Bool.false_eq_true,if_false]
    (repeat(go_big_quiet_step (fail)));refine wpQuiet_nil ?_
    refine bR (by simp only [zl0,zl1,zl2];rfl) (by rfl) ?_;simp only [Act.put,List.setIfInBounds_toArray,List.set_cons_zero,List.set_cons_succ];refine⟨fun _=>aQ.out _ (Keep.refl au vG).drew,?_⟩
    (repeat(go_big_quiet_step (fail)));refine wpQuiet_nil ?_
    refine NoPanic.normal ?_;have vJ:=zh (iD.out.drew);clear x0 y0 y1 y2 y3 y4 y5 y6 y7 z0 CC aQ;generalize vG.drew=yZ at *;go_wp2_with fail;go_roundw
    case rel=>exact⟨k+1,(S.basic[k]:Int),(-1),om,gn,rfl,rfl,by rw [Es.out];unfold TS.brkStep;rw [if_neg HS.out,if_neg vH.out,if_pos Km.out],om,om,om,vJ.out⟩
    simp [intOf];omega
   by_cases hc2:cm2<0
   case pos=>
    have vH:Hid (hasLo S.n S.rows S.basic[k]=true∧(S.val S.basic[k]).cmp (uD S.n S.rows S.basic[k])<0):=zh ⟨sI,by rw [hcm2];exact hc2⟩;clear sI hcm2;simp only [aO,aJ,zl0,zl1,zl2,aR,Bool.false_eq_true,if_false]
    (repeat(go_big_quiet_step (fail)));refine wpQuiet_nil ?_
    refine qw rfl rfl fun K hK=> ?_;go_simp;refine(CC _).out.mono ?_;rintro e yZ ⟨rfl,hk3⟩;have k3:Keep au vG yZ:=Keep.trans kp hk3 fun _ _ _ h=>h;refine hK _ _ ⟨fun _=>aQ.out _ k3,?_⟩;have vJ:=zh (iD.out.both k3);clear hK K hk3 CC k3 x0 y0 y1 y2 y3 y4 y5 y6 y7 z0 aQ
    (repeat(go_big_quiet_step (fail)));refine wpQuiet_nil ?_
    refine NoPanic.normal ?_;go_wp2_with fail;go_roundw
    case rel=>exact⟨k+1,(S.basic[k]:Int),1,om,gn,rfl,rfl,by rw [Es.out];unfold TS.brkStep;rw [if_neg HS.out,if_pos vH.out],om,om,om,vJ.out⟩
    simp [intOf];omega
   have vH:Hid (¬ (hasLo S.n S.rows S.basic[k]=true∧(S.val S.basic[k]).cmp (uD S.n S.rows S.basic[k])<0)):=zh (fun h=>hc2 (by rw [← hcm2];exact h.2));clear sI hcm2;simp only [aO,aJ,zl0,zl1,zl2,aR,Bool.false_eq_true,if_false]
   (repeat(go_big_quiet_step (fail)));refine wpQuiet_nil ?_
   refine qw rfl rfl fun K hK=> ?_;go_simp;refine(CC _).out.mono ?_;rintro e yZ ⟨rfl,hk3⟩;have k3:Keep au vG yZ:=Keep.trans kp hk3 fun _ _ _ h=>h;refine hK _ _ ⟨fun _=>aQ.out _ k3,?_⟩;have vJ:=zh (iD.out.both k3);clear hK K hk3 CC k3 x0 y0 y1 y2 y3 y4 y5 y6 y7 z0 aQ
   (repeat(go_big_quiet_step (fail)));refine wpQuiet_nil ?_
   refine NoPanic.normal ?_;go_wp2_with fail;go_roundw
   case rel=>exact⟨k+1,(S.basic[k]:Int),(-1),om,gn,rfl,rfl,by rw [Es.out];unfold TS.brkStep;rw [if_neg HS.out,if_neg vH.out,if_pos Km.out],om,om,om,vJ.out⟩
   simp [intOf];omega
  have Km:Hid (¬ (jw S.n S.basic[k]=true∧0<(S.val S.basic[k]).cmp (jH S.n S.rows S.basic[k]))):=zh (fun h=>hc1 (by rw [← hcm1];exact h.2));clear Gv hcm1;simp only [aO,aJ,zl0,zl1,zl2,aR,Bool.false_eq_true,if_false]
  (repeat(go_big_quiet_step (fail)));refine wpQuiet_nil ?_
  refine qw rfl rfl fun K hK=> ?_;go_simp;refine(CC _).out.mono ?_;rintro e Yp ⟨rfl,hk3⟩;have k3:Keep au Ve Yp:=Keep.trans kp hk3 fun _ _ _ h=>h;refine hK _ _ ⟨fun _=>aQ.out _ k3,?_⟩;have Kn:=zh (yY.out.both k3);clear hK K hk3 CC k3 x0 y0 y1 y2 y3 y4 y5 y6 y7 z0 aQ
  (repeat(go_big_quiet_step (fail)));refine wpQuiet_nil ?_
  refine NoPanic.normal ?_;go_wp2_with fail;refine(CL _ Kn.out).out.mono ?_;rintro e vF ⟨⟨⟨pb,pS,pc,pU⟩,⟨qb,qS,qc,qU⟩⟩,rfl,hz,hk⟩;have Vf:=zh (Kn.out.both hk);have HZ2:=zh hz;clear hk hz CL;have HB2:Hid (aL (vF.alloc (.cells #[.bool pb,.string pS,.bool pc,.string pU,.bool qb,.string qS,.bool qc,.string qU] 101)) vF.heap.size #[.bool pb,.string pS,.bool pc,.string pU,.bool qb,.string qS,.bool qc,.string qU]):=zh (aP _ _ rfl);have iD:Hid (Keep au w (vF.alloc (.cells #[.bool pb,.string pS,.bool pc,.string pU,.bool qb,.string qS,.bool qc,.string qU] 101))):=zh (Vf.out.alloc _);unfold PV.v;go_upto_region 10 with fail;generalize vF.alloc (.cells #[.bool pb,.string pS,.bool pc,.string pU,.bool qb,.string qS,.bool qc,.string qU] 101)=vG at *;generalize vF.heap.size=b72 at *;refine aD (fun w'=>Keep au vG w') [] [([0,1,2,3,4,5,6,7,8,9],10)] [11,12] kr kr kp ?_;intro X W hne hF hcl;have aQ:=zh hcl;have hlt2:=dJ eT iD.out.size;have hlv2:=dJ bP iD.out.size;have x0:=fun x=>((hF x).cell hlt2).trans ((iD.out.cell eT).trans JM.out);have y0:=fun x=>((hF x).cell hlv2).trans ((iD.out.cell bP).trans HC.out.1);have y1:=fun x=>((hF x).cell hlv2).trans ((iD.out.cell bP).trans HC.out.2.1);have y2:=fun x=>((hF x).cell hlv2).trans ((iD.out.cell bP).trans HC.out.2.2.1);have y3:=fun x=>((hF x).cell hlv2).trans ((iD.out.cell bP).trans HC.out.2.2.2.1);have y4:=fun x=>((hF x).cell hlv2).trans ((iD.out.cell bP).trans HC.out.2.2.2.2.1);have y5:=fun x=>((hF x).cell hlv2).trans ((iD.out.cell bP).trans HC.out.2.2.2.2.2.1);have y6:=fun x=>((hF x).cell hlv2).trans ((iD.out.cell bP).trans HC.out.2.2.2.2.2.2.1);have y7:=fun x=>((hF x).cell hlv2).trans ((iD.out.cell bP).trans HC.out.2.2.2.2.2.2.2);have z0:=fun x=>(HB2.out.keep (hF x)).eight;clear hF hcl;have CC:=fun w=>zh (jW w _ _ J2.out (Aa.out.mono om) _ _ HZ2.out (Yc.out.mono om));unfold PV.v at CC;simp only at CC;generalize sI:hasLo S.n S.rows S.basic[k]=hl at *;generalize hcm2:(S.val S.basic[k]).cmp (uD S.n S.rows S.basic[k])=cm2 at*;cases hl
  case false=>
   have vH:Hid (¬ (hasLo S.n S.rows S.basic[k]=true∧(S.val S.basic[k]).cmp (uD S.n S.rows S.basic[k])<0)):=zh (fun h=>by rw [sI]at h;cases h.1);clear sI hcm2;simp only [aO,aJ,zl0,zl1,zl2,aR,Bool.false_eq_true,if_false]
   (repeat(go_big_quiet_step (fail)));refine wpQuiet_nil ?_
   refine bR (by simp only [zl0,zl1,zl2];rfl) (by rfl) ?_;simp only [Act.put,List.setIfInBounds_toArray,List.set_cons_zero,List.set_cons_succ];refine⟨fun _=>aQ.out _ (Keep.refl au vG).drew,?_⟩
   (repeat(go_big_quiet_step (fail)));refine wpQuiet_nil ?_
   refine NoPanic.normal ?_;have vJ:=zh (iD.out.drew);clear x0 y0 y1 y2 y3 y4 y5 y6 y7 z0 CC aQ;generalize vG.drew=yZ at *;go_wp2_with fail;go_roundw
   case rel=>exact⟨k+1,b,wy,om,gn,rfl,rfl,by rw [Es.out];unfold TS.brkStep;rw [if_neg HS.out,if_neg vH.out,if_neg Km.out],om,om,om,vJ.out⟩
   simp [intOf];omega
  by_cases hc2:cm2<0
  case pos=>
   have vH:Hid (hasLo S.n S.rows S.basic[k]=true∧(S.val S.basic[k]).cmp (uD S.n S.rows S.basic[k])<0):=zh ⟨sI,by rw [hcm2];exact hc2⟩;clear sI hcm2;simp only [aO,aJ,zl0,zl1,zl2,aR,Bool.false_eq_true,if_false]
   (repeat(go_big_quiet_step (fail)));refine wpQuiet_nil ?_
   refine qw rfl rfl fun K hK=> ?_;go_simp;refine(CC _).out.mono ?_;rintro e yZ ⟨rfl,hk3⟩;have k3:Keep au vG yZ:=Keep.trans kp hk3 fun _ _ _ h=>h;refine hK _ _ ⟨fun _=>aQ.out _ k3,?_⟩;have vJ:=zh (iD.out.both k3);clear hK K hk3 CC k3 x0 y0 y1 y2 y3 y4 y5 y6 y7 z0 aQ
   (repeat(go_big_quiet_step (fail)));refine wpQuiet_nil ?_
   refine NoPanic.normal ?_;go_wp2_with fail;go_roundw
   case rel=>exact⟨k+1,(S.basic[k]:Int),1,om,gn,rfl,rfl,by rw [Es.out];unfold TS.brkStep;rw [if_neg HS.out,if_pos vH.out],om,om,om,vJ.out⟩
   simp [intOf];omega
  have vH:Hid (¬ (hasLo S.n S.rows S.basic[k]=true∧(S.val S.basic[k]).cmp (uD S.n S.rows S.basic[k])<0)):=zh (fun h=>hc2 (by rw [← hcm2];exact h.2));clear sI hcm2;simp only [aO,aJ,zl0,zl1,zl2,aR,Bool.false_eq_true,if_false]
  (repeat(go_big_quiet_step (fail)));refine wpQuiet_nil ?_
  refine qw rfl rfl fun K hK=> ?_;go_simp;refine(CC _).out.mono ?_;rintro e yZ ⟨rfl,hk3⟩;have k3:Keep au vG yZ:=Keep.trans kp hk3 fun _ _ _ h=>h;refine hK _ _ ⟨fun _=>aQ.out _ k3,?_⟩;have vJ:=zh (iD.out.both k3);clear hK K hk3 CC k3 x0 y0 y1 y2 y3 y4 y5 y6 y7 z0 aQ
  (repeat(go_big_quiet_step (fail)));refine wpQuiet_nil ?_
  refine NoPanic.normal ?_;go_wp2_with fail;go_roundw
  case rel=>exact⟨k+1,b,wy,om,gn,rfl,rfl,by rw [Es.out];unfold TS.brkStep;rw [if_neg HS.out,if_neg vH.out,if_neg Km.out],om,om,om,vJ.out⟩
  simp [intOf];omega
 by_cases hbx:b<(S.basic[k]:Int)
 case pos=>
  have HS:Hid (0≤b∧b<(S.basic[k]:Int)):=zh ⟨h0,hbx⟩;go_wp2_with fail;go_roundw
  case rel=>exact⟨k+1,b,wy,om,gn,rfl,rfl,by rw [Es.out];simp [TS.brkStep,HS.out],om,om,om,cK.out⟩
  simp [intOf];omega
 have HS:Hid (¬ (0≤b∧b<(S.basic[k]:Int))):=zh om;go_upto_region 6 with fail;clear c0 zbB;go_wp2_with fail;refine(CU _ cK.out).out.mono ?_;rintro e Vd ⟨⟨⟨pb,pS,pc,pU⟩,⟨qb,qS,qc,qU⟩⟩,rfl,hz,hk⟩;have KA1:=zh (cK.out.both hk);have HZ1:=zh hz;clear hk hz CU;have HB1:Hid (aL (Vd.alloc (.cells #[.bool pb,.string pS,.bool pc,.string pU,.bool qb,.string qS,.bool qc,.string qU] 101)) Vd.heap.size #[.bool pb,.string pS,.bool pc,.string pU,.bool qb,.string qS,.bool qc,.string qU]):=zh (aP _ _ rfl);have yY:Hid (Keep au w (Vd.alloc (.cells #[.bool pb,.string pS,.bool pc,.string pU,.bool qb,.string qS,.bool qc,.string qU] 101))):=zh (KA1.out.alloc _);unfold PV.v;go_upto_region 7 with fail;generalize Vd.alloc (.cells #[.bool pb,.string pS,.bool pc,.string pU,.bool qb,.string qS,.bool qc,.string qU] 101)=Ve at *;generalize Vd.heap.size=b71 at *;refine aD (fun w'=>Keep au Ve w') [] [([0,1,2,3,4,5,6,7,8,9],10)] [11,12] kr kr kp ?_;intro X W hne hF hcl;have aQ:=zh hcl;have hlt2:=dJ eT yY.out.size;have hlv2:=dJ bP yY.out.size;have x0:=fun x=>((hF x).cell hlt2).trans ((yY.out.cell eT).trans JM.out);have y0:=fun x=>((hF x).cell hlv2).trans ((yY.out.cell bP).trans HC.out.1);have y1:=fun x=>((hF x).cell hlv2).trans ((yY.out.cell bP).trans HC.out.2.1);have y2:=fun x=>((hF x).cell hlv2).trans ((yY.out.cell bP).trans HC.out.2.2.1);have y3:=fun x=>((hF x).cell hlv2).trans ((yY.out.cell bP).trans HC.out.2.2.2.1);have y4:=fun x=>((hF x).cell hlv2).trans ((yY.out.cell bP).trans HC.out.2.2.2.2.1);have y5:=fun x=>((hF x).cell hlv2).trans ((yY.out.cell bP).trans HC.out.2.2.2.2.2.1);have y6:=fun x=>((hF x).cell hlv2).trans ((yY.out.cell bP).trans HC.out.2.2.2.2.2.2.1);have y7:=fun x=>((hF x).cell hlv2).trans ((yY.out.cell bP).trans HC.out.2.2.2.2.2.2.2);have z0:=fun x=>(HB1.out.keep (hF x)).eight;clear hF hcl;have CC:=fun w=>zh (jW w _ _ J2.out (Aa.out.mono om) _ _ HZ1.out (XH.out.mono om));unfold PV.v at CC;simp only at CC;generalize Gv:jw S.n S.basic[k]=hu at *;generalize hcm1:(S.val S.basic[k]).cmp (jH S.n S.rows S.basic[k])=cm1 at*;cases hu
 case false=>
  have Km:Hid (¬ (jw S.n S.basic[k]=true∧0<(S.val S.basic[k]).cmp (jH S.n S.rows S.basic[k]))):=zh (fun h=>by rw [Gv]at h;cases h.1);clear Gv hcm1;simp only [aO,aJ,zl0,zl1,zl2,aR,Bool.false_eq_true,if_false]
  (repeat(go_big_quiet_step (fail)));refine wpQuiet_nil ?_
  refine bR (by simp only [zl0,zl1,zl2];rfl) (by rfl) ?_;simp only [Act.put,List.setIfInBounds_toArray,List.set_cons_zero,List.set_cons_succ];refine⟨fun _=>aQ.out _ (Keep.refl au Ve).drew,?_⟩
  (repeat(go_big_quiet_step (fail)));refine wpQuiet_nil ?_
  refine NoPanic.normal ?_;have Kn:=zh (yY.out.drew);clear x0 y0 y1 y2 y3 y4 y5 y6 y7 z0 CC aQ;generalize Ve.drew=Yp at *;go_wp2_with fail;refine(CL _ Kn.out).out.mono ?_;rintro e vF ⟨⟨⟨pb,pS,pc,pU⟩,⟨qb,qS,qc,qU⟩⟩,rfl,hz,hk⟩;have Vf:=zh (Kn.out.both hk);have HZ2:=zh hz;clear hk hz CL;have HB2:Hid (aL (vF.alloc (.cells #[.bool pb,.string pS,.bool pc,.string pU,.bool qb,.string qS,.bool qc,.string qU] 101)) vF.heap.size #[.bool pb,.string pS,.bool pc,.string pU,.bool qb,.string qS,.bool qc,.string qU]):=zh (aP _ _ rfl);have iD:Hid (Keep au w (vF.alloc (.cells #[.bool pb,.string pS,.bool pc,.string pU,.bool qb,.string qS,.bool qc,.string qU] 101))):=zh (Vf.out.alloc _);unfold PV.v;go_upto_region 10 with fail;generalize vF.alloc (.cells #[.bool pb,.string pS,.bool pc,.string pU,.bool qb,.string qS,.bool qc,.string qU] 101)=vG at *;generalize vF.heap.size=b72 at *;refine aD (fun w'=>Keep au vG w') [] [([0,1,2,3,4,5,6,7,8,9],10)] [11,12] kr kr kp ?_;intro X W hne hF hcl;have aQ:=zh hcl;have hlt2:=dJ eT iD.out.size;have hlv2:=dJ bP iD.out.size;have x0:=fun x=>((hF x).cell hlt2).trans ((iD.out.cell eT).trans JM.out);have y0:=fun x=>((hF x).cell hlv2).trans ((iD.out.cell bP).trans HC.out.1);have y1:=fun x=>((hF x).cell hlv2).trans ((iD.out.cell bP).trans HC.out.2.1);have y2:=fun x=>((hF x).cell hlv2).trans ((iD.out.cell bP).trans HC.out.2.2.1);have y3:=fun x=>((hF x).cell hlv2).trans ((iD.out.cell bP).trans HC.out.2.2.2.1);have y4:=fun x=>((hF x).cell hlv2).trans ((iD.out.cell bP).trans HC.out.2.2.2.2.1);have y5:=fun x=>((hF x).cell hlv2).trans ((iD.out.cell bP).trans HC.out.2.2.2.2.2.1);have y6:=fun x=>((hF x).cell hlv2).trans ((iD.out.cell bP).trans HC.out.2.2.2.2.2.2.1);have y7:=fun x=>((hF x).cell hlv2).trans ((iD.out.cell bP).trans HC.out.2.2.2.2.2.2.2);have z0:=fun x=>(HB2.out.keep (hF x)).eight;clear hF hcl;have CC:=fun w=>zh (jW w _ _ J2.out (Aa.out.mono om) _ _ HZ2.out (Yc.out.mono om));unfold PV.v at CC;simp only at CC;generalize sI:hasLo S.n S.rows S.basic[k]=hl at *;generalize hcm2:(S.val S.basic[k]).cmp (uD S.n S.rows S.basic[k])=cm2 at*;cases hl
  case false=>
   have vH:Hid (¬ (hasLo S.n S.rows S.basic[k]=true∧(S.val S.basic[k]).cmp (uD S.n S.rows S.basic[k])<0)):=zh (fun h=>by rw [sI]at h;cases h.1);clear sI hcm2;simp only [aO,aJ,zl0,zl1,zl2,aR,Bool.false_eq_true,if_false]
   (repeat(go_big_quiet_step (fail)));refine wpQuiet_nil ?_
   refine bR (by simp only [zl0,zl1,zl2];rfl) (by rfl) ?_;simp only [Act.put,List.setIfInBounds_toArray,List.set_cons_zero,List.set_cons_succ];refine⟨fun _=>aQ.out _ (Keep.refl au vG).drew,?_⟩
   (repeat(go_big_quiet_step (fail)));refine wpQuiet_nil ?_
   refine NoPanic.normal ?_;have vJ:=zh (iD.out.drew);clear x0 y0 y1 y2 y3 y4 y5 y6 y7 z0 CC aQ;generalize vG.drew=yZ at *;go_wp2_with fail;go_roundw
   case rel=>exact⟨k+1,b,wy,om,gn,rfl,rfl,by rw [Es.out];unfold TS.brkStep;rw [if_neg HS.out,if_neg vH.out,if_neg Km.out],om,om,om,vJ.out⟩
   simp [intOf];omega
  by_cases hc2:cm2<0
  case pos=>
   have vH:Hid (hasLo S.n S.rows S.basic[k]=true∧(S.val S.basic[k]).cmp (uD S.n S.rows S.basic[k])<0):=zh ⟨sI,by rw [hcm2];exact hc2⟩;clear sI hcm2;simp only [aO,aJ,zl0,zl1,zl2,aR,Bool.false_eq_true,if_false]
   (repeat(go_big_quiet_step (fail)));refine wpQuiet_nil ?_
   refine qw rfl rfl fun K hK=> ?_;go_simp;refine(CC _).out.mono ?_;rintro e yZ ⟨rfl,hk3⟩;have k3:Keep au vG yZ:=Keep.trans kp hk3 fun _ _ _ h=>h;refine hK _ _ ⟨fun _=>aQ.out _ k3,?_⟩;have vJ:=zh (iD.out.both k3);clear hK K hk3 CC k3 x0 y0 y1 y2 y3 y4 y5 y6 y7 z0 aQ
   (repeat(go_big_quiet_step (fail)));refine wpQuiet_nil ?_
   refine NoPanic.normal ?_;go_wp2_with fail;go_roundw
   case rel=>exact⟨k+1,(S.basic[k]:Int),1,om,gn,rfl,rfl,by rw [Es.out];unfold TS.brkStep;rw [if_neg HS.out,if_pos vH.out],om,om,om,vJ.out⟩
   simp [intOf];omega
  have vH:Hid (¬ (hasLo S.n S.rows S.basic[k]=true∧(S.val S.basic[k]).cmp (uD S.n S.rows S.basic[k])<0)):=zh (fun h=>hc2 (by rw [← hcm2];exact h.2));clear sI hcm2;simp only [aO,aJ,zl0,zl1,zl2,aR,Bool.false_eq_true,if_false]
  (repeat(go_big_quiet_step (fail)));refine wpQuiet_nil ?_
  refine qw rfl rfl fun K hK=> ?_;go_simp;refine(CC _).out.mono ?_;rintro e yZ ⟨rfl,hk3⟩;have k3:Keep au vG yZ:=Keep.trans kp hk3 fun _ _ _ h=>h;refine hK _ _ ⟨fun _=>aQ.out _ k3,?_⟩;have vJ:=zh (iD.out.both k3);clear hK K hk3 CC k3 x0 y0 y1 y2 y3 y4 y5 y6 y7 z0 aQ
  (repeat(go_big_quiet_step (fail)));refine wpQuiet_nil ?_
  refine NoPanic.normal ?_;go_wp2_with fail;go_roundw
  case rel=>exact⟨k+1,b,wy,om,gn,rfl,rfl,by rw [Es.out];unfold TS.brkStep;rw [if_neg HS.out,if_neg vH.out,if_neg Km.out],om,om,om,vJ.out⟩
  simp [intOf];omega
 by_cases hc1:0<cm1
 case pos=>
  have Km:Hid (jw S.n S.basic[k]=true∧0<(S.val S.basic[k]).cmp (jH S.n S.rows S.basic[k])):=zh ⟨Gv,by rw [hcm1];exact hc1⟩;clear Gv hcm1;simp only [aO,aJ,zl0,zl1,zl2,aR,Bool.false_eq_true,if_false]
  (repeat(go_big_quiet_step (fail)));refine wpQuiet_nil ?_
  refine qw rfl rfl fun K hK=> ?_;go_simp;refine(CC _).out.mono ?_;rintro e Yp ⟨rfl,hk3⟩;have k3:Keep au Ve Yp:=Keep.trans kp hk3 fun _ _ _ h=>h;refine hK _ _ ⟨fun _=>aQ.out _ k3,?_⟩;have Kn:=zh (yY.out.both k3);clear hK K hk3 CC k3 x0 y0 y1 y2 y3 y4 y5 y6 y7 z0 aQ
  (repeat(go_big_quiet_step (fail)));refine wpQuiet_nil ?_
  refine NoPanic.normal ?_;go_wp2_with fail;refine(CL _ Kn.out).out.mono ?_;rintro e vF ⟨⟨⟨pb,pS,pc,pU⟩,⟨qb,qS,qc,qU⟩⟩,rfl,hz,hk⟩;have Vf:=zh (Kn.out.both hk);have HZ2:=zh hz;clear hk hz CL;have HB2:Hid (aL (vF.alloc (.cells #[.bool pb,.string pS,.bool pc,.string pU,.bool qb,.string qS,.bool qc,.string qU] 101)) vF.heap.size #[.bool pb,.string pS,.bool pc,.string pU,.bool qb,.string qS,.bool qc,.string qU]):=zh (aP _ _ rfl);have iD:Hid (Keep au w (vF.alloc (.cells #[.bool pb,.string pS,.bool pc,.string pU,.bool qb,.string qS,.bool qc,.string qU] 101))):=zh (Vf.out.alloc _);unfold PV.v;go_upto_region 10 with fail;generalize vF.alloc (.cells #[.bool pb,.string pS,.bool pc,.string pU,.bool qb,.string qS,.bool qc,.string qU] 101)=vG at *;generalize vF.heap.size=b72 at *;refine aD (fun w'=>Keep au vG w') [] [([0,1,2,3,4,5,6,7,8,9],10)] [11,12] kr kr kp ?_;intro X W hne hF hcl;have aQ:=zh hcl;have hlt2:=dJ eT iD.out.size;have hlv2:=dJ bP iD.out.size;have x0:=fun x=>((hF x).cell hlt2).trans ((iD.out.cell eT).trans JM.out);have y0:=fun x=>((hF x).cell hlv2).trans ((iD.out.cell bP).trans HC.out.1);have y1:=fun x=>((hF x).cell hlv2).trans ((iD.out.cell bP).trans HC.out.2.1);have y2:=fun x=>((hF x).cell hlv2).trans ((iD.out.cell bP).trans HC.out.2.2.1);have y3:=fun x=>((hF x).cell hlv2).trans ((iD.out.cell bP).trans HC.out.2.2.2.1);have y4:=fun x=>((hF x).cell hlv2).trans ((iD.out.cell bP).trans HC.out.2.2.2.2.1);have y5:=fun x=>((hF x).cell hlv2).trans ((iD.out.cell bP).trans HC.out.2.2.2.2.2.1);have y6:=fun x=>((hF x).cell hlv2).trans ((iD.out.cell bP).trans HC.out.2.2.2.2.2.2.1);have y7:=fun x=>((hF x).cell hlv2).trans ((iD.out.cell bP).trans HC.out.2.2.2.2.2.2.2);have z0:=fun x=>(HB2.out.keep (hF x)).eight;clear hF hcl;have CC:=fun w=>zh (jW w _ _ J2.out (Aa.out.mono om) _ _ HZ2.out (Yc.out.mono om));unfold PV.v at CC;simp only at CC;generalize sI:hasLo S.n S.rows S.basic[k]=hl at *;generalize hcm2:(S.val S.basic[k]).cmp (uD S.n S.rows S.basic[k])=cm2 at*;cases hl
  case false=>
   have vH:Hid (¬ (hasLo S.n S.rows S.basic[k]=true∧(S.val S.basic[k]).cmp (uD S.n S.rows S.basic[k])<0)):=zh (fun h=>by rw [sI]at h;cases h.1);clear sI hcm2;simp only [aO,aJ,zl0,zl1,zl2,aR,Bool.false_eq_true,if_false]
   (repeat(go_big_quiet_step (fail)));refine wpQuiet_nil ?_
   refine bR (by simp only [zl0,zl1,zl2];rfl) (by rfl) ?_;simp only [Act.put,List.setIfInBounds_toArray,List.set_cons_zero,List.set_cons_succ];refine⟨fun _=>aQ.out _ (Keep.refl au vG).drew,?_⟩
   (repeat(go_big_quiet_step (fail)));refine wpQuiet_nil ?_
   refine NoPanic.normal ?_;have vJ:=zh (iD.out.drew);clear x0 y0 y1 y2 y3 y4 y5 y6 y7 z0 CC aQ;generalize vG.drew=yZ at *;go_wp2_with fail;go_roundw
   case rel=>exact⟨k+1,(S.basic[k]:Int),(-1),om,gn,rfl,rfl,by rw [Es.out];unfold TS.brkStep;rw [if_neg HS.out,if_neg vH.out,if_pos Km.out],om,om,om,vJ.out⟩
   simp [intOf];omega
  by_cases hc2:cm2<0
  case pos=>
   have vH:Hid (hasLo S.n S.rows S.basic[k]=true∧(S.val S.basic[k]).cmp (uD S.n S.rows S.basic[k])<0):=zh ⟨sI,by rw [hcm2];exact hc2⟩;clear sI hcm2;simp only [aO,aJ,zl0,zl1,zl2,aR,Bool.false_eq_true,if_false]
   (repeat(go_big_quiet_step (fail)));refine wpQuiet_nil ?_
   refine qw rfl rfl fun K hK=> ?_;go_simp;refine(CC _).out.mono ?_;rintro e yZ ⟨rfl,hk3⟩;have k3:Keep au vG yZ:=Keep.trans kp hk3 fun _ _ _ h=>h;refine hK _ _ ⟨fun _=>aQ.out _ k3,?_⟩;have vJ:=zh (iD.out.both k3);clear hK K hk3 CC k3 x0 y0 y1 y2 y3 y4 y5 y6 y7 z0 aQ
   (repeat(go_big_quiet_step (fail)));refine wpQuiet_nil ?_
   refine NoPanic.normal ?_;go_wp2_with fail;go_roundw
   case rel=>exact⟨k+1,(S.basic[k]:Int),1,om,gn,rfl,rfl,by rw [Es.out];unfold TS.brkStep;rw [if_neg HS.out,if_pos vH.out],om,om,om,vJ.out⟩
   simp [intOf];omega
  have vH:Hid (¬ (hasLo S.n S.rows S.basic[k]=true∧(S.val S.basic[k]).cmp (uD S.n S.rows S.basic[k])<0)):=zh (fun h=>hc2 (by rw [← hcm2];exact h.2));clear sI hcm2;simp only [aO,aJ,zl0,zl1,zl2,aR,Bool.false_eq_true,if_false]
  (repeat(go_big_quiet_step (fail)));refine wpQuiet_nil ?_
  refine qw rfl rfl fun K hK=> ?_;go_simp;refine(CC _).out.mono ?_;rintro e yZ ⟨rfl,hk3⟩;have k3:Keep au vG yZ:=Keep.trans kp hk3 fun _ _ _ h=>h;refine hK _ _ ⟨fun _=>aQ.out _ k3,?_⟩;have vJ:=zh (iD.out.both k3);clear hK K hk3 CC k3 x0 y0 y1 y2 y3 y4 y5 y6 y7 z0 aQ
  (repeat(go_big_quiet_step (fail)));refine wpQuiet_nil ?_
  refine NoPanic.normal ?_;go_wp2_with fail;go_roundw
  case rel=>exact⟨k+1,(S.basic[k]:Int),(-1),om,gn,rfl,rfl,by rw [Es.out];unfold TS.brkStep;rw [if_neg HS.out,if_neg vH.out,if_pos Km.out],om,om,om,vJ.out⟩
  simp [intOf];omega
 have Km:Hid (¬ (jw S.n S.basic[k]=true∧0<(S.val S.basic[k]).cmp (jH S.n S.rows S.basic[k]))):=zh (fun h=>hc1 (by rw [← hcm1];exact h.2));clear Gv hcm1;simp only [aO,aJ,zl0,zl1,zl2,aR,Bool.false_eq_true,if_false]
 (repeat(go_big_quiet_step (fail)));refine wpQuiet_nil ?_
 refine qw rfl rfl fun K hK=> ?_;go_simp;refine(CC _).out.mono ?_;rintro e Yp ⟨rfl,hk3⟩;have k3:Keep au Ve Yp:=Keep.trans kp hk3 fun _ _ _ h=>h;refine hK _ _ ⟨fun _=>aQ.out _ k3,?_⟩;have Kn:=zh (yY.out.both k3);clear hK K hk3 CC k3 x0 y0 y1 y2 y3 y4 y5 y6 y7 z0 aQ
 (repeat(go_big_quiet_step (fail)));refine wpQuiet_nil ?_
 refine NoPanic.normal ?_;go_wp2_with fail;refine(CL _ Kn.out).out.mono ?_;rintro e vF ⟨⟨⟨pb,pS,pc,pU⟩,⟨qb,qS,qc,qU⟩⟩,rfl,hz,hk⟩;have Vf:=zh (Kn.out.both hk);have HZ2:=zh hz;clear hk hz CL;have HB2:Hid (aL (vF.alloc (.cells #[.bool pb,.string pS,.bool pc,.string pU,.bool qb,.string qS,.bool qc,.string qU] 101)) vF.heap.size #[.bool pb,.string pS,.bool pc,.string pU,.bool qb,.string qS,.bool qc,.string qU]):=zh (aP _ _ rfl);have iD:Hid (Keep au w (vF.alloc (.cells #[.bool pb,.string pS,.bool pc,.string pU,.bool qb,.string qS,.bool qc,.string qU] 101))):=zh (Vf.out.alloc _);unfold PV.v;go_upto_region 10 with fail;generalize vF.alloc (.cells #[.bool pb,.string pS,.bool pc,.string pU,.bool qb,.string qS,.bool qc,.string qU] 101)=vG at *;generalize vF.heap.size=b72 at *;refine aD (fun w'=>Keep au vG w') [] [([0,1,2,3,4,5,6,7,8,9],10)] [11,12] kr kr kp ?_;intro X W hne hF hcl;have aQ:=zh hcl;have hlt2:=dJ eT iD.out.size;have hlv2:=dJ bP iD.out.size;have x0:=fun x=>((hF x).cell hlt2).trans ((iD.out.cell eT).trans JM.out);have y0:=fun x=>((hF x).cell hlv2).trans ((iD.out.cell bP).trans HC.out.1);have y1:=fun x=>((hF x).cell hlv2).trans ((iD.out.cell bP).trans HC.out.2.1);have y2:=fun x=>((hF x).cell hlv2).trans ((iD.out.cell bP).trans HC.out.2.2.1);have y3:=fun x=>((hF x).cell hlv2).trans ((iD.out.cell bP).trans HC.out.2.2.2.1);have y4:=fun x=>((hF x).cell hlv2).trans ((iD.out.cell bP).trans HC.out.2.2.2.2.1);have y5:=fun x=>((hF x).cell hlv2).trans ((iD.out.cell bP).trans HC.out.2.2.2.2.2.1);have y6:=fun x=>((hF x).cell hlv2).trans ((iD.out.cell bP).trans HC.out.2.2.2.2.2.2.1);have y7:=fun x=>((hF x).cell hlv2).trans ((iD.out.cell bP).trans HC.out.2.2.2.2.2.2.2);have z0:=fun x=>(HB2.out.keep (hF x)).eight;clear hF hcl;have CC:=fun w=>zh (jW w _ _ J2.out (Aa.out.mono om) _ _ HZ2.out (Yc.out.mono om));unfold PV.v at CC;simp only at CC;generalize sI:hasLo S.n S.rows S.basic[k]=hl at *;generalize hcm2:(S.val S.basic[k]).cmp (uD S.n S.rows S.basic[k])=cm2 at*;cases hl
 case false=>
  have vH:Hid (¬ (hasLo S.n S.rows S.basic[k]=true∧(S.val S.basic[k]).cmp (uD S.n S.rows S.basic[k])<0)):=zh (fun h=>by rw [sI]at h;cases h.1);clear sI hcm2;simp only [aO,aJ,zl0,zl1,zl2,aR,Bool.false_eq_true,if_false]
  (repeat(go_big_quiet_step (fail)));refine wpQuiet_nil ?_
  refine bR (by simp only [zl0,zl1,zl2];rfl) (by rfl) ?_;simp only [Act.put,List.setIfInBounds_toArray,List.set_cons_zero,List.set_cons_succ];refine⟨fun _=>aQ.out _ (Keep.refl au vG).drew,?_⟩
  (repeat(go_big_quiet_step (fail)));refine wpQuiet_nil ?_
  refine NoPanic.normal ?_;have vJ:=zh (iD.out.drew);clear x0 y0 y1 y2 y3 y4 y5 y6 y7 z0 CC aQ;generalize vG.drew=yZ at *;go_wp2_with fail;go_roundw
  case rel=>exact⟨k+1,b,wy,om,gn,rfl,rfl,by rw [Es.out];unfold TS.brkStep;rw [if_neg HS.out,if_neg vH.out,if_neg Km.out],om,om,om,vJ.out⟩
  simp [intOf];omega
 by_cases hc2:cm2<0
 case pos=>
  have vH:Hid (hasLo S.n S.rows S.basic[k]=true∧(S.val S.basic[k]).cmp (uD S.n S.rows S.basic[k])<0):=zh ⟨sI,by rw [hcm2];exact hc2⟩;clear sI hcm2;simp only [aO,aJ,zl0,zl1,zl2,aR,Bool.false_eq_true,if_false]
  (repeat(go_big_quiet_step (fail)));refine wpQuiet_nil ?_
  refine qw rfl rfl fun K hK=> ?_;go_simp;refine(CC _).out.mono ?_;rintro e yZ ⟨rfl,hk3⟩;have k3:Keep au vG yZ:=Keep.trans kp hk3 fun _ _ _ h=>h;refine hK _ _ ⟨fun _=>aQ.out _ k3,?_⟩;have vJ:=zh (iD.out.both k3);clear hK K hk3 CC k3 x0 y0 y1 y2 y3 y4 y5 y6 y7 z0 aQ
  (repeat(go_big_quiet_step (fail)));refine wpQuiet_nil ?_
  refine NoPanic.normal ?_;go_wp2_with fail;go_roundw
  case rel=>exact⟨k+1,(S.basic[k]:Int),1,om,gn,rfl,rfl,by rw [Es.out];unfold TS.brkStep;rw [if_neg HS.out,if_pos vH.out],om,om,om,vJ.out⟩
  simp [intOf];omega
 have vH:Hid (¬ (hasLo S.n S.rows S.basic[k]=true∧(S.val S.basic[k]).cmp (uD S.n S.rows S.basic[k])<0)):=zh (fun h=>hc2 (by rw [← hcm2];exact h.2));clear sI hcm2;simp only [aO,aJ,zl0,zl1,zl2,aR,Bool.false_eq_true,if_false]
 (repeat(go_big_quiet_step (fail)));refine wpQuiet_nil ?_
 refine qw rfl rfl fun K hK=> ?_;go_simp;refine(CC _).out.mono ?_;rintro e yZ ⟨rfl,hk3⟩;have k3:Keep au vG yZ:=Keep.trans kp hk3 fun _ _ _ h=>h;refine hK _ _ ⟨fun _=>aQ.out _ k3,?_⟩;have vJ:=zh (iD.out.both k3);clear hK K hk3 CC k3 x0 y0 y1 y2 y3 y4 y5 y6 y7 z0 aQ
 (repeat(go_big_quiet_step (fail)));refine wpQuiet_nil ?_
 refine NoPanic.normal ?_;go_wp2_with fail;go_roundw
 case rel=>exact⟨k+1,b,wy,om,gn,rfl,rfl,by rw [Es.out];unfold TS.brkStep;rw [if_neg HS.out,if_neg vH.out,if_neg Km.out],om,om,om,vJ.out⟩
 simp [intOf];omega
end Go.Proofs.YtaiffmebphhdaaaGreat
