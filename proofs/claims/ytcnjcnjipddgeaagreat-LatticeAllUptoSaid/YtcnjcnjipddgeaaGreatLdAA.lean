/- Package lattice's Do where its check finds a fault. Package lattice without numbers (n = 0): clear, step. -/
import Derived.Test.YtcnjcnjipddgeaaGreatLcJ
namespace Go.Proofs.YtcnjcnjipddgeaaGreat
set_option maxRecDepth 100000
set_option maxHeartbeats 32000000
set_option linter.unusedSimpArgs false
set_option linter.unusedVariables false
open Go.ChangeShapes Go.WideShapes Go.RowKit
theorem ltDo_bad (w:World)(vr:Value)(rows:List Rw)(n:Int)(hr:IsRows w vr rows)(hn:I64 n)(he:(eqF rows n).1≠0):
  Calls Tryz.prog 6 #[vr,.int .i64 n] w fun e w'=>e= .returned (.tuple #[.bool false,.slice none 0 0,.slice none 0 0,.slice none 0 0,fV (eqF rows n)])∧Keep NoS w w':=by
 have CH:=fun w' (k:Keep NoS w w')=>zh (latChk_any w' vr rows n (hr.keep k) hn)
 obtain⟨oa,ca,rfl,_,_⟩:=hr.len;generalize eqF rows n=cf at *;obtain⟨c1,c2⟩:=cf;simp only at he;unfold fV at CH ⊢;simp only at CH;have e1:(c1 != 0)=true:=by rw [bne_iff_ne];exact he
 clear he hr;go_enter Tryz.func6,Tryz.ntmps6;go_wp2_with fail;refine(CH _ kp).out.mono ?_;rintro e w1 ⟨rfl,hk1⟩;have HB9:Hid (Blk w1 w.heap.size #[.int .i64 0,.int .i64 0]):=zh (Blk.keep kb hk1);have K1:Hid (Keep NoS w w1):=zh (Keep.both kp hk1);clear hk1 CH;generalize hb9:w.heap.size=b9 at HB9 ⊢;have HS9:Hid (w.heap.size≤b9):=zh (by omega)
 clear hb9;go_upto_region 3 with fail
 have HK0:Hid (Keep NoS w (w1.alloc (.cells #[.int .i64 c1,.int .i64 c2] 28))):=zh (K1.out.alloc _);have HB6:Hid (Blk (w1.alloc (.cells #[.int .i64 c1,.int .i64 c2] 28)) w1.heap.size #[.int .i64 c1,.int .i64 c2]):=zh (blk_at _ _ rfl);have HB9:=zh (HB9.out.old (.cells #[.int .i64 c1,.int .i64 c2] 28));generalize w1.alloc (.cells #[.int .i64 c1,.int .i64 c2] 28)=w3 at *;generalize w1.heap.size=b6 at *;obtain⟨s0,s1,t0,t1,sl⟩:=HB9.out.two;refine wp_region_by (fun w'=>Keep NoS w3 w') [5] [([0,1,2,3,4],5)] [] (by kernel_rfl) (by kernel_rfl) kp ?_
 intro X W hne hF hcl;have hx0:=fun x=>(HB6.out.keep (hF x)).two
 clear hF hcl;simp only [wpPlan,pickOps,zl0,zl1,zl2,clsOf,Bool.false_eq_true,if_false]
 (repeat(go_big_quiet_step (fail)));refine wpQuiet_nil ?_
 refine wpAt rfl rfl fun K hK=> ?_
 go_simp;refine hK _ _ ⟨fun h=>(by simp at h),?_⟩
 have HB9':Hid (Blk ((w3.setCell ⟨b9,0,none⟩ (.int .i64 c1)).setCell ⟨b9,1,none⟩ (.int .i64 c2)).drew b9 #[.int .i64 c1,.int .i64 c2]):=zh ((HB9.out.set2 (.int .i64 c1) (.int .i64 c2)).keep (Keep.refl _ _).drew);have K14:Hid (Keep NoS w ((w3.setCell ⟨b9,0,none⟩ (.int .i64 c1)).setCell ⟨b9,1,none⟩ (.int .i64 c2)).drew):=zh (keep_set2 HK0.out HS9.out (.int .i64 c1) (.int .i64 c2)).drew;clear hK K s0 s1 t0 t1 sl;generalize ((w3.setCell ⟨b9,0,none⟩ (.int .i64 c1)).setCell ⟨b9,1,none⟩ (.int .i64 c2)).drew=w5 at*
 (repeat(go_big_quiet_step (fail)));refine wpQuiet_nil ?_
 refine NoPanic.normal ?_;obtain⟨s0,s1,t0,t1,sl⟩:=HB9'.out.two;go_simp
 repeat go_step
 refine bodyPost_ret (by simp [results,Tryz.results6,go_sem,s0,s1,sl];rfl) rfl ?_
 exact⟨rfl,K14.out⟩
theorem clear_zero (w:World)(bY:Nat)(vr vc:Value)(hb:Blk w bY #[vr,.int .i64 0,vc])(i:Nat)(hi:i<9223372036854775807):
  Calls Tryz.prog 43 #[.pointer (some ⟨bY,0,none⟩),.int .i64 (i:Int),.int .i64 0] w fun e w'=>e= .returned (.bool false)∧w'=w:=by
 have HB:=zh hb;clear hb;go_enter Tryz.func43,Tryz.ntmps43;go_wp2;go_loopg [] 0 (fun gk wr=>wr=w)
 case atStart=>rfl
 case round=>
  have hw:wr=w:=hrel;subst hw;obtain⟨wo,rfl⟩:∃W:World,W=wr:=⟨_,rfl⟩;obtain⟨y0,y1,y2,_,_,_,yl⟩:=HB.out.three;go_wp2;go_loopw [9,7,8] (fun s t u wx=>s= .int .i64 0∧t= .int .i64 (-1)∧u= .int .i64 0∧wx=wo) (fun _ _ _ _=>0)
  case atStart=>exact⟨rfl,rfl,rfl,rfl⟩
  case round=>
   obtain⟨rfl,rfl,rfl,hw⟩:=hrel;obtain rfl:wo=wr:=hw.symm;clear hw;go_wp2;go_ret;exact⟨rfl,rfl⟩
theorem step_zero (w:World)(bS bY:Nat)(vr vc:Value)(rows:List Rw)(m i:Nat)(hS:Blk w bS #[.pointer (some ⟨bY,0,none⟩),.slice none 0 0,.slice none 0 0,.slice none 0 0])(hY:Blk w bY #[vr,.int .i64 0,vc])(hr:IsRows w vr rows)(hrm:rows.length=m)(him:i<m)(hm:m≤40)(ti:Int)(hti:(rows.getD i ⟨[],0,0⟩).to=ti)(hto:fitI ti):
  Calls Tryz.prog 18 #[.pointer (some ⟨bS,0,none⟩),.int .i64 (i:Int)] w fun e w'=>∃v,e= .returned v∧Keep NoS w w'∧(ti=0→v= .slice none 0 0)∧(ti≠0→OwnN w' w.heap.size v ((unitQ m i).map (· *(1/((ti:Rat)+(ti:Rat)))))):=by
 obtain⟨oa,ca,hvr,_,_⟩:=hr.len;have hir:i<rows.length:=by omega
 rw [hvr]at hr;obtain⟨rb,ro,hoa,hrbl,hrat⟩:=hr.at hir;have q2:w.cell? ⟨rb,ro+i*3+2,none⟩=some (.int .i64 (rows[i]).to):=by
  obtain⟨_,_,_,_,q2,_⟩:=hrat.row;exact q2
 have hte:(rows[i]).to=ti:=by
  have:=hti
  rwa [List.getD_eq_getElem?_getD,List.getElem?_eq_getElem hir]at this
 rw [hte]at q2;subst hoa;rw [hrm]at hvr;subst hvr;have HIM:=zh him;have hmI:(i:Int)<(m:Int):=by omega
 obtain⟨y0,_,_,_,_,_,yl⟩:=hY.three;obtain⟨s0,_,_,_,_,_,_,_,sl⟩:=hS.four;have HY:=zh hY;have HS:=zh hS;unfold fitI at hto;have CI:=fun w=>zh (exInt_any w ti (by omega) (by omega))
 have HTI:Hid (dl ((ti:Rat).num)≤1∧dl (((ti:Rat).den:Int))≤1):=zh (nb_int (x:=ti) (by omega))
 obtain⟨⟨tb,tS,tc,tU⟩,ht,htn⟩:=numIntZ ti;rw [ht]at CI;obtain⟨R1,hR1⟩:∃R1:Rat,(ti:Rat)=R1:=⟨_,rfl⟩;have HRZ:Hid (R1=0↔ti=0):=zh (by
  rw [← hR1];exact⟨fun e=>by have:((ti:Int):Rat)=((0:Int):Rat):=e;exact Rat.intCast_inj.1 this,fun e=>by rw [e];rfl⟩)
 rw [hR1]at htn HTI ⊢;clear hR1;have HTN:=zh htn;have CJ:=fun w=>zh (exInt_any w 1 (by omega) (by omega))
 obtain⟨⟨ob,oS,oc,oU⟩,ho,hon⟩:=numIntZ 1;rw [ho]at CJ;have HON:=zh hon;unfold NV.v at CI CJ;simp only at CI CJ;have HR0:Hid (w.heap.size≤w.heap.size):=zh (Nat.le_refl _);clear ht htn ho hon hS hY hr hrat hte hti hir hrm him;go_enter Tryz.func18,Tryz.ntmps18;go_wp2_with fail;refine(CI _).out.mono ?_;rintro e w1 ⟨rfl,hk1⟩;have ka:Keep NoS w1 (w1.alloc (.cells #[.bool tb,.string tS,.bool tc,.string tU] 57)):=(Keep.refl _ _).alloc _;have K2:=zh (hk1.both ka);have HB5:Hid (Blk (w1.alloc (.cells #[.bool tb,.string tS,.bool tc,.string tU] 57)) w1.heap.size #[.bool tb,.string tS,.bool tc,.string tU]):=zh (blk_at _ _ rfl);have H5L:Hid (w1.heap.size<(w1.alloc (.cells #[.bool tb,.string tS,.bool tc,.string tU] 57)).heap.size):=zh (by simp)
 go_upto_region 2 with fail
 clear ka hk1 CI y0 yl s0 sl q2 hrbl;generalize w1.alloc (.cells #[.bool tb,.string tS,.bool tc,.string tU] 57)=w2 at *;generalize w1.heap.size=b5 at *;obtain⟨w3,hr3,hn3,hk3⟩:=make_nums w2 m (by omega)
 obtain⟨y0,_,_,_,_,_,yl⟩:=(HY.out.keep K2.out).three;obtain⟨s0,_,_,_,_,_,_,_,sl⟩:=(HS.out.keep K2.out).four;go_upto_region 3 with fail
 clear hr3 y0 yl s0 sl;have H5g:Hid (b5≠w2.heap.size):=zh (Nat.ne_of_lt H5L.out);have HGS:Hid (w.heap.size≤w2.heap.size):=zh K2.out.size;have K3:=zh (K2.out.both hk3);have HB5:=zh (HB5.out.keep hk3);have HQ3:=zh hn3;clear hk3 hn3 K2 H5L;generalize w2.heap.size=g at *;go_wp2_with fail;refine(CJ _).out.mono ?_;rintro e w4 ⟨rfl,hk4⟩;have K4:=zh (K3.out.both hk4);have HB5:=zh (HB5.out.keep hk4);have HQ4:=zh (HQ3.out.keep hk4);clear hk4 HQ3 K3;obtain⟨_,_,_,_,g0,g1,g2,g3,_,f0,f1,f2,f3⟩:=HQ4.out.at (k:=i) (by rw [List.length_replicate];exact HIM.out)
 have gl:=HQ4.out.lt;go_upto_region 4 with fail
 have HB5:=zh (HB5.out.sameZ (q4_other (w:=w4) (o:=i*4) (x:=⟨ob,oS,oc,oU⟩) H5g.out));have K5:Hid (Keep NoS w (q4 w4 g (i*4) ⟨ob,oS,oc,oU⟩)):=zh (q4_keep K4.out HGS.out);have HQ5:Hid (NumBlk (q4 w4 g (i*4) ⟨ob,oS,oc,oU⟩) g (unitQ m i)):=zh (by have:=HQ4.out.setQ (k:=i) (x:=⟨ob,oS,oc,oU⟩) HON.out;simpa [unitQ]using this)
 rw [show((((w4.setCell ⟨g,i*4,none⟩ (.bool ob)).setCell ⟨g,i*4+1,none⟩ (.string oS)).setCell ⟨g,i*4+2,none⟩ (.bool oc)).setCell ⟨g,i*4+3,none⟩ (.string oU))=q4 w4 g (i*4) ⟨ob,oS,oc,oU⟩from rfl]
 generalize q4 w4 g (i*4) ⟨ob,oS,oc,oU⟩=w5 at *;clear g0 g1 g2 g3 f0 f1 f2 f3 gl HQ4 K4 CJ;obtain⟨s0,s1,s2,s3,_,_,_,_,sl⟩:=(HS.out.keep K5.out).four;go_wp2;go_loopw [41] (fun s wr=>s= .int .i64 0∧wr=w5) (fun _ _=>0)
 case atStart=>exact⟨rfl,rfl⟩
 case round=>
  obtain⟨rfl,hw⟩:=hrel;obtain rfl:w5=wr:=hw.symm;clear hw;obtain⟨t0,t1,t2,t3,_,_,_,_,tl⟩:=HB5.out.four;go_wp2_with fail;refine(clear_zero _ bY _ vc (HY.out.keep K5.out) i (by omega)).mono ?_
  rintro e w6 ⟨rfl,hw⟩;obtain rfl:w5=w6:=hw.symm;clear hw s0 s1 s2 s3 sl;have CS:=fun w=>zh (exSign_num HTN.out w)
  unfold NV.v at CS;simp only at CS;have HUL:Hid ((unitQ m i).length=m):=zh (by simp [unitQ])
  have HUN:Hid (∀x∈unitQ m i,dl x.num≤1∧dl (x.den:Int)≤1):=zh (fun x hx=>by
   unfold unitQ at hx
   rcases List.mem_or_eq_of_mem_set hx with hx | rfl
   ·rw [(List.mem_replicate.1 hx).2];exact nb_zero
   ·exact nb_one)
  by_cases hz:R1=0
  case pos=>
   have e0:=num_zero_of hz;rw [e0]at CS;clear e0;go_wp2_with fail;refine(CS _).out.mono ?_;rintro e w2 ⟨rfl,hk⟩;have K6:=zh (K5.out.both hk);clear hk CS t0 t1 t2 t3 tl;have HZ:=zh hz;clear hz;go_wp2;go_ret;exact⟨_,rfl,K6.out,fun _=>rfl,fun h=>absurd (HRZ.out.1 HZ.out) h⟩
  case neg=>
   have e0:=num_sign_ne hz;have e1:(R1.num.sign==0)=false:=by rw [beq_eq_false_iff_ne];exact e0
   have HNZ:Hid (R1+R1≠0):=zh (fun e=>hz (by grind))
   have HZ:=zh hz;clear e0 hz;go_wp2_with fail;refine(CS _).out.mono ?_;rintro e w2 ⟨rfl,hk⟩;have K6:=zh (K5.out.both hk);have HB52:=zh (HB5.out.keep hk);have HQ2:=zh (HQ5.out.keep hk);clear hk CS t0 t1 t2 t3 tl;go_upto_region 15 with fail
   have CJ:=fun w=>zh (exInt_any w 1 (by omega) (by omega))
   obtain⟨⟨ob,oS,oc,oU⟩,ho,hon⟩:=numIntZ 1;rw [ho]at CJ;have hnr:=HTI.out;have CP:=fun w=>zh (exPlus_gen w _ _ HTN.out _ _ HTN.out (by omega))
   obtain⟨⟨pb,pS,pc,pU⟩,hp,hpn⟩:=numQ_nv (R1+R1);rw [hp]at CP;have hon:IsNum (NV.v ⟨ob,oS,oc,oU⟩) (1:Rat):=hon;have nP:=dl_radd (a:=R1) (b:=R1) (k:=2862) (l:=24) (by omega) (by omega) (by omega)
   have n1:=nb_one.1;have n2:=nb_one.2;have nV:=dl_rdiv (a:=1) HNZ.out;have CO:=fun w=>zh (exOver_gen w _ _ hon _ _ hpn (by omega) HNZ.out)
   obtain⟨⟨vb,vS,vc',vU⟩,hv,hvn⟩:=numQ_nv (1/(R1+R1));rw [hv]at CO;have CA:=fun w' (kk:Keep NoS w2 w')=>zh (scaled_any w' (.slice (some ⟨g,0,none⟩) m m) _ (unitQ m i) _ ((HQ2.out.keep kk).nums HUL.out.symm (by rw [HUL.out];exact Nat.le_refl _) (by unfold maxLen;omega)) hvn (fun x hx=>by have:=HUN.out x hx;omega) (by rw [HUL.out];omega))
   clear hnr nP n1 n2 nV;unfold NV.v at CJ CP CO CA;simp only at CJ CP CO CA;clear ho hon hp hpn hv hvn;refine wp_region_by (fun w'=>Keep NoS w2 w') [] [([0,2,3],1),([],4),([],5),([],6)] [7] (by kernel_rfl) (by kernel_rfl) kp ?_
   intro X W hne hF hcl;have HCL:=zh hcl;have z0:=fun x=>(HB52.out.keep (hF x)).four
   clear hF hcl;simp only [wpPlan,pickOps,zl0,zl1,zl2,clsOf,Bool.false_eq_true,if_false]
   (repeat(go_big_quiet_step (fail)));refine wpQuiet_nil ?_
   refine wpAt rfl rfl fun K hK=> ?_
   go_simp;refine(CJ _).out.mono ?_;rintro e w3 ⟨rfl,hk⟩;have k3:Keep NoS w2 w3:=Keep.trans kp hk fun _ _ _ h=>h
   refine hK _ _ ⟨fun _=>HCL.out _ k3,?_⟩
   clear hK K hk CJ
   (repeat(go_big_quiet_step (fail)));refine wpQuiet_nil ?_
   refine wpAt rfl rfl fun K hK=> ?_
   go_simp;refine(CP _).out.mono ?_;rintro e w4 ⟨rfl,hk⟩;have k4:Keep NoS w2 w4:=k3.both hk;refine hK _ _ ⟨fun _=>HCL.out _ k4,?_⟩
   clear hK K hk CP
   (repeat(go_big_quiet_step (fail)));refine wpQuiet_nil ?_
   refine wpAt rfl rfl fun K hK=> ?_
   go_simp;refine(CO _).out.mono ?_;rintro e w7 ⟨rfl,hk⟩;have k5:Keep NoS w2 w7:=k4.both hk;refine hK _ _ ⟨fun _=>HCL.out _ k5,?_⟩
   clear hK K hk CO;have CA:=CA w7 k5;have HH9:=zh (Nat.le_trans K6.out.size k5.size)
   (repeat(go_big_quiet_step (fail)));refine wpQuiet_nil ?_
   refine wpAt rfl rfl fun K hK=> ?_
   go_simp;refine CA.out.mono ?_;rintro e w8 ⟨u,rfl,hu,hk⟩;have k6:Keep NoS w2 w8:=k5.both hk;refine hK _ _ ⟨fun _=>HCL.out _ k6,?_⟩
   clear hK K hk CA;have HU:=zh (hu.lower HH9.out);have K9:=zh (K6.out.both k6);clear hu k3 k4 k5 k6 z0
   (repeat(go_big_quiet_step (fail)));refine wpQuiet_nil ?_
   refine NoPanic.normal ?_;go_wp2;go_ret;exact⟨_,rfl,K9.out,fun h=>absurd (HRZ.out.2 h) HZ.out,fun _=>HU.out⟩
end Go.Proofs.YtcnjcnjipddgeaaGreat
