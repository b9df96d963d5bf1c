/- Package lattice's Do without numbers (n = 0). -/
import Derived.Test.YtcnjcnjipddgeaaGreatLdAA
namespace Go.Proofs.YtcnjcnjipddgeaaGreat
set_option maxRecDepth 100000
set_option maxHeartbeats 64000000
set_option linter.unusedSimpArgs false
set_option linter.unusedVariables false
open Go.ChangeShapes Go.WideShapes Go.RowKit
theorem YS.zero {w0 w:World}{bY n:Nat}{vr vc:Value}(h:YS w0 w bY vr n vc []):vc= .slice none 0 0∨∃g cap,vc= .slice (some ⟨g,0,none⟩) 0 cap∧cap≤maxLen:=by
 obtain⟨_,h' | ⟨g,cap,cur,hv,_,_,_,hm,_⟩⟩:=h.c
 ·exact .inl h'.1
 ·exact .inr ⟨g,cap,hv,hm⟩
theorem zero_step {m f i:Nat}{z:Int}{rows:List Rw}{o:Option (List Rat) × LQ}(h:stepR 0 m f i (z:Rat) (startL rows 0)=some o):(z=0→o=(none,startL rows 0))∧(z≠0→o=(some ((unitQ m i).map (· *(1/((z:Rat)+(z:Rat))))),startL rows 0)):=by
 obtain⟨_,b,c,hc,_,h1,h2,_,_⟩:=stepR_out h;obtain⟨rfl,rfl⟩:b=false∧c= []:=by
  rcases f with _ | f
  ·cases hc
  ·have:clearR 0 i (startL rows 0).piv.length (f+1) (startL rows 0).cols=some (false,[]):=by simp [clearR,startL,scanS]
   rw [this]at hc
   cases hc
   exact⟨rfl,rfl⟩
 have e:restK (startL rows 0) m i (z:Rat) (startL rows 0).piv.length=((z:Rat),unitQ m i):=rfl;rw [e]at h1 h2;have hz:(z:Rat)=0↔z=0:=⟨fun e=>by have:((z:Int):Rat)=((0:Int):Rat):=e;exact Rat.intCast_inj.1 this,fun e=>by rw [e];rfl⟩
 exact⟨fun h0=>h1 rfl (hz.2 h0),fun h0=>h2 rfl fun e=>h0 (hz.1 e)⟩
theorem ltDo_zero (w:World)(vr:Value)(rows:List Rw)(n f:Nat)(R:DoRes)(hr:IsRows w vr rows)(he:eqF rows n=(0,0))(hok:∀r∈rows,RowOK r n)(hn0:n=0)(hm40:rows.length≤40)(hrun:doR rows n f=some R):
  Calls Tryz.prog 6 #[vr,.int .i64 (n:Int)] w fun e w'=>∃va vw vy,e= .returned (.tuple #[.bool R.yes,va,vw,vy,.agg #[.int .i64 (mcode R.much),.int .i64 0]])∧OwnI w' w.heap.size va R.at_∧OwnW w' w.heap.size vw R.ways∧OwnF w' w.heap.size vy R.why∧Keep NoS w w':=by
 obtain⟨r,hrn,hdr⟩:=doR_out hrun;have CH:=fun w' (k:Keep NoS w w')=>zh (latChk_any w' vr rows n (hr.keep k) (by unfold I64;omega))
 rw [he]at CH;unfold fV at CH;simp only at CH;have CY:=fun w' (k:Keep NoS w w')=>zh (systemOf_any w' vr rows n (hr.keep k) hok (by omega) hm40)
 have HRW:=zh hr;have HROK:=zh hok;obtain⟨oa,ca,hvr,hca,hma⟩:=hr.len;obtain⟨m,hm⟩:∃m,rows.length=m:=⟨_,rfl⟩;obtain⟨L,hL⟩:∃L,m+n=L:=⟨_,rfl⟩;have HSL:Hid (LQok n m (startL rows n)):=zh (by rw [← hm];exact startL_ok)
 have HQL:Hid (∀k,(colQ rows n k).length=L):=zh (fun k=>by rw [colQ_len,hm];exact hL)
 rw [hm]at hvr hrn hdr hm40 hca;have HMM:=zh hm;have HLL:=zh hL;have HRN:=zh hrn;have HDR:=zh hdr;have hL52:L≤52:=by omega
 have hmL:m≤L:=by omega
 subst hvr;unfold maxLen at hma;clear hr hok hrn hdr hrun hm hL he;subst hn0;rw [show((0:Nat):Int)=0 from rfl]at CH CY ⊢
 go_enter Tryz.func6,Tryz.ntmps6;go_wp2_with fail;refine(CH _ kp).out.mono ?_;rintro e w1 ⟨rfl,hk⟩;have k1:Keep NoS w w1:=Keep.trans kp hk fun _ _ _ h=>h
 have HB8:Hid (Blk w1 w.heap.size #[.int .i64 0,.int .i64 0]):=zh (Blk.keep kb hk);clear hk CH;go_wp2_with fail;have kA:Keep NoS w1 ((w1.alloc (.cells #[.int .i64 0,.int .i64 0] 28)).alloc (.cells #[.int .i64 10,.int .i64 0] 28)):=((Keep.refl _ _).alloc _).alloc _;have KWA:=zh (k1.both kA);have HB8:=zh (HB8.out.keep kA);clear kA k1;have HB9:Hid (Blk ((w1.alloc (.cells #[.int .i64 0,.int .i64 0] 28)).alloc (.cells #[.int .i64 10,.int .i64 0] 28)) (w1.heap.size+1) #[.int .i64 10,.int .i64 0]):=zh (blk_at _ _ (by simp))
 generalize (w1.alloc (.cells #[.int .i64 0,.int .i64 0] 28)).alloc (.cells #[.int .i64 10,.int .i64 0] 28)=wa at *;generalize w1.heap.size+1=b9 at *;refine(CY _ KWA.out).out.mono ?_;rintro e w2 ⟨bY,vc,xs,rfl,hys,hxs⟩;have hxl:xs= []:=by
  have:=congrArg List.length hxs;simp at this;exact this
 subst hxl;have hyc:=hys.y;have hvc:=hys.zero;have HRA:=zh (HRW.out.keep KWA.out);have HWH:Hid (wa.heap.size≤w2.heap.size):=zh hys.k.size;have HB8L:Hid (w.heap.size<w.heap.size+1):=zh (by omega)
 have HB8G:Hid (w.heap.size≤w.heap.size):=zh (Nat.le_refl _);have HWS:Hid (w.heap.size+1≤wa.heap.size):=zh (by have:=HB8.out.lt;omega)
 have k3:Keep NoS w2 (w2.alloc (.cells #[.pointer (some ⟨bY,0,none⟩),.slice none 0 0,.slice none 0 0,.slice none 0 0] 52)):=(Keep.refl _ _).alloc _;have HY3:=zh (hyc.keep k3);have HS3:Hid (Blk (w2.alloc (.cells #[.pointer (some ⟨bY,0,none⟩),.slice none 0 0,.slice none 0 0,.slice none 0 0] 52)) w2.heap.size #[.pointer (some ⟨bY,0,none⟩),.slice none 0 0,.slice none 0 0,.slice none 0 0]):=zh (blk_at _ _ rfl);have KW3:=zh (hys.k.both k3);have HVC:=zh hvc;clear hys hxs hyc hvc CY k3 HRW HQL;go_upto_region 6 with fail
 generalize w2.alloc (.cells #[.pointer (some ⟨bY,0,none⟩),.slice none 0 0,.slice none 0 0,.slice none 0 0] 52)=w3 at *;generalize w2.heap.size=hi at *;go_wp2;go_loopw [42,7,6] (fun s t u wr=>∃i:Nat,i≤m∧s= .int .i64 i∧t= .slice none 0 0∧u= .slice none 0 0∧Keep NoS w3 wr∧runS 0 m f rows (m-i) i (startL rows 0)=some r) (fun s _ _ _=>(m-intOf s).toNat)
 case atStart=>exact⟨0,by omega,rfl,rfl,rfl,Keep.refl _ _,HRN.out⟩
 case round=>
  obtain⟨i,hi',rfl,rfl,rfl,hkr,hrn⟩:=hrel;have HK3:=zh hkr;have HY:=zh (HY3.out.keep hkr);have HS:=zh (HS3.out.keep hkr);have HKA:=zh (KW3.out.both hkr);clear hkr HRN
  by_cases him:i<m
  case pos=>
   have hltm:(i:Int)<(m:Int):=by omega
   obtain⟨l',hl'⟩:∃l',m-i=l'+1:=⟨m-i-1,by omega⟩
   rw [hl']at hrn;obtain⟨o,hst,hco⟩:=runS_succ hrn;have HL':Hid (m-(i+1)=l'):=zh (by omega)
   have him':i<rows.length:=by rw [HMM.out];exact him
   have hto:fitI (rows.getD i ⟨[],0,0⟩).to:=by
    rw [List.getD_eq_getElem?_getD,List.getElem?_eq_getElem him'];exact(HROK.out _ (List.getElem_mem him')).fto
   have CST:=fun w' (kk:Keep NoS wr w')=>zh (step_zero w' hi bY (.slice oa m ca) vc rows m i (HS.out.keep kk) (HY.out.keep kk) ((HRA.out.keep HKA.out).keep kk) HMM.out him hm40 _ rfl hto)
   have HST:=zh (zero_step hst);have HCO:=zh hco;obtain⟨ti,htz⟩:∃z,(rows.getD i ⟨[],0,0⟩).to=z:=⟨_,rfl⟩;rw [htz]at CST HST;clear hto hst hco hrn hl' him' htz;go_wp2_with fail;have CST:=CST _ kp;refine CST.out.mono ?_;rintro e w5 ⟨v,rfl,hkw,hnone,hsome⟩;clear CST HY HS;have k5:=HKA.out.both hkw
   rcases HCO.out with⟨l,S',ho,hre⟩ | ⟨S',ho,hrn⟩
   case inl=>
    have hti:ti≠0:=fun e=>by have:=HST.out.1 e;rw [ho]at this;cases this
    have hl2:l=(unitQ m i).map (· *(1/((ti:Rat)+(ti:Rat)))):=by have:=HST.out.2 hti;rw [ho]at this;cases this;rfl
    have hown:=hsome hti;rw [← hl2]at hown;have hlen:l.length=m:=by rw [hl2];simp [unitQ]
    have hkw:=k5;clear hsome hnone HCO ho k5 hti hl2;obtain⟨gv,cv,rfl,_,hvb,hvc,hvm⟩:=hown.blk (by rintro rfl;simp at hlen;omega)
    have HNV:=zh hvb;have hr2:=HDR.out;rw [hre]at hr2;have hfit:(∀q∈l,NB 4000 q)∧R=noR l:=by
     rcases hr2 with⟨w0,S0,e,h1,h2⟩ | ⟨S0,e,_⟩
     ·cases e;exact⟨h1,h2⟩
     ·cases e
    have HFIT:=zh hfit;have HLEN:=zh hlen;have K5:=zh (KWA.out.both hkw);have HB85:=zh (HB8.out.keep hkw);have HSZ:=zh (Nat.le_trans HWS.out hkw.size);have HKW:=zh hkw;rw [hlen];clear hown hlen hvb hvc hvm hr2 hfit hkw;have hnil:=fun w=>some_eqZ w gv m cv
    go_wp2;clear hnil;go_loopw [52,7] (fun s t wr=>∃j:Nat,j≤m∧s= .int .i64 j∧(∀q∈l.take j,Fits q)∧OwnF wr w5.heap.size t ((l.take j).map fqOf)∧Keep NoS w5 wr) (fun s _ _=>(m-intOf s).toNat)
    case atStart=>exact⟨0,by omega,rfl,fun q hq=>by simp at hq,OwnG.nil _ _,Keep.refl _ _⟩
    case round=>
     obtain⟨j,hj,rfl,hgd,hou,hkr⟩:=hrel;have HGD:=zh hgd;have HOU:=zh hou;have HKR:=zh hkr;clear hgd;obtain⟨ou,cu,hu,_⟩:=hou.len;rw [List.length_map,List.length_take_of_le (by rw [HLEN.out];exact hj)]at hu
     subst hu;clear hkr hou
     by_cases hjm:j<m
     case pos=>
      have hltj:(j:Int)<(m:Int):=by omega
      have hjl:j<l.length:=by rw [HLEN.out];exact hjm
      obtain⟨xb,xS,xc,xU,p0,p1,p2,p3,hx,_⟩:=(HNV.out.keep HKR.out).at hjl;have hbl:=(HNV.out.keep HKR.out).lt;have CF:=fun w=>zh (exFrac_gen w _ _ hx (HFIT.out.1 _ (List.getElem_mem hjl)))
      rw [fracOf_fq]at CF;have HNO:Hid (¬Fits l[j]→R=muchR):=zh (fun h=>by
       rw [HFIT.out.2];unfold noR;rw [if_neg (show ¬(l.all fun q=>decide (Fits q))=true from fun e=>h (of_decide_eq_true (List.all_eq_true.1 e _ (List.getElem_mem hjl))))])
      have HGJ:Hid (Fits l[j]→∀q∈l.take (j+1),Fits q):=zh (fun h q hq=>by
       rw [List.take_succ_eq_append_getElem hjl]at hq
       rcases List.mem_append.1 hq with hq | hq
       ·exact HGD.out q hq
       ·rw [List.mem_singleton.1 hq];exact h)
      have HTK:Hid ((l.take (j+1)).map fqOf=(l.take j).map fqOf++ [fqOf l[j]]):=zh (by rw [List.take_succ_eq_append_getElem hjl,List.map_append];rfl)
      have HJ1:Hid (((l.take j).map fqOf).length=j):=zh (by rw [List.length_map,List.length_take_of_le (by omega)])
      generalize l[j]=q at *;clear hx
      by_cases hfq:Fits q
      case neg=>
       rw [decide_eq_false hfq]at CF;have HRM:Hid (R=muchR):=zh (HNO.out hfq);go_wp2_with fail;refine(CF _).out.mono ?_;rintro e w7 ⟨rfl,hk7⟩;have k7:Keep NoS wr w7:=Keep.trans kp hk7 fun _ _ _ h=>h
       generalize (fqOf q).N=qn at *;generalize (fqOf q).D=qd at *;go_upto_region 16 with fail
       have kz:Keep NoS wa (w7.alloc (.cells #[.int .i64 qn,.int .i64 qd] 59)):=((HKW.out.both HKR.out).both k7).alloc _;have KZ:=zh (KWA.out.both kz);have HZ8:=zh (HB8.out.keep kz);have HZ9:=zh (HB9.out.keep kz);clear kz k7 hk7 CF p0 p1 p2 p3 hbl HOU HNV HTK HJ1 HNO HGJ HGD;generalize w7.alloc (.cells #[.int .i64 qn,.int .i64 qd] 59)=wz at *;obtain⟨b8,hb8⟩:∃b,b=w.heap.size:=⟨_,rfl⟩;rw [← hb8]at HZ8 ⊢;have HS8:Hid (w.heap.size≤b8):=zh (by omega)
       clear hb8;obtain⟨s0,s1,t0,t1,sl⟩:=HZ8.out.two;refine wp_region_by (fun w'=>Keep NoS wz w') [5] [([0,1,2,3,4],5)] [] (by kernel_rfl) (by kernel_rfl) kp ?_
       intro X W hne hF hcl;have hx0:=fun x=>(HZ9.out.keep (hF x)).two
       clear hF hcl;simp only [wpPlan,pickOps,zl0,zl1,zl2,clsOf,Bool.false_eq_true,if_false]
       (repeat(go_big_quiet_step (fail)));refine wpQuiet_nil ?_
       refine wpAt rfl rfl fun K hK=> ?_
       go_simp;refine hK _ _ ⟨fun h=>(by simp at h),?_⟩
       have HZ8':Hid (Blk ((wz.setCell ⟨b8,0,none⟩ (.int .i64 10)).setCell ⟨b8,1,none⟩ (.int .i64 0)).drew b8 #[.int .i64 10,.int .i64 0]):=zh ((HZ8.out.set2 (.int .i64 10) (.int .i64 0)).keep (Keep.refl _ _).drew);have K14:Hid (Keep NoS w ((wz.setCell ⟨b8,0,none⟩ (.int .i64 10)).setCell ⟨b8,1,none⟩ (.int .i64 0)).drew):=zh (keep_set2 KZ.out HS8.out (.int .i64 10) (.int .i64 0)).drew;clear hK K s0 s1 t0 t1 sl;generalize ((wz.setCell ⟨b8,0,none⟩ (.int .i64 10)).setCell ⟨b8,1,none⟩ (.int .i64 0)).drew=w15 at*
       (repeat(go_big_quiet_step (fail)));refine wpQuiet_nil ?_
       refine NoPanic.normal ?_;obtain⟨s0,s1,t0,t1,sl⟩:=HZ8'.out.two;go_simp
       repeat go_step
       refine bodyPost_ret (by simp [results,Tryz.results6,go_sem,s0,s1,sl];rfl) rfl ?_
       rw [HRM.out];exact⟨_,_,_,rfl,OwnI.nil _ _,OwnW.nil _ _,OwnG.nil _ _,K14.out⟩
      case pos=>
       rw [decide_eq_true hfq]at CF;have HGQ:=zh (HGJ.out hfq);clear HNO HGJ hfq;go_wp2_with fail;refine(CF _).out.mono ?_;rintro e w7 ⟨rfl,hk7⟩;have k7:Keep NoS wr w7:=Keep.trans kp hk7 fun _ _ _ h=>h
       have k8:Keep NoS wr ((w7.alloc (.cells #[.int .i64 (fqOf q).N,.int .i64 (fqOf q).D] 59)).alloc (.cells #[.int .i64 (fqOf q).N,.int .i64 (fqOf q).D] 59)):=(k7.alloc _).alloc _;obtain⟨v8,w8,hr8,ho8,hg8,_⟩:=app_frac (g:=fqOf q) (b:=w7.heap.size+1) (HOU.out.keep k8) kc (by rw [HJ1.out];omega) (Nat.le_trans HKR.out.size k8.size)
       have hblk:=fun kk hh=>HOU.out.block kk hh
       have K8:=zh ((HKR.out.both k8).grown hg8 fun kk hh=>hblk kk hh)
       rw [← HTK.out]at ho8;have HO8:=zh ho8;clear ho8 hg8 hblk k7 k8 hk7 CF p0 p1 p2 p3 hbl;go_wp2_with (at_builtin;refine wpList_app_run _ _ 26 _ _ rfl rfl rfl rfl hr8 ?_);go_roundw
       case rel=>exact⟨j+1,by omega,by go_num,HGQ.out,HO8.out,K8.out⟩
       case measure=>simp [intOf];omega
     case neg=>
      have hltj:¬(j:Int)<(m:Int):=by omega
      obtain rfl:m=j:=by omega
      have HB86:=zh (HB85.out.keep HKR.out);obtain⟨r0,r1,f0,f1,rl⟩:=HB86.out.two;go_simp
      repeat go_step
      refine bodyPost_ret (by simp [results,Tryz.results6,go_sem,r0,r1,f0,f1,rl];rfl) rfl ?_
      have hk9:=K5.out.both HKR.out;have hall:R=⟨false,[],[],l.map fqOf,false⟩:=by
       rw [HFIT.out.2];unfold noR;rw [if_pos (List.all_eq_true.2 fun q hq=>decide_eq_true (HGD.out q (by rw [List.take_of_length_le (by rw [HLEN.out];exact Nat.le_refl _)];exact hq)))]
      rw [hall];exact⟨_,_,_,rfl,OwnI.nil _ _,OwnW.nil _ _,(by
       have h:=HOU.out;rw [List.take_of_length_le (by rw [HLEN.out];exact Nat.le_refl _)]at h
       exact OwnG.lowerZ (own_set2 (OwnG.lowerZ h HSZ.out) HB8L.out) (Nat.le_succ _)),keep_set2 hk9 HB8G.out _ _⟩
   case inr=>
    have hti:ti=0:=by
     by_cases e:ti=0
     ·exact e
     ·have:=HST.out.2 e;rw [ho]at this;cases this
    have hS':S'=startL rows 0:=by have:=HST.out.1 hti;rw [ho]at this;cases this;rfl
    have hv:=hnone hti;subst hv;subst hS';have HRN:=zh hrn;have HK5:=zh (HK3.out.both hkw);clear hsome hnone HCO hrn ho hkw k5 hti;have hnil:=nil_eqZ;go_wp2;go_roundw
    case rel=>exact⟨i+1,by omega,by go_num,rfl,rfl,HK5.out,by rw [HL'.out];exact HRN.out⟩
    case measure=>simp [intOf];omega
  case neg=>
   have hltm:¬(i:Int)<(m:Int):=by omega
   have hmi:m-i=0:=by omega
   rw [hmi]at hrn;have hre:(none,startL rows 0)=r:=Option.some.inj hrn;have hr2:=HDR.out;rw [← hre]at hr2;have hds:R=⟨true,[],[],[],false⟩:=by
    rcases hr2 with⟨w0,S0,e,_⟩ | ⟨S0,e,h1,h2⟩
    ·cases e
    ·cases e;exact h2
   have HDS:=zh hds;clear hmi hrn hre hr2 hds HDR;obtain⟨w6,hr6,hn6,hk6⟩:=make_nums wr 0 (by omega)
   rw [show((0:Nat):Int)=0 from rfl]at hr6
   have HK6:=zh (HKA.out.both hk6);have HY6:=zh (HY.out.keep hk6);have HS6:=zh (HS.out.keep hk6);have HN6:Hid (NumBlk w6 wr.heap.size []):=zh hn6;go_upto_region 22 with fail
   clear hr6 hn6 hk6 HY HS;generalize wr.heap.size=gp at *;obtain⟨s0,s1,s2,s3,_,_,_,_,sl⟩:=HS6.out.four;go_wp2;clear s0 s1 s2 s3 sl;go_loopw [79] (fun s wx=>s= .int .i64 0∧wx=w6) (fun _ _=>0)
   case atStart=>exact⟨rfl,by first | rfl | trivial⟩
   case round=>
    obtain⟨rfl,hw⟩:=hrel;obtain⟨wx,rfl⟩:∃W:World,W=wr:=⟨_,rfl⟩;obtain rfl:w6=wx:=hw.symm;clear hw;have CN:=fun w' (kk:Keep NoS w6 w')=>zh (ltInts_any w' (.slice (some ⟨gp,0,none⟩) 0 0) [] ((HN6.out.keep kk).nums rfl (Nat.le_refl _) (by decide)) (fun x hx=>by cases hx) (by decide))
    rw [show([]:List Rat).all okI=true from rfl]at CN
    go_wp2_with fail;have CN:=CN _ kp;refine CN.out.mono ?_;rintro e w7 ⟨va,rfl,hva,hk7⟩;have HVA:=zh (hva (by first | rfl | trivial))
    have HK7:=zh (HK6.out.both hk7);have HY7:=zh (HY6.out.keep hk7);have HS7:=zh (HS6.out.keep hk7);have HWB:=zh HK6.out.size;clear CN hva hk7 HN6;obtain⟨y0,_,y2,_,_,_,yl⟩:=HY7.out.three;obtain⟨s0,s1,s2,s3,_,_,_,_,sl⟩:=HS7.out.four
    rcases HVC.out with hvc | ⟨g,cap,hvc,hcap⟩
    ·subst hvc
     go_upto_region 34 with fail
     refine wp_region_by (fun w'=>Keep NoS w7 w') [] [] [0,1,2,3,4,5,6,7,8,9,10,11,12,13,14] (by kernel_rfl) (by kernel_rfl) kp ?_
     intro X W hne hF hcl;have x0:=fun x=>((hF x).cell yl).trans y2
     have x1:=fun x=>((hF x).cell sl).trans s0
     have x2:=fun x=>((hF x).cell sl).trans s1
     clear hF hcl y0 y2 yl s0 s1 s2 s3 sl;simp only [wpPlan,pickOps,zl0,zl1,zl2,clsOf,Bool.false_eq_true,if_false]
     (repeat(go_big_quiet_step (fail)));refine wpQuiet_nil ?_
     refine NoPanic.normal ?_;have HK8:=zh (HK7.out.both (Keep.refl NoS w7).drew);have HVA8:=zh (HVA.out.keep ((Keep.refl NoS w7).drew));clear x0 x1 x2 HY7 HS7 HVA;generalize w7.drew=w8 at *;go_wp2;go_loopw [139,6,5] (fun s t u wx=>s= .int .i64 0∧t= .slice none 0 0∧u=va∧wx=w8) (fun _ _ _ _=>0)
     case atStart=>exact⟨rfl,by first | rfl | trivial,by first | rfl | trivial,by first | rfl | trivial⟩
     case round=>
      obtain⟨rfl,rfl,rfl,hw⟩:=hrel;obtain⟨wx,rfl⟩:∃W:World,W=wr:=⟨_,rfl⟩;obtain rfl:w8=wx:=hw.symm;clear hw;have HB86:=zh (HB8.out.keep HK8.out);obtain⟨r0,r1,f0,f1,rl⟩:=HB86.out.two;go_simp
      repeat go_step
      refine bodyPost_ret (by simp [results,Tryz.results6,go_sem,r0,r1,f0,f1,rl];rfl) rfl ?_
      have hk9:=KWA.out.both HK8.out;rw [HDS.out];exact⟨_,_,_,rfl,OwnI.lowerZ (own_setI (OwnI.lowerZ HVA8.out HWB.out) HWS.out) (by have:=HWS.out;omega),OwnW.nil _ _,OwnG.nil _ _,keep_set2 hk9 HB8G.out _ _⟩
    ·subst hvc
     unfold maxLen at hcap;go_upto_region 34 with fail
     refine wp_region_by (fun w'=>Keep NoS w7 w') [] [] [0,1,2,3,4,5,6,7,8,9,10,11,12,13,14] (by kernel_rfl) (by kernel_rfl) kp ?_
     intro X W hne hF hcl;have x0:=fun x=>((hF x).cell yl).trans y2
     have x1:=fun x=>((hF x).cell sl).trans s0
     have x2:=fun x=>((hF x).cell sl).trans s1
     clear hF hcl y0 y2 yl s0 s1 s2 s3 sl;simp only [wpPlan,pickOps,zl0,zl1,zl2,clsOf,Bool.false_eq_true,if_false]
     (repeat(go_big_quiet_step (fail)));refine wpQuiet_nil ?_
     refine NoPanic.normal ?_;have HK8:=zh (HK7.out.both (Keep.refl NoS w7).drew);have HVA8:=zh (HVA.out.keep ((Keep.refl NoS w7).drew));clear x0 x1 x2 HY7 HS7 HVA;generalize w7.drew=w8 at *;go_wp2;go_loopw [139,6,5] (fun s t u wx=>s= .int .i64 0∧t= .slice none 0 0∧u=va∧wx=w8) (fun _ _ _ _=>0)
     case atStart=>exact⟨rfl,by first | rfl | trivial,by first | rfl | trivial,by first | rfl | trivial⟩
     case round=>
      obtain⟨rfl,rfl,rfl,hw⟩:=hrel;obtain⟨wx,rfl⟩:∃W:World,W=wr:=⟨_,rfl⟩;obtain rfl:w8=wx:=hw.symm;clear hw;have HB86:=zh (HB8.out.keep HK8.out);obtain⟨r0,r1,f0,f1,rl⟩:=HB86.out.two;go_simp
      repeat go_step
      refine bodyPost_ret (by simp [results,Tryz.results6,go_sem,r0,r1,f0,f1,rl];rfl) rfl ?_
      have hk9:=KWA.out.both HK8.out;rw [HDS.out];exact⟨_,_,_,rfl,OwnI.lowerZ (own_setI (OwnI.lowerZ HVA8.out HWB.out) HWS.out) (by have:=HWS.out;omega),OwnW.nil _ _,OwnG.nil _ _,keep_set2 hk9 HB8G.out _ _⟩
end Go.Proofs.YtcnjcnjipddgeaaGreat
