/- Package lattice's Do. -/
import Derived.Test.YtcnjcnjipddgeaaGreatLcI
import Derived.Test.YtcnjcnjipddgeaaGreatLtA
namespace Go.Proofs.YtcnjcnjipddgeaaGreat
set_option maxRecDepth 100000
set_option maxHeartbeats 64000000
set_option linter.unusedSimpArgs false
set_option linter.unusedVariables false
open Go.ChangeShapes Go.WideShapes Go.RowKit
theorem nil_eqZ (w:World):Sem.run Tryz.prog (binOp BinOp.eql 49 (Value.slice none 0 0) (Value.slice none 0 0)) w= .ok (.bool true) w:=by kernel_rfl
theorem some_eqZ (w:World)(g n c:Nat):Sem.run Tryz.prog (binOp BinOp.eql 49 (Value.slice (some ⟨g,0,none⟩) n c) (Value.slice none 0 0)) w= .ok (.bool false) w:=rfl
theorem OwnG.lowerZ {w:World}{base base':Nat}{v:Value}{l:List Fq}(h:OwnF w base v l)(hb:base'≤base):OwnF w base' v l:=by
 obtain⟨hl,h | ⟨g,cap,cur,hv,hb',hr⟩⟩:=h
 ·exact ⟨hl,.inl h⟩
 ·exact ⟨hl,.inr ⟨g,cap,cur,hv,Nat.le_trans hb hb',hr⟩⟩
theorem OwnI.lowerZ {w:World}{base base':Nat}{v:Value}{l:List Int}(h:OwnI w base v l)(hb:base'≤base):OwnI w base' v l:=by
 obtain⟨hl,h | ⟨g,cap,cur,hv,hb',hr⟩⟩:=h
 ·exact ⟨hl,.inl h⟩
 ·exact ⟨hl,.inr ⟨g,cap,cur,hv,Nat.le_trans hb hb',hr⟩⟩
theorem OwnW.lowerZ {w:World}{base base':Nat}{v:Value}{l:List (List Int)}(h:OwnW w base v l)(hb:base'≤base):OwnW w base' v l:=by
 obtain⟨zs,⟨hl,h1⟩,h2,h3⟩:=h;refine⟨zs,⟨hl,?_⟩,h2,fun z hz=>⟨(h3 z hz).1.lowerZ hb,(h3 z hz).2⟩⟩
 rcases h1 with h | ⟨g,cap,cur,hv,hb',hr⟩
 ·exact .inl h
 ·exact .inr ⟨g,cap,cur,hv,Nat.le_trans hb hb',hr⟩
theorem own_setI {w:World}{base:Nat}{v:Value}{l:List Int}(h:OwnI w base v l){b:Nat}(hb:b+1≤base){p q:Value}:OwnI ((w.setCell ⟨b,0,none⟩ p).setCell ⟨b,1,none⟩ q) base v l:=
 ownsRow_sameZ h fun k hk=>by
  have:=h.block k hk;have hne:k≠b:=by omega
  rw [heap_setCell_other _ _ _ _ hne,heap_setCell_other _ _ _ _ hne]
theorem own_setW {w:World}{base:Nat}{v:Value}{l:List (List Int)}(h:OwnW w base v l){b:Nat}(hb:b+1≤base){p q:Value}:OwnW ((w.setCell ⟨b,0,none⟩ p).setCell ⟨b,1,none⟩ q) base v l:=
 h.off fun k hk h1=>by
  have hne:k≠b:=by omega
  rw [heap_setCell_other _ _ _ _ hne,heap_setCell_other _ _ _ _ hne]
theorem World.size_drewZ (w:World):w.drew.heap.size=w.heap.size:=rfl
theorem OwnW.ltZ {w:World}{base:Nat}{v:Value}{ws:List (List Int)}(h:OwnW w base v ws):∀k,v.ownBlock=some k→k<w.heap.size:=by
 obtain⟨zs,h1,_⟩:=h;exact h1.lt
def mcode (b:Bool):Int:=if b=true then 10 else 0
theorem ltDo_any (w:World)(vr:Value)(rows:List Rw)(n f:Nat)(R:DoRes)(hr:IsRows w vr rows)(he:eqF rows n=(0,0))(hok:∀r∈rows,RowOK r n)(hn1:0<n)(hn:n≤12)(hm40:rows.length≤40)(hrun:doR rows n f=some R):
  Calls Tryz.prog 6 #[vr,.int .i64 (n:Int)] w fun e w'=>∃va vw vy,e= .returned (.tuple #[.bool R.yes,va,vw,vy,.agg #[.int .i64 (mcode R.much),.int .i64 0]])∧OwnI w' w.heap.size va R.at_∧OwnW w' w.heap.size vw R.ways∧OwnF w' w.heap.size vy R.why∧Keep NoS w w':=by
 obtain⟨r,hrn,hdr⟩:=doR_out hrun;have CH:=fun w' (k:Keep NoS w w')=>zh (latChk_any w' vr rows n (hr.keep k) (by unfold I64;omega))
 rw [he]at CH;unfold fV at CH;simp only at CH;have CY:=fun w' (k:Keep NoS w w')=>zh (systemOf_any w' vr rows n (hr.keep k) hok hn hm40)
 have HRW:=zh hr;have HROK:=zh hok;obtain⟨oa,ca,hvr,hca,hma⟩:=hr.len;obtain⟨m,hm⟩:∃m,rows.length=m:=⟨_,rfl⟩;obtain⟨L,hL⟩:∃L,m+n=L:=⟨_,rfl⟩;have HSL:Hid (LQok n m (startL rows n)):=zh (by rw [← hm];exact startL_ok)
 have HQL:Hid (∀k,(colQ rows n k).length=L):=zh (fun k=>by rw [colQ_len,hm];exact hL)
 rw [hm]at hvr hrn hdr hm40 hca;have HMM:=zh hm;have HLL:=zh hL;have HRN:=zh hrn;have HDR:=zh hdr;have hL52:L≤52:=by omega
 have hmL:m≤L:=by omega
 subst hvr;unfold maxLen at hma;clear hr hok hrn hdr hrun hm hL he;go_enter Tryz.func6,Tryz.ntmps6;go_wp2_with fail;refine(CH _ kp).out.mono ?_;rintro e w1 ⟨rfl,hk⟩;have k1:Keep NoS w w1:=Keep.trans kp hk fun _ _ _ h=>h
 have HB8:Hid (Blk w1 w.heap.size #[.int .i64 0,.int .i64 0]):=zh (Blk.keep kb hk);clear hk CH;go_wp2_with fail;have kA:Keep NoS w1 ((w1.alloc (.cells #[.int .i64 0,.int .i64 0] 28)).alloc (.cells #[.int .i64 10,.int .i64 0] 28)):=((Keep.refl _ _).alloc _).alloc _;have KWA:=zh (k1.both kA);have HB8:=zh (HB8.out.keep kA);clear kA k1;have HB9:Hid (Blk ((w1.alloc (.cells #[.int .i64 0,.int .i64 0] 28)).alloc (.cells #[.int .i64 10,.int .i64 0] 28)) (w1.heap.size+1) #[.int .i64 10,.int .i64 0]):=zh (blk_at _ _ (by simp))
 generalize (w1.alloc (.cells #[.int .i64 0,.int .i64 0] 28)).alloc (.cells #[.int .i64 10,.int .i64 0] 28)=wa at *;generalize w1.heap.size+1=b9 at *;refine(CY _ KWA.out).out.mono ?_;rintro e w2 ⟨bY,vc,xs,rfl,hys,hxs⟩;have hxl:xs.length=n:=by have:=congrArg List.length hxs;simpa using this
 have hql:∀x∈xs,x.q.length=L:=fun x hx=>by
  have:x.q∈(List.range n).map (colQ rows n):=by rw [← hxs];exact List.mem_map_of_mem hx
  obtain⟨k,_,e⟩:=List.mem_map.1 this;rw [← e];exact HQL.out k
 obtain⟨gc,cc,hyc⟩:=hys.ready hxl hn1 hql;have hcc:=hyc.cc;unfold maxLen at hcc;have HRA:=zh (HRW.out.keep KWA.out);have HWH:Hid (wa.heap.size≤w2.heap.size):=zh hys.k.size;have HB8L:Hid (w.heap.size<w.heap.size+1):=zh (by omega)
 have HB8G:Hid (w.heap.size≤w.heap.size):=zh (Nat.le_refl _);have HWS:Hid (w.heap.size+1≤wa.heap.size):=zh (by have:=HB8.out.lt;omega)
 have k3:Keep NoS w2 (w2.alloc (.cells #[.pointer (some ⟨bY,0,none⟩),.slice none 0 0,.slice none 0 0,.slice none 0 0] 52)):=(Keep.refl _ _).alloc _;have HY3:=zh (hyc.keep k3);have HS3:=zh (SS.none (w:=w2) (bY:=bY) 52 (hi:=w2.heap.size) (Nat.le_refl _));have HXQ3:Hid (xs.map ColV.q=(startL rows n).cols):=zh hxs;clear hys hxs hxl hql hyc CY k3 HRW HQL;go_upto_region 6 with fail
 generalize w2.alloc (.cells #[.pointer (some ⟨bY,0,none⟩),.slice none 0 0,.slice none 0 0,.slice none 0 0] 52)=w3 at *;generalize w2.heap.size=hi at *;go_wp2;go_loopw [42,7,6] (fun s t u wr=>∃(i:Nat) (xs:List ColV) (pv qv fv:Value) (fs:List FnV) (S:LQ),i≤m∧s= .int .i64 i∧t= .slice none 0 0∧u= .slice none 0 0∧YC wa wr hi bY gc (.slice oa m ca) n L cc xs∧SS wr hi hi bY pv qv fv S.piv S.part fs∧xs.map ColV.q=S.cols∧fs.map FnV.q=S.fs∧LQok n m S∧runS n m f rows (m-i) i S=some r) (fun s _ _ _=>(m-intOf s).toNat)
 case atStart=>exact⟨0,xs,_,_,_,[],startL rows n,by omega,rfl,rfl,rfl,HY3.out,HS3.out,HXQ3.out,rfl,HSL.out,HRN.out⟩
 case round=>
  obtain⟨i,xs,pv,qv,fv,fs,S,hi',rfl,rfl,rfl,hy,hs,hxq,hfq,hok,hrn⟩:=hrel;have HY:=zh hy;have HS:=zh hs;have HXQ:=zh hxq;have HFQ:=zh hfq;have HOK:=zh hok;clear hy hs hxq hfq hok HY3 HS3 HXQ3 HSL HRN
  by_cases him:i<m
  case pos=>
   have hltm:(i:Int)<(m:Int):=by omega
   obtain⟨l',hl'⟩:∃l',m-i=l'+1:=⟨m-i-1,by omega⟩
   rw [hl']at hrn;obtain⟨o,hst,hco⟩:=runS_succ hrn;have HL':Hid (m-(i+1)=l'):=zh (by omega)
   have him':i<rows.length:=by rw [HMM.out];exact him
   have hto:fitI (rows.getD i ⟨[],0,0⟩).to:=by
    rw [List.getD_eq_getElem?_getD,List.getElem?_eq_getElem him'];exact(HROK.out _ (List.getElem_mem him')).fto
   have CST:=fun w' (kk:Keep NoS wr w')=>zh (step_any wa w' hi bY gc hi (.slice oa m ca) n m L cc xs pv qv fv S fs rows (HY.out.keep kk) (HS.out.keep kk) HXQ.out HFQ.out HWH.out HRA.out HMM.out i him hmL (by omega) hm40 (by omega) HOK.out.k HOK.out.p HOK.out.f HOK.out.l _ rfl hto f o hst)
   have HOK2:Hid (∀S',o=(none,S')→LQok n m S'):=zh (fun S' e=>stepR_ok (e ▸ hst) HOK.out)
   have HCO:=zh hco;clear hto hst hco hrn hl' him';go_wp2_with fail;have CST:=CST _ kp;refine CST.out.mono ?_;rintro e w5 ⟨v,rfl,hkw,hsome,hnone⟩;clear CST HY HS
   rcases HCO.out with⟨l,S',ho,hre⟩ | ⟨S',ho,hrn⟩
   case inl=>
    obtain⟨hown,hlen⟩:=hsome l (by rw [ho])
    clear hsome hnone HCO HOK2 HXQ HFQ ho;obtain⟨gv,cv,rfl,_,hvb,hvc,hvm⟩:=hown.blk (by rintro rfl;simp at hlen;omega)
    have HNV:=zh hvb;have hr2:=HDR.out;rw [hre]at hr2;have hfit:(∀q∈l,NB 4000 q)∧R=noR l:=by
     rcases hr2 with⟨w0,S0,e,h1,h2⟩ | ⟨S0,e,_⟩
     ·cases e;exact⟨h1,h2⟩
     ·cases e
    have HFIT:=zh hfit;have HLEN:=zh hlen;have K5:=zh (KWA.out.both hkw);have HB85:=zh (HB8.out.keep hkw);have HSZ:=zh (Nat.le_trans HWS.out hkw.size);have HKW:=zh hkw;rw [hlen];clear hown hlen hvb hvc hvm hr2 hfit hkw;have hnil:=fun w=>some_eqZ w gv m cv
    go_wp2;clear hnil;go_loopw [52,7] (fun s t wr=>∃j:Nat,j≤m∧s= .int .i64 j∧(∀q∈l.take j,Fits q)∧OwnF wr w5.heap.size t ((l.take j).map fqOf)∧Keep NoS w5 wr) (fun s _ _=>(m-intOf s).toNat)
    case atStart=>exact⟨0,by omega,rfl,fun q hq=>by simp at hq,OwnG.nil _ _,Keep.refl _ _⟩
    case round=>
     obtain⟨j,hj,rfl,hgd,hou,hkr⟩:=hrel;have HGD:=zh hgd;have HOU:=zh hou;have HKR:=zh hkr;clear hgd;obtain⟨ou,cu,hu,_⟩:=hou.len;rw [List.length_map,List.length_take_of_le (by rw [HLEN.out];exact hj)]at hu
     subst hu;clear hkr hou
     by_cases hjm:j<m
     case pos=>
      have hltj:(j:Int)<(m:Int):=by omega
      have hjl:j<l.length:=by rw [HLEN.out];exact hjm
      obtain⟨xb,xS,xc,xU,p0,p1,p2,p3,hx,_⟩:=(HNV.out.keep HKR.out).at hjl;have hbl:=(HNV.out.keep HKR.out).lt;have CF:=fun w=>zh (exFrac_gen w _ _ hx (HFIT.out.1 _ (List.getElem_mem hjl)))
      rw [fracOf_fq]at CF;have HNO:Hid (¬Fits l[j]→R=muchR):=zh (fun h=>by
       rw [HFIT.out.2];unfold noR;rw [if_neg (show ¬(l.all fun q=>decide (Fits q))=true from fun e=>h (of_decide_eq_true (List.all_eq_true.1 e _ (List.getElem_mem hjl))))])
      have HGJ:Hid (Fits l[j]→∀q∈l.take (j+1),Fits q):=zh (fun h q hq=>by
       rw [List.take_succ_eq_append_getElem hjl]at hq
       rcases List.mem_append.1 hq with hq | hq
       ·exact HGD.out q hq
       ·rw [List.mem_singleton.1 hq];exact h)
      have HTK:Hid ((l.take (j+1)).map fqOf=(l.take j).map fqOf++ [fqOf l[j]]):=zh (by rw [List.take_succ_eq_append_getElem hjl,List.map_append];rfl)
      have HJ1:Hid (((l.take j).map fqOf).length=j):=zh (by rw [List.length_map,List.length_take_of_le (by omega)])
      generalize l[j]=q at *;clear hx
      by_cases hfq:Fits q
      case neg=>
       rw [decide_eq_false hfq]at CF;have HRM:Hid (R=muchR):=zh (HNO.out hfq);go_wp2_with fail;refine(CF _).out.mono ?_;rintro e w7 ⟨rfl,hk7⟩;have k7:Keep NoS wr w7:=Keep.trans kp hk7 fun _ _ _ h=>h
       generalize (fqOf q).N=qn at *;generalize (fqOf q).D=qd at *;go_upto_region 16 with fail
       have kz:Keep NoS wa (w7.alloc (.cells #[.int .i64 qn,.int .i64 qd] 59)):=((HKW.out.both HKR.out).both k7).alloc _;have KZ:=zh (KWA.out.both kz);have HZ8:=zh (HB8.out.keep kz);have HZ9:=zh (HB9.out.keep kz);clear kz k7 hk7 CF p0 p1 p2 p3 hbl HOU HNV HTK HJ1 HNO HGJ HGD;generalize w7.alloc (.cells #[.int .i64 qn,.int .i64 qd] 59)=wz at *;obtain⟨b8,hb8⟩:∃b,b=w.heap.size:=⟨_,rfl⟩;rw [← hb8]at HZ8 ⊢;have HS8:Hid (w.heap.size≤b8):=zh (by omega)
       clear hb8;obtain⟨s0,s1,t0,t1,sl⟩:=HZ8.out.two;refine wp_region_by (fun w'=>Keep NoS wz w') [5] [([0,1,2,3,4],5)] [] (by kernel_rfl) (by kernel_rfl) kp ?_
       intro X W hne hF hcl;have hx0:=fun x=>(HZ9.out.keep (hF x)).two
       clear hF hcl;simp only [wpPlan,pickOps,zl0,zl1,zl2,clsOf,Bool.false_eq_true,if_false]
       (repeat(go_big_quiet_step (fail)));refine wpQuiet_nil ?_
       refine wpAt rfl rfl fun K hK=> ?_
       go_simp;refine hK _ _ ⟨fun h=>(by simp at h),?_⟩
       have HZ8':Hid (Blk ((wz.setCell ⟨b8,0,none⟩ (.int .i64 10)).setCell ⟨b8,1,none⟩ (.int .i64 0)).drew b8 #[.int .i64 10,.int .i64 0]):=zh ((HZ8.out.set2 (.int .i64 10) (.int .i64 0)).keep (Keep.refl _ _).drew);have K14:Hid (Keep NoS w ((wz.setCell ⟨b8,0,none⟩ (.int .i64 10)).setCell ⟨b8,1,none⟩ (.int .i64 0)).drew):=zh (keep_set2 KZ.out HS8.out (.int .i64 10) (.int .i64 0)).drew;clear hK K s0 s1 t0 t1 sl;generalize ((wz.setCell ⟨b8,0,none⟩ (.int .i64 10)).setCell ⟨b8,1,none⟩ (.int .i64 0)).drew=w15 at*
       (repeat(go_big_quiet_step (fail)));refine wpQuiet_nil ?_
       refine NoPanic.normal ?_;obtain⟨s0,s1,t0,t1,sl⟩:=HZ8'.out.two;go_simp
       repeat go_step
       refine bodyPost_ret (by simp [results,Tryz.results6,go_sem,s0,s1,sl];rfl) rfl ?_
       rw [HRM.out];exact⟨_,_,_,rfl,OwnI.nil _ _,OwnW.nil _ _,OwnG.nil _ _,K14.out⟩
      case pos=>
       rw [decide_eq_true hfq]at CF;have HGQ:=zh (HGJ.out hfq);clear HNO HGJ hfq;go_wp2_with fail;refine(CF _).out.mono ?_;rintro e w7 ⟨rfl,hk7⟩;have k7:Keep NoS wr w7:=Keep.trans kp hk7 fun _ _ _ h=>h
       have k8:Keep NoS wr ((w7.alloc (.cells #[.int .i64 (fqOf q).N,.int .i64 (fqOf q).D] 59)).alloc (.cells #[.int .i64 (fqOf q).N,.int .i64 (fqOf q).D] 59)):=(k7.alloc _).alloc _;obtain⟨v8,w8,hr8,ho8,hg8,_⟩:=app_frac (g:=fqOf q) (b:=w7.heap.size+1) (HOU.out.keep k8) kc (by rw [HJ1.out];omega) (Nat.le_trans HKR.out.size k8.size)
       have hblk:=fun kk hh=>HOU.out.block kk hh
       have K8:=zh ((HKR.out.both k8).grown hg8 fun kk hh=>hblk kk hh)
       rw [← HTK.out]at ho8;have HO8:=zh ho8;clear ho8 hg8 hblk k7 k8 hk7 CF p0 p1 p2 p3 hbl;go_wp2_with (at_builtin;refine wpList_app_run _ _ 26 _ _ rfl rfl rfl rfl hr8 ?_);go_roundw
       case rel=>exact⟨j+1,by omega,by go_num,HGQ.out,HO8.out,K8.out⟩
       case measure=>simp [intOf];omega
     case neg=>
      have hltj:¬(j:Int)<(m:Int):=by omega
      obtain rfl:m=j:=by omega
      have HB86:=zh (HB85.out.keep HKR.out);obtain⟨r0,r1,f0,f1,rl⟩:=HB86.out.two;go_simp
      repeat go_step
      refine bodyPost_ret (by simp [results,Tryz.results6,go_sem,r0,r1,f0,f1,rl];rfl) rfl ?_
      have hk9:=K5.out.both HKR.out;have hall:R=⟨false,[],[],l.map fqOf,false⟩:=by
       rw [HFIT.out.2];unfold noR;rw [if_pos (List.all_eq_true.2 fun q hq=>decide_eq_true (HGD.out q (by rw [List.take_of_length_le (by rw [HLEN.out];exact Nat.le_refl _)];exact hq)))]
      rw [hall];exact⟨_,_,_,rfl,OwnI.nil _ _,OwnW.nil _ _,(by
       have h:=HOU.out;rw [List.take_of_length_le (by rw [HLEN.out];exact Nat.le_refl _)]at h
       exact OwnG.lowerZ (own_set2 (OwnG.lowerZ h HSZ.out) HB8L.out) (Nat.le_succ _)),keep_set2 hk9 HB8G.out _ _⟩
   case inr=>
    have HOK3:=zh (HOK2.out S' ho);obtain⟨hv,xs',pv',qv',fv',fs',hy,hs,hxq,hfq⟩:=hnone (by rw [ho])
    rw [ho]at hs hxq hfq;subst hv;have HY:=zh hy;have HS:=zh hs;have HXQ:=zh hxq;have HFQ:=zh hfq;have HRN:=zh hrn;clear hsome hnone HCO HOK2 hy hs hxq hfq hrn ho hkw;have hnil:=nil_eqZ;go_wp2;go_roundw
    case rel=>exact⟨i+1,xs',pv',qv',fv',fs',S',by omega,by go_num,rfl,rfl,HY.out,HS.out,HXQ.out,HFQ.out,HOK3.out,by rw [HL'.out];exact HRN.out⟩
    case measure=>simp [intOf];omega
  case neg=>
   have hltm:¬(i:Int)<(m:Int):=by omega
   have hmi:m-i=0:=by omega
   rw [hmi]at hrn;have hre:(none,S)=r:=Option.some.inj hrn;have hr2:=HDR.out;rw [← hre]at hr2;have hds:(bdC S.cols=true∧(∀q∈S.part,dl q.num≤2850∧dl (q.den:Int)≤12)∧(∀k,k≤S.part.length→∀i,i<n→dl (ptS S m i k).num≤2850∧dl ((ptS S m i k).den:Int)≤12)∧∀k,k<S.part.length→∀j,j<n→dl (cellQ S.cols k (m+j)).num+dl (S.part.getD k 0).num≤2851)∧R=yesR S n m:=by
    rcases hr2 with⟨w0,S0,e,_⟩ | ⟨S0,e,h1,h2⟩
    ·cases e
    ·cases e;exact⟨okY_parts h1,h2⟩
   have HDS:=zh hds;clear hmi hrn hre hr2 hds HDR;obtain⟨w6,hr6,hn6,hk6⟩:=make_nums wr n (by omega)
   obtain⟨oq,cq,hqv⟩:=HS.out.q.len;obtain⟨Kp,hK⟩:∃Kp,S.part.length=Kp:=⟨_,rfl⟩;rw [hK]at hqv HDS;have HK0:=zh hK;clear hK;subst hqv;have HSCp:=zh (HS.out.fresh (Nat.le_refl wr.heap.size));have HHp:Hid (hi≤wr.heap.size):=zh HY.out.hw;have HY6:=zh (HY.out.keep hk6);have HS6:=zh (HS.out.keep hk6);have HN6:Hid (NumBlk w6 wr.heap.size (ptLL S n m 0)):=zh (by rw [ptLL_zero];exact hn6)
   go_upto_region 22 with fail
   clear hr6 hn6 hk6 HY HS;generalize wr.heap.size=gp at *;obtain⟨s0,s1,s2,s3,_,_,_,_,sl⟩:=HS6.out.s.four;go_wp2;clear s0 s1 s2 s3 sl;go_loopw [79] (fun s wr=>∃k:Nat,k≤Kp∧s= .int .i64 k∧YC wa wr hi bY gc (.slice oa m ca) n L cc xs∧SS wr hi hi bY pv (.slice oq Kp cq) fv S.piv S.part fs∧NumBlk wr gp (ptLL S n m k)) (fun s _=>(Kp-intOf s).toNat)
   case atStart=>exact⟨0,by omega,rfl,HY6.out,HS6.out,HN6.out⟩
   case round=>
    obtain⟨k,hk,rfl,hy,hs,hp⟩:=hrel;have HY:=zh hy;have HS:=zh hs;have HP:=zh hp;clear hy hs hp HY6 HS6 HN6
    by_cases hkK:k<Kp
    case pos=>
     have hltk:(k:Int)<(Kp:Int):=by omega
     have hkn:k<n:=by have:=HOK.out.k;have:=HOK.out.p;have:=HK0.out;omega
     have hltn:(k:Int)<(n:Int):=by omega
     have hkp:k<S.part.length:=by rw [HK0.out];exact hkK
     have hqn:=HS.out.q.nums;obtain⟨bp,opp,hoq,hbp,ub,uS,uc,uU,p0,p1,p2,p3,hu⟩:=hqn.at hkp;clear hqn;have HU:=zh hu;have HNU:Hid (dl S.part[k].num≤2850∧dl (S.part[k].den:Int)≤12):=zh (HDS.out.1.2.1 _ (List.getElem_mem hkp));have HUE:Hid (S.part.getD k 0=S.part[k]):=zh (ratZ hkp);generalize S.part[k]=u at *;subst hoq;have ka:Keep NoS wr (wr.alloc (.cells #[.bool ub,.string uS,.bool uc,.string uU] 57)):=(Keep.refl _ _).alloc _;have HBX:Hid (Blk (wr.alloc (.cells #[.bool ub,.string uS,.bool uc,.string uU] 57)) wr.heap.size #[.bool ub,.string uS,.bool uc,.string uU]):=zh (blk_at _ _ rfl);have HXg:Hid (wr.heap.size≠gp):=zh (by have:=HP.out.lt;omega)
     clear hu;go_upto_region 25 with fail
     have HY1:=zh (HY.out.keep ka);have HS1:=zh (HS.out.keep ka);have HP1:Hid (NumBlk (wr.alloc (.cells #[.bool ub,.string uS,.bool uc,.string uU] 57)) gp (ptJ S n m k 0)):=zh (by rw [ptJ_zero];exact HP.out.keep ka)
     clear ka p0 p1 p2 p3 hbp HY HS HP;generalize wr.alloc (.cells #[.bool ub,.string uS,.bool uc,.string uU] 57)=w1' at *;generalize wr.heap.size=bX at *;go_wp2;go_loopw [86] (fun s wr=>∃j:Nat,j≤n∧s= .int .i64 j∧YC wa wr hi bY gc (.slice oa m ca) n L cc xs∧SS wr hi hi bY pv (.slice (some ⟨bp,opp,none⟩) Kp cq) fv S.piv S.part fs∧NumBlk wr gp (ptJ S n m k j)∧Blk wr bX #[.bool ub,.string uS,.bool uc,.string uU]) (fun s _=>(n-intOf s).toNat)
     case atStart=>exact⟨0,by omega,rfl,HY1.out,HS1.out,HP1.out,HBX.out⟩
     case round=>
      obtain⟨j,hj,rfl,hy,hs,hp,hb⟩:=hrel;have HY:=zh hy;have HS:=zh hs;have HP:=zh hp;have HBX:=zh hb;clear hy hs hp hb HY1 HS1 HP1
      by_cases hjn:j<n
      case pos=>
       have hltj:(j:Int)<(n:Int):=by omega
       obtain⟨c,hc⟩:∃c,m+j=c:=⟨_,rfl⟩;have HCC:=zh hc;have ec:(m:Int)+(j:Int)=(c:Int):=by omega
       have ecw:IntKind.i64.wrap (c:Int)=(c:Int):=Go.IntWalk.i64_in _ (by omega)
       have hcL:c<L:=by have:=HLL.out;omega
       have hcLI:(c:Int)<(L:Int):=by omega
       clear hc;obtain⟨y0,_,y2,_,_,_,yl⟩:=HY.out.y.three;obtain⟨gx,c0,cl,gl,xb,xS,xc,xU,p0,p1,p2,p3,hx⟩:=HY.out.num hkn hcL;rw [HXQ.out]at hx;have HX:=zh hx;have HNX:=zh (cellQ_dl HDS.out.1.1 k c);have HNP:Hid (dl (cellQ S.cols k c).num+dl u.num≤2851):=zh (by have:=HDS.out.1.2.2.2 k (by omega) j hjn;rwa [HCC.out,HUE.out]at this)
       obtain⟨tb,tS,tc,tU,q0,q1,q2,q3,ht,_⟩:=HP.out.at (k:=j) (by rw [ptJ_len];exact hjn)
       rw [ptJ_at hjn]at ht;have gpl:=HP.out.lt;have HNT:=zh (HDS.out.1.2.2.1 k (by omega) j hjn)
       have HST:Hid ((ptJ S n m k j).set j (ptS S m j k+cellQ S.cols k c*u)=ptJ S n m k (j+1)):=zh (by rw [← HUE.out,←HCC.out];exact ptJ_step hjn)
       generalize cellQ S.cols k c=x at *;generalize ptS S m j k=t at *;obtain⟨s0,s1,s2,s3,_,_,_,_,sl⟩:=HS.out.s.four;have hnp:=HNP.out;have hnm:=dl_rmul x u;have hnx:=HNX.out;have hnu:=HNU.out;have hnt:=HNT.out;have CT:=fun w=>zh (exTimes_gen w _ _ HX.out _ _ HU.out (by omega))
       obtain⟨⟨vb,vS,vc',vU⟩,hv,hvn⟩:=numQ_nv (x*u);rw [hv]at CT;have CP:=fun w=>zh (exPlus_gen w _ _ ht _ _ hvn (by omega))
       clear hnp hnm hnx hnu hnt;obtain⟨⟨eb,eS,ec',eU⟩,he,hen⟩:=numQ_nv (t+x*u);rw [he]at CP;have HEN:=zh hen;unfold NV.v at CT CP;simp only at CT CP;clear hx ht hv hvn he hen HCC;go_upto_region 28 with fail
       refine wp_region_by (fun w'=>Keep NoS wr w') [26] [([0,1,2,3,4,5,6,7,8,9,10,11,12,13,14,15,16,17,18,19,20,21,22],23),([],24),([25],26)] [] (by kernel_rfl) (by kernel_rfl) kp ?_
       intro X W hne hF hcl;have HCL:=zh hcl;have x0:=fun x=>((hF x).cell yl).trans y2
       have x1:=fun x=>((hF x).cell cl).trans c0
       have x2:=fun x=>((hF x).cell gl).trans p0
       have x3:=fun x=>((hF x).cell gl).trans p1
       have x4:=fun x=>((hF x).cell gl).trans p2
       have x5:=fun x=>((hF x).cell gl).trans p3
       have x6:=fun x=>((hF x).cell gpl).trans q0
       have x7:=fun x=>((hF x).cell gpl).trans q1
       have x8:=fun x=>((hF x).cell gpl).trans q2
       have x9:=fun x=>((hF x).cell gpl).trans q3
       have xa:=fun x=>((hF x).cell sl).trans s0
       have z0:=fun x=>(HBX.out.keep (hF x)).four
       clear hF hcl y0 y2 yl c0 cl gl p0 p1 p2 p3 q0 q1 q2 q3 gpl s0 s1 s2 s3 sl;simp only [wpPlan,pickOps,zl0,zl1,zl2,clsOf,Bool.false_eq_true,if_false]
       (repeat(go_big_quiet_step (fail)));refine wpQuiet_nil ?_
       refine wpAt rfl rfl fun K hK=> ?_
       go_simp;refine(CT _).out.mono ?_;rintro e w3 ⟨rfl,hk⟩;have k3:Keep NoS wr w3:=Keep.trans kp hk fun _ _ _ h=>h
       refine hK _ _ ⟨fun _=>HCL.out _ k3,?_⟩
       clear hK K hk CT
       (repeat(go_big_quiet_step (fail)));refine wpQuiet_nil ?_
       refine wpAt rfl rfl fun K hK=> ?_
       go_simp;refine(CP _).out.mono ?_;rintro e w4 ⟨rfl,hk⟩;have k4:Keep NoS wr w4:=k3.both hk;refine hK _ _ ⟨fun _=>HCL.out _ k4,?_⟩
       clear hK K hk CP k3;have HY4:=zh (HY.out.keep k4);have HS4:=zh (HS.out.keep k4);have HP4:=zh (HP.out.keep k4);have HBX4:=zh (HBX.out.keep k4);obtain⟨_,_,_,_,g0,g1,g2,g3,_,f0,f1,f2,f3⟩:=HP4.out.at (k:=j) (by rw [ptJ_len];exact hjn)
       have hg4:=HP4.out.lt
       (repeat(go_big_quiet_step (fail)));refine wpQuiet_nil ?_
       refine wpAt rfl rfl fun K hK=> ?_
       go_simp;refine hK _ _ ⟨fun h=>(by simp at h),?_⟩
       clear hK K x0 x1 x2 x3 x4 x5 x6 x7 x8 x9 xa z0;have HON:Keep (OnlyG gp) w4 (q4 w4 gp (j*4) ⟨eb,eS,ec',eU⟩):=q4_only (Keep.refl _ _);have HP5:Hid (NumBlk (q4 w4 gp (j*4) ⟨eb,eS,ec',eU⟩) gp (ptJ S n m k (j+1))):=zh (by rw [← HST.out];exact HP4.out.setQ HEN.out)
       have HY5:=zh (HY4.out.only HON HHp.out HWH.out);have HS5:=zh (HS4.out.only HON HSCp.out);have HBX5:=zh (HBX4.out.sameZ (q4_other (w:=w4) (o:=j*4) (x:=⟨eb,eS,ec',eU⟩) HXg.out));rw [show((((w4.setCell ⟨gp,j*4,none⟩ (.bool eb)).setCell ⟨gp,j*4+1,none⟩ (.string eS)).setCell ⟨gp,j*4+2,none⟩ (.bool ec')).setCell ⟨gp,j*4+3,none⟩ (.string eU))=q4 w4 gp (j*4) ⟨eb,eS,ec',eU⟩from rfl]
       generalize q4 w4 gp (j*4) ⟨eb,eS,ec',eU⟩=w5 at *;clear g0 g1 g2 g3 f0 f1 f2 f3 hg4 k4 HON HY4 HS4 HP4 HBX4 HY HS HP HBX
       (repeat(go_big_quiet_step (fail)));refine wpQuiet_nil ?_
       refine NoPanic.normal ?_;go_wp2;go_roundw
       case rel=>exact⟨j+1,by omega,by go_num,HY5.out,HS5.out,HP5.out,HBX5.out⟩
       case measure=>simp [intOf];omega
      case neg=>
       have hltj:¬(j:Int)<(n:Int):=by omega
       obtain rfl:j=n:=by omega
       go_wp2;go_roundw
       case rel=>exact⟨k+1,by omega,by go_num,HY.out,HS.out,by rw [← ptJ_all];exact HP.out⟩
       case measure=>simp [intOf];omega
    case neg=>
     have hltk:¬(k:Int)<(Kp:Int):=by omega
     obtain rfl:Kp=k:=by omega
     have CN:=fun w' (kk:Keep NoS wr w')=>zh (ltInts_any w' (.slice (some ⟨gp,0,none⟩) n n) (ptLL S n m Kp) ((HP.out.keep kk).nums ptLL_len.symm (by rw [ptLL_len];exact Nat.le_refl _) (by unfold maxLen;omega)) (fun x hx=>(by
      obtain⟨i,hi,rfl⟩:=List.mem_map.1 hx;have:=HDS.out.1.2.2.1 Kp (Nat.le_refl _) i (List.mem_range.1 hi);exact⟨by omega,by omega⟩)) (by rw [ptLL_len];omega))
     by_cases hai:(ptLL S n m Kp).all okI=true
     case neg=>
      rw [Bool.eq_false_iff.2 hai]at CN;have HRM:Hid (R=muchR):=zh (by
       rw [HDS.out.2];unfold yesR;rw [HK0.out,if_neg hai])
      go_wp2_with fail;have CN:=CN _ kp;refine CN.out.mono ?_;rintro e w7 ⟨va,rfl,_,hk7⟩;go_upto_region 33 with fail
      have kz:Keep NoS wa (w7):=(HY.out.k.both hk7);have KZ:=zh (KWA.out.both kz);have HZ8:=zh (HB8.out.keep kz);have HZ9:=zh (HB9.out.keep kz);clear kz hk7 CN HP HY HS hai;generalize w7=wz at *;obtain⟨b8,hb8⟩:∃b,b=w.heap.size:=⟨_,rfl⟩;rw [← hb8]at HZ8 ⊢;have HS8:Hid (w.heap.size≤b8):=zh (by omega)
      clear hb8;obtain⟨s0,s1,t0,t1,sl⟩:=HZ8.out.two;refine wp_region_by (fun w'=>Keep NoS wz w') [5] [([0,1,2,3,4],5)] [] (by kernel_rfl) (by kernel_rfl) kp ?_
      intro X W hne hF hcl;have hx0:=fun x=>(HZ9.out.keep (hF x)).two
      clear hF hcl;simp only [wpPlan,pickOps,zl0,zl1,zl2,clsOf,Bool.false_eq_true,if_false]
      (repeat(go_big_quiet_step (fail)));refine wpQuiet_nil ?_
      refine wpAt rfl rfl fun K hK=> ?_
      go_simp;refine hK _ _ ⟨fun h=>(by simp at h),?_⟩
      have HZ8':Hid (Blk ((wz.setCell ⟨b8,0,none⟩ (.int .i64 10)).setCell ⟨b8,1,none⟩ (.int .i64 0)).drew b8 #[.int .i64 10,.int .i64 0]):=zh ((HZ8.out.set2 (.int .i64 10) (.int .i64 0)).keep (Keep.refl _ _).drew);have K14:Hid (Keep NoS w ((wz.setCell ⟨b8,0,none⟩ (.int .i64 10)).setCell ⟨b8,1,none⟩ (.int .i64 0)).drew):=zh (keep_set2 KZ.out HS8.out (.int .i64 10) (.int .i64 0)).drew;clear hK K s0 s1 t0 t1 sl;generalize ((wz.setCell ⟨b8,0,none⟩ (.int .i64 10)).setCell ⟨b8,1,none⟩ (.int .i64 0)).drew=w15 at*
      (repeat(go_big_quiet_step (fail)));refine wpQuiet_nil ?_
      refine NoPanic.normal ?_;obtain⟨s0,s1,t0,t1,sl⟩:=HZ8'.out.two;go_simp
      repeat go_step
      refine bodyPost_ret (by simp [results,Tryz.results6,go_sem,s0,s1,sl];rfl) rfl ?_
      rw [HRM.out];exact⟨_,_,_,rfl,OwnI.nil _ _,OwnW.nil _ _,OwnG.nil _ _,K14.out⟩
     case pos=>
      rw [hai]at CN;have HAI:=zh hai;clear hai;go_wp2_with fail;have CN:=CN _ kp;refine CN.out.mono ?_;rintro e w7 ⟨va,rfl,hva,hk7⟩;have HVA:=zh (hva trivial);have hsz7:wr.heap.size≤w7.heap.size:=hk7.size;have hwb:wa.heap.size≤wr.heap.size:=HY.out.k.size;have HY7:=zh (HY.out.keep hk7);have HS7:=zh (HS.out.keep hk7);clear CN hva hk7 HP;obtain⟨y0,_,y2,_,_,_,yl⟩:=HY7.out.y.three;obtain⟨s0,s1,s2,s3,_,_,_,_,sl⟩:=HS7.out.s.four;obtain⟨op,cp,hpv⟩:=HS7.out.p.len;have hpK:S.piv.length=Kp:=by have:=HOK.out.p;have:=HK0.out;omega
      rw [hpK]at hpv;have HPK:=zh hpK;clear hpK;subst hpv;have hKn:Kp≤n:=by have:=HOK.out.k;have:=HPK.out;omega
      have hKnI:(Kp:Int)≤(n:Int):=by omega
      have hKcI:(Kp:Int)≤(cc:Int):=by omega
      have hKc:Kp≤cc:=by omega
      have hncI:(n:Int)≤(cc:Int):=by omega
      go_upto_region 34 with fail
      refine wp_region_by (fun w'=>Keep NoS w7 w') [] [] [0,1,2,3,4,5,6,7,8,9,10,11,12,13,14] (by kernel_rfl) (by kernel_rfl) kp ?_
      intro X W hne hF hcl;have x0:=fun x=>((hF x).cell yl).trans y2
      have x1:=fun x=>((hF x).cell sl).trans s0
      have x2:=fun x=>((hF x).cell sl).trans s1
      clear hF hcl y0 y2 yl s0 s1 s2 s3 sl;simp only [wpPlan,pickOps,zl0,zl1,zl2,clsOf,Bool.false_eq_true,if_false]
      (repeat(go_big_quiet_step (fail)));refine wpQuiet_nil ?_
      refine NoPanic.normal ?_;obtain⟨oz,hoz⟩:∃oz,(if cc=Kp then some (⟨gc,0,none⟩:Addr)else some ⟨gc,Kp,none⟩)=oz:=⟨_,rfl⟩
      have HOZ:Hid (Kp<n→oz=some ⟨gc,Kp,none⟩):=zh (fun h=>by rw [← hoz,if_neg (by omega)])
      rw [hoz];have HHW:Hid (hi≤w7.drew.heap.size):=zh (HY7.out.hw);have HY8:=zh (HY7.out.keep ((Keep.refl NoS w7).drew));have HVA8:=zh (HVA.out.keep ((Keep.refl NoS w7).drew));have HWB:Hid (wa.heap.size≤wr.heap.size):=zh hwb;have hLm:¬L=m:=by have:=HLL.out;omega
      have hmLI:(m:Int)≤(L:Int):=by omega
      have HBASE:Hid (wa.heap.size≤w7.drew.heap.size):=zh (Nat.le_trans hwb hsz7);clear hoz x0 x1 x2 HY7 HS7 HVA hsz7 hwb;generalize w7.drew=w8 at *;go_wp2;go_loopw [139,6,5] (fun s t u wr=>∃j:Nat,j≤n-Kp∧s= .int .i64 j∧u=va∧(∀l∈(waysQ S m).take j,l.all okI=true)∧YC wa wr hi bY gc (.slice oa m ca) n L cc xs∧OwnW wr w8.heap.size t (((waysQ S m).take j).map (·.map Rat.num))∧Keep NoS w8 wr) (fun s _ _ _=>(n-Kp-intOf s).toNat)
      case atStart=>exact⟨0,by omega,rfl,rfl,fun l hl=>by simp at hl,HY8.out,OwnW.nil _ _,Keep.refl _ _⟩
      case round=>
       obtain⟨j,hj,rfl,rfl,hgd,hy,ho,hkr⟩:=hrel;have HGD:=zh hgd;clear hgd;have HY:=zh hy;have HO:=zh ho;have HKR:=zh hkr;have HWL:Hid ((waysQ S m).length=n-Kp):=zh (by
        unfold waysQ;rw [List.length_map,List.length_drop,HOK.out.c,HPK.out])
       obtain⟨o6,c6,h6,_⟩:=ho.len;rw [List.length_map,List.length_take_of_le (by rw [HWL.out];exact hj)]at h6
       subst h6;clear hy ho hkr HY8
       by_cases hjn:j<n-Kp
       case pos=>
        have hltj:(j:Int)<((n-Kp:Nat):Int):=by omega
        have hkn:Kp<n:=by omega
        have hoz:=HOZ.out hkn;subst hoz;have hkj:Kp+j<n:=by omega
        obtain⟨g,q,_,hcq,c0,_,cl,hnq,hql,_⟩:=HY.out.at hkj;rw [HXQ.out]at hcq;have hqm:S.cols[Kp+j]? =some q:=by
         have hl:Kp+j<S.cols.length:=by rw [HOK.out.c];exact hkj
         rw [List.getElem?_eq_getElem hl];rw [List.getD_eq_getElem?_getD,List.getElem?_eq_getElem hl]at hcq;exact congrArg some hcq
        have HWJ:Hid ((waysQ S m)[j]? =some (q.drop m)):=zh (by
         unfold waysQ;rw [List.getElem?_map,List.getElem?_drop,HPK.out,hqm];rfl)
        have hnt:=hnq.tail (m:=m) (by rw [hql];have:=HLL.out;omega) (by rw [hql];unfold maxLen;omega)
        rw [hql]at hnt;have HNT:=zh hnt;have HQN:=zh (bdC_col HDS.out.1.1 hcq);have HQL:Hid (q.length=L):=zh hql;have CN:=fun w' (kk:Keep NoS wr w')=>zh (ltInts_any w' (.slice (some ⟨g,m*4,none⟩) (L-m) (L-m)) (q.drop m) (HNT.out.keep kk) (fun x hx=>(HQN.out x (List.mem_of_mem_drop hx)).mono (by omega)) (by rw [List.length_drop,HQL.out];omega))
        clear hcq hnq hql hqm hnt;have HNO:Hid (¬ (q.drop m).all okI=true→R=muchR):=zh (fun h=>by
         rw [HDS.out.2];unfold yesR;rw [HK0.out,if_pos HAI.out,if_neg (show ¬((waysQ S m).all (·.all okI))=true from fun e=>h (List.all_eq_true.1 e _ (List.mem_of_getElem? HWJ.out)))])
        have HGJ:Hid ((q.drop m).all okI=true→∀l∈(waysQ S m).take (j+1),l.all okI=true):=zh (fun h l hl=>by
         rw [List.take_add_one,HWJ.out]at hl
         rcases List.mem_append.1 hl with hl | hl
         ·exact HGD.out l hl
         ·rw [List.mem_singleton.1 hl];exact h)
        by_cases hao:(q.drop m).all okI=true
        case neg=>
         rw [Bool.eq_false_iff.2 hao]at CN;have HRM:Hid (R=muchR):=zh (HNO.out hao);go_wp2_with fail;have CN:=CN _ kp;refine CN.out.mono ?_;rintro e w9 ⟨vw,rfl,_,hk9⟩;have k9:Keep NoS wr w9:=Keep.trans kp hk9 fun _ _ _ h=>h
         go_upto_region 39 with fail
         have kz:Keep NoS wa (w9):=HY.out.k.both k9;have KZ:=zh (KWA.out.both kz);have HZ8:=zh (HB8.out.keep kz);have HZ9:=zh (HB9.out.keep kz);clear kz k9 hk9 CN HO HNT HNO HGJ HGD hao c0 cl;generalize w9=wz at *;obtain⟨b8,hb8⟩:∃b,b=w.heap.size:=⟨_,rfl⟩;rw [← hb8]at HZ8 ⊢;have HS8:Hid (w.heap.size≤b8):=zh (by omega)
         clear hb8;obtain⟨s0,s1,t0,t1,sl⟩:=HZ8.out.two;refine wp_region_by (fun w'=>Keep NoS wz w') [5] [([0,1,2,3,4],5)] [] (by kernel_rfl) (by kernel_rfl) kp ?_
         intro X W hne hF hcl;have hx0:=fun x=>(HZ9.out.keep (hF x)).two
         clear hF hcl;simp only [wpPlan,pickOps,zl0,zl1,zl2,clsOf,Bool.false_eq_true,if_false]
         (repeat(go_big_quiet_step (fail)));refine wpQuiet_nil ?_
         refine wpAt rfl rfl fun K hK=> ?_
         go_simp;refine hK _ _ ⟨fun h=>(by simp at h),?_⟩
         have HZ8':Hid (Blk ((wz.setCell ⟨b8,0,none⟩ (.int .i64 10)).setCell ⟨b8,1,none⟩ (.int .i64 0)).drew b8 #[.int .i64 10,.int .i64 0]):=zh ((HZ8.out.set2 (.int .i64 10) (.int .i64 0)).keep (Keep.refl _ _).drew);have K14:Hid (Keep NoS w ((wz.setCell ⟨b8,0,none⟩ (.int .i64 10)).setCell ⟨b8,1,none⟩ (.int .i64 0)).drew):=zh (keep_set2 KZ.out HS8.out (.int .i64 10) (.int .i64 0)).drew;clear hK K s0 s1 t0 t1 sl;generalize ((wz.setCell ⟨b8,0,none⟩ (.int .i64 10)).setCell ⟨b8,1,none⟩ (.int .i64 0)).drew=w15 at*
         (repeat(go_big_quiet_step (fail)));refine wpQuiet_nil ?_
         refine NoPanic.normal ?_;obtain⟨s0,s1,t0,t1,sl⟩:=HZ8'.out.two;go_simp
         repeat go_step
         refine bodyPost_ret (by simp [results,Tryz.results6,go_sem,s0,s1,sl];rfl) rfl ?_
         rw [HRM.out];exact⟨_,_,_,rfl,OwnI.nil _ _,OwnW.nil _ _,OwnG.nil _ _,K14.out⟩
        case pos=>
        rw [hao]at CN;have HGQ:=zh (HGJ.out hao);clear HNO HGJ hao;go_wp2_with fail;have CN:=CN _ kp;refine CN.out.mono ?_;rintro e w9 ⟨vw,rfl,hvw,hk9⟩;have hvw:=hvw trivial;have k9:Keep NoS wr w9:=Keep.trans kp hk9 fun _ _ _ h=>h
        obtain⟨ow,cw,hvl⟩:=hvw.len;have HTK:Hid (((waysQ S m).take (j+1)).map (·.map Rat.num)=((waysQ S m).take j).map (·.map Rat.num)++ [(q.drop m).map Rat.num]):=zh (by
         rw [List.take_add_one,HWJ.out,List.map_append];rfl)
        obtain⟨lw,hlw⟩:∃lw,((q.drop m).map Rat.num).length=lw:=⟨_,rfl⟩;rw [hlw]at hvl;clear hlw;subst hvl;have k10:Keep NoS w9 (w9.alloc (.cells #[.slice ow lw cw] 24)):=(Keep.refl _ _).alloc _;obtain⟨v11,w11,hr11,ho11,hg11⟩:=((HO.out.keep k9).keep k10).app (b:=w9.heap.size) (u:= .slice ow lw cw) (l:=(q.drop m).map Rat.num) (OwnI.lowerZ (hvw.keep k10) (by have:=HKR.out.size;omega)) (fun k h1 h2=>(by
         have e1:=HO.out.ltZ k h1;have e2:=hvw.block k h2
         try simp only [World.size_drewZ]at e2
         omega)) (blk_at _ _ rfl) rfl (by rw [List.length_map,List.length_take_of_le (by rw [HWL.out];exact hj)];omega) (Nat.le_trans HKR.out.size (Nat.le_trans k9.size k10.size))
        rw [← HTK.out]at ho11;have HO11:=zh ho11;have hwk:=(HKR.out.both k9).both k10;have K11:=zh (hwk.grown hg11 fun k hk=>(HO.out.block k hk))
        have HY11:=zh (((HY.out.keep k9).keep k10).off (((HY.out.k.both k9).both k10).grown hg11 fun k hk=>Nat.le_trans HBASE.out (HO.out.block k hk)) hg11.size (fun b hb hlt=>hg11.block b hb (fun e=>by
         have:=HO.out.block b e.symm;have:=HHW.out;omega)))
        clear CN hk9 hvw ho11 hg11 k9 k10 hwk c0 cl;go_wp2_with (at_builtin;refine wpList_app_run _ _ 25 _ _ rfl rfl rfl rfl hr11 ?_);go_roundw
        case rel=>exact⟨j+1,by omega,by go_num,rfl,HGQ.out,HY11.out,HO11.out,K11.out⟩
        case measure=>simp [intOf];omega
       case neg=>
        have hltj:¬(j:Int)<((n-Kp:Nat):Int):=by omega
        have HWA:Hid ((waysQ S m).take j=waysQ S m):=zh (List.take_of_length_le (by rw [HWL.out];omega))
        have HB86:=zh (HB8.out.keep HY.out.k);obtain⟨r0,r1,f0,f1,rl⟩:=HB86.out.two;go_simp
        repeat go_step
        refine bodyPost_ret (by simp [results,Tryz.results6,go_sem,r0,r1,f0,f1,rl];rfl) rfl ?_
        have hk9:=KWA.out.both HY.out.k;have hall:R=⟨true,(ptLL S n m Kp).map Rat.num,(waysQ S m).map (·.map Rat.num),[],false⟩:=by
         rw [HDS.out.2];unfold yesR;rw [HK0.out,if_pos HAI.out,if_pos (List.all_eq_true.2 fun l hl=>HGD.out l (by rw [HWA.out];exact hl))]
        rw [hall];exact⟨_,_,_,rfl,OwnI.lowerZ (own_setI (OwnI.lowerZ (HVA8.out.keep HKR.out) HWB.out) HWS.out) (by have:=HWS.out;omega),(by
         have h:=HO.out;rw [HWA.out]at h;exact OwnW.lowerZ (own_setW (OwnW.lowerZ h HBASE.out) HWS.out) (by have:=HWS.out;omega)),OwnG.nil _ _,keep_set2 hk9 HB8G.out _ _⟩
end Go.Proofs.YtcnjcnjipddgeaaGreat
