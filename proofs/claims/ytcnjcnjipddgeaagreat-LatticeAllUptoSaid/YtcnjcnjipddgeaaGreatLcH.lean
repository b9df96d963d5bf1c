/- Package lattice's step: the walk. -/
import Derived.Test.YtcnjcnjipddgeaaGreatLcFF
namespace Go.Proofs.YtcnjcnjipddgeaaGreat
set_option maxRecDepth 100000
set_option maxHeartbeats 64000000
set_option linter.unusedSimpArgs false
set_option linter.unusedVariables false
open Go.ChangeShapes Go.WideShapes Go.RowKit
theorem stepR_out {n m f i:Nat}{tt:Rat}{S:LQ}{out:Option (List Rat) × LQ}(h:stepR n m f i tt S=some out):
  okS S m i tt=true∧∃b c,clearR n i S.piv.length f S.cols=some (b,c)∧bdC c=true∧
   (b=false→(restK S m i tt S.piv.length).1=0→out=(none,{S with cols:=c}))∧
   (b=false→(restK S m i tt S.piv.length).1≠0→out=(some ((restK S m i tt S.piv.length).2.map (· *(1/((restK S m i tt S.piv.length).1+(restK S m i tt S.piv.length).1)))),{S with cols:=c}))∧
   (b=true→((restK S m i tt S.piv.length).1*(1/cellQ c S.piv.length i)).den=1→out=(none,⟨c,S.piv++ [(i:Int)],S.part++ [(restK S m i tt S.piv.length).1*(1/cellQ c S.piv.length i)],S.fs++ [(restK S m i tt S.piv.length).2.map (· *(1/cellQ c S.piv.length i))]⟩))∧
   (b=true→((restK S m i tt S.piv.length).1*(1/cellQ c S.piv.length i)).den≠1→out=(some ((restK S m i tt S.piv.length).2.map (· *(1/cellQ c S.piv.length i))),{S with cols:=c})):=by
 unfold stepR at h;simp only at h
 by_cases ho:okS S m i tt=false
 ·rw [if_pos ho]at h;cases h
 ·rw [if_neg ho]at h
  refine⟨by simpa using ho,?_⟩
  rcases hc:clearR n i S.piv.length f S.cols with _ | ⟨b,c⟩
  ·rw [hc]at h;cases h
  ·rw [hc]at h
   simp only at h
   by_cases hb:bdC c=false
   ·rw [if_pos hb]at h;cases h
   ·rw [if_neg hb]at h
    refine⟨b,c,rfl,by simpa using hb,fun e1 e2=> ?_,fun e1 e2=> ?_,fun e1 e2=> ?_,fun e1 e2=> ?_⟩
    ·rw [if_pos e1,if_pos e2]at h;exact(Option.some.inj h).symm
    ·rw [if_pos e1,if_neg e2]at h;exact(Option.some.inj h).symm
    ·rw [if_neg (by rw [e1];simp),if_pos e2]at h;exact(Option.some.inj h).symm
    ·rw [if_neg (by rw [e1];simp),if_neg e2]at h;exact(Option.some.inj h).symm
theorem cellQ_dl {c:List (List Rat)}(h:bdC c=true)(k i:Nat):dl (cellQ c k i).num≤1500∧dl ((cellQ c k i).den:Int)≤1:=by
 refine⟨(cellQ_nb h k i).1,?_⟩;rw [cellQ_den h k i];exact dl_le (k:=1) (by decide)
theorem okS_parts {S:LQ}{m i:Nat}{tt:Rat}(h:okS S m i tt=true)(hp:S.part.length=S.piv.length)(hf:S.fs.length=S.piv.length):bdC S.cols=true∧(∀q∈S.part,dl q.num≤2850∧dl (q.den:Int)≤12)∧(∀l∈S.fs,∀q∈l,dl q.num≤2850∧dl (q.den:Int)≤12)∧(∀k,k≤S.piv.length→(dl (restK S m i tt k).1.num≤2850∧dl ((restK S m i tt k).1.den:Int)≤12)∧∀q∈(restK S m i tt k).2,dl q.num≤2850∧dl (q.den:Int)≤12)∧
  ∀k,k<S.piv.length→dl (cellQ S.cols k i).num+dl (S.part.getD k 0).num≤2851∧∀q∈S.fs.getD k [],dl (cellQ S.cols k i).num+dl q.num≤2851:=by
 unfold okS at h;rw [Bool.and_eq_true,Bool.and_eq_true,Bool.and_eq_true,Bool.and_eq_true]at h;obtain⟨⟨⟨⟨h1,h2⟩,h3⟩,h4⟩,h5⟩:=h;refine⟨h1,allF_dl h2,fun l hl=>allF_dl (List.all_eq_true.1 h3 l hl),fun k hk=> ?_,fun k hk=> ?_⟩
 ·have:=List.all_eq_true.1 h4 k (List.mem_range.2 (by omega))
  rw [Bool.and_eq_true]at this;exact⟨bdF_dl this.1,allF_dl this.2⟩
 ·have:=List.all_eq_true.1 h5 k (List.mem_range.2 hk)
  rw [Bool.and_eq_true]at this;refine⟨bdM_dl this.1 (cellQ_dl h1 k i).1 ?_,fun q hq=>bdM_dl (List.all_eq_true.1 this.2 q hq) (cellQ_dl h1 k i).1 ?_⟩
  ·rw [ratZ (by omega)];exact(allF_dl h2 _ (List.getElem_mem _)).1
  ·rw [List.getD_eq_getElem?_getD,List.getElem?_eq_getElem (by omega)]at hq
   exact(allF_dl (List.all_eq_true.1 h3 _ (List.getElem_mem _)) q hq).1
def StepOut (w0 w':World)(hi bY gc bS:Nat)(vr:Value)(n m L cc:Nat)(v:Value)(out:Option (List Rat) × LQ):Prop:=
 Keep NoS w0 w'∧(∀l,out.1=some l→OwnN w' hi v l∧l.length=m)∧(out.1=none→v= .slice none 0 0∧∃xs' pv' qv' fv' fs',YC w0 w' hi bY gc vr n L cc xs'∧SS w' hi bS bY pv' qv' fv' out.2.piv out.2.part fs'∧xs'.map ColV.q=out.2.cols∧fs'.map FnV.q=out.2.fs)
theorem nb_one:NB 1 (1:Rat):=nb_int (x:=1) (by decide)
theorem set4_only (w:World)(b:Nat)(p q r s:Value):Keep (OnlyG b) w ((((w.setCell ⟨b,0,none⟩ p).setCell ⟨b,1,none⟩ q).setCell ⟨b,2,none⟩ r).setCell ⟨b,3,none⟩ s):=by
 have h0:Keep (OnlyG b) w w:=Keep.refl _ _;have h1:=h0.setCell (b:=b) (o:=0) p fun _=>rfl
 have h2:=h1.setCell (b:=b) (o:=1) q fun _=>rfl
 have h3:=h2.setCell (b:=b) (o:=2) r fun _=>rfl
 exact h3.setCell (b:=b) (o:=3) s fun _=>rfl
def pst16 (g:Nat)(ov pS pY pY2 cv:Value)(kI:Int)(pC lv:Value)(iI:Int)(pN nv:Value)(A:Array Value)(S:Nat→Bool):Nat→Value→World→Prop
 | 0,v,w=>v=ov
 | 1,v,w=>v=pS
 | 2,v,w=>v=pS
 | 3,v,w=>v=pS
 | 4,v,w=>v=pY
 | 5,v,w=>v=pY
 | 6,v,w=>v=pY2
 | 7,v,w=>v=cv
 | 8,v,w=>v= .int .i64 kI
 | 9,v,w=>v=pC
 | 10,v,w=>v=lv
 | 11,v,w=>v= .int .i64 iI
 | 12,v,w=>v=pN
 | 13,v,w=>v=nv
 | 14,v,w=>v= .agg A
 | 15,v,w=>ZCell (S 16) g v w #[.bool false,.string ⟨#[]⟩,.bool false,.string ⟨#[]⟩] A
 | 16,v,w=>True
 | _,_,_=>True
theorem pst16_keep {g:Nat}{ov pS pY pY2 cv:Value}{kI:Int}{pC lv:Value}{iI:Int}{pN nv:Value}{A:Array Value}{S:Nat→Bool}{w w':World}{e:Nat}(he:e≠16)(k:Keep NoS w w'):∀(d:Nat) (v:Value),pst16 g ov pS pY pY2 cv kI pC lv iI pN nv A S d v w→pst16 g ov pS pY pY2 cv kI pC lv iI pN nv A (mark S e) d v w'
 | 0,v,h=>h
 | 1,v,h=>h
 | 2,v,h=>h
 | 3,v,h=>h
 | 4,v,h=>h
 | 5,v,h=>h
 | 6,v,h=>h
 | 7,v,h=>h
 | 8,v,h=>h
 | 9,v,h=>h
 | 10,v,h=>h
 | 11,v,h=>h
 | 12,v,h=>h
 | 13,v,h=>h
 | 14,v,h=>h
 | 15,v,h=>h.keepM he k
 | 16,v,h=>h
 | n+17,v,h=>trivial
theorem pst16_s {g:Nat}{ov pS pY pY2 cv:Value}{kI:Int}{pC lv:Value}{iI:Int}{pN nv:Value}{A:Array Value}{S:Nat→Bool}{w w':World}{σ:Nat→Value}{b7:Nat}(e0:σ 15= .pointer (some ⟨b7,0,none⟩))(hg:g≤b7)(hb:Blk w' b7 A):∀(d:Nat),d≠16→S d=true→pst16 g ov pS pY pY2 cv kI pC lv iI pN nv A S d (σ d) w→pst16 g ov pS pY pY2 cv kI pC lv iI pN nv A (mark S 16) d (σ d) w'
 | 0,_,_,h=>h
 | 1,_,_,h=>h
 | 2,_,_,h=>h
 | 3,_,_,h=>h
 | 4,_,_,h=>h
 | 5,_,_,h=>h
 | 6,_,_,h=>h
 | 7,_,_,h=>h
 | 8,_,_,h=>h
 | 9,_,_,h=>h
 | 10,_,_,h=>h
 | 11,_,_,h=>h
 | 12,_,_,h=>h
 | 13,_,_,h=>h
 | 14,_,_,h=>h
 | 15,_,_,h=>⟨b7,e0,hg,hb.lt,fun hm=>(by rw [markZ_self]at hm;cases hm),fun _=>hb⟩
 | 16,hd,_,_=>absurd rfl hd
 | n+17,_,_,h=>trivial
theorem step_any (w0 w:World)(hi bY gc bS:Nat)(vr:Value)(n m L cc:Nat)(xs:List ColV)(pv qv fv:Value)(S:LQ)(fs:List FnV)(rows:List Rw)(hY:YC w0 w hi bY gc vr n L cc xs)(hS:SS w hi bS bY pv qv fv S.piv S.part fs)(hxq:xs.map ColV.q=S.cols)(hfq:fs.map FnV.q=S.fs)(h0:w0.heap.size≤hi)
  (hr:IsRows w0 vr rows) (hrm:rows.length=m) (i:Nat) (him:i<m) (hmL:m≤L) (hn:n≤100) (hm:m≤40) (hL:L≤1000) (hKn:S.piv.length≤n) (hp:S.part.length=S.piv.length) (hf:S.fs.length=S.piv.length) (hfl:∀l∈S.fs,l.length=m) (ti:Int) (hti:(rows.getD i ⟨[],0,0⟩).to=ti) (hto:fitI ti) (f:Nat) (out:Option (List Rat) × LQ) (hrun:stepR n m f i (ti:Rat) S=some out):
  Calls Tryz.prog 18 #[.pointer (some ⟨bS,0,none⟩),.int .i64 (i:Int)] w fun e w'=>∃v,e= .returned v∧StepOut w0 w' hi bY gc bS vr n m L cc v out:=by
 obtain⟨hok,bb,c,hclr,hbc,o1,o2,o3,o4⟩:=stepR_out hrun;obtain⟨k1,k2,k3,k4,k5⟩:=okS_parts hok hp hf;obtain⟨oa,ca,hvr,_,_⟩:=hr.len;obtain⟨Kp,hK⟩:∃Kp,S.piv.length=Kp:=⟨_,rfl⟩;have hir:i<rows.length:=by omega
 rw [hvr]at hr;obtain⟨rb,ro,hoa,hrbl,hrat⟩:=hr.at hir;have q2:w0.cell? ⟨rb,ro+i*3+2,none⟩=some (.int .i64 (rows[i]).to):=by
  obtain⟨_,_,_,_,q2,_⟩:=hrat.row;exact q2
 have hte:(rows[i]).to=ti:=by
  have:=hti
  rwa [List.getD_eq_getElem?_getD,List.getElem?_eq_getElem hir]at this
 rw [hte]at q2;subst hoa;rw [hrm]at hvr;obtain⟨op,cp,hpv⟩:=hS.p.len;obtain⟨oq,cq,hqv⟩:=hS.q.len;obtain⟨of_,cf,hfv,hfc⟩:=hS.f.len;have hfsl:fs.length=S.fs.length:=by rw [← hfq,List.length_map]
 have hfx:∀x∈fs,x.q.length=m:=fun x hx=>hfl _ (by rw [← hfq];exact List.mem_map_of_mem hx)
 rw [hp]at hqv;rw [hfsl,hf]at hfv;rw [hK]at hpv hqv hfv hKn hclr o1 o2 o3 o4 k4 k5;have HK0:=zh hK;have HPL:=zh (hp.trans hK);have HFS:=zh (hfsl.trans (hf.trans hK));have HFX:=zh hfx;have HFQ:=zh hfq;have HXQ:=zh hxq;have HO:=zh (And.intro o1 (And.intro o2 (And.intro o3 o4)));have HNB:=zh (And.intro k1 (And.intro k2 (And.intro k3 (And.intro k4 k5))));have HBC:=zh hbc;have HCLR:=zh hclr;have H0:=zh h0;have HIL:Hid (i<L):=zh (by omega)
 have HIM:=zh him;have HCNE:Hid (bb=true→cellQ c Kp i≠0):=zh (fun e=>clearR_ne (by rw [← hxq,List.length_map];exact hY.xl) (e ▸ hclr))
 have hmI:(i:Int)<(m:Int):=by omega
 have hLI:(i:Int)<(L:Int):=by omega
 have hcc:=hY.cc;unfold maxLen at hcc;have hrk:=(hY.k.cell hrbl).trans q2;have hrl:=Nat.lt_of_lt_of_le hrbl hY.k.size;have hHI:=hY.hw;have HHI:=zh hHI;obtain⟨y0,_,_,_,_,_,yl⟩:=hY.y.three;rw [hvr]at y0;obtain⟨s0,_,_,_,_,_,_,_,sl⟩:=hS.s.four;have HY:=zh hY;have HS:=zh hS;unfold fitI at hto;have CI:=fun w=>zh (exInt_any w ti (by omega) (by omega))
 obtain⟨⟨tb,tS,tc,tU⟩,ht,htn⟩:=numIntZ ti;rw [ht]at CI;have HTN:=zh htn;have CJ:=fun w=>zh (exInt_any w 1 (by omega) (by omega))
 obtain⟨⟨ob,oS,oc,oU⟩,ho,hon⟩:=numIntZ 1;rw [ho]at CJ;have HON:=zh hon;unfold NV.v at CI CJ;simp only at CI CJ;have HVR:=zh hvr;have HR0:Hid (restK S m i (ti:Rat) 0=((ti:Rat),unitQ m i)):=zh rfl;have HRS:Hid (∀k,restK S m i (ti:Rat) (k+1)=((restK S m i (ti:Rat) k).1-cellQ S.cols k i*S.part.getD k 0,lessQ (restK S m i (ti:Rat) k).2 (S.fs.getD k []) (cellQ S.cols k i))):=zh (fun _=>rfl)
 have HRL:Hid (∀k,(restK S m i (ti:Rat) k).2.length=m):=zh (fun k=>restK_len k)
 obtain⟨RK,hRK⟩:∃RK:Nat→Rat × List Rat,RK=restK S m i (ti:Rat):=⟨_,rfl⟩;rw [← hRK]at HR0 HRS HRL HO HNB;clear hRK hok hclr hbc o1 o2 o3 o4 k1 k2 k3 k4 hK hp hf hfl hfx hfq hxq hrun hrat q2 hrbl hte hti hS hY hHI hto ht htn ho hon hrm hir hr him h0 hfsl hvr;subst hpv;subst hqv;subst hfv;go_enter Tryz.func18,Tryz.ntmps18;go_wp2_with fail;refine(CI _).out.mono ?_;rintro e w1 ⟨rfl,hk1⟩;have ka:Keep NoS w1 (w1.alloc (.cells #[.bool tb,.string tS,.bool tc,.string tU] 57)):=(Keep.refl _ _).alloc _;have k1a:=hk1.both ka;have HY1:=zh (HY.out.keep hk1);have HS1:=zh (HS.out.keep hk1);have HSC5:=zh (HS1.out.fresh (Nat.le_refl _));have HH5:Hid (hi≤w1.heap.size):=zh (Nat.le_trans HHI.out hk1.size);have HY2:=zh (HY1.out.keep ka);have HS2:=zh (HS1.out.keep ka);have HB5:Hid (Blk (w1.alloc (.cells #[.bool tb,.string tS,.bool tc,.string tU] 57)) w1.heap.size #[.bool tb,.string tS,.bool tc,.string tU]):=zh (blk_at _ _ rfl);have H5L:Hid (w1.heap.size<(w1.alloc (.cells #[.bool tb,.string tS,.bool tc,.string tU] 57)).heap.size):=zh (by simp)
 go_upto_region 2 with fail
 clear ka hk1 CI y0 yl s0 sl hrk hrl HY HS HY1 HS1;generalize w1.alloc (.cells #[.bool tb,.string tS,.bool tc,.string tU] 57)=w2 at *;generalize w1.heap.size=b5 at *;obtain⟨w3,hr3,hn3,hk3⟩:=make_nums w2 m (by omega)
 obtain⟨y0,_,_,_,_,_,yl⟩:=HY2.out.y.three;rw [HVR.out]at y0;obtain⟨s0,_,_,_,_,_,_,_,sl⟩:=HS2.out.s.four;go_upto_region 3 with fail
 clear hr3 y0 yl s0 sl k1a;have HSCg:=zh (HS2.out.fresh (Nat.le_refl w2.heap.size));have HHg:Hid (hi≤w2.heap.size):=zh (Nat.le_trans HH5.out (Nat.le_of_lt H5L.out));have H5g:Hid (b5≠w2.heap.size):=zh (Nat.ne_of_lt H5L.out);have HY3:=zh (HY2.out.keep hk3);have HS3:=zh (HS2.out.keep hk3);have HB5:=zh (HB5.out.keep hk3);have HQ3:=zh hn3;clear hk3 hn3 HY2 HS2 H5L;generalize w2.heap.size=g at *;go_wp2_with fail;refine(CJ _).out.mono ?_;rintro e w4 ⟨rfl,hk4⟩;have HY4:=zh (HY3.out.keep hk4);have HS4:=zh (HS3.out.keep hk4);have HB5:=zh (HB5.out.keep hk4);have HQ4:=zh (HQ3.out.keep hk4);clear hk4 HY3 HS3 HQ3;obtain⟨_,_,_,_,g0,g1,g2,g3,_,f0,f1,f2,f3⟩:=HQ4.out.at (k:=i) (by rw [List.length_replicate];exact HIM.out)
 have gl:=HQ4.out.lt;go_upto_region 4 with fail
 have HON4:Keep (OnlyG g) w4 (q4 w4 g (i*4) ⟨ob,oS,oc,oU⟩):=q4_only (Keep.refl _ _);have HY5:=zh (HY4.out.only HON4 HHg.out H0.out);have HS5:=zh (HS4.out.only HON4 HSCg.out);have HB5:=zh (HB5.out.sameZ (q4_other (w:=w4) (o:=i*4) (x:=⟨ob,oS,oc,oU⟩) H5g.out));have HQ5:Hid (NumBlk (q4 w4 g (i*4) ⟨ob,oS,oc,oU⟩) g (unitQ m i)):=zh (by have:=HQ4.out.setQ (k:=i) (x:=⟨ob,oS,oc,oU⟩) HON.out;simpa [unitQ]using this)
 rw [show((((w4.setCell ⟨g,i*4,none⟩ (.bool ob)).setCell ⟨g,i*4+1,none⟩ (.string oS)).setCell ⟨g,i*4+2,none⟩ (.bool oc)).setCell ⟨g,i*4+3,none⟩ (.string oU))=q4 w4 g (i*4) ⟨ob,oS,oc,oU⟩from rfl]
 generalize q4 w4 g (i*4) ⟨ob,oS,oc,oU⟩=w5 at *;clear g0 g1 g2 g3 f0 f1 f2 f3 gl HON4 HY4 HS4 HQ4;obtain⟨_,s1,_,_,_,_,_,_,sl⟩:=HS5.out.s.four;go_wp2;clear s1 sl;go_loopw [41] (fun s wr=>∃(k:Nat) (y:NV),k≤Kp∧s= .int .i64 k∧YC w0 wr hi bY gc vr n L cc xs∧SS wr hi bS bY (.slice op Kp cp) (.slice oq Kp cq) (.slice of_ Kp cf) S.piv S.part fs∧Blk wr b5 #[.bool y.nb,.string y.nS,.bool y.db,.string y.dS]∧IsNum y.v (RK k).1∧NumBlk wr g (RK k).2) (fun s _=>(Kp-intOf s).toNat)
 case atStart=>exact⟨0,⟨tb,tS,tc,tU⟩,by omega,rfl,HY5.out,HS5.out,HB5.out,by rw [HR0.out];exact HTN.out,by rw [HR0.out];exact HQ5.out⟩
 case round=>
  obtain⟨k,⟨yb,yS,yc,yU⟩,hk,rfl,hy,hs,hb5,hyn,hq⟩:=hrel;have HY:=zh hy;have HS:=zh hs;have HB5:=zh hb5;have HYN:=zh hyn;have HQ:=zh hq;clear hy hs hb5 hyn hq HY5 HS5 HQ5 HTN HR0 CJ HON
  by_cases hkK:k<Kp
  case pos=>
   have hltk:(k:Int)<(Kp:Int):=by omega
   have hkn:k<n:=by omega
   have hltn:(k:Int)<(n:Int):=by omega
   obtain⟨y0,_,y2,_,_,_,yl⟩:=HY.out.y.three;obtain⟨s0,_,s2,s3,_,_,_,_,sl⟩:=HS.out.s.four;obtain⟨gx,c0,cl,gl,xb,xS,xc,xU,p0,p1,p2,p3,hx⟩:=HY.out.num hkn HIL.out;rw [HXQ.out]at hx;have HX:=zh hx;have HNX:=zh (cellQ_dl HNB.out.1 k i);have HNP:=zh (HNB.out.2.2.2.2 k hkK);have HRK:=zh (HRS.out k);have HNK:=zh (HNB.out.2.2.2.1 k (by omega))
   obtain⟨cx,hcx⟩:∃cx,cellQ S.cols k i=cx:=⟨_,rfl⟩;rw [hcx]at HRK HX HNX HNP;clear hcx hx;have ka:Keep NoS wr (wr.alloc (.cells #[.bool xb,.string xS,.bool xc,.string xU] 57)):=(Keep.refl _ _).alloc _;have HB8:Hid (Blk (wr.alloc (.cells #[.bool xb,.string xS,.bool xc,.string xU] 57)) wr.heap.size #[.bool xb,.string xS,.bool xc,.string xU]):=zh (blk_at _ _ rfl);have H8g:Hid (wr.heap.size≠g∧wr.heap.size≠b5):=zh (by have h1:=HQ.out.lt;have h2:=HB5.out.lt;constructor<;>omega)
   go_upto_region 8 with fail
   have HY1:=zh (HY.out.keep ka);have HS1:=zh (HS.out.keep ka);have HB5:=zh (HB5.out.keep ka);have HQ1:=zh (HQ.out.keep ka);clear ka y0 y2 yl s0 s2 s3 sl c0 cl gl p0 p1 p2 p3 HY HS HQ;generalize wr.alloc (.cells #[.bool xb,.string xS,.bool xc,.string xU] 57)=w1 at *;generalize wr.heap.size=b8 at *;have hkp:k<S.part.length:=by rw [HPL.out];exact hkK
   have hqn:=HS1.out.q.nums;obtain⟨bp,opp,hoq,hbp,ub,uS,uc,uU,p0,p1,p2,p3,hu⟩:=hqn.at hkp;clear hqn;have HU:=zh hu;have HNU:Hid (dl S.part[k].num≤2850∧dl (S.part[k].den:Int)≤12):=zh (HNB.out.2.1 _ (List.getElem_mem hkp));have HUE:Hid (S.part.getD k 0=S.part[k]):=zh (ratZ hkp);generalize S.part[k]=u at *;subst hoq;obtain⟨s0,_,s2,s3,_,_,_,_,sl⟩:=HS1.out.s.four;have hnp:=HNP.out.1;rw [HUE.out]at hnp;have hnm:=dl_rmul cx u;have hnx:=HNX.out;have hnu:=HNU.out;have hnk:=HNK.out.1;have CT:=fun w=>zh (exTimes_gen w _ _ HX.out _ _ HU.out (by omega))
   obtain⟨⟨vb,vS,vc,vU⟩,hv,hvn⟩:=numQ_nv (cx*u);rw [hv]at CT;have CM:=fun w=>zh (exMinus_gen w _ _ HYN.out _ _ hvn (by omega))
   clear hnp hnm hnx hnu hnk;obtain⟨⟨eb,eS,ec,eU⟩,he,hen⟩:=numQ_nv ((RK k).1-cx*u);rw [he]at CM;have HEN:Hid (IsNum (NV.v ⟨eb,eS,ec,eU⟩) (RK (k+1)).1):=zh (by rw [HRK.out,HUE.out];exact hen)
   unfold NV.v at CT CM;simp only at CT CM;clear hu hv hvn he hen;refine wp_region_by (fun w'=>Keep NoS w1 w') [11] [([0,1,2,3,4,5,6,7,8],9),([],10),([],11)] [] (by kernel_rfl) (by kernel_rfl) kp ?_
   intro X W hne hF hcl;have HCL:=zh hcl;have x0:=fun x=>((hF x).cell hbp).trans p0
   have x1:=fun x=>((hF x).cell hbp).trans p1
   have x2:=fun x=>((hF x).cell hbp).trans p2
   have x3:=fun x=>((hF x).cell hbp).trans p3
   have x4:=fun x=>((hF x).cell sl).trans s2
   have z0:=fun x=>(HB5.out.keep (hF x)).four
   have z1:=fun x=>(HB8.out.keep (hF x)).four
   clear hF hcl p0 p1 p2 p3 s0 s2 s3 sl hbp;simp only [wpPlan,pickOps,zl0,zl1,zl2,clsOf,Bool.false_eq_true,if_false]
   (repeat(go_big_quiet_step (fail)));refine wpQuiet_nil ?_
   refine wpAt rfl rfl fun K hK=> ?_
   go_simp;refine(CT _).out.mono ?_;rintro e w3 ⟨rfl,hk⟩;have k3:Keep NoS w1 w3:=Keep.trans kp hk fun _ _ _ h=>h
   refine hK _ _ ⟨fun _=>HCL.out _ k3,?_⟩
   clear hK K hk CT
   (repeat(go_big_quiet_step (fail)));refine wpQuiet_nil ?_
   refine wpAt rfl rfl fun K hK=> ?_
   go_simp;refine(CM _).out.mono ?_;rintro e w4 ⟨rfl,hk⟩;have k4:Keep NoS w1 w4:=k3.both hk;refine hK _ _ ⟨fun _=>HCL.out _ k4,?_⟩
   clear hK K hk CM k3 x0 x1 x2 x3 x4 z0 z1;have HY4:=zh (HY1.out.keep k4);have HS4:=zh (HS1.out.keep k4);have HB54:=zh (HB5.out.keep k4);have HB84:=zh (HB8.out.keep k4);have HQ4:=zh (HQ1.out.keep k4);obtain⟨r0,r1,r2,r3,f0,f1,f2,f3,rl⟩:=HB54.out.four
   (repeat(go_big_quiet_step (fail)));refine wpQuiet_nil ?_
   refine wpAt rfl rfl fun K hK=> ?_
   go_simp;refine hK _ _ ⟨fun h=>(by simp at h),?_⟩
   clear hK K;have HON4:=set4_only w4 b5 (.bool eb) (.string eS) (.bool ec) (.string eU);have HB55:=zh (HB54.out.set4 (.bool eb) (.string eS) (.bool ec) (.string eU));have HY5:=zh (HY4.out.only HON4 HH5.out H0.out);have HS5:=zh (HS4.out.only HON4 HSC5.out);have HB85:=zh (HB84.out.sameZ (HON4.sameG HB84.out.lt H8g.out.2));have HQ5:=zh (HQ4.out.sameZ (HON4.sameG HQ4.out.lt (Ne.symm H5g.out)));generalize (((w4.setCell ⟨b5,0,none⟩ (.bool eb)).setCell ⟨b5,1,none⟩ (.string eS)).setCell ⟨b5,2,none⟩ (.bool ec)).setCell ⟨b5,3,none⟩ (.string eU)=w5 at *;clear r0 r1 r2 r3 f0 f1 f2 f3 rl k4 HON4 HY4 HS4 HB54 HB84 HQ4 HY1 HS1 HB5 HB8 HQ1
   (repeat(go_big_quiet_step (fail)));refine wpQuiet_nil ?_
   refine NoPanic.normal ?_;go_upto_region 9 with fail
   have hkf:k<fs.length:=by rw [HFS.out];exact hkK
   obtain⟨gf0,cf0,hfe,_,hfl,hfc⟩:=OwnG.cells fnC_len HS5.out.f (by rintro rfl;simp at hkf)
   have hfc:=hfc k _ (List.getElem?_eq_getElem hkf) 0 _ rfl;rw [show 0+k*1+0=k by omega]at hfc
   obtain⟨hown,_⟩:=HS5.out.l _ (List.getElem_mem hkf);have hxm:=HFX.out _ (List.getElem_mem hkf);have HFE:Hid (S.fs.getD k []=(fs[k]).q):=zh (by rw [← HFQ.out,List.getD_eq_getElem?_getD,List.getElem?_map,List.getElem?_eq_getElem hkf];rfl)
   have HNF:Hid (∀q∈(fs[k]).q,dl q.num≤2850∧dl (q.den:Int)≤12):=zh (HNB.out.2.2.1 _ (by rw [← HFQ.out];exact List.mem_map_of_mem (List.getElem_mem hkf)))
   have hgne:=HSCg.out.2.2.2.2 _ (List.getElem_mem hkf);generalize fs[k]=z at *;obtain⟨zv,zq⟩:=z;simp only at hfc hown hxm HFE HNF hgne;obtain⟨gz,cz,rfl,_,hzn,hzc,hzm⟩:=hown.blk (by rintro rfl;simp at hxm;omega)
   have hgz:gz≠g:=fun e=>hgne (by rw [e];rfl)
   rw [HFS.out]at hfe
   injection hfe with hfe1 _ _
   subst hfe1;have CL:=fun w (kk:Keep NoS w5 w)=>zh (ltLess_any w g m gz cz (RK k).2 zq _ cx (HQ5.out.keep kk) (hzn.keep kk) HX.out (by rw [HRL.out,hxm]) (by rw [HRL.out];omega) (by rw [HRL.out];unfold maxLen;omega) ⟨hzc,hzm⟩ hgz (fun y hy=>by have:=HNK.out.2 y hy;omega) (fun y hy=>by have:=HNF.out y hy;have:=HNP.out.2 y (by rw [HFE.out];exact hy);have:=HNX.out;omega))
   rw [HRL.out,hxm]at CL;rw [hxm]at hfc;have HRK2:Hid (lessQ (RK k).2 zq cx=(RK (k+1)).2):=zh (by rw [HRK.out,HFE.out])
   clear hown hgne hzn hzc hzm hgz hxm HX HFE HNF;obtain⟨s0,_,s2,s3,_,_,_,_,sl⟩:=HS5.out.s.four;refine wp_region_by (fun w'=>Keep NoS w5 w') [9] [([0,1,2,3,4,5,6,7,8],9)] [] (by kernel_rfl) (by kernel_rfl) kp ?_
   intro X W hne hF hcl;have HCL:=zh hcl;have x0:=fun x=>((hF x).cell sl).trans s3
   have x1:=fun x=>((hF x).cell hfl).trans hfc
   have z1:=fun x=>(HB85.out.keep (hF x)).four
   clear hF hcl s0 s2 s3 sl hfc hfl;simp only [wpPlan,pickOps,zl0,zl1,zl2,clsOf,Bool.false_eq_true,if_false]
   (repeat(go_big_quiet_step (fail)));refine wpQuiet_nil ?_
   refine wpAt rfl rfl fun K hK=> ?_
   go_simp;have CL:=CL w5.drew ((Keep.refl _ _).drew);refine CL.out.mono ?_;rintro e w7 ⟨rfl,hnq,hko⟩;refine hK _ _ ⟨fun h=>(by simp at h),?_⟩
   clear hK K CL;have kd:Keep NoS w5 w5.drew:=(Keep.refl _ _).drew;have HY7:=zh ((HY5.out.keep kd).only hko HHg.out H0.out);have HS7:=zh ((HS5.out.keep kd).only hko HSCg.out);have HB57:=zh ((HB55.out.keep kd).sameZ (hko.sameG (HB55.out.keep kd).lt H5g.out));have HQ7:Hid (NumBlk w7 g (RK (k+1)).2):=zh (by rw [← HRK2.out];exact hnq)
   clear hnq hko kd x0 x1 z1 HY5 HS5 HB55 HQ5 HB85
   (repeat(go_big_quiet_step (fail)));refine wpQuiet_nil ?_
   refine NoPanic.normal ?_;go_wp2;go_roundw
   case rel=>exact⟨k+1,⟨eb,eS,ec,eU⟩,by omega,by go_num,HY7.out,HS7.out,HB57.out,HEN.out,HQ7.out⟩
   case measure=>simp [intOf];omega
  case neg=>
   have hltk:¬(k:Int)<(Kp:Int):=by omega
   obtain rfl:Kp=k:=by omega
   obtain⟨y0,_,y2,_,_,_,yl⟩:=HY.out.y.three;obtain⟨s0,s1,s2,s3,_,_,_,_,sl⟩:=HS.out.s.four;have HNR:=zh (HNB.out.2.2.2.1 Kp (Nat.le_refl _));have CLR:=fun w' (kk:Keep NoS wr w')=>zh (clear_any w0 w' hi bY gc vr n L cc xs (HY.out.keep kk) i Kp f HIL.out hKn hn hL (by rw [HXQ.out];exact HNB.out.1) (bb,c) (by rw [HXQ.out];exact HCLR.out))
   go_wp2_with fail;have CLR:=CLR _ kp;refine CLR.out.mono ?_;rintro e w1 ⟨rfl,⟨xs1,hy1,hx1⟩,hkm⟩;have HY1:=zh hy1;have HX1:=zh hx1;have HS1:=zh (HS.out.mid hkm);have HB51:=zh (HB5.out.sameZ (hkm.above HB5.out.lt (.inl HH5.out)));have HQ1:=zh (HQ.out.sameZ (hkm.above HQ.out.lt (.inl HHg.out)));clear hy1 hx1 hkm CLR y0 y2 yl s0 s1 s2 s3 sl HY HS HB5 HQ HCLR HRS;obtain⟨R1,hR1⟩:∃R1,(RK Kp).1=R1:=⟨_,rfl⟩;obtain⟨R2,hR2⟩:∃R2,(RK Kp).2=R2:=⟨_,rfl⟩;have HR2L:Hid (R2.length=m):=zh (by rw [← hR2];exact HRL.out Kp)
   rw [hR1]at HYN HNR HO;rw [hR2]at HQ1 HNR HO;clear hR1 hR2 HRL HNB;obtain⟨t0,t1,t2,t3,_,_,_,_,tl⟩:=HB51.out.four
   cases bb
   case false=>
    have HO1:=zh (HO.out.1 rfl);have HO2:=zh (HO.out.2.1 rfl);clear HO;have CS:=fun w=>zh (exSign_num HYN.out w)
    unfold NV.v at CS;simp only at CS
    by_cases hz:R1=0
    case pos=>
     have e0:=num_zero_of hz;rw [e0]at CS;have HOO:=zh (HO1.out hz);clear e0 hz HO1 HO2;go_wp2_with fail;refine(CS _).out.mono ?_;rintro e w2 ⟨rfl,hk⟩;have HY2:=zh (HY1.out.keep hk);have HS2:=zh (HS1.out.keep hk);clear hk CS t0 t1 t2 t3 tl HY1 HS1 HB51 HQ1;go_wp2;go_ret;exact⟨_,rfl,HY2.out.k,fun l hl=>(by rw [HOO.out]at hl;cases hl),fun _=>⟨rfl,xs1,_,_,_,fs,HY2.out,by rw [HOO.out];exact HS2.out,by rw [HOO.out];exact HX1.out,by rw [HOO.out];exact HFQ.out⟩⟩
    case neg=>
     have e0:=num_sign_ne hz;have e1:(R1.num.sign==0)=false:=by rw [beq_eq_false_iff_ne];exact e0
     have HOO:=zh (HO2.out hz);have HNZ:Hid (R1+R1≠0):=zh (fun e=>hz (by grind))
     clear e0 hz HO1 HO2;go_wp2_with fail;refine(CS _).out.mono ?_;rintro e w2 ⟨rfl,hk⟩;have HY2:=zh (HY1.out.keep hk);have HB52:=zh (HB51.out.keep hk);have HQ2:=zh (HQ1.out.keep hk);clear hk CS t0 t1 t2 t3 tl HY1 HS1 HB51 HQ1;go_upto_region 15 with fail
     have CJ:=fun w=>zh (exInt_any w 1 (by omega) (by omega))
     obtain⟨⟨ob,oS,oc,oU⟩,ho,hon⟩:=numIntZ 1;rw [ho]at CJ;have hnr:=HNR.out.1;have CP:=fun w=>zh (exPlus_gen w _ _ HYN.out _ _ HYN.out (by omega))
     obtain⟨⟨pb,pS,pc,pU⟩,hp,hpn⟩:=numQ_nv (R1+R1);rw [hp]at CP;have hon:IsNum (NV.v ⟨ob,oS,oc,oU⟩) (1:Rat):=hon;have nP:=dl_radd (a:=R1) (b:=R1) (k:=2862) (l:=24) (by omega) (by omega) (by omega)
     have n1:=nb_one.1;have n2:=nb_one.2;have nV:=dl_rdiv (a:=1) HNZ.out;have CO:=fun w=>zh (exOver_gen w _ _ hon _ _ hpn (by omega) HNZ.out)
     obtain⟨⟨vb,vS,vc,vU⟩,hv,hvn⟩:=numQ_nv (1/(R1+R1));rw [hv]at CO;have CA:=fun w' (kk:Keep NoS w2 w')=>zh (scaled_any w' (.slice (some ⟨g,0,none⟩) m m) _ R2 _ ((HQ2.out.keep kk).nums HR2L.out.symm (by rw [HR2L.out];exact Nat.le_refl _) (by unfold maxLen;omega)) hvn (fun x hx=>by have:=HNR.out.2 x hx;omega) (by rw [HR2L.out];omega))
     clear hnr nP n1 n2 nV;unfold NV.v at CJ CP CO CA;simp only at CJ CP CO CA;clear ho hon hp hpn hv hvn;refine wp_region_by (fun w'=>Keep NoS w2 w') [] [([0,2,3],1),([],4),([],5),([],6)] [7] (by kernel_rfl) (by kernel_rfl) kp ?_
     intro X W hne hF hcl;have HCL:=zh hcl;have z0:=fun x=>(HB52.out.keep (hF x)).four
     clear hF hcl;simp only [wpPlan,pickOps,zl0,zl1,zl2,clsOf,Bool.false_eq_true,if_false]
     (repeat(go_big_quiet_step (fail)));refine wpQuiet_nil ?_
     refine wpAt rfl rfl fun K hK=> ?_
     go_simp;refine(CJ _).out.mono ?_;rintro e w3 ⟨rfl,hk⟩;have k3:Keep NoS w2 w3:=Keep.trans kp hk fun _ _ _ h=>h
     refine hK _ _ ⟨fun _=>HCL.out _ k3,?_⟩
     clear hK K hk CJ
     (repeat(go_big_quiet_step (fail)));refine wpQuiet_nil ?_
     refine wpAt rfl rfl fun K hK=> ?_
     go_simp;refine(CP _).out.mono ?_;rintro e w4 ⟨rfl,hk⟩;have k4:Keep NoS w2 w4:=k3.both hk;refine hK _ _ ⟨fun _=>HCL.out _ k4,?_⟩
     clear hK K hk CP
     (repeat(go_big_quiet_step (fail)));refine wpQuiet_nil ?_
     refine wpAt rfl rfl fun K hK=> ?_
     go_simp;refine(CO _).out.mono ?_;rintro e w5 ⟨rfl,hk⟩;have k5:Keep NoS w2 w5:=k4.both hk;refine hK _ _ ⟨fun _=>HCL.out _ k5,?_⟩
     clear hK K hk CO;have CA:=CA w5 k5;have HH9:=zh (Nat.le_trans HY2.out.hw k5.size)
     (repeat(go_big_quiet_step (fail)));refine wpQuiet_nil ?_
     refine wpAt rfl rfl fun K hK=> ?_
     go_simp;refine CA.out.mono ?_;rintro e w6 ⟨u,rfl,hu,hk⟩;have k6:Keep NoS w2 w6:=k5.both hk;refine hK _ _ ⟨fun _=>HCL.out _ k6,?_⟩
     clear hK K hk CA;have HU:=zh (hu.lower HH9.out);have K6:=zh (HY2.out.k.both k6);clear hu k3 k4 k5 k6 z0
     (repeat(go_big_quiet_step (fail)));refine wpQuiet_nil ?_
     refine NoPanic.normal ?_;go_wp2;go_ret;exact⟨_,rfl,K6.out,fun l hl=>(by
      rw [HOO.out]at hl
      cases hl
      exact⟨HU.out,by rw [List.length_map];exact HR2L.out⟩),fun h=>(by rw [HOO.out]at h;cases h)⟩
   case true=>
    have HO3:=zh (HO.out.2.2.1 rfl);have HO4:=zh (HO.out.2.2.2 rfl);clear HO t0 t1 t2 t3 tl;have HCN:=zh (HCNE.out rfl);have hkn:Kp<n:=by
     rcases Nat.lt_or_ge Kp n with h | h
     ·exact h
     ·exfalso
      apply HCN.out
      unfold cellQ;rw [List.getD_eq_getElem?_getD (l:=c),List.getElem?_eq_none (by rw [← HX1.out,List.length_map,HY1.out.xl];exact h)]
      rfl
    have hltn:(Kp:Int)<(n:Int):=by omega
    obtain⟨y0,_,y2,_,_,_,yl⟩:=HY1.out.y.three;obtain⟨gx,c0,cl,gl,xb,xS,xc,xU,p0,p1,p2,p3,hx⟩:=HY1.out.num hkn HIL.out;rw [HX1.out]at hx;have HX:=zh hx;have HNX:=zh (cellQ_dl HBC.out Kp i);obtain⟨cx,hcx⟩:∃cx,cellQ c Kp i=cx:=⟨_,rfl⟩;rw [hcx]at HX HNX HCN HO3 HO4;clear hcx hx HCNE HBC;obtain⟨s0,s1,s2,s3,_,_,_,_,sl⟩:=HS1.out.s.four;have CJ:=fun w=>zh (exInt_any w 1 (by omega) (by omega))
    obtain⟨⟨ob,oS,oc,oU⟩,ho,hon⟩:=numIntZ 1;rw [ho]at CJ;have hon:IsNum (NV.v ⟨ob,oS,oc,oU⟩) (1:Rat):=hon;have CO:=fun w=>zh (exOver_gen w _ _ hon _ _ HX.out (by have:=nb_one.1;have:=nb_one.2;have:=HNX.out;omega) HCN.out)
    obtain⟨⟨vb,vS,vc,vU⟩,hv,hvn⟩:=numQ_nv (1/cx);rw [hv]at CO;have HVN:=zh hvn;have HNV:Hid (dl (1/cx).num≤2∧dl ((1/cx).den:Int)≤1501):=zh (by have:=dl_rdiv (a:=1) HCN.out;have:=nb_one.1;have:=nb_one.2;have:=HNX.out;omega)
    unfold NV.v at CJ CO;simp only at CJ CO;clear ho hon hv hvn;have HF1:=zh (And.intro y0 (And.intro y2 (And.intro yl (And.intro c0 (And.intro cl (And.intro gl (And.intro p0 (And.intro p1 (And.intro p2 (And.intro p3 (And.intro s0 sl)))))))))));clear y0 y2 yl c0 cl gl p0 p1 p2 p3 s0 s1 s2 s3 sl;go_upto_region 16 with fail
    refine wp_region_rel (fun S σ w'=>Keep NoS w1 w') (pst16 w1.heap.size (Value.agg #[.bool ob,.string oS,.bool oc,.string oU]) (Value.pointer (some ⟨bS,0,none⟩)) (Value.pointer (some ⟨bY,0,none⟩)) (Value.pointer (some ⟨bY,2,none⟩)) (Value.slice (some ⟨gc,0,none⟩) n cc) (Kp:Int) (Value.pointer (some ⟨gc,Kp,none⟩)) (Value.slice (some ⟨gx,0,none⟩) L L) (i:Int) (Value.pointer (some ⟨gx,i*4,none⟩)) (Value.agg #[.bool xb,.string xS,.bool xc,.string xU]) #[.bool vb,.string vS,.bool vc,.string vU]) (by kernel_rfl) (by kernel_rfl) (by kernel_rfl) (by kernel_rfl) (fun S σ hS=>by exact kp) _ (fun σ=>by
     show putAll _ σ [0,1,2,3,4,5,6,7,8,9,10,11,12,13,14,15,16] _=_;simp only [putAll,zl0,zl1,zl2,Act.put,List.setIfInBounds_toArray,List.set_cons_zero,List.set_cons_succ];rfl) ?_ ?_
    ·intro S16 σ w2 hC hall e he HK
     have he:e<17:=he;have hC:Keep NoS w1 w2:=hC;obtain rfl | rfl | rfl | rfl | rfl | rfl | rfl | rfl | rfl | rfl | rfl | rfl | rfl | rfl | rfl | rfl | rfl:e=0∨e=1∨e=2∨e=3∨e=4∨e=5∨e=6∨e=7∨e=8∨e=9∨e=10∨e=11∨e=12∨e=13∨e=14∨e=15∨e=16:=by omega
     ·refine wpAt rfl rfl fun K hK=> ?_
      go_simp;refine(CJ _).out.mono ?_;rintro e w3 ⟨rfl,hk2⟩;exact hK _ _ ⟨_,hC.both hk2,fun d hd hs h=>pst16_keep (by decide) (hk2) d _ h,rfl,rfl⟩
     ·refine wpAt rfl rfl fun K hK=> ?_
      go_simp;exact hK _ _ ⟨_,hC,fun d hd hs h=>pst16_keep (by decide) (Keep.refl _ _) d _ h,rfl,rfl⟩
     ·have h1:σ 1=Value.pointer (some ⟨bS,0,none⟩):=HK.post 1 (by kernel_rfl)
      rw [h1];refine wpAt rfl rfl fun K hK=> ?_
      go_simp;exact hK _ _ ⟨_,hC,fun d hd hs h=>pst16_keep (by decide) (Keep.refl _ _) d _ h,rfl,rfl⟩
     ·have h2:σ 2=Value.pointer (some ⟨bS,0,none⟩):=HK.post 2 (by kernel_rfl)
      rw [h2];refine wpAt rfl rfl fun K hK=> ?_
      go_simp;exact hK _ _ ⟨_,hC,fun d hd hs h=>pst16_keep (by decide) (Keep.refl _ _) d _ h,rfl,rfl⟩
     ·have h3:σ 3=Value.pointer (some ⟨bS,0,none⟩):=HK.post 3 (by kernel_rfl)
      rw [h3];have m0:=(hC.cell HF1.out.2.2.2.2.2.2.2.2.2.2.2).trans HF1.out.2.2.2.2.2.2.2.2.2.2.1;refine wpAt rfl rfl fun K hK=> ?_
      go_simp;exact hK _ _ ⟨_,hC,fun d hd hs h=>pst16_keep (by decide) (Keep.refl _ _) d _ h,rfl,rfl⟩
     ·have h4:σ 4=Value.pointer (some ⟨bY,0,none⟩):=HK.post 4 (by kernel_rfl)
      rw [h4];refine wpAt rfl rfl fun K hK=> ?_
      go_simp;exact hK _ _ ⟨_,hC,fun d hd hs h=>pst16_keep (by decide) (Keep.refl _ _) d _ h,rfl,rfl⟩
     ·have h5:σ 5=Value.pointer (some ⟨bY,0,none⟩):=HK.post 5 (by kernel_rfl)
      rw [h5];refine wpAt rfl rfl fun K hK=> ?_
      go_simp;exact hK _ _ ⟨_,hC,fun d hd hs h=>pst16_keep (by decide) (Keep.refl _ _) d _ h,rfl,rfl⟩
     ·have h6:σ 6=Value.pointer (some ⟨bY,2,none⟩):=HK.post 6 (by kernel_rfl)
      rw [h6];have m0:=(hC.cell HF1.out.2.2.1).trans HF1.out.2.1;refine wpAt rfl rfl fun K hK=> ?_
      go_simp;exact hK _ _ ⟨_,hC,fun d hd hs h=>pst16_keep (by decide) (Keep.refl _ _) d _ h,rfl,rfl⟩
     ·refine wpAt rfl rfl fun K hK=> ?_
      go_simp;exact hK _ _ ⟨_,hC,fun d hd hs h=>pst16_keep (by decide) (Keep.refl _ _) d _ h,rfl,rfl⟩
     ·have h7:σ 7=Value.slice (some ⟨gc,0,none⟩) n cc:=HK.post 7 (by kernel_rfl)
      rw [h7];have h8:σ 8=Value.int .i64 (Kp:Int):=HK.post 8 (by kernel_rfl)
      rw [h8];refine wpAt rfl rfl fun K hK=> ?_
      go_simp;exact hK _ _ ⟨_,hC,fun d hd hs h=>pst16_keep (by decide) (Keep.refl _ _) d _ h,rfl,rfl⟩
     ·have h9:σ 9=Value.pointer (some ⟨gc,Kp,none⟩):=HK.post 9 (by kernel_rfl)
      rw [h9];have m0:=(hC.cell HF1.out.2.2.2.2.1).trans HF1.out.2.2.2.1;refine wpAt rfl rfl fun K hK=> ?_
      go_simp;exact hK _ _ ⟨_,hC,fun d hd hs h=>pst16_keep (by decide) (Keep.refl _ _) d _ h,rfl,rfl⟩
     ·refine wpAt rfl rfl fun K hK=> ?_
      go_simp;exact hK _ _ ⟨_,hC,fun d hd hs h=>pst16_keep (by decide) (Keep.refl _ _) d _ h,rfl,rfl⟩
     ·have h10:σ 10=Value.slice (some ⟨gx,0,none⟩) L L:=HK.post 10 (by kernel_rfl)
      rw [h10];have h11:σ 11=Value.int .i64 (i:Int):=HK.post 11 (by kernel_rfl)
      rw [h11];refine wpAt rfl rfl fun K hK=> ?_
      go_simp;exact hK _ _ ⟨_,hC,fun d hd hs h=>pst16_keep (by decide) (Keep.refl _ _) d _ h,rfl,rfl⟩
     ·have h12:σ 12=Value.pointer (some ⟨gx,i*4,none⟩):=HK.post 12 (by kernel_rfl)
      rw [h12];have m0:=(hC.cell HF1.out.2.2.2.2.2.1).trans HF1.out.2.2.2.2.2.2.1;have m1:=(hC.cell HF1.out.2.2.2.2.2.1).trans HF1.out.2.2.2.2.2.2.2.1;have m2:=(hC.cell HF1.out.2.2.2.2.2.1).trans HF1.out.2.2.2.2.2.2.2.2.1;have m3:=(hC.cell HF1.out.2.2.2.2.2.1).trans HF1.out.2.2.2.2.2.2.2.2.2.1;refine wpAt rfl rfl fun K hK=> ?_
      go_simp;exact hK _ _ ⟨_,hC,fun d hd hs h=>pst16_keep (by decide) (Keep.refl _ _) d _ h,rfl,rfl⟩
     ·have h0:σ 0=Value.agg #[.bool ob,.string oS,.bool oc,.string oU]:=HK.post 0 (by kernel_rfl)
      rw [h0];have h13:σ 13=Value.agg #[.bool xb,.string xS,.bool xc,.string xU]:=HK.post 13 (by kernel_rfl)
      rw [h13];refine wpAt rfl rfl fun K hK=> ?_
      go_simp;refine(CO _).out.mono ?_;rintro e w3 ⟨rfl,hk2⟩;exact hK _ _ ⟨_,hC.both hk2,fun d hd hs h=>pst16_keep (by decide) (hk2) d _ h,rfl,rfl⟩
     ·refine wpAt rfl rfl fun K hK=> ?_
      go_simp;exact hK _ _ ⟨_,hC.alloc _,fun d hd hs h=>pst16_keep (by decide) ((Keep.refl _ _).alloc _) d _ h,rfl,⟨w2.heap.size,rfl,hC.size,by simp,fun _=>blk_at _ _ rfl,fun hm=>by rw [markZ_other (by omega),HK.down 16 (by kernel_rfl)]at hm;cases hm⟩⟩
     ·have h14:σ 14=Value.agg #[.bool vb,.string vS,.bool vc,.string vU]:=HK.post 14 (by kernel_rfl)
      rw [h14];obtain⟨b7,e0,hg7,_,hz7,_⟩:=(show ZCell (S16 16) w1.heap.size (σ 15) w2 #[.bool false,.string ⟨#[]⟩,.bool false,.string ⟨#[]⟩] #[.bool vb,.string vS,.bool vc,.string vU]from HK.post 15 (by kernel_rfl))
      have hz7:=hz7 HK.self;rw [e0];obtain⟨r0,r1,r2,r3,f0,f1,f2,f3,rl⟩:=hz7.four;refine wpAt rfl rfl fun K hK=> ?_
      go_simp;exact hK _ _ ⟨undef,keep_set4 hC hg7 _ _ _ _,pst16_s (w:=w2) e0 hg7 (hz7.set4 _ _ _ _),rfl,trivial⟩
    ·intro S16 σ w2 hC hS16 hP
     have hC:Keep NoS w1 w2:=hC;obtain⟨b10,e15,hg10,_,_,hb10⟩:=(show ZCell (S16 16) w1.heap.size (σ 15) w2 #[.bool false,.string ⟨#[]⟩,.bool false,.string ⟨#[]⟩] #[.bool vb,.string vS,.bool vc,.string vU]from hP 15 (by decide))
     have HB10:=zh (hb10 (hS16 16 (by decide)))
     rw [e15];have h0:σ 0=Value.agg #[.bool ob,.string oS,.bool oc,.string oU]:=hP 0 (by decide)
     have h1:σ 1=Value.pointer (some ⟨bS,0,none⟩):=hP 1 (by decide)
     have h2:σ 2=Value.pointer (some ⟨bS,0,none⟩):=hP 2 (by decide)
     have h3:σ 3=Value.pointer (some ⟨bS,0,none⟩):=hP 3 (by decide)
     have h4:σ 4=Value.pointer (some ⟨bY,0,none⟩):=hP 4 (by decide)
     have h5:σ 5=Value.pointer (some ⟨bY,0,none⟩):=hP 5 (by decide)
     have h6:σ 6=Value.pointer (some ⟨bY,2,none⟩):=hP 6 (by decide)
     have h7:σ 7=Value.slice (some ⟨gc,0,none⟩) n cc:=hP 7 (by decide)
     have h8:σ 8=Value.int .i64 (Kp:Int):=hP 8 (by decide)
     have h9:σ 9=Value.pointer (some ⟨gc,Kp,none⟩):=hP 9 (by decide)
     have h10:σ 10=Value.slice (some ⟨gx,0,none⟩) L L:=hP 10 (by decide)
     have h11:σ 11=Value.int .i64 (i:Int):=hP 11 (by decide)
     have h12:σ 12=Value.pointer (some ⟨gx,i*4,none⟩):=hP 12 (by decide)
     have h13:σ 13=Value.agg #[.bool xb,.string xS,.bool xc,.string xU]:=hP 13 (by decide)
     have h14:σ 14=Value.agg #[.bool vb,.string vS,.bool vc,.string vU]:=hP 14 (by decide)
     rw [h0,h1,h2,h3,h4,h5,h6,h7,h8,h9,h10,h11,h12,h13,h14];clear h0 h1 h2 h3 h4 h5 h6 h7 h8 h9 h10 h11 h12 h13 h14;have HY2:=zh (HY1.out.keep hC);have HS2:=zh (HS1.out.keep hC);have HB52:=zh (HB51.out.keep hC);have HQ2:=zh (HQ1.out.keep hC);have H10:Hid (b10≠b5):=zh (by have:=HB51.out.lt;omega)
     clear hP hS16 hC e15 hg10 hb10 HF1 CJ CO HY1 HS1 HB51 HQ1;refine NoPanic.normal ?_;go_upto_region 17 with fail
     have CT:=fun w=>zh (exTimes_gen w _ _ HYN.out _ _ HVN.out (by have:=HNR.out.1;have:=HNV.out;omega))
     obtain⟨⟨eb,eS,ec,eU⟩,he,hen⟩:=numQ_nv (R1*(1/cx));rw [he]at CT;have HEN:=zh hen;have HNE:Hid (NB 4000 (R1*(1/cx))):=zh (by have:=dl_rmul R1 (1/cx);have:=HNR.out.1;have:=HNV.out;exact⟨by omega,by omega⟩)
     have CA:=fun w' (kk:Keep NoS w2 w')=>zh (scaled_any w' (.slice (some ⟨g,0,none⟩) m m) _ R2 _ ((HQ2.out.keep kk).nums HR2L.out.symm (by rw [HR2L.out];exact Nat.le_refl _) (by unfold maxLen;omega)) HVN.out (fun x hx=>by have:=HNR.out.2 x hx;have:=HNV.out;omega) (by rw [HR2L.out];omega))
     unfold NV.v at CT CA;simp only at CT CA;clear he hen;refine wp_region_by (fun w'=>Keep NoS w2 w') [6,7] [([0,1,3,4],2),([],5),([],6)] [7] (by kernel_rfl) (by kernel_rfl) kp ?_
     intro X W hne hF hcl;have HCL:=zh hcl;have z0:=fun x=>(HB52.out.keep (hF x)).four
     have z1:=fun x=>(HB10.out.keep (hF x)).four
     clear hF hcl;simp only [wpPlan,pickOps,zl0,zl1,zl2,clsOf,Bool.false_eq_true,if_false]
     (repeat(go_big_quiet_step (fail)));refine wpQuiet_nil ?_
     refine wpAt rfl rfl fun K hK=> ?_
     go_simp;refine(CT _).out.mono ?_;rintro e w3 ⟨rfl,hk⟩;have k3:Keep NoS w2 w3:=Keep.trans kp hk fun _ _ _ h=>h
     refine hK _ _ ⟨fun _=>HCL.out _ k3,?_⟩
     clear hK K hk CT;have CA:=CA w3 k3
     (repeat(go_big_quiet_step (fail)));refine wpQuiet_nil ?_
     refine wpAt rfl rfl fun K hK=> ?_
     go_simp;refine CA.out.mono ?_;rintro e w4 ⟨uv,rfl,hu,hk⟩;have k4:Keep NoS w2 w4:=k3.both hk;refine hK _ _ ⟨fun _=>HCL.out _ k4,?_⟩
     clear hK K hk CA z0 z1;obtain⟨gu,cu,huv,hgu,hub,huc,hum⟩:=hu.blk (by
      intro e;have:=congrArg List.length e;rw [List.length_map,HR2L.out]at this;simp at this;omega)
     rw [List.length_map,HR2L.out]at huv;subst huv;have HGU:Hid (w2.heap.size≤gu):=zh (Nat.le_trans k3.size hgu);have HCU:=zh (HS2.out.fresh HGU.out);have H5U:Hid (gu≠b5):=zh (by have:=HB52.out.lt;have:=HGU.out;omega)
     have HU4:=zh (OwnN.lower hu (Nat.le_trans HY2.out.hw k3.size));have HY4:=zh (HY2.out.keep k4);have HS4:=zh (HS2.out.keep k4);have HB54:=zh (HB52.out.keep k4);clear hu hub hgu k3 HB10 HY2 HS2 HB52 HQ2;obtain⟨r0,r1,r2,r3,f0,f1,f2,f3,rl⟩:=HB54.out.four
     (repeat(go_big_quiet_step (fail)));refine wpQuiet_nil ?_
     refine wpAt rfl rfl fun K hK=> ?_
     go_simp;refine hK _ _ ⟨fun h=>(by simp at h),?_⟩
     clear hK K;have HON4:=set4_only w4 b5 (.bool eb) (.string eS) (.bool ec) (.string eU);have HB55:=zh (HB54.out.set4 (.bool eb) (.string eS) (.bool ec) (.string eU));have HY5:=zh (HY4.out.only HON4 HH5.out H0.out);have HS5:=zh (HS4.out.only HON4 HSC5.out);have HU5:=zh (HU4.out.sameZ fun k hk=>HON4.sameG (HU4.out.ltZ k hk) fun e=>H5U.out (by subst e;exact Option.some.inj hk))
     generalize (((w4.setCell ⟨b5,0,none⟩ (.bool eb)).setCell ⟨b5,1,none⟩ (.string eS)).setCell ⟨b5,2,none⟩ (.bool ec)).setCell ⟨b5,3,none⟩ (.string eU)=w5 at *;clear r0 r1 r2 r3 f0 f1 f2 f3 rl k4 HON4 HY4 HS4 HB54 HU4
     (repeat(go_big_quiet_step (fail)));refine wpQuiet_nil ?_
     refine NoPanic.normal ?_;have CW:=fun w=>zh (exWhole_gen w _ _ HEN.out HNE.out)
     unfold NV.v at CW;simp only at CW;obtain⟨t0,t1,t2,t3,_,_,_,_,tl⟩:=HB55.out.four
     by_cases hd:(R1*(1/cx)).den=1
     case neg=>
      rw [decide_eq_false hd]at CW;have HOO:=zh (HO4.out hd);clear hd HO3 HO4;go_wp2_with fail;refine(CW _).out.mono ?_;rintro e w6 ⟨rfl,hk⟩;have HY6:=zh (HY5.out.keep hk);have HU6:=zh (HU5.out.keep hk);clear hk CW t0 t1 t2 t3 tl;go_wp2;go_ret;exact⟨_,rfl,HY6.out.k,fun l hl=>(by
       rw [HOO.out]at hl
       cases hl
       exact⟨HU6.out,by rw [List.length_map];exact HR2L.out⟩),fun h=>(by rw [HOO.out]at h;cases h)⟩
     case pos=>
      rw [decide_eq_true hd]at CW;have HOO:=zh (HO3.out hd);clear hd HO3 HO4;go_wp2_with fail;refine(CW _).out.mono ?_;rintro e w6 ⟨rfl,hk⟩;have HY6:=zh (HY5.out.keep hk);have HS6:=zh (HS5.out.keep hk);have HU6:=zh (HU5.out.keep hk);have HB56:=zh (HB55.out.keep hk);clear hk CW t0 t1 t2 t3 tl HY5 HS5 HU5 HB55;go_upto_region 20 with fail
      have HKE:=HK0;refine wp_region_rel (fun S20 σ w'=>C20 w6 hi bS bY b5 (.slice op Kp cp) (.slice oq Kp cq) (.slice of_ Kp cf) S.piv S.part fs ⟨(.slice (some ⟨gu,0,none⟩) m cu),R2.map (· *(1/cx))⟩ (i:Int) (R1*(1/cx)) #[.bool eb,.string eS,.bool ec,.string eU] S20 σ w') (pst20 bS (.slice op Kp cp) (.slice oq Kp cq) (.slice of_ Kp cf) (.slice (some ⟨gu,0,none⟩) m cu) (i:Int) #[.bool eb,.string eS,.bool ec,.string eU]) (by kernel_rfl) (by kernel_rfl) (by kernel_rfl) (by kernel_rfl) (fun S20 σ hS=>C20_init hS (Below.refl _ _).drew (HS6.out.keep ((Keep.refl _ _).drew)) ⟨HU6.out.keep ((Keep.refl _ _).drew),fun e=>HCU.out.1 (Option.some.inj e),fun k h1 h2=>HCU.out.2.1 (by cases h2;exact h1),fun k h1 h2=>HCU.out.2.2.1 (by cases h2;exact h1),fun k h1 h2=>HCU.out.2.2.2.1 (by cases h2;exact h1)⟩ ⟨HB56.out.keep ((Keep.refl _ _).drew),HSC5.out.1,HSC5.out.2.1,HSC5.out.2.2.1,HSC5.out.2.2.2.1⟩) _ (fun σ=>by
       show putAll _ σ [0,1,2,3,4,5,6,7,8,9,10,11,12,13,14,15,16,17,18,19,20,21,22,23,24,25,26,27,28,29,30,31,32] _=_;simp only [putAll,zl0,zl1,zl2,Act.put,List.setIfInBounds_toArray,List.set_cons_zero,List.set_cons_succ];rfl) ?_ ?_
      ·intro S20 σ w2 hC hall e he HK
       have he:e<33:=he;obtain rfl | rfl | rfl | rfl | rfl | rfl | rfl | rfl | rfl | rfl | rfl | rfl | rfl | rfl | rfl | rfl | rfl | rfl | rfl | rfl | rfl | rfl | rfl | rfl | rfl | rfl | rfl | rfl | rfl | rfl | rfl | rfl | rfl:e=0∨e=1∨e=2∨e=3∨e=4∨e=5∨e=6∨e=7∨e=8∨e=9∨e=10∨e=11∨e=12∨e=13∨e=14∨e=15∨e=16∨e=17∨e=18∨e=19∨e=20∨e=21∨e=22∨e=23∨e=24∨e=25∨e=26∨e=27∨e=28∨e=29∨e=30∨e=31∨e=32:=by omega
       ·refine wpAt rfl rfl fun K hK=> ?_
        go_simp;exact hK _ _ ⟨_,C20_q (by decide) hC,fun d hd hs h=>pst20_any d _ h,rfl,rfl⟩
       ·refine wpAt rfl rfl fun K hK=> ?_
        go_simp;exact hK _ _ ⟨_,C20_q (by decide) hC,fun d hd hs h=>pst20_any d _ h,rfl,rfl⟩
       ·refine wpAt rfl rfl fun K hK=> ?_
        go_simp;exact hK _ _ ⟨_,C20_q (by decide) hC,fun d hd hs h=>pst20_any d _ h,rfl,rfl⟩
       ·refine wpAt rfl rfl fun K hK=> ?_
        go_simp;exact hK _ _ ⟨_,C20_q (by decide) hC,fun d hd hs h=>pst20_any d _ h,rfl,rfl⟩
       ·have h3:σ 3=Value.pointer (some ⟨bS,0,none⟩):=HK.post 3 (by kernel_rfl)
        rw [h3];refine wpAt rfl rfl fun K hK=> ?_
        go_simp;exact hK _ _ ⟨_,C20_q (by decide) hC,fun d hd hs h=>pst20_any d _ h,rfl,rfl⟩
       ·have h4:σ 4=Value.pointer (some ⟨bS,0,none⟩):=HK.post 4 (by kernel_rfl)
        rw [h4];refine wpAt rfl rfl fun K hK=> ?_
        go_simp;exact hK _ _ ⟨_,C20_q (by decide) hC,fun d hd hs h=>pst20_any d _ h,rfl,rfl⟩
       ·have h5:σ 5=Value.pointer (some ⟨bS,1,none⟩):=HK.post 5 (by kernel_rfl)
        rw [h5];have hb:=C20_s hC;rw [HK.down 26 (by kernel_rfl)]at hb
        simp only [Bool.false_eq_true,if_false]at hb;obtain⟨m0,m1,m2,m3,_,_,_,_,ml⟩:=hb.four;clear hb m2 m3;refine wpAt rfl rfl fun K hK=> ?_
        go_simp;exact hK _ _ ⟨_,C20_q (by decide) hC,fun d hd hs h=>pst20_any d _ h,rfl,rfl⟩
       ·refine wpAt rfl rfl fun K hK=> ?_
        go_simp;exact hK _ _ ⟨_,C20_q (by decide) hC,fun d hd hs h=>pst20_any d _ h,rfl,rfl⟩
       ·have h7:σ 7=Value.int .i64 (i:Int):=HK.post 7 (by kernel_rfl)
        rw [h7];refine wpAt rfl rfl fun K hK=> ?_
        go_simp;exact hK _ _ ⟨_,C20_8 hC (HK.down 9 (by kernel_rfl)) _,fun d hd hs h=>pst20_any d _ h,rfl,trivial⟩
       ·obtain ⟨bb,e8,hbb⟩:=C20_t8 hC (HK.up 8 (by kernel_rfl)) HK.self
        have hown:=C20_p hC;have hself:=HK.self;rw [hself]at hown;simp only [Bool.false_eq_true,if_false]at hown;have h6:σ 6=Value.slice op Kp cp:=HK.post 6 (by kernel_rfl)
        rw [h6,e8];obtain⟨v',w3,hr,ho,hg,hv⟩:=app_intZ hown hbb (by rw [HKE.out];omega) (C20_h hC)
        refine wpAt rfl rfl fun K hK=> ?_
        refine wp_app_run _ _ 24 _ _ rfl rfl rfl hr ?_;exact hK _ _ ⟨_,C20_9 hC hself (HK.down 26 (by kernel_rfl)) ho hg hv,fun d hd hs h=>pst20_any d _ h,rfl,trivial⟩
       ·refine wpAt rfl rfl fun K hK=> ?_
        go_simp;exact hK _ _ ⟨_,C20_q (by decide) hC,fun d hd hs h=>pst20_any d _ h,rfl,rfl⟩
       ·have h10:σ 10=Value.pointer (some ⟨bS,0,none⟩):=HK.post 10 (by kernel_rfl)
        rw [h10];refine wpAt rfl rfl fun K hK=> ?_
        go_simp;exact hK _ _ ⟨_,C20_q (by decide) hC,fun d hd hs h=>pst20_any d _ h,rfl,rfl⟩
       ·have h11:σ 11=Value.pointer (some ⟨bS,0,none⟩):=HK.post 11 (by kernel_rfl)
        rw [h11];refine wpAt rfl rfl fun K hK=> ?_
        go_simp;exact hK _ _ ⟨_,C20_q (by decide) hC,fun d hd hs h=>pst20_any d _ h,rfl,rfl⟩
       ·have h12:σ 12=Value.pointer (some ⟨bS,2,none⟩):=HK.post 12 (by kernel_rfl)
        rw [h12];have hb:=C20_s hC;rw [HK.down 29 (by kernel_rfl)]at hb
        simp only [Bool.false_eq_true,if_false]at hb;obtain⟨m0,m1,m2,m3,_,_,_,_,ml⟩:=hb.four;clear hb m1 m3;refine wpAt rfl rfl fun K hK=> ?_
        go_simp;exact hK _ _ ⟨_,C20_q (by decide) hC,fun d hd hs h=>pst20_any d _ h,rfl,rfl⟩
       ·obtain ⟨m0,m1,m2,m3,_,_,_,_,ml⟩:=(C20_b hC).four
        refine wpAt rfl rfl fun K hK=> ?_
        go_simp;exact hK _ _ ⟨_,C20_q (by decide) hC,fun d hd hs h=>pst20_any d _ h,rfl,rfl⟩
       ·have h14:σ 14=Value.agg #[.bool eb,.string eS,.bool ec,.string eU]:=HK.post 14 (by kernel_rfl)
        rw [h14];refine wpAt rfl rfl fun K hK=> ?_
        go_simp;exact hK _ _ ⟨_,C20_15 hC (HK.down 16 (by kernel_rfl)) _,fun d hd hs h=>pst20_any d _ h,rfl,trivial⟩
       ·obtain ⟨bb,e15,hbb⟩:=C20_t15 hC (HK.up 15 (by kernel_rfl)) HK.self
        have hown:=C20_n hC;have hself:=HK.self;rw [hself]at hown;simp only [Bool.false_eq_true,if_false]at hown;have h13:σ 13=Value.slice oq Kp cq:=HK.post 13 (by kernel_rfl)
        rw [h13,e15];obtain⟨v',w3,hr,ho,hg,hv⟩:=app_numZ (x:=⟨eb,eS,ec,eU⟩) hown hbb HEN.out (by rw [HPL.out];omega) (C20_h hC)
        refine wpAt rfl rfl fun K hK=> ?_
        refine wp_app_run _ _ 49 _ _ rfl rfl rfl hr ?_;exact hK _ _ ⟨_,C20_16 hC hself (HK.down 29 (by kernel_rfl)) ho hg hv,fun d hd hs h=>pst20_any d _ h,rfl,trivial⟩
       ·refine wpAt rfl rfl fun K hK=> ?_
        go_simp;exact hK _ _ ⟨_,C20_q (by decide) hC,fun d hd hs h=>pst20_any d _ h,rfl,rfl⟩
       ·have h17:σ 17=Value.pointer (some ⟨bS,0,none⟩):=HK.post 17 (by kernel_rfl)
        rw [h17];refine wpAt rfl rfl fun K hK=> ?_
        go_simp;exact hK _ _ ⟨_,C20_q (by decide) hC,fun d hd hs h=>pst20_any d _ h,rfl,rfl⟩
       ·have h18:σ 18=Value.pointer (some ⟨bS,0,none⟩):=HK.post 18 (by kernel_rfl)
        rw [h18];refine wpAt rfl rfl fun K hK=> ?_
        go_simp;exact hK _ _ ⟨_,C20_q (by decide) hC,fun d hd hs h=>pst20_any d _ h,rfl,rfl⟩
       ·have h19:σ 19=Value.pointer (some ⟨bS,3,none⟩):=HK.post 19 (by kernel_rfl)
        rw [h19];have hb:=C20_s hC;rw [HK.down 32 (by kernel_rfl)]at hb
        simp only [Bool.false_eq_true,if_false]at hb;obtain⟨m0,m1,m2,m3,_,_,_,_,ml⟩:=hb.four;clear hb m1 m2;refine wpAt rfl rfl fun K hK=> ?_
        go_simp;exact hK _ _ ⟨_,C20_q (by decide) hC,fun d hd hs h=>pst20_any d _ h,rfl,rfl⟩
       ·refine wpAt rfl rfl fun K hK=> ?_
        go_simp;exact hK _ _ ⟨_,C20_q (by decide) hC,fun d hd hs h=>pst20_any d _ h,rfl,rfl⟩
       ·have h21:σ 21=Value.slice (some ⟨gu,0,none⟩) m cu:=HK.post 21 (by kernel_rfl)
        rw [h21];refine wpAt rfl rfl fun K hK=> ?_
        go_simp;exact hK _ _ ⟨_,C20_22 hC (HK.down 23 (by kernel_rfl)) _,fun d hd hs h=>pst20_any d _ h,rfl,trivial⟩
       ·obtain ⟨bb,e22,hbb⟩:=C20_t22 hC (HK.up 22 (by kernel_rfl)) HK.self
        have hown:=C20_f hC;have hself:=HK.self;rw [hself]at hown;simp only [Bool.false_eq_true,if_false]at hown;have h20:σ 20=Value.slice of_ Kp cf:=HK.post 20 (by kernel_rfl)
        rw [h20,e22];obtain⟨v',w3,hr,ho,hg,hv⟩:=app_fnZ hown hbb rfl (by rw [HFS.out];omega) (C20_h hC)
        refine wpAt rfl rfl fun K hK=> ?_
        refine wp_app_run _ _ 50 _ _ rfl rfl rfl hr ?_;exact hK _ _ ⟨_,C20_23 hC hself (HK.down 32 (by kernel_rfl)) ho hg hv,fun d hd hs h=>pst20_any d _ h,rfl,trivial⟩
       ·have h0:σ 0=Value.pointer (some ⟨bS,0,none⟩):=HK.post 0 (by kernel_rfl)
        rw [h0];refine wpAt rfl rfl fun K hK=> ?_
        go_simp;exact hK _ _ ⟨_,C20_q (by decide) hC,fun d hd hs h=>pst20_any d _ h,rfl,rfl⟩
       ·have h24:σ 24=Value.pointer (some ⟨bS,0,none⟩):=HK.post 24 (by kernel_rfl)
        rw [h24];refine wpAt rfl rfl fun K hK=> ?_
        go_simp;exact hK _ _ ⟨_,C20_q (by decide) hC,fun d hd hs h=>pst20_any d _ h,rfl,rfl⟩
       ·have h25:σ 25=Value.pointer (some ⟨bS,1,none⟩):=HK.post 25 (by kernel_rfl)
        rw [h25];have h9:=HK.up 9 (by kernel_rfl)
        have hown:=C20_p hC;rw [h9]at hown;simp only [if_true]at hown;obtain⟨o9,l9,c9,e9⟩:∃o l c,σ 9= .slice o l c:=by
         obtain⟨o,c,h⟩:=hown.len;exact⟨_,_,_,h⟩
        have h26:=C20_26 (v:=undef) hC h9;have hb:=C20_s hC;obtain⟨m0,m1,m2,m3,f0,f1,f2,f3,ml⟩:=hb.four;clear hb;rw [e9]at h26 ⊢;refine wpAt rfl rfl fun K hK=> ?_
        go_simp;exact hK _ _ ⟨undef,h26,fun d hd hs h=>pst20_any d _ h,rfl,trivial⟩
       ·have h1:σ 1=Value.pointer (some ⟨bS,0,none⟩):=HK.post 1 (by kernel_rfl)
        rw [h1];refine wpAt rfl rfl fun K hK=> ?_
        go_simp;exact hK _ _ ⟨_,C20_q (by decide) hC,fun d hd hs h=>pst20_any d _ h,rfl,rfl⟩
       ·have h27:σ 27=Value.pointer (some ⟨bS,0,none⟩):=HK.post 27 (by kernel_rfl)
        rw [h27];refine wpAt rfl rfl fun K hK=> ?_
        go_simp;exact hK _ _ ⟨_,C20_q (by decide) hC,fun d hd hs h=>pst20_any d _ h,rfl,rfl⟩
       ·have h28:σ 28=Value.pointer (some ⟨bS,2,none⟩):=HK.post 28 (by kernel_rfl)
        rw [h28];have h9:=HK.up 16 (by kernel_rfl)
        have hown:=C20_n hC;rw [h9]at hown;simp only [if_true]at hown;obtain⟨o9,l9,c9,e9⟩:∃o l c,σ 16= .slice o l c:=by
         obtain⟨o,c,h⟩:=hown.len;exact⟨_,_,_,h⟩
        have h26:=C20_29 (v:=undef) hC h9;have hb:=C20_s hC;obtain⟨m0,m1,m2,m3,f0,f1,f2,f3,ml⟩:=hb.four;clear hb;rw [e9]at h26 ⊢;refine wpAt rfl rfl fun K hK=> ?_
        go_simp;exact hK _ _ ⟨undef,h26,fun d hd hs h=>pst20_any d _ h,rfl,trivial⟩
       ·have h2:σ 2=Value.pointer (some ⟨bS,0,none⟩):=HK.post 2 (by kernel_rfl)
        rw [h2];refine wpAt rfl rfl fun K hK=> ?_
        go_simp;exact hK _ _ ⟨_,C20_q (by decide) hC,fun d hd hs h=>pst20_any d _ h,rfl,rfl⟩
       ·have h30:σ 30=Value.pointer (some ⟨bS,0,none⟩):=HK.post 30 (by kernel_rfl)
        rw [h30];refine wpAt rfl rfl fun K hK=> ?_
        go_simp;exact hK _ _ ⟨_,C20_q (by decide) hC,fun d hd hs h=>pst20_any d _ h,rfl,rfl⟩
       ·have h31:σ 31=Value.pointer (some ⟨bS,3,none⟩):=HK.post 31 (by kernel_rfl)
        rw [h31];have h9:=HK.up 23 (by kernel_rfl)
        have hown:=C20_f hC;rw [h9]at hown;simp only [if_true]at hown;obtain⟨o9,l9,c9,e9⟩:∃o l c,σ 23= .slice o l c:=by
         obtain⟨o,c,h,_⟩:=hown.len;exact⟨_,_,_,h⟩
        have h26:=C20_32 (v:=undef) hC h9;have hb:=C20_s hC;obtain⟨m0,m1,m2,m3,f0,f1,f2,f3,ml⟩:=hb.four;clear hb;rw [e9]at h26 ⊢;refine wpAt rfl rfl fun K hK=> ?_
        go_simp;exact hK _ _ ⟨undef,h26,fun d hd hs h=>pst20_any d _ h,rfl,trivial⟩
      ·intro S20 σ w7 hC hS20 hP
       obtain⟨hbl,hss⟩:=C20_end hC (fun e he=>hS20 e he)
       have HY7:=zh (HY6.out.below hbl H0.out);have HS7:=zh hss;clear hP hS20 hC hbl hss;refine NoPanic.normal ?_;go_wp2;go_ret;exact⟨_,rfl,HY7.out.k,fun l hl=>(by rw [HOO.out]at hl;cases hl),fun _=>⟨rfl,xs1,_,_,_,_,HY7.out,by rw [HOO.out];exact HS7.out,by rw [HOO.out];exact HX1.out,by rw [HOO.out,List.map_append,HFQ.out];rfl⟩⟩
end Go.Proofs.YtcnjcnjipddgeaaGreat
