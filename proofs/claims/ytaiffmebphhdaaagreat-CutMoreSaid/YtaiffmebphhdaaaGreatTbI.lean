/- Package tableau's refutation. -/
import Derived.Test.YtaiffmebphhdaaaGreatTbN
namespace Go.Proofs.YtaiffmebphhdaaaGreat
set_option maxRecDepth 100000
set_option maxHeartbeats 32000000
set_option linter.unusedSimpArgs false
set_option linter.unusedVariables false
open Go.ChangeShapes Go.WideShapes Go.RowKit Go.Maps
def TS.refK (S:TS)(i:Nat)(way:Int):Nat→List Rat
 | 0=>(List.replicate S.rows.length 0).set (S.basic.getD i 0-S.n) ((-way:Int):Rat)
 | k+1=>if S.cell i k=0 then S.refK i way k else(S.refK i way k).set (k-S.n) (-(S.cell i k*((-way:Int):Rat)))
theorem pK {S:TS}{i:Nat}{way:Int}:∀k,(S.refK i way k).length=S.rows.length
 | 0=>by simp [TS.refK]
 | k+1=>by
  unfold TS.refK
  split
  ·exact pK k
  ·rw [List.length_set];exact pK k
theorem DK (w0 w:World)(bT nm:Nat)(S:TS)(h:Dz w0 w bT nm S)(hw:S.wf)(hn:S.nb 300)(i:Nat)(hi:i<S.rows.length)(way:Int)(JH:way=1∨way= -1)(hbi:S.n≤S.basic.getD i 0)(hz:∀v,v<S.n→S.cell i v=0):
  Calls Tryz.prog 45 #[.pointer (some ⟨bT,0,none⟩),.int .i64 (i:Int),.int .i64 way] w fun e w'=>∃u,e= .returned u∧jN w' u (S.refK i way (S.n+S.rows.length))∧Keep au w w':=by
 obtain⟨L,h⟩:=h;have HW:=zh hw;have HN:=zh hn;have HZ:=zh hz;have ys:=h.cb.1;have ys':=h.cb.2;have zs:=h.cc.1;have zs':=h.cc.2;have hbl:=hw.bl;have hcl:=hw.cl;have h40:=hw.r40;have h12:=hw.n12;unfold maxLen at ys' zs';have hib:i<S.basic.length:=by omega
 have hic:i<S.cells.length:=by omega
 have hiI:(i:Int)<(S.basic.length:Int):=by omega
 have hll:S.cells[i].length=S.n+S.rows.length:=hw.cr _ (List.getElem_mem hic);rw [mg hib]at hbi;have hbb:=hw.bb _ (List.getElem_mem hib);obtain⟨KN,hK⟩:∃KN,S.cells[i].length=KN:=⟨_,rfl⟩;have HK:=zh hK;have ZK:Hid (KN=S.n+S.rows.length):=zh (by omega)
 have Ze:KN≤76:=by omega
 obtain⟨c,hc⟩:∃c,S.basic[i]-S.n=c:=⟨_,rfl⟩;have YR:Hid (S.basic.getD i 0-S.n=c):=zh (by rw [mg hib];exact hc)
 have hcm:c<S.rows.length:=by omega
 have e1:(S.basic[i]:Int)-(S.n:Int)=(c:Int):=by omega
 have e2:IntKind.i64.wrap (c:Int)=(c:Int):=Go.IntWalk.i64_in _ (by omega)
 have e3:¬(c:Int)<0:=by omega
 have hcI:(c:Int)<(S.rows.length:Int):=by omega
 have hneg:IntKind.i64.wrap (-way)= -way:=Go.IntWalk.i64_in _ (by omega)
 have CI:=fun w=>zh (jH w (-way) (by omega) (by omega))
 obtain⟨⟨sb,sS,sc,sU⟩,hs,hsn⟩:=qL (-way);rw [hs]at CI;unfold NV.v at CI;simp only at CI;have HS:=zh hsn;have wP:Hid (NB 1 ((-way:Int):Rat)):=zh (jy (by omega))
 have nJ:=zh h;obtain⟨or,cr,OT,_,hcr⟩:=h.rows.len;obtain⟨t0,t1,t2,_,t4,_,_,eF⟩:=h.t.seven;rw [OT]at t1;obtain⟨w1,hr1,hn1,hk1⟩:=Ad w S.rows.length (by omega)
 have YH:=zh hn1;have K1:=zh hk1;have HT0:=zh (And.intro t0 (And.intro t2 t4));obtain⟨JI,hbk⟩:=h.b (by intro h0;rw [h0]at hib;simp at hib)
 obtain⟨hoc,hck⟩:=h.c (by intro h0;rw [h0]at hic;simp at hic)
 obtain⟨cb0,_⟩:=hbk.at (i:=i) hib;obtain⟨cc0,_⟩:=hck.at (i:=i) hic;have hgb:=hbk.lt;have hgc:=hck.lt;rw [HK.out]at cc0;have HRI:=(h.r i hic).1;have hcs:=(h.r i hic).2.1;have hcs2:=(h.r i hic).2.2;rw [HK.out]at hcs;unfold maxLen at hcs2 hcr;have DJ:=zh HRI;have Ic:=zh (And.intro cb0 cc0);have HOO:=zh (And.intro JI hoc);clear h hw hn hz hK hll hc hs hsn hbk hck JI hoc t0 t2 t4 HRI cb0 cc0 hbi hbb;go_enter Tryz.func45,Tryz.ntmps45;go_wp2_with fail;refine(CI _).out.mono ?_;rintro e w2 ⟨rfl,hk2⟩;clear t1 hr1 CI;have K2:=zh (K1.out.both hk2);have tV:=zh (YH.out.keep hk2);have ka:Keep au w2 (w2.alloc (.cells #[.bool sb,.string sS,.bool sc,.string sU] 93)):=(Keep.refl _ _).alloc _;have lZ:Hid (aL (w2.alloc (.cells #[.bool sb,.string sS,.bool sc,.string sU] 93)) w2.heap.size #[.bool sb,.string sS,.bool sc,.string sU]):=zh (aR _ _ rfl);have OX:=zh (tV.out.keep ka);have K3:=zh (K2.out.both ka);have gV:Hid (w2.heap.size≠w.heap.size):=zh (by have:=tV.out.lt;omega)
 go_upto_region 3 with fail
 clear ka hk2 hn1 hk1 YH tV K1 K2;generalize w2.alloc (.cells #[.bool sb,.string sS,.bool sc,.string sU] 93)=w3 at *;generalize w2.heap.size=b8 at *;have lt3:=dY eF K3.out.size;have lb3:=dY hgb K3.out.size;generalize hgo:w.heap.size=go at gV OX ⊢;have V9:Hid (w.heap.size≤go):=zh (Nat.le_of_eq hgo);clear hgo;obtain⟨_,_,_,_,g0,g1,g2,g3,_,f0,f1,f2,f3⟩:=OX.out.at (k:=c) (by rw [List.length_replicate];exact hcm)
 have hg6:=OX.out.lt;refine aD (fun w'=>Keep au w3 w') [15] [([0,1,2,3,4,5,6,7,8,9,10,11,12,13,14],15)] [] (by kernel_rfl) (by kernel_rfl) kp ?_
 intro X W hne hF hcls;have aQ:=zh hcls;have x0:=fun x=>((hF x).cell lt3).trans ((K3.out.cell eF).trans HT0.out.1)
 have x1:=fun x=>((hF x).cell lt3).trans ((K3.out.cell eF).trans HT0.out.2.1)
 have x2:=fun x=>((hF x).cell lb3).trans ((K3.out.cell hgb).trans Ic.out.1)
 have z0:=fun x=>(lZ.out.keep (hF x)).four
 clear hF hcls;rw [HOO.out.1]at x1;simp only [aO,aJ,zl0,zl1,zl2,aV,Bool.false_eq_true,if_false]
 (repeat(go_big_quiet_step (fail)));refine wpQuiet_nil ?_
 refine ay rfl rfl fun K hK=> ?_
 go_simp;refine hK _ _ ⟨fun h=>(by simp at h),?_⟩
 clear hK x0 x1 x2 z0;have JJ:Hid (aY (w4 w3 go (c*4) ⟨sb,sS,sc,sU⟩).drew go (S.refK i way 0)):=zh (by
  have:=(OX.out.set4 (k:=c) HS.out).keep (Keep.refl au _).drew;rw [TS.refK,YR.out];exact this)
 have K7:Hid (Keep au w (w4 w3 go (c*4) ⟨sb,sS,sc,sU⟩).drew):=zh ((rV K3.out V9.out).drew);have lZ:Hid (aL (w4 w3 go (c*4) ⟨sb,sS,sc,sU⟩).drew b8 #[.bool sb,.string sS,.bool sc,.string sU]):=zh ((lZ.out.same (iZ gV.out)).keep (Keep.refl au _).drew);rw [show((((w3.setCell ⟨go,c*4,none⟩ (.bool sb)).setCell ⟨go,c*4+1,none⟩ (.string sS)).setCell ⟨go,c*4+2,none⟩ (.bool sc)).setCell ⟨go,c*4+3,none⟩ (.string sU))=w4 w3 go (c*4) ⟨sb,sS,sc,sU⟩from rfl]
 generalize (w4 w3 go (c*4) ⟨sb,sS,sc,sU⟩).drew=w4' at *;clear g0 g1 g2 g3 f0 f1 f2 f3 hg6 OX K3 lt3 lb3
 (repeat(go_big_quiet_step (fail)));refine wpQuiet_nil ?_
 refine NoPanic.normal ?_;have t4:=(K7.out.cell eF).trans HT0.out.2.2;have c4':=(K7.out.cell hgc).trans Ic.out.2;have lt4:=dY eF K7.out.size;have lc4:=dY hgc K7.out.size;rw [HOO.out.2]at t4;have hiC:(i:Int)<(S.cells.length:Int):=by omega
 go_wp2;clear t4 c4' lt4 lc4;go_loopw [43] (fun s wr=>∃k:Nat,k≤KN∧s= .int .i64 k∧Keep au w wr∧aY wr go (S.refK i way k)∧aL wr b8 #[.bool sb,.string sS,.bool sc,.string sU]) (fun s _=>(KN-intOf s).toNat)
 case atStart=>exact⟨0,by omega,rfl,K7.out,JJ.out,lZ.out⟩
 case round=>
  obtain⟨k,hk,rfl,hkr,hrw,hb8⟩:=hrel;have dP:=zh hkr;have HRW:=zh hrw;have lZ:=zh hb8;clear hkr hrw hb8 K7 JJ
  by_cases hkl:k<KN
  case neg=>
   have hlt:¬(k:Int)<(KN:Int):=by omega
   obtain rfl:k=KN:=by omega
   go_wp2;go_ret;exact⟨_,rfl,by rw [← ZK.out];exact HRW.out.nums (pK _).symm (Nat.le_of_eq (pK _)) (by unfold maxLen;omega),dP.out⟩
  case pos=>
   have hlt:(k:Int)<(KN:Int):=by omega
   have hkq:k<S.cells[i].length:=by rw [HK.out];exact hkl
   obtain⟨xb,xS,xc,xU,p0,p1,p2,p3,hx,_⟩:=(DJ.out.keep dP.out).at (k:=k) hkq;have Sr:=(DJ.out.keep dP.out).lt;have nx:NB 300 (S.cells[i][k]):=HN.out.c _ (List.getElem_mem hic) _ (List.getElem_mem hkq);have hxd:S.cell i k=S.cells[i][k]:=mK hic hkq;rw [← hxd]at hx nx;have HZK:=zh (HZ.out k);obtain⟨x,hxe⟩:∃x,S.cell i k=x:=⟨_,rfl⟩;rw [hxe]at hx nx HZK;have YT:=zh hxe;have CS:=fun w=>zh (lY hx w)
   have HX:=zh hx;have kJ:=zh nx;clear hxd hxe nx hx;have ka:Keep au wr (wr.alloc (.cells #[.bool xb,.string xS,.bool xc,.string xU] 93)):=(Keep.refl _ _).alloc _;have Bo:Hid (aL (wr.alloc (.cells #[.bool xb,.string xS,.bool xc,.string xU] 93)) wr.heap.size #[.bool xb,.string xS,.bool xc,.string xU]):=zh (aR _ _ rfl);go_upto_region 7 with fail
   have HRW:=zh (HRW.out.keep ka);have lZ:=zh (lZ.out.keep ka);have dP:=zh (dP.out.both ka);clear ka p0 p1 p2 p3 Sr;generalize wr.alloc (.cells #[.bool xb,.string xS,.bool xc,.string xU] 93)=wx at *;generalize wr.heap.size=bx at *;obtain⟨s0,s1,s2,s3,_,_,_,_,sl⟩:=Bo.out.four
   by_cases hx0:x=0
   case pos=>
    have e0:=uJ hx0;rw [e0]at CS;have HSS:Hid (S.refK i way (k+1)=S.refK i way k):=zh (by rw [TS.refK,YT.out,if_pos hx0])
    clear hx0 e0;go_wp2_with fail;refine(CS _).out.mono ?_;rintro e w5 ⟨rfl,hk5⟩;have MB:=zh (HRW.out.keep hk5);have gZ:=zh (lZ.out.keep hk5);have K5:=zh (dP.out.both hk5);clear s0 s1 s2 s3 sl hk5 CS;go_wp2;go_roundw
    case rel=>exact⟨k+1,by omega,by go_num,K5.out,by rw [HSS.out];exact MB.out,gZ.out⟩
    case measure=>simp [intOf];omega
   case neg=>
    have e0:=uK hx0;have e4:(x.num.sign != 0)=true:=by rw [bne_iff_ne];exact e0
    have hkn:¬k<S.n:=fun h=>hx0 (HZK.out h)
    obtain⟨d,hd⟩:∃d,k-S.n=d:=⟨_,rfl⟩;have hke:=ZK.out;have hdm:d<S.rows.length:=by omega
    have e5:(k:Int)-(S.n:Int)=(d:Int):=by omega
    have e6:IntKind.i64.wrap (d:Int)=(d:Int):=Go.IntWalk.i64_in _ (by omega)
    have e7:¬(d:Int)<0:=by omega
    have hdI:(d:Int)<(S.rows.length:Int):=by omega
    have HSS:Hid (S.refK i way (k+1)=(S.refK i way k).set d (-(x*((-way:Int):Rat)))):=zh (by rw [TS.refK,YT.out,if_neg hx0,hd])
    clear hx0 e0 hkn hke hd;go_wp2_with fail;refine(CS _).out.mono ?_;rintro e w5 ⟨rfl,hk5⟩;have MB:=zh (HRW.out.keep hk5);have gZ:=zh (lZ.out.keep hk5);have zcQ:=zh (Bo.out.keep hk5);have K5:=zh (dP.out.both hk5);clear s0 s1 s2 s3 sl hk5 CS HRW lZ Bo dP;have CT:=fun w=>zh (mV w _ x HX.out (kJ.out.mono (by omega)) _ _ HS.out (wP.out.mono (by omega)))
    obtain⟨⟨tb,tS,tc,tU⟩,Yu,htn⟩:=fE (x*((-way:Int):Rat));rw [Yu]at CT;have CN:=fun w=>zh (Gc w _ _ htn ((kJ.out.mul wP.out).mono (by omega)))
    obtain⟨⟨rb,rS,rc,rU⟩,hrq,hrn⟩:=fE (-(x*((-way:Int):Rat)));rw [hrq]at CN;unfold NV.v at CT CN;simp only at CT CN;have SE:=zh hrn;clear Yu htn hrq hrn;have lt5:=dY eF K5.out.size;have t0:=(K5.out.cell eF).trans HT0.out.1;go_upto_region 8 with fail
    refine aD (fun w'=>Keep au w5 w') [12] [([0,1,2,3,4,5,6,7,8],9),([],10),([11],12)] [] (by kernel_rfl) (by kernel_rfl) kp ?_
    intro X W hne hF hcls;have aQ:=zh hcls;have x0:=fun x=>((hF x).cell lt5).trans t0
    have z0:=fun x=>(gZ.out.keep (hF x)).four
    have z1:=fun x=>(zcQ.out.keep (hF x)).four
    clear hF hcls t0;simp only [aO,aJ,zl0,zl1,zl2,aV,Bool.false_eq_true,if_false]
    (repeat(go_big_quiet_step (fail)));refine wpQuiet_nil ?_
    refine ay rfl rfl fun K hK=> ?_
    go_simp;refine(CT _).out.mono ?_;rintro e w6 ⟨rfl,hk6⟩;have k6:Keep au w5 w6:=Keep.trans kp hk6 fun _ _ _ h=>h
    refine hK _ _ ⟨fun _=>aQ.out _ k6,?_⟩
    clear hK hk6 CT
    (repeat(go_big_quiet_step (fail)));refine wpQuiet_nil ?_
    refine ay rfl rfl fun K hK=> ?_
    go_simp;refine(CN _).out.mono ?_;rintro e w7 ⟨rfl,hk7⟩;have k7:Keep au w5 w7:=k6.both hk7;refine hK _ _ ⟨fun _=>aQ.out _ k7,?_⟩
    clear hK hk7 CN k6;have JJ:=zh (MB.out.keep k7);have nE:=zh (gZ.out.keep k7);have K7:=zh (K5.out.both k7);obtain⟨_,_,_,_,g0,g1,g2,g3,_,f0,f1,f2,f3⟩:=JJ.out.at (k:=d) (by rw [pK];exact hdm)
    have hg6:=JJ.out.lt
    (repeat(go_big_quiet_step (fail)));refine wpQuiet_nil ?_
    refine ay rfl rfl fun K hK=> ?_
    go_simp;refine hK _ _ ⟨fun h=>(by simp at h),?_⟩
    clear hK x0 z0 z1;have HR8:Hid (aY (w4 w7 go (d*4) ⟨rb,rS,rc,rU⟩) go (S.refK i way (k+1))):=zh (by rw [HSS.out];exact JJ.out.set4 SE.out)
    have K8:Hid (Keep au w (w4 w7 go (d*4) ⟨rb,rS,rc,rU⟩)):=zh (rV K7.out V9.out);have lZ:Hid (aL (w4 w7 go (d*4) ⟨rb,rS,rc,rU⟩) b8 #[.bool sb,.string sS,.bool sc,.string sU]):=zh (nE.out.same (iZ gV.out));rw [show((((w7.setCell ⟨go,d*4,none⟩ (.bool rb)).setCell ⟨go,d*4+1,none⟩ (.string rS)).setCell ⟨go,d*4+2,none⟩ (.bool rc)).setCell ⟨go,d*4+3,none⟩ (.string rU))=w4 w7 go (d*4) ⟨rb,rS,rc,rU⟩from rfl]
    generalize w4 w7 go (d*4) ⟨rb,rS,rc,rU⟩=w8' at *;clear g0 g1 g2 g3 f0 f1 f2 f3 hg6 JJ nE K7 lt5
    (repeat(go_big_quiet_step (fail)));refine wpQuiet_nil ?_
    refine NoPanic.normal ?_;go_wp2;go_roundw
    case rel=>exact⟨k+1,by omega,by go_num,K8.out,HR8.out,lZ.out⟩
    case measure=>simp [intOf];omega
end Go.Proofs.YtaiffmebphhdaaaGreat
