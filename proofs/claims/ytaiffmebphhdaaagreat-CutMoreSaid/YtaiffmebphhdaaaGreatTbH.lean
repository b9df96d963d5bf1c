/- Package tableau's pivot. -/
import Derived.Test.YtaiffmebphhdaaaGreatTbN
namespace Go.Proofs.YtaiffmebphhdaaaGreat
set_option maxRecDepth 100000
set_option maxHeartbeats 32000000
set_option linter.unusedSimpArgs false
set_option linter.unusedVariables false
open Go.ChangeShapes Go.WideShapes Go.RowKit Go.Maps
def Two (g g':Nat):Nat→Nat→Prop:=fun b _=>b=g∨b=g'
theorem Keep.off2 {g g':Nat}{w w':World}(h:Keep (Two g g') w w'){b:Nat}(hb:b<w.heap.size)(h1:b≠g)(h2:b≠g'){o:Nat}:w'.cell? ⟨b,o,none⟩=w.cell? ⟨b,o,none⟩:=by
 have:=h.block b hb fun o ho=>ho.elim h1 h2
 simp only [World.cell?,this]
theorem Keep.same2 {g g':Nat}{w w':World}(h:Keep (Two g g') w w'){b:Nat}(hb:b<w.heap.size)(h1:b≠g)(h2:b≠g'):w'.heap[b]? =w.heap[b]? :=h.block b hb fun o ho=>ho.elim h1 h2
theorem SA (w:World):Sem.run Tryz.prog (binOp BinOp.neq 64 (Value.slice none 0 0) (Value.slice none 0 0)) w= .ok (.bool false) w:=by kernel_rfl
theorem Pv {S:TS}(hn:S.nb 100){i v:Nat}(hic:i<S.cells.length)(Bn:v<S.cells[i].length)(hib:i<S.basic.length){a:Rat}(ha:S.cell i v=a)(h0:a≠0)(na:NB 100 a):∀x∈S.pivRow i v,NB 300 x:=by
 have e1:S.cells.getD i []=S.cells[i]:=by rw [eG,iw hic];rfl
 intro x hx;unfold TS.pivRow at hx;rw [e1,ha]at hx
 rcases List.mem_or_eq_of_mem_set hx with hx | hx
 ·rcases List.mem_or_eq_of_mem_set hx with hx | hx
  ·obtain ⟨j,hj,rfl⟩:=List.mem_map.1 hx
   have hj':=List.mem_range.1 hj;simp only [hj',if_true];rw [Ih hj'];exact(((hn.c _ (List.getElem_mem hic) _ (List.getElem_mem hj')).div na h0).neg).mono (by omega)
  ·rw [hx];exact mM.mono (by omega)
 ·rw [hx]
  exact((jy (x:=1) (by decide)).div na h0).mono (by omega)
theorem yu (w0 w:World)(bT nm:Nat)(S:TS)(h:Dz w0 w bT nm S)(hw:S.wf)(hn:S.nb 100)(i v:Nat)(hi:i<S.rows.length)(hv:v<S.n+S.rows.length)(hvb:v∉S.basic)(ha:S.cell i v≠0)(hnm:nm<2000000):
  Calls Tryz.prog 52 #[.pointer (some ⟨bT,0,none⟩),.int .i64 (i:Int),.int .i64 (v:Int)] w fun e w'=>e= .returned (.tuple #[])∧Dz w0 w' bT (nm+1) (S.pivot i v):=by
 obtain⟨L,h⟩:=h;have HW:=zh hw;have HN:=zh hn;have JB:=zh hvb;have HW0:Hid (w0.heap.size≤w.heap.size):=zh h.k.size;have xs:=h.cv.1;have xs':=h.cv.2;have ys:=h.cb.1;have ys':=h.cb.2;have zs:=h.cc.1;have zs':=h.cc.2;have hvl:=hw.vl;have hbl:=hw.bl;have hcl:=hw.cl;have h40:=hw.r40;have h12:=hw.n12;unfold maxLen at xs' ys' zs';have hib:i<S.basic.length:=by omega
 have hic:i<S.cells.length:=by omega
 have hiI:(i:Int)<(S.basic.length:Int):=by omega
 have hiC:(i:Int)<(S.cells.length:Int):=by omega
 have hll:S.cells[i].length=S.n+S.rows.length:=hw.cr _ (List.getElem_mem hic);have Bn:v<S.cells[i].length:=by omega
 have hbb:S.basic[i]<S.cells[i].length:=by rw [hll];exact hw.bb _ (List.getElem_mem hib)
 obtain⟨K,hK⟩:∃K,S.cells[i].length=K:=⟨_,rfl⟩;have HK:=zh hK;have Ze:K≤76:=by omega
 have hvK:v<K:=by omega
 have hvKI:(v:Int)<(K:Int):=by omega
 have hbKI:(S.basic[i]:Int)<(K:Int):=by omega
 have hbv:S.basic[i]≠v:=fun e=>hvb (e ▸ List.getElem_mem hib)
 have hA:=mK (S:=S) hic Bn;obtain⟨a,hae⟩:∃a,S.cells[i][v]=a:=⟨_,rfl⟩;rw [hae]at hA;have Yr:Hid (a≠0):=zh (by rw [← hA];exact ha)
 have HA:=zh hA;have HNA:Hid (NB 100 a):=zh (by rw [← hae];exact hn.c _ (List.getElem_mem hic) _ (List.getElem_mem Bn))
 have HAE:=zh hae;have ka:Keep au w (w.alloc (.cells #[.int .i64 (v:Int)] 3)):=(Keep.refl _ _).alloc _;have gZ:Hid (aL (w.alloc (.cells #[.int .i64 (v:Int)] 3)) w.heap.size #[.int .i64 (v:Int)]):=zh (aR _ _ rfl);have nJ:=zh (h.keep ka);have HVC:=zh Bn;have SB:=zh hbb;have WC:Hid (∀j (hj:j<S.cells.length),S.cells[j].length=K):=zh (fun j hj=>by rw [hw.cr _ (List.getElem_mem hj),←hK,hll])
 have HSZ:Hid (w0.heap.size≤w.heap.size):=zh h.k.size;have WE:Hid (bT<w.heap.size∧(L.gb<w.heap.size)∧L.gc<w.heap.size∧L.gv<w.heap.size∧L.gm<w.heap.size∧∀j,j<S.cells.length→L.gs j<w.heap.size):=zh ⟨aL.lt h.t,(h.b (by intro h0;rw [h0]at hib;simp at hib)).2.lt,(h.c (by intro h0;rw [h0]at hic;simp at hic)).2.lt,h.v.lt,h.mp.lt,fun j hj=>(h.r j hj).1.lt⟩
 clear h hw hn hvb hA ha hae hK hll;go_enter Tryz.func52,Tryz.ntmps52;go_upto_region 1 with fail
 clear ka;generalize w.alloc (.cells #[.int .i64 (v:Int)] 3)=w1 at *;generalize hb5:w.heap.size=b5 at *;obtain⟨_,_,t2,_,t4,_,_,eF⟩:=nJ.out.t.seven;obtain⟨JI,hbk⟩:=nJ.out.b (by intro h0;rw [h0]at hib;simp at hib)
 obtain⟨hoc,hck⟩:=nJ.out.c (by intro h0;rw [h0]at hic;simp at hic)
 obtain⟨cb0,_⟩:=hbk.at (i:=i) hib;obtain⟨cc0,_⟩:=hck.at (i:=i) hic;have hgb:=hbk.lt;have hgc:=hck.lt;have hnb:=(nJ.out.r i hic).1;have hcs:=(nJ.out.r i hic).2.1;have hcs2:=(nJ.out.r i hic).2.2;unfold maxLen at hcs2;obtain⟨ab,aS,ac,aU,m0,m1,m2,m3,DR,_⟩:=hnb.at (k:=v) HVC.out;have hgs:=hnb.lt;rw [HK.out]at cc0 hcs;rw [JI]at t2;rw [hoc]at t4;rw [HAE.out]at DR;have Zl:=zh DR;have V5:=zh t4;have Ic:=zh cc0;have DJ:=zh hnb;have Pw:=zh (And.intro m0 (And.intro m1 (And.intro m2 m3)));have HOB:=zh JI;have HOC:=zh hoc;clear DR hbk hck hnb JI hoc m0 m1 m2 m3;go_upto_region 2 with fail
 clear t2 t4 cb0 cc0 hgb;obtain⟨v0,vl⟩:w1.cell? ⟨b5,0,none⟩=some (.int .i64 (v:Int))∧b5<w1.heap.size:=⟨gZ.out.cell 0,gZ.out.lt⟩;refine aD (fun w'=>Keep au w1 w') [11] [([0,1,2,3,4,5,6,7,8,9],10),([],11)] [] (by kernel_rfl) (by kernel_rfl) kp ?_
 intro X W hne hF hcls;have aQ:=zh hcls;have x0:=fun x=>((hF x).cell eF).trans V5.out
 have x1:=fun x=>((hF x).cell hgc).trans Ic.out
 have q0:=fun x=>((hF x).cell hgs).trans Pw.out.1
 have q1:=fun x=>((hF x).cell hgs).trans Pw.out.2.1
 have q2:=fun x=>((hF x).cell hgs).trans Pw.out.2.2.1
 have q3:=fun x=>((hF x).cell hgs).trans Pw.out.2.2.2
 have z0:=fun x=>((hF x).cell vl).trans v0
 clear hF hcls;simp only [aO,aJ,zl0,zl1,zl2,aV,Bool.false_eq_true,if_false]
 (repeat(go_big_quiet_step (fail)));refine wpQuiet_nil ?_
 refine ay rfl rfl fun K hK=> ?_
 go_simp;have k2:Keep au w1 (w1.alloc (.cells #[.bool false,.string ⟨#[]⟩,.bool false,.string ⟨#[]⟩] 93)).drew:=((Keep.refl au w1).alloc _).drew;refine hK _ _ ⟨fun _=>aQ.out _ k2,?_⟩
 clear hK K;have nE:Hid (aL (w1.alloc (.cells #[.bool false,.string ⟨#[]⟩,.bool false,.string ⟨#[]⟩] 93)).drew w1.heap.size #[.bool false,.string ⟨#[]⟩,.bool false,.string ⟨#[]⟩]):=zh ((aR _ _ rfl).keep (Keep.refl au _).drew);have HL2:=zh (nJ.out.keep k2);have WG:=zh (gZ.out.keep k2);have MJ:Hid (b5<w1.heap.size):=zh vl;have HW1:Hid (w0.heap.size≤w1.heap.size):=zh nJ.out.k.size;have zW:=zh k2;clear k2;generalize (w1.alloc (.cells #[.bool false,.string ⟨#[]⟩,.bool false,.string ⟨#[]⟩] 93)).drew=w2 at *;generalize hb7:w1.heap.size=b7 at nE MJ ⊢;have HE7:Hid (w1.heap.size=b7):=zh hb7;clear hb7;obtain⟨s0,s1,s2,s3,f0,f1,f2,f3,sl⟩:=nE.out.four
 (repeat(go_big_quiet_step (fail)));refine wpQuiet_nil ?_
 refine ay rfl rfl fun K hK=> ?_
 go_simp;refine hK _ _ ⟨fun h=>(by simp at h),?_⟩
 clear hK K x0 x1 q0 q1 q2 q3 z0;have MK:Hid (aL (w4 w2 b7 0 ⟨ab,aS,ac,aU⟩) b7 #[.bool ab,.string aS,.bool ac,.string aU]):=zh (nE.out.set4 _ _ _ _);have zaR:Hid (∀b,b≠b7→(w4 w2 b7 0 ⟨ab,aS,ac,aU⟩).heap[b]? =w2.heap[b]?):=zh (fun b hb=>iZ hb)
 have yw:Hid (Keep au w1 (w4 w2 b7 0 ⟨ab,aS,ac,aU⟩)):=zh (rV zW.out (Nat.le_of_eq HE7.out));rw [show((((w2.setCell ⟨b7,0,none⟩ (.bool ab)).setCell ⟨b7,1,none⟩ (.string aS)).setCell ⟨b7,2,none⟩ (.bool ac)).setCell ⟨b7,3,none⟩ (.string aU))=w4 w2 b7 0 ⟨ab,aS,ac,aU⟩from rfl]
 generalize w4 w2 b7 0 ⟨ab,aS,ac,aU⟩=w3 at *;clear s0 s1 s2 s3 f0 f1 f2 f3 sl
 (repeat(go_big_quiet_step (fail)));refine wpQuiet_nil ?_
 refine NoPanic.normal ?_;have Px:=zh (WG.out.same (zaR.out b5 (Nat.ne_of_lt MJ.out)));have Yt:Hid (b7<w3.heap.size):=zh MK.out.lt;have t4:=(yw.out.cell eF).trans V5.out;have c4:=(yw.out.cell hgc).trans Ic.out;have hlt3:=dY eF yw.out.size;have hgc3:=dY hgc yw.out.size;obtain⟨w5,hr5,hn5,hk5⟩:=Ad w3 K (by omega)
 go_upto_region 4 with fail
 clear hr5;have MK:=zh (MK.out.keep hk5);have Px:=zh (Px.out.keep hk5);have Py:=zh (yw.out.both hk5);have MB:=zh hn5;have HGR:Hid (w1.heap.size≤w3.heap.size):=zh yw.out.size;clear HL2 WG zaR zW nE yw t4 c4 hlt3 hgc3 hn5;have ka:Keep au w5 (w5.alloc (.cells #[.slice (some ⟨w3.heap.size,0,none⟩) K K] 64)):=(Keep.refl _ _).alloc _;have lZ:Hid (aL (w5.alloc (.cells #[.slice (some ⟨w3.heap.size,0,none⟩) K K] 64)) w5.heap.size #[.slice (some ⟨w3.heap.size,0,none⟩) K K]):=zh (aR _ _ rfl);have MK:=zh (MK.out.keep ka);have Px:=zh (Px.out.keep ka);have V6:=zh (MB.out.keep ka);have FK:=zh (Py.out.both ka);have MC:Hid (w3.heap.size<w5.heap.size):=zh MB.out.lt;generalize w5.alloc (.cells #[.slice (some ⟨w3.heap.size,0,none⟩) K K] 64)=w6 at *;generalize w5.heap.size=b8 at *;generalize w3.heap.size=gr at *;clear ka hk5 MB Py;have t4:=(FK.out.cell eF).trans V5.out;have c4:=(FK.out.cell hgc).trans Ic.out;have hlt6:=dY eF FK.out.size;have hgc6:=dY hgc FK.out.size;go_wp2;clear t4 c4 hlt6 hgc6;go_loopw [47] (fun s wr=>∃k:Nat,k≤K∧s= .int .i64 k∧Keep au w1 wr∧aY wr gr (qX S.cells[i] a k)∧aL wr b8 #[.slice (some ⟨gr,0,none⟩) K K]∧aL wr b7 #[.bool ab,.string aS,.bool ac,.string aU]∧aL wr b5 #[.int .i64 (v:Int)]) (fun s _=>(K-intOf s).toNat)
 case atStart=>exact⟨0,by omega,rfl,FK.out,by rw [Pz,HK.out];exact V6.out,lZ.out,MK.out,Px.out⟩
 case round=>
  obtain⟨k,hk,rfl,hkr,hrw,hb8,hb7,SC⟩:=hrel;have dP:=zh hkr;have HRW:=zh hrw;have lZ:=zh hb8;have nE:=zh hb7;have gZ:=zh SC;clear hkr hrw hb8 hb7 SC FK V6 MK Px
  by_cases hkl:k<K
  case pos=>
   have hlt:(k:Int)<(K:Int):=by omega
   have hkq:k<S.cells[i].length:=by rw [HK.out];exact hkl
   obtain⟨xb,xS,xc,xU,p0,p1,p2,p3,hx,_⟩:=(DJ.out.keep dP.out).at (k:=k) hkq;have Sr:=dY hgs dP.out.size;have nx:NB 100 (S.cells[i][k]):=HN.out.c _ (List.getElem_mem hic) _ (List.getElem_mem hkq);have hxd:S.cells[i].getD k 0=S.cells[i][k]:=Ih hkq;rw [← hxd]at hx nx;obtain⟨x,hxe⟩:∃x,S.cells[i].getD k 0=x:=⟨_,rfl⟩;rw [hxe]at hx nx;have CO:=fun w=>zh (oQ w _ _ hx (nx.mono (by omega)) _ _ Zl.out (HNA.out.mono (by omega)) Yr.out)
   have nd:=nx.div HNA.out Yr.out;obtain⟨⟨tb,tS,tc,tU⟩,Yu,htn⟩:=fE (x/a);rw [Yu]at CO;have CN:=fun w=>zh (Gc w _ _ htn (nd.mono (by omega)))
   obtain⟨⟨rb,rS,rc,rU⟩,hrq,hrn⟩:=fE (-(x/a));rw [hrq]at CN;unfold NV.v at CO CN;simp only at CO CN;have SE:Hid (bM (NV.v ⟨rb,rS,rc,rU⟩) (-(S.cells[i].getD k 0/a))):=zh (by rw [hxe];exact hrn)
   have SF:Hid ((qX S.cells[i] a k).set k (-(S.cells[i].getD k 0/a))=qX S.cells[i] a (k+1)):=zh (PD hkq);have Zm:=zh hkq;clear hx nx nd Yu htn hrq hrn hkq hxd hxe;have ka:Keep au wr (wr.alloc (.cells #[.bool xb,.string xS,.bool xc,.string xU] 93)):=(Keep.refl _ _).alloc _;have Bo:Hid (aL (wr.alloc (.cells #[.bool xb,.string xS,.bool xc,.string xU] 93)) wr.heap.size #[.bool xb,.string xS,.bool xc,.string xU]):=zh (aR _ _ rfl);have hgrx:gr≠wr.heap.size:=Nat.ne_of_lt HRW.out.lt;go_upto_region 7 with fail
   have HRW:=zh (HRW.out.keep ka);have lZ:=zh (lZ.out.keep ka);have nE:=zh (nE.out.keep ka);have gZ:=zh (gZ.out.keep ka);have dP:=zh (dP.out.both ka);clear ka p0 p1 p2 p3 Sr;generalize wr.alloc (.cells #[.bool xb,.string xS,.bool xc,.string xU] 93)=wx at *;generalize wr.heap.size=bx at *;obtain⟨r0,rl⟩:wx.cell? ⟨b8,0,none⟩=some (.slice (some ⟨gr,0,none⟩) K K)∧b8<wx.heap.size:=⟨lZ.out.cell 0,lZ.out.lt⟩;refine aD (fun w'=>Keep au wx w') [7] [([0,1,2,3],4),([],5),([6],7)] [] (by kernel_rfl) (by kernel_rfl) kp ?_
   intro X W hne hF hcls;have aQ:=zh hcls;have x0:=fun x=>((hF x).cell rl).trans r0
   have z0:=fun x=>(Bo.out.keep (hF x)).four
   have z1:=fun x=>(nE.out.keep (hF x)).four
   clear hF hcls;simp only [aO,aJ,zl0,zl1,zl2,aV,Bool.false_eq_true,if_false]
   (repeat(go_big_quiet_step (fail)));refine wpQuiet_nil ?_
   refine ay rfl rfl fun K hK=> ?_
   go_simp;refine(CO _).out.mono ?_;rintro e w5 ⟨rfl,hk5⟩;have k5:Keep au wx w5:=Keep.trans kp hk5 fun _ _ _ h=>h
   refine hK _ _ ⟨fun _=>aQ.out _ k5,?_⟩
   clear hK hk5 CO
   (repeat(go_big_quiet_step (fail)));refine wpQuiet_nil ?_
   refine ay rfl rfl fun K hK=> ?_
   go_simp;refine(CN _).out.mono ?_;rintro e w6 ⟨rfl,hk6⟩;have k6:Keep au wx w6:=k5.both hk6;refine hK _ _ ⟨fun _=>aQ.out _ k6,?_⟩
   clear hK hk6 CN k5;have HRW:=zh (HRW.out.keep k6);have lZ:=zh (lZ.out.keep k6);have nE:=zh (nE.out.keep k6);have gZ:=zh (gZ.out.keep k6);have dP:=zh (dP.out.both k6);obtain⟨_,_,_,_,g0,g1,g2,g3,_,f0,f1,f2,f3⟩:=HRW.out.at (k:=k) (by rw [qY];exact Zm.out)
   have hg6:=HRW.out.lt
   (repeat(go_big_quiet_step (fail)));refine wpQuiet_nil ?_
   refine ay rfl rfl fun K hK=> ?_
   go_simp;refine hK _ _ ⟨fun h=>(by simp at h),?_⟩
   clear hK x0 z0 z1;have JJ:Hid (aY (w4 w6 gr (k*4) ⟨rb,rS,rc,rU⟩) gr (qX S.cells[i] a (k+1))):=zh (by rw [← SF.out];exact HRW.out.set4 SE.out)
   have K7:Hid (Keep au w1 (w4 w6 gr (k*4) ⟨rb,rS,rc,rU⟩)):=zh (rV dP.out HGR.out);have HO:∀b,b≠gr→(w4 w6 gr (k*4) ⟨rb,rS,rc,rU⟩).heap[b]? =w6.heap[b]? :=fun b hb=>iZ hb
   have lZ:=zh (lZ.out.same (HO b8 (Nat.ne_of_gt MC.out)));have nE:=zh (nE.out.same (HO b7 (Nat.ne_of_lt Yt.out)));have gZ:=zh (gZ.out.same (HO b5 (Nat.ne_of_lt (Nat.lt_trans MJ.out Yt.out))));clear HO;rw [show((((w6.setCell ⟨gr,k*4,none⟩ (.bool rb)).setCell ⟨gr,k*4+1,none⟩ (.string rS)).setCell ⟨gr,k*4+2,none⟩ (.bool rc)).setCell ⟨gr,k*4+3,none⟩ (.string rU))=w4 w6 gr (k*4) ⟨rb,rS,rc,rU⟩from rfl]
   generalize w4 w6 gr (k*4) ⟨rb,rS,rc,rU⟩=w7 at *;clear g0 g1 g2 g3 f0 f1 f2 f3 hg6 HRW dP
   (repeat(go_big_quiet_step (fail)));refine wpQuiet_nil ?_
   refine NoPanic.normal ?_;go_wp2;go_roundw
   case rel=>exact⟨k+1,by omega,by go_num,K7.out,JJ.out,lZ.out,nE.out,gZ.out⟩
   case measure=>simp [intOf];omega
  case neg=>
   have hlt:¬(k:Int)<(K:Int):=by omega
   obtain rfl:k=K:=by omega
   have Oo:=zh (nJ.out.keep dP.out);have zcc:Hid (aY wr gr (qX S.cells[i] a k)):=HRW;obtain⟨r0,rl⟩:wr.cell? ⟨b8,0,none⟩=some (.slice (some ⟨gr,0,none⟩) k k)∧b8<wr.heap.size:=⟨lZ.out.cell 0,lZ.out.lt⟩;obtain⟨Zn,SG⟩:wr.cell? ⟨b5,0,none⟩=some (.int .i64 (v:Int))∧b5<wr.heap.size:=⟨gZ.out.cell 0,gZ.out.lt⟩;have hrl:(qX S.cells[i] a k).length=k:=by rw [qY,HK.out]
   obtain⟨_,_,_,_,g0,g1,g2,g3,_,f0,f1,f2,f3⟩:=HRW.out.at (k:=v) (by rw [hrl];exact hvK)
   have hg6:=HRW.out.lt;have HRL:=zh hrl;clear v0 vl;go_upto_region 10 with fail
   have JJ:Hid (aY (w4 wr gr (v*4) nv0) gr ((qX S.cells[i] a k).set v 0)):=zh (HRW.out.set4 rW);have K7:Hid (Keep au w1 (w4 wr gr (v*4) nv0)):=zh (rV dP.out HGR.out);have HO:∀b,b≠gr→(w4 wr gr (v*4) nv0).heap[b]? =wr.heap[b]? :=fun b hb=>iZ hb
   have lZ:=zh (lZ.out.same (HO b8 (Nat.ne_of_gt MC.out)));have nE:=zh (nE.out.same (HO b7 (Nat.ne_of_lt Yt.out)));have gZ:=zh (gZ.out.same (HO b5 (Nat.ne_of_lt (Nat.lt_trans MJ.out Yt.out))));clear HO Oo zcc;rw [show((((wr.setCell ⟨gr,v*4,none⟩ (.bool false)).setCell ⟨gr,v*4+1,none⟩ (.string ⟨#[]⟩)).setCell ⟨gr,v*4+2,none⟩ (.bool false)).setCell ⟨gr,v*4+3,none⟩ (.string ⟨#[]⟩))=w4 wr gr (v*4) nv0 from rfl]
   generalize w4 wr gr (v*4) nv0=w7 at *;clear g0 g1 g2 g3 f0 f1 f2 f3 hg6 HRW dP r0 rl Zn SG;obtain⟨r0,rl⟩:w7.cell? ⟨b8,0,none⟩=some (.slice (some ⟨gr,0,none⟩) k k)∧b8<w7.heap.size:=⟨lZ.out.cell 0,lZ.out.lt⟩;have CI:=fun w=>zh (jH w 1 (by omega) (by omega))
   obtain⟨⟨yb,yS,yc,yU⟩,hy,hyn⟩:=qL 1;rw [hy]at CI;have CO:=fun w=>zh (oQ w _ _ hyn ((jy (x:=1) (by decide)).mono (by omega)) _ _ Zl.out (HNA.out.mono (by omega)) Yr.out)
   obtain⟨⟨rb,rS,rc,rU⟩,hrq,hrn⟩:=fE (((1:Int):Rat)/a);rw [hrq]at CO;unfold NV.v at CI CO;simp only at CI CO;have SE:Hid (bM (NV.v ⟨rb,rS,rc,rU⟩) (1/a)):=zh hrn;clear hy hyn hrq hrn;refine aD (fun w'=>Keep au w7 w') [6] [([0,1,3],2),([],4),([5],6)] [] (by kernel_rfl) (by kernel_rfl) kp ?_
   intro X W hne hF hcls;have aQ:=zh hcls;have x0:=fun x=>((hF x).cell rl).trans r0
   have z1:=fun x=>(nE.out.keep (hF x)).four
   clear hF hcls;simp only [aO,aJ,zl0,zl1,zl2,aV,Bool.false_eq_true,if_false]
   (repeat(go_big_quiet_step (fail)));refine wpQuiet_nil ?_
   refine ay rfl rfl fun K hK=> ?_
   go_simp;refine(CI _).out.mono ?_;rintro e w5 ⟨rfl,hk5⟩;have k5:Keep au w7 w5:=Keep.trans kp hk5 fun _ _ _ h=>h
   refine hK _ _ ⟨fun _=>aQ.out _ k5,?_⟩
   clear hK hk5 CI
   (repeat(go_big_quiet_step (fail)));refine wpQuiet_nil ?_
   refine ay rfl rfl fun K hK=> ?_
   go_simp;refine(CO _).out.mono ?_;rintro e w6 ⟨rfl,hk6⟩;have k6:Keep au w7 w6:=k5.both hk6;refine hK _ _ ⟨fun _=>aQ.out _ k6,?_⟩
   clear hK hk6 CO k5;have HRW:=zh (JJ.out.keep k6);have lZ:=zh (lZ.out.keep k6);have gZ:=zh (gZ.out.keep k6);have dP:=zh (K7.out.both k6);obtain⟨_,_,_,_,g0,g1,g2,g3,_,f0,f1,f2,f3⟩:=HRW.out.at (k:=S.basic[i]) (by rw [List.length_set,HRL.out,←HK.out];exact hbb)
   have hg6:=HRW.out.lt
   (repeat(go_big_quiet_step (fail)));refine wpQuiet_nil ?_
   refine ay rfl rfl fun K hK=> ?_
   go_simp;refine hK _ _ ⟨fun h=>(by simp at h),?_⟩
   clear hK x0 z1;have HR8:Hid (aY (w4 w6 gr (S.basic[i]*4) ⟨rb,rS,rc,rU⟩) gr (S.pivRow i v)):=zh (by
    have:=HRW.out.set4 (k:=S.basic[i]) SE.out;have e:S.pivRow i v=(((qX S.cells[i] a k).set v 0).set S.basic[i] (1/a)):=by
     unfold TS.pivRow;have e1:S.cells.getD i []=S.cells[i]:=by rw [eG,iw hic];rfl
     rw [e1,HA.out,mg hib,HK.out]
    rw [e];exact this)
   have K8:Hid (Keep au w1 (w4 w6 gr (S.basic[i]*4) ⟨rb,rS,rc,rU⟩)):=zh (rV dP.out HGR.out);have HO:∀b,b≠gr→(w4 w6 gr (S.basic[i]*4) ⟨rb,rS,rc,rU⟩).heap[b]? =w6.heap[b]? :=fun b hb=>iZ hb
   have lZ:=zh (lZ.out.same (HO b8 (Nat.ne_of_gt MC.out)));have gZ:=zh (gZ.out.same (HO b5 (Nat.ne_of_lt (Nat.lt_trans MJ.out Yt.out))));clear HO;rw [show((((w6.setCell ⟨gr,S.basic[i]*4,none⟩ (.bool rb)).setCell ⟨gr,S.basic[i]*4+1,none⟩ (.string rS)).setCell ⟨gr,S.basic[i]*4+2,none⟩ (.bool rc)).setCell ⟨gr,S.basic[i]*4+3,none⟩ (.string rU))=w4 w6 gr (S.basic[i]*4) ⟨rb,rS,rc,rU⟩from rfl]
   generalize w4 w6 gr (S.basic[i]*4) ⟨rb,rS,rc,rU⟩=w8' at *;clear g0 g1 g2 g3 f0 f1 f2 f3 hg6 HRW dP k6 JJ K7 nE r0 rl;have HL8:=zh (nJ.out.keep K8.out);have ME:Hid ((S.pivRow i v).length=k):=zh (by
    have e1:S.cells.getD i []=S.cells[i]:=by rw [eG,iw hic];rfl
    unfold TS.pivRow;rw [List.length_set,List.length_set,qY,e1,HK.out])
   have HPN:Hid (∀x∈S.pivRow i v,NB 300 x):=zh (Pv HN.out hic HVC.out hib HA.out Yr.out HNA.out)
   (repeat(go_big_quiet_step (fail)));refine wpQuiet_nil ?_
   refine NoPanic.normal ?_;obtain⟨_,_,_,_,t4',_,_,zaS⟩:=HL8.out.t.seven;rw [HOC.out]at t4';go_wp2;clear t4' zaS;go_loopw [76] (fun s wr=>∃j:Nat,j≤S.cells.length∧s= .int .i64 j∧LT w0 wr bT nm {S with cells:=S.pivC i v j} L∧aY wr gr (S.pivRow i v)∧aL wr b8 #[.slice (some ⟨gr,0,none⟩) k k]∧aL wr b5 #[.int .i64 (v:Int)]) (fun s _=>(S.cells.length-intOf s).toNat)
   case atStart=>exact⟨0,by omega,rfl,HL8.out,HR8.out,lZ.out,gZ.out⟩
   case round=>
    obtain⟨j,hj,rfl,hl,hr,hb8,SC⟩:=hrel;have HL:=zh hl;have HR:=zh hr;have lZ:=zh hb8;have gZ:=zh SC;clear hl hr hb8 SC HL8 HR8
    by_cases hjl:j<S.cells.length
    case pos=>
     have hlt:(j:Int)<(S.rows.length:Int):=by omega
     have hlt':(j:Int)<(S.cells.length:Int):=by omega
     have hjd:S.cells.getD j []=S.cells[j]:=by rw [eG,iw hjl];rfl
     by_cases hji:j=i
     case pos=>
      have e1:((j:Int) != (i:Int))=false:=by rw [bne_eq_false_iff_eq];omega
      have HPC:Hid (S.pivC i v (j+1)=S.pivC i v j):=zh (by rw [TS.pivC,if_pos hji])
      clear hji hjd;go_wp2;go_roundw
      case rel=>exact⟨j+1,by omega,by go_num,by rw [HPC.out];exact HL.out,HR.out,lZ.out,gZ.out⟩
      case measure=>simp [intOf];omega
     case neg=>
      have e1:((j:Int) != (i:Int))=true:=by rw [bne_iff_ne];omega
      have HPC:Hid (S.pivC i v (j+1)=(S.pivC i v j).set j (yx S.cells[j] v (S.pivRow i v))):=zh (by rw [TS.pivC,if_neg hji,hjd])
      have hjp:j<(S.pivC i v j).length:=by rw [fZ];exact hjl
      have e2:(S.pivC i v j)[j]=S.cells[j]:=DT hjl j (Nat.le_refl _);obtain⟨_,_,_,_,t4,_,_,eF⟩:=HL.out.t.seven;rw [HOC.out]at t4;obtain⟨hoc,hck⟩:=HL.out.c (by intro h0;have h0:S.pivC i v j= []:=h0;rw [h0]at hjp;simp at hjp)
      obtain⟨c0,_⟩:=hck.at (i:=j) hjp;have zcd:=hck.lt;have hrr:=HL.out.r j hjp;simp only [e2,WC.out j hjl]at c0 hrr;simp only [fZ]at t4;obtain⟨hq,hc1,hc2⟩:=hrr;have hlow:=WE.out.2.2.2.2.2 j hjl;have h57:=MJ.out;have h7g:=Yt.out;have hg8:=MC.out;have ng:gr≠L.gs j:=by omega
      have n5:b5≠L.gs j:=by omega
      have n8:b8≠L.gs j:=by omega
      have hlj:=WC.out j hjl;have CS:=PE wr (L.gs j) (L.cs j) b5 b8 gr k v S.cells[j] (S.pivRow i v) gZ.out (by rw [ME.out];exact lZ.out) hq HR.out (by rw [ME.out,hlj]) (by rw [hlj];exact hvK) (by rw [hlj];omega) (by rw [hlj];exact⟨hc1,hc2⟩) (by rw [ME.out];exact⟨Nat.le_refl _,by unfold maxLen;omega⟩) ng n5 n8 (fun x hx=>(HN.out.c _ (List.getElem_mem hjl) x hx).mono (by omega)) HPN.out
      rw [hlj]at CS;have CS:=zh CS;unfold maxLen at hc2;have HJP:=zh hjp;have HE2:=zh e2;have HLJ:=zh hlj;clear hq hlj hck hoc hjd hji;go_wp2_with fail;refine CS.out.mono ?_;rintro e w2 ⟨rfl,hq2,hk2⟩;have KW:Hid (Keep au w0 w2):=zh (HL.out.k.trans hk2 fun n o hn hs=>by
       have h1:=HL.out.own.2.2.2.2.2 j HJP.out;have h2:n=L.gs j:=hs;omega)
      have HL2:=zh (HL.out.setRow (i:=j) HJP.out (q':=yx S.cells[j] v (S.pivRow i v)) (by simp only [HE2.out];simp [yx]) KW.out (fun b hb hne=>hk2.sameB hb hne) hq2)
      have HR2:=zh (HR.out.same (hk2.sameB HR.out.lt ng));have zce:=zh (lZ.out.same (hk2.sameB lZ.out.lt n8));have WG:=zh (gZ.out.same (hk2.sameB gZ.out.lt n5));clear CS hq2 hk2 HL HR lZ gZ t4 c0 eF zcd;go_wp2;go_roundw
      case rel=>exact⟨j+1,by omega,by go_num,by rw [HPC.out];exact HL2.out,HR2.out,zce.out,WG.out⟩
      case measure=>simp [intOf];omega
    case neg=>
     have hlt:¬(j:Int)<(S.rows.length:Int):=by omega
     obtain rfl:j=S.cells.length:=by omega
     obtain⟨_,_,_,_,_,_,t6,eF⟩:=HL.out.t.seven;have hnil:=SA wr;go_upto_region 20 with fail
     clear t6 hnil;obtain⟨_,_,t2,_,t4,_,_,eF⟩:=HL.out.t.seven;rw [HOC.out]at t4;rw [HOB.out]at t2;simp only [fZ]at t4;have hip:i<(S.pivC i v S.cells.length).length:=by rw [fZ];exact hic
     obtain⟨hoc,hck⟩:=HL.out.c (by intro h0;have h0:S.pivC i v S.cells.length= []:=h0;rw [h0]at hip;simp at hip)
     obtain⟨JI,hbk⟩:=HL.out.b (by intro h0;have h0:S.basic= []:=h0;rw [h0]at hib;simp at hib)
     obtain⟨cc,fc⟩:=hck.at (i:=i) hip;obtain⟨cb,fb⟩:=hbk.at (i:=i) hib;have lc:=hck.lt;have lb:=hbk.lt;obtain⟨r0,rl⟩:wr.cell? ⟨b8,0,none⟩=some (.slice (some ⟨gr,0,none⟩) k k)∧b8<wr.heap.size:=⟨lZ.out.cell 0,lZ.out.lt⟩;obtain⟨Zn,SG⟩:wr.cell? ⟨b5,0,none⟩=some (.int .i64 (v:Int))∧b5<wr.heap.size:=⟨gZ.out.cell 0,gZ.out.lt⟩;have hbc:L.gb≠L.gc:=HL.out.ap.bc;have h57:=MJ.out;have h7g:=Yt.out;have hg8:=MC.out;have low:=WE.out;have o1:bT≠L.gc:=HL.out.ap.tc;have o2:bT≠L.gb:=HL.out.ap.tb;have o3:b8≠L.gc:=by omega
     have o4:b8≠L.gb:=by omega
     have o5:b5≠L.gc:=by omega
     have o6:b5≠L.gb:=by omega
     have HO:=zh (And.intro o1 (And.intro o2 (And.intro o3 (And.intro o4 (And.intro o5 o6)))));clear h57 h7g hg8 low hck hbk hoc JI o1 o2 o3 o4 o5 o6;refine aD (fun w'=>Keep (Two L.gc L.gb) wr w') [] [([0,1,2,3,4,5,6,7,8,9,10,11,12],13),([14],15)] [] (by kernel_rfl) (by kernel_rfl) (Keep.refl _ _).drew ?_
     intro X W hne hF hcls;have aQ:=zh hcls;have x0:=fun x=>((hF x).off2 eF HO.out.1 HO.out.2.1).trans t2
     have x1:=fun x=>((hF x).off2 eF HO.out.1 HO.out.2.1).trans t4
     have x2:=fun x=>((hF x).off2 rl HO.out.2.2.1 HO.out.2.2.2.1).trans r0
     have x3:=fun x=>((hF x).off2 SG HO.out.2.2.2.2.1 HO.out.2.2.2.2.2).trans Zn
     clear hF hcls;simp only [aO,aJ,zl0,zl1,zl2,aV,Bool.false_eq_true,if_false]
     (repeat(go_big_quiet_step (fail)));refine wpQuiet_nil ?_
     refine ay rfl rfl fun K hK=> ?_
     go_simp;have kS:Keep (Two L.gc L.gb) wr (wr.setCell ⟨L.gc,i,none⟩ (.slice (some ⟨gr,0,none⟩) k k)).drew:=((Keep.refl _ _).setCell _ fun _=> .inl rfl).drew
     refine hK _ _ ⟨fun _=>aQ.out _ kS,?_⟩
     clear hK kS
     (repeat(go_big_quiet_step (fail)));refine wpQuiet_nil ?_
     refine ay rfl rfl fun K hK=> ?_
     go_simp;have kT:Keep (Two L.gc L.gb) wr ((wr.setCell ⟨L.gc,i,none⟩ (.slice (some ⟨gr,0,none⟩) k k)).setCell ⟨L.gb,i,none⟩ (.int .i64 (v:Int))).drew:=(((Keep.refl _ _).setCell _ fun _=> .inl rfl).setCell _ fun _=> .inr rfl).drew
     refine hK _ _ ⟨fun _=>aQ.out _ kT,?_⟩
     clear hK aQ x0 x1 x2 x3 r0 rl Zn SG t2 t4 cc fc cb fb;have HGC:Hid (∀A,aL wr L.gc A→aL ((wr.setCell ⟨L.gc,i,none⟩ (.slice (some ⟨gr,0,none⟩) k k)).setCell ⟨L.gb,i,none⟩ (.int .i64 (v:Int))).drew L.gc (A.setIfInBounds i (.slice (some ⟨gr,0,none⟩) k k))):=zh (fun A hA=>((hA.set i _).setOther i _ hbc.symm).keep (Keep.refl au _).drew)
     have WH:Hid (∀A,aL wr L.gb A→aL ((wr.setCell ⟨L.gc,i,none⟩ (.slice (some ⟨gr,0,none⟩) k k)).setCell ⟨L.gb,i,none⟩ (.int .i64 (v:Int))).drew L.gb (A.setIfInBounds i (.int .i64 (v:Int)))):=zh (fun A hA=>((hA.setOther i _ hbc).set i _).keep (Keep.refl au _).drew)
     have Gd:=zh kT;have PG:Hid (Keep au w0 ((wr.setCell ⟨L.gc,i,none⟩ (.slice (some ⟨gr,0,none⟩) k k)).setCell ⟨L.gb,i,none⟩ (.int .i64 (v:Int))).drew):=zh (((HL.out.k.setCell _ fun hh=>absurd hh (Nat.not_lt.2 HL.out.own.2.2.1)).setCell _ fun hh=>absurd hh (Nat.not_lt.2 HL.out.own.2.1)).drew)
     clear kT;generalize ((wr.setCell ⟨L.gc,i,none⟩ (.slice (some ⟨gr,0,none⟩) k k)).setCell ⟨L.gb,i,none⟩ (.int .i64 (v:Int))).drew=w3' at*
     (repeat(go_big_quiet_step (fail)));refine wpQuiet_nil ?_
     refine NoPanic.normal ?_;have JK:=zh (aL.same HL.out.t (Gd.out.same2 eF HO.out.1 HO.out.2.1));have Yv:=zh (gZ.out.same (Gd.out.same2 gZ.out.lt HO.out.2.2.2.2.1 HO.out.2.2.2.2.2));obtain⟨D,hown,hat⟩:=HL.out.mp.same (Gd.out.same2 HL.out.mp.lt HL.out.ap.cm.symm HL.out.ap.bm.symm);have law:Keyed Tryz.prog 3:=int_keyed Tryz.underlying3;have hkb:keyOf Tryz.prog 3 (.int .i64 (S.basic[i]:Int))=some (.int .i64 (S.basic[i]:Int)):=keyOf_int_mk Tryz.underlying3 (WalkArith.wf_i64 (by omega))
     have hkv:keyOf Tryz.prog 3 (.int .i64 (v:Int))=some (.int .i64 (v:Int)):=keyOf_int_mk Tryz.underlying3 (WalkArith.wf_i64 (by omega))
     have HAT:=zh hat;have HKV:=zh hkv;obtain⟨_,_,_,t3,_,_,_,lt3⟩:=JK.out.seven;clear hat hkv lc lb hbc eF;go_wp2_with (at_delete;refine wpList_delete_own _ rfl _ _ 85 3 rfl 3 law Tryz.underlying85 _ L.gm nm D rfl hown _ _ rfl hkb ?_;intro w4' hown1 hturn1);have hg1:=hturn1.grown;have hTl:=JK.out;have n1:bT≠L.gm:=HL.out.ap.tm;have WI:Hid (wF w4' bT _ _ _ _ _ _ _):=zh (aL.same JK.out (hg1.block bT lt3 (by simp [n1])))
     have n2:b5≠L.gm:=by have:=WE.out.2.2.2.2.1;omega
     have zaT:=zh (Yv.out.same (hg1.block b5 Yv.out.lt (by simp [n2])))
     obtain⟨_,_,_,t3',_,_,_,lt4⟩:=WI.out.seven;obtain⟨Zn,SG⟩:w4'.cell? ⟨b5,0,none⟩=some (.int .i64 (v:Int))∧b5<w4'.heap.size:=⟨zaT.out.cell 0,zaT.out.lt⟩;obtain⟨w5',hrun,hown2,hg2⟩:=hown1.drew.update law Tryz.underlying85 (by unfold maxLen;omega) HKV.out (plainElem_int (H:=Unit) Tryz.underlying3 (a:=(i:Int)) (WalkArith.wf_i64 (by omega)))
     have SH:=zh hown1.isMap;have RX:=zh hg1;have HG2:=zh hg2;have HOWN:=zh hown2;clear t3 lt3 hown hown1 hturn1 hg1 hg2 hown2 hTl hkb;refine aD (fun w'=>Keep au w4' w') [6] [([0,1,2,3,4,5],6)] [] (by kernel_rfl) (by kernel_rfl) kp ?_
     intro X W hne hF hcls;have x0:=fun x=>((hF x).cell lt4).trans t3'
     have x1:=fun x=>((hF x).cell SG).trans Zn
     clear hF hcls;simp only [aO,aJ,zl0,zl1,zl2,aV,Bool.false_eq_true,if_false]
     (repeat(go_big_quiet_step (fail)));refine wpQuiet_nil ?_
     refine ay rfl rfl fun K hK=> ?_
     go_simp;refine hK _ _ ⟨fun h=>(by simp at h),?_⟩
     clear hK x0 x1 hrun t3' lt4 Zn SG
     (repeat(go_big_quiet_step (fail)));refine wpQuiet_nil ?_
     refine NoPanic.normal ?_;go_simp
     repeat go_step
     refine bodyPost_end (by simp [results,Tryz.results52,go_sem];rfl) rfl ?_
     refine⟨rfl,?_⟩;have hk5:Keep au w0 w5':=((PG.out.grown RX.out (fun k hk=>by cases hk;exact HL.out.own.2.2.2.2.1)).drew).grown HG2.out (fun k hk=>by cases hk;exact HL.out.own.2.2.2.2.1)
     have ho5:∀b,b<w3'.heap.size→b≠L.gm→w5'.heap[b]? =w3'.heap[b]? :=fun b hb hne=>by
      have e1:=RX.out.block b hb (by simp [hne])
      have e2:=HG2.out.block b (dY hb RX.out.size) (by simp [hne])
      exact e2.trans e1
     have hmb:Ae w5' L.gm (nm+1) (S.basic.set i v):=⟨_,HOWN.out,fun j hj=>by
      have hj':j<S.basic.length:=by simpa using hj
      have hD:=HOWN.out.isMap
      by_cases e:i=j
      ·subst e
       simp only [List.getElem_set_self];exact Maps.atKey_put_same (SH.out) (show WideAt.IsKeyLit (.int .i64 (v:Int))from by simp [WideAt.IsKeyLit]) _ _
      ·have h1:S.basic[j]≠v:=fun h=>JB.out (h ▸ List.getElem_mem hj')
       have h2:S.basic[j]≠S.basic[i]:=fun h=>e ((List.getElem_inj HW.out.nd).1 h).symm
       simp only [List.getElem_set,e,if_false];rw [Maps.atKey_put_other (by intro h;injection h with _ h;exact h1 (Int.ofNat.inj h)),Maps.atKey_del_other (by intro h;injection h with _ h;exact h2 (Int.ofNat.inj h))]
       exact HAT.out j hj'⟩
     have hsz:∀b,b<wr.heap.size→b<w3'.heap.size:=fun b hb=>dY hb Gd.out.size
     have h57:=MJ.out;have h7g:=Yt.out;have hg8:=MC.out;have low:=WE.out;have hres:=LT.pivotEnd HL.out (w':=w5') (nm':=nm+1) (i:=i) (by simp only [fZ];exact hic) hib (row:=S.pivRow i v) (gr:=gr) (cr:=k) (v:=v) (by rw [ME.out];simp only [Af hic];exact HK.out.symm) hk5
      (fun b hb h1 h2 h3=>(ho5 b (hsz b hb) h3).trans (Gd.out.same2 hb h1 h2))
      (fun A hA=>by have:=(HGC.out A hA).same (ho5 _ (hsz _ hA.lt) HL.out.ap.cm);rw [ME.out];exact this)
      (fun A hA=>(WH.out A hA).same (ho5 _ (hsz _ hA.lt) HL.out.ap.bm))
      hmb (HR.out.same ((ho5 _ (hsz _ HR.out.lt) (by omega)).trans (Gd.out.same2 HR.out.lt (by omega) (by omega)))) (by rw [ME.out];exact⟨Nat.le_refl _,by unfold maxLen;omega⟩) (by have:=HGR.out;have:=HW1.out;omega) (by omega) (by omega) (by omega) (by omega) (by omega)
      (fun j hj=>by have:=low.2.2.2.2.2 j (by simpa only [fZ]using hj);omega)
     exact hres
end Go.Proofs.YtaiffmebphhdaaaGreat
