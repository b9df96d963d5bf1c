/- Package tableau's move. -/
import Derived.Test.YtaiffmebphhdaaaGreatTbM
namespace Go.Proofs.YtaiffmebphhdaaaGreat
set_option maxRecDepth 100000
set_option maxHeartbeats 32000000
set_option linter.unusedSimpArgs false
set_option linter.unusedVariables false
open Go.ChangeShapes Go.WideShapes Go.RowKit Go.Maps
theorem Bt (w0 w:World)(bT nm:Nat)(S:TS)(h:Dz w0 w bT nm S)(hw:S.wf)(hn:S.nb 300)(v:Nat)(hv:v<S.n+S.rows.length)(hvb:v∉S.basic)(z:PV)(d:Pr)(hz:z.is d)(hd:d.ok 300):
  Calls Tryz.prog 51 #[.pointer (some ⟨bT,0,none⟩),.int .i64 (v:Int),z.v] w fun e w'=>e= .returned (.tuple #[])∧Dz w0 w' bT nm (S.move v d):=by
 obtain⟨L,h⟩:=h;obtain⟨⟨pb,pS,pc,pU⟩,⟨qb,qS,qc,qU⟩⟩:=z;have HW:=zh hw;have HN:=zh hn;have HZ:=zh hz;have HD:=zh hd;have xs:=h.cv.1;have xs':=h.cv.2;have ys:=h.cb.1;have ys':=h.cb.2;have zs:=h.cc.1;have zs':=h.cc.2;have hvl:=hw.vl;have hbl:=hw.bl;have hcl:=hw.cl;have h40:=hw.r40;have h12:=hw.n12;unfold maxLen at xs' ys' zs';have hvv:v<S.vals.length:=by omega
 have hvI:(v:Int)<(S.vals.length:Int):=by omega
 obtain⟨⟨⟨xb,xS,xc,xU⟩,⟨yb,yS,yc,yU⟩⟩,hpx,e0,e1,e2,e3,e4,e5,e6,e7⟩:=qK h.v hvv;simp only at e0 e1 e2 e3 e4 e5 e6 e7;have CP:=fun w=>zh (Ho w _ _ hpx ((hn.v _ (List.getElem_mem hvv)).mono (by omega)) _ _ hz (hd.mono (by omega)))
 unfold PV.v;unfold PV.v at CP;simp only at CP ⊢;have JB:=zh hvb;have hW0:Hid (w0.heap.size≤w.heap.size):=zh h.k.size;have ka:Keep au w (w.alloc (.cells #[.bool pb,.string pS,.bool pc,.string pU,.bool qb,.string qS,.bool qc,.string qU] 101)):=(Keep.refl _ _).alloc _;have HB:Hid (aL (w.alloc (.cells #[.bool pb,.string pS,.bool pc,.string pU,.bool qb,.string qS,.bool qc,.string qU] 101)) w.heap.size #[.bool pb,.string pS,.bool pc,.string pU,.bool qb,.string qS,.bool qc,.string qU]):=zh (aR _ _ rfl);have nJ:=zh (h.keep ka);have hgv:=h.v.lt;have hne:L.gv≠w.heap.size:=by omega
 have gV:Hid (w.heap.size≠L.gv):=zh (by omega)
 have e0:=(ka.cell hgv).trans e0;have e1:=(ka.cell hgv).trans e1;have e2:=(ka.cell hgv).trans e2;have e3:=(ka.cell hgv).trans e3;have e4:=(ka.cell hgv).trans e4;have e5:=(ka.cell hgv).trans e5;have e6:=(ka.cell hgv).trans e6;have e7:=(ka.cell hgv).trans e7;clear h hw hn hz hd hvb hpx;go_enter Tryz.func51,Tryz.ntmps51;go_upto_region 1 with fail
 clear ka hgv;generalize w.alloc (.cells #[.bool pb,.string pS,.bool pc,.string pU,.bool qb,.string qS,.bool qc,.string qU] 101)=w1 at *;generalize hb5:w.heap.size=b5 at *;obtain⟨_,_,_,_,_,t5,_,eF⟩:=nJ.out.t.seven;have hgv:=nJ.out.v.lt;refine aD (fun w'=>Keep au w1 w') [15] [([0,1,2,3,4,5,6,7,8,9,10,11,12],13),([14],15)] [] (by kernel_rfl) (by kernel_rfl) kp ?_
 intro X W hne' hF hcls;have aQ:=zh hcls;have x0:=fun x=>((hF x).cell eF).trans t5
 have y0:=fun x=>((hF x).cell hgv).trans e0
 have y1:=fun x=>((hF x).cell hgv).trans e1
 have y2:=fun x=>((hF x).cell hgv).trans e2
 have y3:=fun x=>((hF x).cell hgv).trans e3
 have y4:=fun x=>((hF x).cell hgv).trans e4
 have y5:=fun x=>((hF x).cell hgv).trans e5
 have y6:=fun x=>((hF x).cell hgv).trans e6
 have y7:=fun x=>((hF x).cell hgv).trans e7
 have z0:=fun x=>(HB.out.keep (hF x)).eight
 clear hF hcls e0 e1 e2 e3 e4 e5 e6 e7 t5;simp only [aO,aJ,zl0,zl1,zl2,aV,Bool.false_eq_true,if_false]
 (repeat(go_big_quiet_step (fail)));refine wpQuiet_nil ?_
 refine ay rfl rfl fun K hK=> ?_
 go_simp;refine(CP _).out.mono ?_;rintro e w2 ⟨⟨⟨rb,rS,rc,rU⟩,⟨sb,sS,sc,sU⟩⟩,rfl,hr,hk⟩;have k2:Keep au w1 w2:=Keep.trans kp hk fun _ _ _ h=>h
 refine hK _ _ ⟨fun _=>aQ.out _ k2,?_⟩
 clear hK K hk CP;have HL2:=zh (nJ.out.keep k2);have HB:=zh (HB.out.keep k2);obtain⟨⟨⟨ab,aS,ac,aU⟩,⟨bb,bS,bc,bU⟩⟩,_,g0,g1,g2,g3,g4,g5,g6,g7⟩:=qK HL2.out.v hvv;simp only at g0 g1 g2 g3 g4 g5 g6 g7;have f:=Lm HL2.out.v;have f0:=f (v*8);have f1:=f (v*8+1);have f2:=f (v*8+2);have f3:=f (v*8+3);have f4:=f (v*8+4);have f5:=f (v*8+5);have f6:=f (v*8+6);have f7:=f (v*8+7);have hgl:=HL2.out.v.lt;clear f
 (repeat(go_big_quiet_step (fail)));refine wpQuiet_nil ?_
 refine ay rfl rfl fun K hK=> ?_
 go_simp;refine hK _ _ ⟨fun h=>(by simp at h),?_⟩
 clear hK K x0 y0 y1 y2 y3 y4 y5 y6 y7 z0;have Wm:Hid (LT w0 (w8 w2 L.gv (v*8) ⟨⟨rb,rS,rc,rU⟩,⟨sb,sS,sc,sU⟩⟩) bT nm {S with vals:=S.mvK v d 0} L):=zh (HL2.out.setVals (by simp [TS.mvK]) (O4 HL2.out.k HL2.out.own.2.2.2.1) (fun b hb=>zF hb) (by
  have:=O5 HL2.out.v (v:=v) hr;simp only [TS.mvK];rw [jY hvv];exact this))
 have HB3:Hid (aL (w8 w2 L.gv (v*8) ⟨⟨rb,rS,rc,rU⟩,⟨sb,sS,sc,sU⟩⟩) b5 #[.bool pb,.string pS,.bool pc,.string pU,.bool qb,.string qS,.bool qc,.string qU]):=zh (HB.out.same (zF (Ne.symm hne)));rw [show((((((((w2.setCell ⟨L.gv,v*8,none⟩ (.bool rb)).setCell ⟨L.gv,v*8+1,none⟩ (.string rS)).setCell ⟨L.gv,v*8+2,none⟩ (.bool rc)).setCell ⟨L.gv,v*8+3,none⟩ (.string rU)).setCell ⟨L.gv,v*8+4,none⟩ (.bool sb)).setCell ⟨L.gv,v*8+5,none⟩ (.string sS)).setCell ⟨L.gv,v*8+6,none⟩ (.bool sc)).setCell ⟨L.gv,v*8+7,none⟩ (.string sU))=w8 w2 L.gv (v*8) ⟨⟨rb,rS,rc,rU⟩,⟨sb,sS,sc,sU⟩⟩from rfl]
 generalize w8 w2 L.gv (v*8) ⟨⟨rb,rS,rc,rU⟩,⟨sb,sS,sc,sU⟩⟩=w3 at *;clear g0 g1 g2 g3 g4 g5 g6 g7 f0 f1 f2 f3 f4 f5 f6 f7 HL2 HB nJ
 (repeat(go_big_quiet_step (fail)));refine wpQuiet_nil ?_
 refine NoPanic.normal ?_;obtain⟨_,_,t2,_,_,_,_,zb2⟩:=Wm.out.t.seven;go_wp2;clear t2 eF zb2 hgv hgl hne;go_loopw [28] (fun s wr=>∃k:Nat,k≤S.basic.length∧s= .int .i64 k∧LT w0 wr bT nm {S with vals:=S.mvK v d k} L∧aL wr b5 #[.bool pb,.string pS,.bool pc,.string pU,.bool qb,.string qS,.bool qc,.string qU]) (fun s _=>(S.basic.length-intOf s).toNat)
 case atStart=>exact⟨0,by omega,rfl,Wm.out,HB3.out⟩
 case round=>
  obtain⟨k,hk,rfl,hlt',hb⟩:=hrel;have Oo:=zh hlt';have HB:=zh hb;clear hlt' hb Wm HB3
  by_cases hkl:k<S.basic.length
  case neg=>
   have hlt:¬(k:Int)<(S.basic.length:Int):=by omega
   obtain rfl:k=S.basic.length:=by omega
   go_wp2;refine bodyPost_end (by simp [results,Tryz.results51,go_sem];rfl) rfl ?_
   exact⟨rfl,L,Oo.out⟩
  case pos=>
   have hlt:(k:Int)<(S.basic.length:Int):=by omega
   have hkc:k<S.cells.length:=by omega
   have hkcI:(k:Int)<(S.cells.length:Int):=by omega
   have hxk:=HW.out.bb _ (List.getElem_mem hkl);have hxv:S.basic[k]<(S.mvK v d k).length:=by rw [yV];omega
   have hxI:(S.basic[k]:Int)<(S.vals.length:Int):=by omega
   have hll:S.cells[k].length=S.n+S.rows.length:=HW.out.cr _ (List.getElem_mem hkc);have Bn:v<S.cells[k].length:=by omega
   have hvcI:(v:Int)<(S.cells[k].length:Int):=by omega
   obtain⟨_,_,_,_,t4,t5,_,eF⟩:=Oo.out.t.seven;obtain⟨JI,hib⟩:=Oo.out.b (by intro h0;have:S.basic= []:=h0;rw [this]at hkl;simp at hkl)
   obtain⟨ci,_⟩:=hib.at (i:=k) hkl;have hgl:=hib.lt;have hoc:=(Oo.out.c (by intro h0;have:S.cells= []:=h0;rw [this]at hkc;simp at hkc))
   obtain⟨hoc,hcb⟩:=hoc;obtain⟨cc,_⟩:=hcb.at (i:=k) hkc;have hgc:=hcb.lt;have hcs:=(Oo.out.r k hkc).2.1;have hcs2:=(Oo.out.r k hkc).2.2;unfold maxLen at hcs2;have hnb:=(Oo.out.r k hkc).1;obtain⟨nb,nS,nc,nU,m0,m1,m2,m3,DR,_⟩:=hnb.at (k:=v) Bn;have hgs:=hnb.lt;obtain⟨⟨⟨xb',xS',xc',xU'⟩,⟨yb',yS',yc',yU'⟩⟩,hpx,e0,e1,e2,e3,e4,e5,e6,e7⟩:=qK Oo.out.v (v:=S.basic[k]) hxv;simp only at e0 e1 e2 e3 e4 e5 e6 e7;have hgv:=Oo.out.v.lt;have hva:(S.mvK v d k)[S.basic[k]]=S.val S.basic[k]:=by
    have:=O6 (d:=d) HW.out.nd hkl (show S.basic[k]≠v from fun e=>JB.out (e ▸ List.getElem_mem hkl)) k (Nat.le_refl _)
    rw [eG,iw hxv]at this;exact this
   have hxv0:S.basic[k]<S.vals.length:=by omega
   have nva:((S.mvK v d k)[S.basic[k]]).ok 300:=by rw [hva,jY hxv0];exact HN.out.v _ (List.getElem_mem hxv0)
   have nq:NB 300 (S.cells[k][v]):=HN.out.c _ (List.getElem_mem hkc) _ (List.getElem_mem Bn);have CT:=fun w=>zh (wZ w _ _ HZ.out (HD.out.mono (by omega)) _ _ DR (nq.mono (by omega)))
   have nt:(d.mul S.cells[k][v]).ok 600:=⟨HD.out.1.mul nq,HD.out.2.mul nq⟩;have CP:=fun(w:World) (z2:PV) (hz2:z2.is (d.mul S.cells[k][v]))=>zh (Ho w _ _ hpx (nva.mono (by omega)) z2 (d.mul S.cells[k][v]) hz2 (nt.mono (by omega)))
   have HST:Hid (S.mvK v d (k+1)=(S.mvK v d k).set S.basic[k] (((S.mvK v d k)[S.basic[k]]).add (d.mul S.cells[k][v]))):=zh (by
    simp only [TS.mvK];rw [mg hkl,mK hkc Bn,eG,iw hxv];rfl)
   unfold PV.v at CT CP;simp only at CT CP;have Pw:=zh (And.intro m0 (And.intro m1 (And.intro m2 m3)));have Y4:=zh (And.intro e0 (And.intro e1 (And.intro e2 (And.intro e3 (And.intro e4 (And.intro e5 (And.intro e6 e7)))))));have Ic:=zh cc;have HT:=zh (And.intro t4 t5);have YL:=zh hxv;clear m0 m1 m2 m3 e0 e1 e2 e3 e4 e5 e6 e7 hib hcb hnb hpx DR nq nt nva hva;rw [JI];go_upto_region 5 with fail
   clear ci hgl;have hb5:=HB.out.lt;refine aD (fun w'=>Keep au wr w') [26] [([0,1,2,3,4,5,6,7,8,9,10,11,12,13,14,15,16,17,18,19,20,21,22],23),([],24),([25],26)] [] (by kernel_rfl) (by kernel_rfl) kp ?_
   intro X W hne' hF hcls;have aQ:=zh hcls;have x0:=fun x=>((hF x).cell eF).trans HT.out.1
   have x1:=fun x=>((hF x).cell eF).trans HT.out.2
   have x2:=fun x=>((hF x).cell hgc).trans Ic.out
   have q0:=fun x=>((hF x).cell hgs).trans Pw.out.1
   have q1:=fun x=>((hF x).cell hgs).trans Pw.out.2.1
   have q2:=fun x=>((hF x).cell hgs).trans Pw.out.2.2.1
   have q3:=fun x=>((hF x).cell hgs).trans Pw.out.2.2.2
   have y0:=fun x=>((hF x).cell hgv).trans Y4.out.1
   have y1:=fun x=>((hF x).cell hgv).trans Y4.out.2.1
   have y2:=fun x=>((hF x).cell hgv).trans Y4.out.2.2.1
   have y3:=fun x=>((hF x).cell hgv).trans Y4.out.2.2.2.1
   have y4:=fun x=>((hF x).cell hgv).trans Y4.out.2.2.2.2.1
   have y5:=fun x=>((hF x).cell hgv).trans Y4.out.2.2.2.2.2.1
   have y6:=fun x=>((hF x).cell hgv).trans Y4.out.2.2.2.2.2.2.1
   have y7:=fun x=>((hF x).cell hgv).trans Y4.out.2.2.2.2.2.2.2
   have z0:=fun x=>(HB.out.keep (hF x)).eight
   clear hF hcls;rw [hoc]at x0;simp only [aO,aJ,zl0,zl1,zl2,aV,Bool.false_eq_true,if_false]
   (repeat(go_big_quiet_step (fail)));refine wpQuiet_nil ?_
   refine ay rfl rfl fun K hK=> ?_
   go_simp;refine(CT _).out.mono ?_;rintro e w4 ⟨⟨⟨ub,uS,uc,uU⟩,⟨vb,vS,vc,vU⟩⟩,rfl,hm,hk4⟩;have k4:Keep au wr w4:=Keep.trans kp hk4 fun _ _ _ h=>h
   refine hK _ _ ⟨fun _=>aQ.out _ k4,?_⟩
   clear hK K hk4 CT;have CP:=fun w=>CP w _ hm
   unfold PV.v at CP;simp only at CP
   (repeat(go_big_quiet_step (fail)));refine wpQuiet_nil ?_
   refine ay rfl rfl fun K hK=> ?_
   go_simp;refine(CP _).out.mono ?_;rintro e w5 ⟨⟨⟨rb,rS,rc,rU⟩,⟨sb,sS,sc,sU⟩⟩,rfl,hr,hk5⟩;have k5:Keep au wr w5:=k4.both hk5;refine hK _ _ ⟨fun _=>aQ.out _ k5,?_⟩
   clear hK K hk5 CP hm k4;have Ku:=zh (Oo.out.keep k5);have gZ:=zh (HB.out.keep k5);obtain⟨⟨⟨ab,aS,ac,aU⟩,⟨bb,bS,bc,bU⟩⟩,_,g0,g1,g2,g3,g4,g5,g6,g7⟩:=qK Ku.out.v (v:=S.basic[k]) YL.out;simp only at g0 g1 g2 g3 g4 g5 g6 g7;have f:=Lm Ku.out.v;have f0:=f (S.basic[k]*8);have f1:=f (S.basic[k]*8+1);have f2:=f (S.basic[k]*8+2);have f3:=f (S.basic[k]*8+3);have f4:=f (S.basic[k]*8+4);have f5:=f (S.basic[k]*8+5);have f6:=f (S.basic[k]*8+6);have f7:=f (S.basic[k]*8+7);have hgl:=Ku.out.v.lt;clear f
   (repeat(go_big_quiet_step (fail)));refine wpQuiet_nil ?_
   refine ay rfl rfl fun K hK=> ?_
   go_simp;refine hK _ _ ⟨fun h=>(by simp at h),?_⟩
   clear hK K x0 x1 x2 q0 q1 q2 q3 y0 y1 y2 y3 y4 y5 y6 y7 z0;have hown:=Ku.out.own.2.2.2.1;have h5v:b5≠L.gv:=gV.out;have HL6:Hid (LT w0 (w8 w5 L.gv (S.basic[k]*8) ⟨⟨rb,rS,rc,rU⟩,⟨sb,sS,sc,sU⟩⟩) bT nm {S with vals:=S.mvK v d (k+1)} L):=zh (by
    have:=Ku.out.setVals (vals':=S.mvK v d (k+1)) (by simp only [yV]) (O4 Ku.out.k hown) (fun b hb=>zF hb) (by
     rw [HST.out];exact O5 Ku.out.v (v:=S.basic[k]) hr)
    exact this)
   have JD:Hid (aL (w8 w5 L.gv (S.basic[k]*8) ⟨⟨rb,rS,rc,rU⟩,⟨sb,sS,sc,sU⟩⟩) b5 #[.bool pb,.string pS,.bool pc,.string pU,.bool qb,.string qS,.bool qc,.string qU]):=zh (gZ.out.same (zF h5v));rw [show((((((((w5.setCell ⟨L.gv,S.basic[k]*8,none⟩ (.bool rb)).setCell ⟨L.gv,S.basic[k]*8+1,none⟩ (.string rS)).setCell ⟨L.gv,S.basic[k]*8+2,none⟩ (.bool rc)).setCell ⟨L.gv,S.basic[k]*8+3,none⟩ (.string rU)).setCell ⟨L.gv,S.basic[k]*8+4,none⟩ (.bool sb)).setCell ⟨L.gv,S.basic[k]*8+5,none⟩ (.string sS)).setCell ⟨L.gv,S.basic[k]*8+6,none⟩ (.bool sc)).setCell ⟨L.gv,S.basic[k]*8+7,none⟩ (.string sU))=w8 w5 L.gv (S.basic[k]*8) ⟨⟨rb,rS,rc,rU⟩,⟨sb,sS,sc,sU⟩⟩from rfl]
   generalize w8 w5 L.gv (S.basic[k]*8) ⟨⟨rb,rS,rc,rU⟩,⟨sb,sS,sc,sU⟩⟩=w6 at *;clear g0 g1 g2 g3 g4 g5 g6 g7 f0 f1 f2 f3 f4 f5 f6 f7 Ku gZ
   (repeat(go_big_quiet_step (fail)));refine wpQuiet_nil ?_
   refine NoPanic.normal ?_;go_wp2;go_roundw
   case rel=>exact⟨k+1,by omega,by go_num,HL6.out,JD.out⟩
   case measure=>simp [intOf];omega
end Go.Proofs.YtaiffmebphhdaaaGreat
