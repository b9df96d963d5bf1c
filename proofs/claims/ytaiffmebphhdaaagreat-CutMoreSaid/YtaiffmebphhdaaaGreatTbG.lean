/- Package tableau's pivot: its closure, that lays a line into another. -/
import Derived.Test.YtaiffmebphhdaaaGreatTbM
namespace Go.Proofs.YtaiffmebphhdaaaGreat
set_option maxRecDepth 100000
set_option maxHeartbeats 32000000
set_option linter.unusedSimpArgs false
set_option linter.unusedVariables false
open Go.ChangeShapes Go.WideShapes Go.RowKit Go.Maps
def yL (g:Nat):Nat→Nat→Prop:=fun b _=>b=g
def w4 (w:World)(g o:Nat)(x:NV):World:=(((w.setCell ⟨g,o,none⟩ (.bool x.nb)).setCell ⟨g,o+1,none⟩ (.string x.nS)).setCell ⟨g,o+2,none⟩ (.bool x.db)).setCell ⟨g,o+3,none⟩ (.string x.dS)
theorem Oy {w0 w:World}{g o:Nat}{x:NV}(h:Keep (yL g) w0 w):Keep (yL g) w0 (w4 w g o x):=by
 unfold w4;exact(((h.setCell _ fun _=>rfl).setCell _ fun _=>rfl).setCell _ fun _=>rfl).setCell _ fun _=>rfl
theorem iZ {w:World}{g o:Nat}{x:NV}{b:Nat}(h:b≠g):(w4 w g o x).heap[b]? =w.heap[b]? :=by
 unfold w4;rw [heap_setCell_other _ _ _ _ h,heap_setCell_other _ _ _ _ h,heap_setCell_other _ _ _ _ h,heap_setCell_other _ _ _ _ h]
theorem rV {w0 w:World}{g o:Nat}{x:NV}(h:Keep au w0 w)(hg:w0.heap.size≤g):Keep au w0 (w4 w g o x):=by
 unfold w4;exact(((h.setCell _ fun hh=>absurd hh (by omega)).setCell _ fun hh=>absurd hh (by omega)).setCell _ fun hh=>absurd hh (by omega)).setCell _ fun hh=>absurd hh (by omega)
theorem aY.set4 {w:World}{g:Nat}{qs:List Rat}(h:aY w g qs){k:Nat}{x:NV}{q:Rat}(hq:bM x.v q):aY (w4 w g (k*4) x) g (qs.set k q):=h.set hq
theorem Keep.sameB {g:Nat}{w w':World}(h:Keep (yL g) w w'){b:Nat}(hb:b<w.heap.size)(hne:b≠g):w'.heap[b]? =w.heap[b]? :=h.block b hb fun o ho=>hne ho
theorem Keep.only {g:Nat}{a b c:World}(h:Keep (yL g) a b)(k:Keep au b c):Keep (yL g) a c:=h.trans k fun _ _ _ h=>h.elim
def lJ (q:List Rat)(v:Nat)(row:List Rat)(j:Nat):List Rat:=(List.range q.length).map fun k=>(if k=v then 0 else q.getD k 0)+(if k<j then q.getD v 0*row.getD k 0 else 0)
def yx (q:List Rat)(v:Nat)(row:List Rat):List Rat:=(List.range q.length).map fun k=>(if k=v then 0 else q.getD k 0)+q.getD v 0*row.getD k 0
theorem yM {q row:List Rat}{v j:Nat}:(lJ q v row j).length=q.length:=by simp [lJ]
theorem Ih {l:List Rat}{i:Nat}(h:i<l.length):l.getD i 0=l[i]:=by rw [eG,iw h];rfl
theorem P9 {q row:List Rat}{v:Nat}:lJ q v row 0=q.set v 0:=by
 apply List.ext_getElem
 ·simp [lJ]
 ·intro i h1 h2
  have hi:i<q.length:=by simpa [lJ]using h1
  simp only [lJ,List.getElem_map,List.getElem_range,List.getElem_set,Nat.not_lt_zero,if_false,Rat.add_zero]
  by_cases h:i=v
  ·subst h;simp
  ·rw [if_neg h,if_neg (Ne.symm h),Ih hi]
theorem Tp {q row:List Rat}{v:Nat}:lJ q v row q.length=yx q v row:=by
 unfold lJ yx
 apply List.map_congr_left
 intro k hk
 congr 1
 rw [if_pos (List.mem_range.1 hk)]
theorem Qc {q row:List Rat}{v:Nat}(h:q.getD v 0=0):yx q v row=q:=by
 unfold yx
 apply List.ext_getElem
 ·simp
 ·intro i h1 h2
  simp only [List.getElem_map,List.getElem_range,h,Rat.zero_mul,Rat.add_zero]
  split
  ·rename_i e;subst e;rw [← Ih h2,h]
  ·exact Ih h2
theorem Iz {q row:List Rat}{v j k:Nat}(hk:k<q.length):(lJ q v row j)[k]'(by rw [yM];exact hk)=(if k=v then 0 else q.getD k 0)+(if k<j then q.getD v 0*row.getD k 0 else 0):=by simp [lJ]
theorem Qd {q row:List Rat}{v j:Nat}(h:row.getD j 0=0):lJ q v row (j+1)=lJ q v row j:=by
 unfold lJ
 apply List.map_congr_left
 intro k _
 congr 1
 by_cases e:k=j
 ·subst e;rw [if_pos (by omega),if_neg (by omega),h,Rat.mul_zero]
 ·by_cases h1:k<j
  ·rw [if_pos h1,if_pos (by omega)]
  ·rw [if_neg h1,if_neg (by omega)]
theorem Qe {q row:List Rat}{v j:Nat}(hj:j<q.length):(lJ q v row j).set j ((lJ q v row j)[j]'(by rw [yM];exact hj)+q.getD v 0*row.getD j 0)=lJ q v row (j+1):=by
 apply List.ext_getElem
 ·simp [lJ]
 ·intro i h1 h2
  have hi:i<q.length:=by simpa [lJ]using h2
  have a2:=Iz (row:=row) (v:=v) (j:=j+1) hi;have a1:=Iz (row:=row) (v:=v) (j:=j) hi;rw [List.getElem_set,a2]
  by_cases e:j=i
  ·subst e
   rw [if_pos rfl,a1,if_neg (Nat.lt_irrefl j),if_pos (Nat.lt_succ_self j),Rat.add_zero]
  ·rw [if_neg e,a1]
   congr 1
   by_cases h1:i<j
   ·rw [if_pos h1,if_pos (by omega)]
   ·rw [if_neg h1,if_neg (by omega)]
theorem WQ {q row:List Rat}{v j:Nat}{a:Nat}(hq:∀x∈q,NB a x)(ha:1≤a){k:Nat}(hk:k<q.length)(hkj:j≤k):NB a ((lJ q v row j)[k]'(by rw [yM];exact hk)):=by
 rw [Iz hk,if_neg (show ¬k<j by omega),Rat.add_zero]
 split
 ·exact mM.mono ha
 ·rw [Ih hk];exact hq _ (List.getElem_mem hk)
theorem PE (w:World)(gl cl bv br gr cr v:Nat)(q row:List Rat)(hv:aL w bv #[.int .i64 (v:Int)])(hb:aL w br #[.slice (some ⟨gr,0,none⟩) row.length cr])(hq:aY w gl q)(hr:aY w gr row)(hlen:row.length=q.length)(hvl:v<q.length)(hK:q.length≤1000)
  (hcl:q.length≤cl∧cl≤maxLen) (hcr:row.length≤cr∧cr≤maxLen) (n1:gr≠gl) (n2:bv≠gl) (n3:br≠gl) (nq:∀x∈q,NB 300 x) (nr:∀x∈row,NB 300 x):
  Calls Tryz.prog 84 #[.slice (some ⟨gl,0,none⟩) q.length cl,.pointer (some ⟨bv,0,none⟩),.pointer (some ⟨br,0,none⟩)] w fun e w'=>e= .returned (.tuple #[])∧aY w' gl (yx q v row)∧Keep (yL gl) w w':=by
 have HQ:=zh hq;have Pt:=zh nq;have HNR:=zh nr;have R3:=zh hv;have wN:=zh hb;have HR:=zh hr;unfold maxLen at hcl hcr;obtain⟨v0,vl⟩:w.cell? ⟨bv,0,none⟩=some (.int .i64 (v:Int))∧bv<w.heap.size:=⟨hv.cell 0,hv.lt⟩;obtain⟨cb,cS,cc,cU,m0,m1,m2,m3,DR,_⟩:=hq.at (k:=v) hvl;have hgl:=hq.lt;have hvI:(v:Int)<(q.length:Int):=by omega
 have HC:=zh DR;have CS:=fun w=>zh (lY DR w)
 have ka:Keep au w (w.alloc (.cells #[.bool cb,.string cS,.bool cc,.string cU] 93)):=(Keep.refl _ _).alloc _;have HBC:Hid (aL (w.alloc (.cells #[.bool cb,.string cS,.bool cc,.string cU] 93)) w.heap.size #[.bool cb,.string cS,.bool cc,.string cU]):=zh (aR _ _ rfl);have KA:=zh ka;have zaX:gl≠w.heap.size:=by omega
 clear hv hb hq hr nq nr DR;go_enter Tryz.func84,Tryz.ntmps84;go_upto_region 1 with fail
 generalize w.alloc (.cells #[.bool cb,.string cS,.bool cc,.string cU] 93)=w1 at *;generalize hb4:w.heap.size=b4 at *;clear hb4;have Zz:=zh (HQ.out.keep ka);have HR1:=zh (HR.out.keep ka);have zaY:=zh (R3.out.keep ka);have zaZ:=zh (wN.out.keep ka);clear ka v0 vl m0 m1 m2 m3 hgl HQ HR R3 wN;obtain⟨s0,s1,s2,s3,_,_,_,_,sl⟩:=HBC.out.four
 by_cases hc0:q[v]=0
 case pos=>
  have e0:=uJ hc0;rw [e0]at CS;have HSQ:Hid (yx q v row=q):=zh (Qc (by rw [Ih hvl];exact hc0))
  clear hc0;go_wp2_with fail;refine(CS _).out.mono ?_;rintro e w2 ⟨rfl,hk⟩;have yJ:=zh (Zz.out.keep hk);have K2:=zh (KA.out.both hk);clear s0 s1 s2 s3 sl hk CS;go_wp2;refine bodyPost_ret (by simp [results,Tryz.results84,go_sem];rfl) rfl ?_
  exact⟨rfl,by rw [HSQ.out];exact yJ.out,K2.out.any⟩
 case neg=>
  have e0:=uK hc0;have e1:(q[v].num.sign==0)=false:=by rw [beq_eq_false_iff_ne];exact e0
  have HCD:Hid (q.getD v 0=q[v]):=zh (Ih hvl);have HNC:Hid (NB 300 q[v]):=zh (Pt.out _ (List.getElem_mem hvl));generalize q[v]=c at *;go_wp2_with fail;refine(CS _).out.mono ?_;rintro e w2 ⟨rfl,hk⟩;have yJ:=zh (Zz.out.keep hk);have HR2:=zh (HR1.out.keep hk);have ZA:=zh (zaY.out.keep hk);have za0:=zh (zaZ.out.keep hk);have za1:=zh (HBC.out.keep hk);have K2:=zh (KA.out.both hk);clear s0 s1 s2 s3 sl hk CS Zz HR1 zaY zaZ HBC KA e0;obtain⟨v0,vl⟩:w2.cell? ⟨bv,0,none⟩=some (.int .i64 (v:Int))∧bv<w2.heap.size:=⟨ZA.out.cell 0,ZA.out.lt⟩;obtain⟨_,_,_,_,m0,m1,m2,m3,_,f0,f1,f2,f3⟩:=yJ.out.at (k:=v) hvl;have hgl:=yJ.out.lt;go_upto_region 3 with fail
  have HQ3:Hid (aY (w4 w2 gl (v*4) nv0) gl (lJ q v row 0)):=zh (by rw [P9];exact yJ.out.set4 rW)
  have K3:Hid (Keep (yL gl) w (w4 w2 gl (v*4) nv0)):=zh (Oy K2.out.any);have HR3:=zh (HR2.out.same (iZ (w:=w2) (o:=v*4) (x:=nv0) n1));have ZB:=zh (za0.out.same (iZ (w:=w2) (o:=v*4) (x:=nv0) n3));have za2:=zh (za1.out.same (iZ (w:=w2) (o:=v*4) (x:=nv0) (Ne.symm zaX)));rw [show((((w2.setCell ⟨gl,v*4,none⟩ (.bool false)).setCell ⟨gl,v*4+1,none⟩ (.string ⟨#[]⟩)).setCell ⟨gl,v*4+2,none⟩ (.bool false)).setCell ⟨gl,v*4+3,none⟩ (.string ⟨#[]⟩))=w4 w2 gl (v*4) nv0 from rfl]
  generalize w4 w2 gl (v*4) nv0=w3 at *;clear v0 vl m0 m1 m2 m3 f0 f1 f2 f3 hgl yJ HR2 ZA za0 za1 K2;obtain⟨r0,rl⟩:w3.cell? ⟨br,0,none⟩=some (.slice (some ⟨gr,0,none⟩) row.length cr)∧br<w3.heap.size:=⟨ZB.out.cell 0,ZB.out.lt⟩;go_wp2;clear r0 rl;go_loopw [20] (fun s wr=>∃j:Nat,j≤q.length∧s= .int .i64 j∧aY wr gl (lJ q v row j)∧aY wr gr row∧aL wr b4 #[.bool cb,.string cS,.bool cc,.string cU]∧Keep (yL gl) w wr) (fun s _=>(q.length-intOf s).toNat)
  case atStart=>exact⟨0,by omega,rfl,HQ3.out,HR3.out,za2.out,K3.out⟩
  case round=>
   obtain⟨j,hj,rfl,hq',hr',hb',hk'⟩:=hrel;have HQ:=zh hq';have HR:=zh hr';have HB:=zh hb';have HK:=zh hk';clear hq' hr' hb' hk' HQ3 HR3 ZB za2 K3
   by_cases hjl:j<q.length
   case neg=>
    have hlt:¬(j:Int)<(row.length:Int):=by omega
    obtain rfl:j=q.length:=by omega
    have HSA:=zh (Tp (q:=q) (row:=row) (v:=v));go_wp2;refine bodyPost_end (by simp [results,Tryz.results84,go_sem];rfl) rfl ?_
    exact⟨rfl,by rw [← HSA.out];exact HQ.out,HK.out⟩
   case pos=>
    have hlt:(j:Int)<(row.length:Int):=by omega
    have hjr:j<row.length:=by omega
    obtain⟨xb,xS,xc,xU,p0,p1,p2,p3,hx,_⟩:=HR.out.at (k:=j) hjr;have hgr:=HR.out.lt;have CS:=fun w=>zh (lY hx w)
    have HX:=zh hx;have ka:Keep au wr (wr.alloc (.cells #[.bool xb,.string xS,.bool xc,.string xU] 93)):=(Keep.refl _ _).alloc _;have Bo:Hid (aL (wr.alloc (.cells #[.bool xb,.string xS,.bool xc,.string xU] 93)) wr.heap.size #[.bool xb,.string xS,.bool xc,.string xU]):=zh (aR _ _ rfl);have HXD:Hid (row.getD j 0=row[j]):=zh (Ih hjr);have kJ:Hid (NB 300 row[j]):=zh (HNR.out _ (List.getElem_mem hjr));have hwg:wr.heap.size≠gl:=by have:=HQ.out.lt;omega
    go_upto_region 6 with fail
    have Zz:=zh (HQ.out.keep ka);have HR1:=zh (HR.out.keep ka);have HB1:=zh (HB.out.keep ka);have K1:=zh (HK.out.only ka);clear ka p0 p1 p2 p3 hgr hx HQ HR HB HK;generalize wr.alloc (.cells #[.bool xb,.string xS,.bool xc,.string xU] 93)=wx at *;generalize wr.heap.size=b6 at *;obtain⟨s0,s1,s2,s3,_,_,_,_,sl⟩:=Bo.out.four;generalize row[j]=x at*
    by_cases hx0:x=0
    case pos=>
     have e0:=uJ hx0;rw [e0]at CS;have HSS:Hid (lJ q v row (j+1)=lJ q v row j):=zh (Qd (by rw [HXD.out];exact hx0))
     clear hx0 e0;go_wp2_with fail;refine(CS _).out.mono ?_;rintro e w2 ⟨rfl,hk⟩;have yJ:=zh (Zz.out.keep hk);have HR2:=zh (HR1.out.keep hk);have HB2:=zh (HB1.out.keep hk);have K2:=zh (K1.out.only hk);clear s0 s1 s2 s3 sl hk CS;go_wp2;go_roundw
     case rel=>exact⟨j+1,by omega,by go_num,by rw [HSS.out];exact yJ.out,HR2.out,HB2.out,K2.out⟩
     case measure=>simp [intOf];omega
    case neg=>
     have e0:=uK hx0;have e1':(x.num.sign != 0)=true:=by rw [bne_iff_ne];exact e0
     clear hx0 e0;go_wp2_with fail;refine(CS _).out.mono ?_;rintro e w2 ⟨rfl,hk⟩;have yJ:=zh (Zz.out.keep hk);have HR2:=zh (HR1.out.keep hk);have HB2:=zh (HB1.out.keep hk);have zcj:=zh (Bo.out.keep hk);have K2:=zh (K1.out.only hk);clear s0 s1 s2 s3 sl hk CS Zz HR1 HB1 Bo K1;go_upto_region 7 with fail
     have hjq:j<(lJ q v row j).length:=by rw [yM];exact hjl
     obtain⟨yb,yS,yc,yU,p0,p1,p2,p3,hy,_⟩:=yJ.out.at (k:=j) hjq;have hgl:=yJ.out.lt;have nY:NB 300 ((lJ q v row j)[j]):=WQ Pt.out (by omega) hjl (Nat.le_refl _)
     have CT:=fun w=>zh (mV w _ c HC.out (HNC.out.mono (by omega)) _ x HX.out (kJ.out.mono (by omega)))
     obtain⟨⟨tb,tS,tc,tU⟩,Yu,htn⟩:=fE (c*x);rw [Yu]at CT;have CP:=fun w=>zh (sD w _ _ hy (nY.mono (by omega)) _ _ htn ((HNC.out.mul kJ.out).mono (by omega)))
     obtain⟨⟨rb,rS,rc,rU⟩,hrq,hrn⟩:=fE ((lJ q v row j)[j]+c*x);rw [hrq]at CP;have SE:Hid (bM (NV.v ⟨rb,rS,rc,rU⟩) ((lJ q v row j)[j]+q.getD v 0*row.getD j 0)):=zh (by rw [HCD.out,HXD.out];exact hrn)
     unfold NV.v at CT CP;simp only at CT CP;have HJQ:=zh hjq;clear hy nY Yu htn hrq hrn;refine aD (fun w'=>Keep au w2 w') [11] [([0,1,2,3,4,5,6,7],8),([],9),([10],11)] [] (by kernel_rfl) (by kernel_rfl) kp ?_
     intro X W hne' hF hcls;have aQ:=zh hcls;have y0:=fun x=>((hF x).cell hgl).trans p0
     have y1:=fun x=>((hF x).cell hgl).trans p1
     have y2:=fun x=>((hF x).cell hgl).trans p2
     have y3:=fun x=>((hF x).cell hgl).trans p3
     have z0:=fun x=>(HB2.out.keep (hF x)).four
     have z1:=fun x=>(zcj.out.keep (hF x)).four
     clear hF hcls p0 p1 p2 p3;simp only [aO,aJ,zl0,zl1,zl2,aV,Bool.false_eq_true,if_false]
     (repeat(go_big_quiet_step (fail)));refine wpQuiet_nil ?_
     refine ay rfl rfl fun K hK=> ?_
     go_simp;refine(CT _).out.mono ?_;rintro e w5 ⟨rfl,hk⟩;have k5:Keep au w2 w5:=Keep.trans kp hk fun _ _ _ h=>h
     refine hK _ _ ⟨fun _=>aQ.out _ k5,?_⟩
     clear hK K hk CT
     (repeat(go_big_quiet_step (fail)));refine wpQuiet_nil ?_
     refine ay rfl rfl fun K hK=> ?_
     go_simp;refine(CP _).out.mono ?_;rintro e w6 ⟨rfl,hk⟩;have k6:Keep au w2 w6:=k5.both hk;refine hK _ _ ⟨fun _=>aQ.out _ k6,?_⟩
     clear hK K hk CP k5;have HQ6:=zh (yJ.out.keep k6);have V6:=zh (HR2.out.keep k6);have JD:=zh (HB2.out.keep k6);have K6:=zh (K2.out.only k6);obtain⟨_,_,_,_,g0,g1,g2,g3,_,f0,f1,f2,f3⟩:=HQ6.out.at (k:=j) HJQ.out;have hg6:=HQ6.out.lt
     (repeat(go_big_quiet_step (fail)));refine wpQuiet_nil ?_
     refine ay rfl rfl fun K hK=> ?_
     go_simp;refine hK _ _ ⟨fun h=>(by simp at h),?_⟩
     clear hK K y0 y1 y2 y3 z0 z1;have SF:=zh (Qe (q:=q) (row:=row) (v:=v) hjl);have HQ7:Hid (aY (w4 w6 gl (j*4) ⟨rb,rS,rc,rU⟩) gl (lJ q v row (j+1))):=zh (by rw [← SF.out];exact HQ6.out.set4 SE.out)
     have K7:Hid (Keep (yL gl) w (w4 w6 gl (j*4) ⟨rb,rS,rc,rU⟩)):=zh (Oy K6.out);have JJ:=zh (V6.out.same (iZ (w:=w6) (o:=j*4) (x:=⟨rb,rS,rc,rU⟩) n1));have nE:=zh (JD.out.same (iZ (w:=w6) (o:=j*4) (x:=⟨rb,rS,rc,rU⟩) (Ne.symm zaX)));rw [show((((w6.setCell ⟨gl,j*4,none⟩ (.bool rb)).setCell ⟨gl,j*4+1,none⟩ (.string rS)).setCell ⟨gl,j*4+2,none⟩ (.bool rc)).setCell ⟨gl,j*4+3,none⟩ (.string rU))=w4 w6 gl (j*4) ⟨rb,rS,rc,rU⟩from rfl]
     generalize w4 w6 gl (j*4) ⟨rb,rS,rc,rU⟩=w7 at *;clear g0 g1 g2 g3 f0 f1 f2 f3 hg6 HQ6 V6 JD K6
     (repeat(go_big_quiet_step (fail)));refine wpQuiet_nil ?_
     refine NoPanic.normal ?_;go_wp2;go_roundw
     case rel=>exact⟨j+1,by omega,by go_num,HQ7.out,JJ.out,nE.out,K7.out⟩
     case measure=>simp [intOf];omega
end Go.Proofs.YtaiffmebphhdaaaGreat
