/- Package tableau's pivot: its closure, that lays a line into another. -/
import Derived.Test.YtaiffmebphhdaaaGreatTbM
namespace Go.Proofs.YtaiffmebphhdaaaGreat
set_option maxRecDepth 100000
set_option maxHeartbeats 32000000
set_option linter.unusedSimpArgs false
set_option linter.unusedVariables false
open Go.ChangeShapes Go.WideShapes Go.RowKit Go.Maps
def OnlyB (g:Nat):Nat→Nat→Prop:=fun b _=>b=g
def w4 (w:World)(g o:Nat)(x:NV):World:=(((w.setCell ⟨g,o,none⟩ (.bool x.nb)).setCell ⟨g,o+1,none⟩ (.string x.nS)).setCell ⟨g,o+2,none⟩ (.bool x.db)).setCell ⟨g,o+3,none⟩ (.string x.dS)
theorem w4_only {w0 w:World}{g o:Nat}{x:NV}(h:Keep (OnlyB g) w0 w):Keep (OnlyB g) w0 (w4 w g o x):=by
 unfold w4;exact(((h.setCell _ fun _=>rfl).setCell _ fun _=>rfl).setCell _ fun _=>rfl).setCell _ fun _=>rfl
theorem w4_other {w:World}{g o:Nat}{x:NV}{b:Nat}(h:b≠g):(w4 w g o x).heap[b]? =w.heap[b]? :=by
 unfold w4;rw [heap_setCell_other _ _ _ _ h,heap_setCell_other _ _ _ _ h,heap_setCell_other _ _ _ _ h,heap_setCell_other _ _ _ _ h]
theorem w4_keep {w0 w:World}{g o:Nat}{x:NV}(h:Keep NoS w0 w)(hg:w0.heap.size≤g):Keep NoS w0 (w4 w g o x):=by
 unfold w4;exact(((h.setCell _ fun hh=>absurd hh (by omega)).setCell _ fun hh=>absurd hh (by omega)).setCell _ fun hh=>absurd hh (by omega)).setCell _ fun hh=>absurd hh (by omega)
theorem NumBlk.set4 {w:World}{g:Nat}{qs:List Rat}(h:NumBlk w g qs){k:Nat}{x:NV}{q:Rat}(hq:IsNum x.v q):NumBlk (w4 w g (k*4) x) g (qs.set k q):=h.set hq
theorem Keep.sameB {g:Nat}{w w':World}(h:Keep (OnlyB g) w w'){b:Nat}(hb:b<w.heap.size)(hne:b≠g):w'.heap[b]? =w.heap[b]? :=h.block b hb fun o ho=>hne ho
theorem Keep.only {g:Nat}{a b c:World}(h:Keep (OnlyB g) a b)(k:Keep NoS b c):Keep (OnlyB g) a c:=h.trans k fun _ _ _ h=>h.elim
def subL (q:List Rat)(v:Nat)(row:List Rat)(j:Nat):List Rat:=(List.range q.length).map fun k=>(if k=v then 0 else q.getD k 0)+(if k<j then q.getD v 0*row.getD k 0 else 0)
def subQ (q:List Rat)(v:Nat)(row:List Rat):List Rat:=(List.range q.length).map fun k=>(if k=v then 0 else q.getD k 0)+q.getD v 0*row.getD k 0
theorem subL_len {q row:List Rat}{v j:Nat}:(subL q v row j).length=q.length:=by simp [subL]
theorem ratD {l:List Rat}{i:Nat}(h:i<l.length):l.getD i 0=l[i]:=by rw [List.getD_eq_getElem?_getD,List.getElem?_eq_getElem h];rfl
theorem subL_zero {q row:List Rat}{v:Nat}:subL q v row 0=q.set v 0:=by
 apply List.ext_getElem
 ·simp [subL]
 ·intro i h1 h2
  have hi:i<q.length:=by simpa [subL]using h1
  simp only [subL,List.getElem_map,List.getElem_range,List.getElem_set,Nat.not_lt_zero,if_false,Rat.add_zero]
  by_cases h:i=v
  ·subst h;simp
  ·rw [if_neg h,if_neg (Ne.symm h),ratD hi]
theorem subL_all {q row:List Rat}{v:Nat}:subL q v row q.length=subQ q v row:=by
 unfold subL subQ
 apply List.map_congr_left
 intro k hk
 congr 1
 rw [if_pos (List.mem_range.1 hk)]
theorem subQ_none {q row:List Rat}{v:Nat}(h:q.getD v 0=0):subQ q v row=q:=by
 unfold subQ
 apply List.ext_getElem
 ·simp
 ·intro i h1 h2
  simp only [List.getElem_map,List.getElem_range,h,Rat.zero_mul,Rat.add_zero]
  split
  ·rename_i e;subst e;rw [← ratD h2,h]
  ·exact ratD h2
theorem subL_at {q row:List Rat}{v j k:Nat}(hk:k<q.length):(subL q v row j)[k]'(by rw [subL_len];exact hk)=(if k=v then 0 else q.getD k 0)+(if k<j then q.getD v 0*row.getD k 0 else 0):=by simp [subL]
theorem subL_same {q row:List Rat}{v j:Nat}(h:row.getD j 0=0):subL q v row (j+1)=subL q v row j:=by
 unfold subL
 apply List.map_congr_left
 intro k _
 congr 1
 by_cases e:k=j
 ·subst e;rw [if_pos (by omega),if_neg (by omega),h,Rat.mul_zero]
 ·by_cases h1:k<j
  ·rw [if_pos h1,if_pos (by omega)]
  ·rw [if_neg h1,if_neg (by omega)]
theorem subL_step {q row:List Rat}{v j:Nat}(hj:j<q.length):(subL q v row j).set j ((subL q v row j)[j]'(by rw [subL_len];exact hj)+q.getD v 0*row.getD j 0)=subL q v row (j+1):=by
 apply List.ext_getElem
 ·simp [subL]
 ·intro i h1 h2
  have hi:i<q.length:=by simpa [subL]using h2
  have a2:=subL_at (row:=row) (v:=v) (j:=j+1) hi;have a1:=subL_at (row:=row) (v:=v) (j:=j) hi;rw [List.getElem_set,a2]
  by_cases e:j=i
  ·subst e
   rw [if_pos rfl,a1,if_neg (Nat.lt_irrefl j),if_pos (Nat.lt_succ_self j),Rat.add_zero]
  ·rw [if_neg e,a1]
   congr 1
   by_cases h1:i<j
   ·rw [if_pos h1,if_pos (by omega)]
   ·rw [if_neg h1,if_neg (by omega)]
theorem subL_nb {q row:List Rat}{v j:Nat}{a:Nat}(hq:∀x∈q,NB a x)(ha:1≤a){k:Nat}(hk:k<q.length)(hkj:j≤k):NB a ((subL q v row j)[k]'(by rw [subL_len];exact hk)):=by
 rw [subL_at hk,if_neg (show ¬k<j by omega),Rat.add_zero]
 split
 ·exact nb_zero.mono ha
 ·rw [ratD hk];exact hq _ (List.getElem_mem hk)
theorem subst_any (w:World)(gl cl bv br gr cr v:Nat)(q row:List Rat)(hv:Blk w bv #[.int .i64 (v:Int)])(hb:Blk w br #[.slice (some ⟨gr,0,none⟩) row.length cr])(hq:NumBlk w gl q)(hr:NumBlk w gr row)(hlen:row.length=q.length)(hvl:v<q.length)(hK:q.length≤1000)
  (hcl:q.length≤cl∧cl≤maxLen) (hcr:row.length≤cr∧cr≤maxLen) (n1:gr≠gl) (n2:bv≠gl) (n3:br≠gl) (nq:∀x∈q,NB 300 x) (nr:∀x∈row,NB 300 x):
  Calls Tryz.prog 84 #[.slice (some ⟨gl,0,none⟩) q.length cl,.pointer (some ⟨bv,0,none⟩),.pointer (some ⟨br,0,none⟩)] w fun e w'=>e= .returned (.tuple #[])∧NumBlk w' gl (subQ q v row)∧Keep (OnlyB gl) w w':=by
 have HQ:=zh hq;have HNQ:=zh nq;have HNR:=zh nr;have HBV:=zh hv;have HBR:=zh hb;have HR:=zh hr;unfold maxLen at hcl hcr;obtain⟨v0,vl⟩:w.cell? ⟨bv,0,none⟩=some (.int .i64 (v:Int))∧bv<w.heap.size:=⟨hv.cell 0,hv.lt⟩;obtain⟨cb,cS,cc,cU,m0,m1,m2,m3,hnum,_⟩:=hq.at (k:=v) hvl;have hgl:=hq.lt;have hvI:(v:Int)<(q.length:Int):=by omega
 have HC:=zh hnum;have CS:=fun w=>zh (exSign_num hnum w)
 have ka:Keep NoS w (w.alloc (.cells #[.bool cb,.string cS,.bool cc,.string cU] 93)):=(Keep.refl _ _).alloc _;have HBC:Hid (Blk (w.alloc (.cells #[.bool cb,.string cS,.bool cc,.string cU] 93)) w.heap.size #[.bool cb,.string cS,.bool cc,.string cU]):=zh (blk_at _ _ rfl);have KA:=zh ka;have hglw:gl≠w.heap.size:=by omega
 clear hv hb hq hr nq nr hnum;go_enter Tryz.func84,Tryz.ntmps84;go_upto_region 1 with fail
 generalize w.alloc (.cells #[.bool cb,.string cS,.bool cc,.string cU] 93)=w1 at *;generalize hb4:w.heap.size=b4 at *;clear hb4;have HQ1:=zh (HQ.out.keep ka);have HR1:=zh (HR.out.keep ka);have HBV1:=zh (HBV.out.keep ka);have HBR1:=zh (HBR.out.keep ka);clear ka v0 vl m0 m1 m2 m3 hgl HQ HR HBV HBR;obtain⟨s0,s1,s2,s3,_,_,_,_,sl⟩:=HBC.out.four
 by_cases hc0:q[v]=0
 case pos=>
  have e0:=num_zero_of hc0;rw [e0]at CS;have HSQ:Hid (subQ q v row=q):=zh (subQ_none (by rw [ratD hvl];exact hc0))
  clear hc0;go_wp2_with fail;refine(CS _).out.mono ?_;rintro e w2 ⟨rfl,hk⟩;have HQ2:=zh (HQ1.out.keep hk);have K2:=zh (KA.out.both hk);clear s0 s1 s2 s3 sl hk CS;go_wp2;refine bodyPost_ret (by simp [results,Tryz.results84,go_sem];rfl) rfl ?_
  exact⟨rfl,by rw [HSQ.out];exact HQ2.out,K2.out.any⟩
 case neg=>
  have e0:=num_sign_ne hc0;have e1:(q[v].num.sign==0)=false:=by rw [beq_eq_false_iff_ne];exact e0
  have HCD:Hid (q.getD v 0=q[v]):=zh (ratD hvl);have HNC:Hid (NB 300 q[v]):=zh (HNQ.out _ (List.getElem_mem hvl));generalize q[v]=c at *;go_wp2_with fail;refine(CS _).out.mono ?_;rintro e w2 ⟨rfl,hk⟩;have HQ2:=zh (HQ1.out.keep hk);have HR2:=zh (HR1.out.keep hk);have HBV2:=zh (HBV1.out.keep hk);have HBR2:=zh (HBR1.out.keep hk);have HBC2:=zh (HBC.out.keep hk);have K2:=zh (KA.out.both hk);clear s0 s1 s2 s3 sl hk CS HQ1 HR1 HBV1 HBR1 HBC KA e0;obtain⟨v0,vl⟩:w2.cell? ⟨bv,0,none⟩=some (.int .i64 (v:Int))∧bv<w2.heap.size:=⟨HBV2.out.cell 0,HBV2.out.lt⟩;obtain⟨_,_,_,_,m0,m1,m2,m3,_,f0,f1,f2,f3⟩:=HQ2.out.at (k:=v) hvl;have hgl:=HQ2.out.lt;go_upto_region 3 with fail
  have HQ3:Hid (NumBlk (w4 w2 gl (v*4) nv0) gl (subL q v row 0)):=zh (by rw [subL_zero];exact HQ2.out.set4 nv0_num)
  have K3:Hid (Keep (OnlyB gl) w (w4 w2 gl (v*4) nv0)):=zh (w4_only K2.out.any);have HR3:=zh (HR2.out.same (w4_other (w:=w2) (o:=v*4) (x:=nv0) n1));have HBR3:=zh (HBR2.out.same (w4_other (w:=w2) (o:=v*4) (x:=nv0) n3));have HBC3:=zh (HBC2.out.same (w4_other (w:=w2) (o:=v*4) (x:=nv0) (Ne.symm hglw)));rw [show((((w2.setCell ⟨gl,v*4,none⟩ (.bool false)).setCell ⟨gl,v*4+1,none⟩ (.string ⟨#[]⟩)).setCell ⟨gl,v*4+2,none⟩ (.bool false)).setCell ⟨gl,v*4+3,none⟩ (.string ⟨#[]⟩))=w4 w2 gl (v*4) nv0 from rfl]
  generalize w4 w2 gl (v*4) nv0=w3 at *;clear v0 vl m0 m1 m2 m3 f0 f1 f2 f3 hgl HQ2 HR2 HBV2 HBR2 HBC2 K2;obtain⟨r0,rl⟩:w3.cell? ⟨br,0,none⟩=some (.slice (some ⟨gr,0,none⟩) row.length cr)∧br<w3.heap.size:=⟨HBR3.out.cell 0,HBR3.out.lt⟩;go_wp2;clear r0 rl;go_loopw [20] (fun s wr=>∃j:Nat,j≤q.length∧s= .int .i64 j∧NumBlk wr gl (subL q v row j)∧NumBlk wr gr row∧Blk wr b4 #[.bool cb,.string cS,.bool cc,.string cU]∧Keep (OnlyB gl) w wr) (fun s _=>(q.length-intOf s).toNat)
  case atStart=>exact⟨0,by omega,rfl,HQ3.out,HR3.out,HBC3.out,K3.out⟩
  case round=>
   obtain⟨j,hj,rfl,hq',hr',hb',hk'⟩:=hrel;have HQ:=zh hq';have HR:=zh hr';have HB:=zh hb';have HK:=zh hk';clear hq' hr' hb' hk' HQ3 HR3 HBR3 HBC3 K3
   by_cases hjl:j<q.length
   case neg=>
    have hlt:¬(j:Int)<(row.length:Int):=by omega
    obtain rfl:j=q.length:=by omega
    have HSA:=zh (subL_all (q:=q) (row:=row) (v:=v));go_wp2;refine bodyPost_end (by simp [results,Tryz.results84,go_sem];rfl) rfl ?_
    exact⟨rfl,by rw [← HSA.out];exact HQ.out,HK.out⟩
   case pos=>
    have hlt:(j:Int)<(row.length:Int):=by omega
    have hjr:j<row.length:=by omega
    obtain⟨xb,xS,xc,xU,p0,p1,p2,p3,hx,_⟩:=HR.out.at (k:=j) hjr;have hgr:=HR.out.lt;have CS:=fun w=>zh (exSign_num hx w)
    have HX:=zh hx;have ka:Keep NoS wr (wr.alloc (.cells #[.bool xb,.string xS,.bool xc,.string xU] 93)):=(Keep.refl _ _).alloc _;have HBX:Hid (Blk (wr.alloc (.cells #[.bool xb,.string xS,.bool xc,.string xU] 93)) wr.heap.size #[.bool xb,.string xS,.bool xc,.string xU]):=zh (blk_at _ _ rfl);have HXD:Hid (row.getD j 0=row[j]):=zh (ratD hjr);have HNX:Hid (NB 300 row[j]):=zh (HNR.out _ (List.getElem_mem hjr));have hwg:wr.heap.size≠gl:=by have:=HQ.out.lt;omega
    go_upto_region 6 with fail
    have HQ1:=zh (HQ.out.keep ka);have HR1:=zh (HR.out.keep ka);have HB1:=zh (HB.out.keep ka);have K1:=zh (HK.out.only ka);clear ka p0 p1 p2 p3 hgr hx HQ HR HB HK;generalize wr.alloc (.cells #[.bool xb,.string xS,.bool xc,.string xU] 93)=wx at *;generalize wr.heap.size=b6 at *;obtain⟨s0,s1,s2,s3,_,_,_,_,sl⟩:=HBX.out.four;generalize row[j]=x at*
    by_cases hx0:x=0
    case pos=>
     have e0:=num_zero_of hx0;rw [e0]at CS;have HSS:Hid (subL q v row (j+1)=subL q v row j):=zh (subL_same (by rw [HXD.out];exact hx0))
     clear hx0 e0;go_wp2_with fail;refine(CS _).out.mono ?_;rintro e w2 ⟨rfl,hk⟩;have HQ2:=zh (HQ1.out.keep hk);have HR2:=zh (HR1.out.keep hk);have HB2:=zh (HB1.out.keep hk);have K2:=zh (K1.out.only hk);clear s0 s1 s2 s3 sl hk CS;go_wp2;go_roundw
     case rel=>exact⟨j+1,by omega,by go_num,by rw [HSS.out];exact HQ2.out,HR2.out,HB2.out,K2.out⟩
     case measure=>simp [intOf];omega
    case neg=>
     have e0:=num_sign_ne hx0;have e1':(x.num.sign != 0)=true:=by rw [bne_iff_ne];exact e0
     clear hx0 e0;go_wp2_with fail;refine(CS _).out.mono ?_;rintro e w2 ⟨rfl,hk⟩;have HQ2:=zh (HQ1.out.keep hk);have HR2:=zh (HR1.out.keep hk);have HB2:=zh (HB1.out.keep hk);have HBX2:=zh (HBX.out.keep hk);have K2:=zh (K1.out.only hk);clear s0 s1 s2 s3 sl hk CS HQ1 HR1 HB1 HBX K1;go_upto_region 7 with fail
     have hjq:j<(subL q v row j).length:=by rw [subL_len];exact hjl
     obtain⟨yb,yS,yc,yU,p0,p1,p2,p3,hy,_⟩:=HQ2.out.at (k:=j) hjq;have hgl:=HQ2.out.lt;have nY:NB 300 ((subL q v row j)[j]):=subL_nb HNQ.out (by omega) hjl (Nat.le_refl _)
     have CT:=fun w=>zh (exTimes_any w _ c HC.out (HNC.out.mono (by omega)) _ x HX.out (HNX.out.mono (by omega)))
     obtain⟨⟨tb,tS,tc,tU⟩,htq,htn⟩:=numQ_nv (c*x);rw [htq]at CT;have CP:=fun w=>zh (exPlus_any w _ _ hy (nY.mono (by omega)) _ _ htn ((HNC.out.mul HNX.out).mono (by omega)))
     obtain⟨⟨rb,rS,rc,rU⟩,hrq,hrn⟩:=numQ_nv ((subL q v row j)[j]+c*x);rw [hrq]at CP;have HRN:Hid (IsNum (NV.v ⟨rb,rS,rc,rU⟩) ((subL q v row j)[j]+q.getD v 0*row.getD j 0)):=zh (by rw [HCD.out,HXD.out];exact hrn)
     unfold NV.v at CT CP;simp only at CT CP;have HJQ:=zh hjq;clear hy nY htq htn hrq hrn;refine wp_region_by (fun w'=>Keep NoS w2 w') [11] [([0,1,2,3,4,5,6,7],8),([],9),([10],11)] [] (by kernel_rfl) (by kernel_rfl) kp ?_
     intro X W hne' hF hcls;have HCL:=zh hcls;have y0:=fun x=>((hF x).cell hgl).trans p0
     have y1:=fun x=>((hF x).cell hgl).trans p1
     have y2:=fun x=>((hF x).cell hgl).trans p2
     have y3:=fun x=>((hF x).cell hgl).trans p3
     have z0:=fun x=>(HB2.out.keep (hF x)).four
     have z1:=fun x=>(HBX2.out.keep (hF x)).four
     clear hF hcls p0 p1 p2 p3;simp only [wpPlan,pickOps,zl0,zl1,zl2,clsOf,Bool.false_eq_true,if_false]
     (repeat(go_big_quiet_step (fail)));refine wpQuiet_nil ?_
     refine wpAt rfl rfl fun K hK=> ?_
     go_simp;refine(CT _).out.mono ?_;rintro e w5 ⟨rfl,hk⟩;have k5:Keep NoS w2 w5:=Keep.trans kp hk fun _ _ _ h=>h
     refine hK _ _ ⟨fun _=>HCL.out _ k5,?_⟩
     clear hK K hk CT
     (repeat(go_big_quiet_step (fail)));refine wpQuiet_nil ?_
     refine wpAt rfl rfl fun K hK=> ?_
     go_simp;refine(CP _).out.mono ?_;rintro e w6 ⟨rfl,hk⟩;have k6:Keep NoS w2 w6:=k5.both hk;refine hK _ _ ⟨fun _=>HCL.out _ k6,?_⟩
     clear hK K hk CP k5;have HQ6:=zh (HQ2.out.keep k6);have HR6:=zh (HR2.out.keep k6);have HB6:=zh (HB2.out.keep k6);have K6:=zh (K2.out.only k6);obtain⟨_,_,_,_,g0,g1,g2,g3,_,f0,f1,f2,f3⟩:=HQ6.out.at (k:=j) HJQ.out;have hg6:=HQ6.out.lt
     (repeat(go_big_quiet_step (fail)));refine wpQuiet_nil ?_
     refine wpAt rfl rfl fun K hK=> ?_
     go_simp;refine hK _ _ ⟨fun h=>(by simp at h),?_⟩
     clear hK K y0 y1 y2 y3 z0 z1;have HSTEP:=zh (subL_step (q:=q) (row:=row) (v:=v) hjl);have HQ7:Hid (NumBlk (w4 w6 gl (j*4) ⟨rb,rS,rc,rU⟩) gl (subL q v row (j+1))):=zh (by rw [← HSTEP.out];exact HQ6.out.set4 HRN.out)
     have K7:Hid (Keep (OnlyB gl) w (w4 w6 gl (j*4) ⟨rb,rS,rc,rU⟩)):=zh (w4_only K6.out);have HR7:=zh (HR6.out.same (w4_other (w:=w6) (o:=j*4) (x:=⟨rb,rS,rc,rU⟩) n1));have HB7:=zh (HB6.out.same (w4_other (w:=w6) (o:=j*4) (x:=⟨rb,rS,rc,rU⟩) (Ne.symm hglw)));rw [show((((w6.setCell ⟨gl,j*4,none⟩ (.bool rb)).setCell ⟨gl,j*4+1,none⟩ (.string rS)).setCell ⟨gl,j*4+2,none⟩ (.bool rc)).setCell ⟨gl,j*4+3,none⟩ (.string rU))=w4 w6 gl (j*4) ⟨rb,rS,rc,rU⟩from rfl]
     generalize w4 w6 gl (j*4) ⟨rb,rS,rc,rU⟩=w7 at *;clear g0 g1 g2 g3 f0 f1 f2 f3 hg6 HQ6 HR6 HB6 K6
     (repeat(go_big_quiet_step (fail)));refine wpQuiet_nil ?_
     refine NoPanic.normal ?_;go_wp2;go_roundw
     case rel=>exact⟨j+1,by omega,by go_num,HQ7.out,HR7.out,HB7.out,K7.out⟩
     case measure=>simp [intOf];omega
end Go.Proofs.YtaiffmebphhdaaaGreat
