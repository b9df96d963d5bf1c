/- Package tableau's T: what a store leaves. Package tableau's pivot: its closure, that lays a line into another. Package tableau's T: what a pivot leaves. Package tableau's refutation. Package tableau, plain: the start, a step, the search for a point. Package tableau's move. -/
import Derived.Test.YtmepglhdcphffaaGreatTbBB
namespace Go.Proofs.YtmepglhdcphffaaGreat
set_option maxRecDepth 100000
set_option maxHeartbeats 32000000
set_option linter.unusedSimpArgs false
set_option linter.unusedVariables false
open Go.ChangeShapes Go.WideShapes Go.RowKit Go.Maps
theorem aL.same {w w':World}{b:Nat}{A:Array Value}(h:aL w b A)(e:w'.heap[b]? =w.heap[b]?):aL w' b A:=by
 obtain⟨t,h⟩:=h;exact⟨t,e.trans h⟩
theorem zY.same {w w':World}{b:Nat}{l:List Nat}(h:zY w b l)(e:w'.heap[b]? =w.heap[b]?):zY w' b l:=by
 obtain⟨A,h,h'⟩:=h;exact⟨A,h.same e,h'⟩
theorem zZ.same {w w':World}{b:Nat}{l:List (List Rat)}{gs cs:Nat→Nat}(h:zZ w b l gs cs)(e:w'.heap[b]? =w.heap[b]?):zZ w' b l gs cs:=by
 obtain⟨A,h,h'⟩:=h;exact⟨A,h.same e,h'⟩
theorem bD.same {w w':World}{b:Nat}{l:List Rat}(h:bD w b l)(e:w'.heap[b]? =w.heap[b]?):bD w' b l:=by
 obtain⟨A,l',h,h'⟩:=h;exact⟨A,l',h.same e,h'⟩
theorem zX.same {w w':World}{b n:Nat}{l:List Nat}(h:zX w b n l)(e:w'.heap[b]? =w.heap[b]?):zX w' b n l:=by
 obtain⟨D,⟨es,clock,hb,F,hs,hD⟩,h'⟩:=h;exact⟨D,⟨es,clock,e.trans hb,F,hs,hD⟩,h'⟩
def w8 (w:World)(g o:Nat)(p:PV):World:=(((((((w.setCell ⟨g,o,none⟩ (.bool p.x.nb)).setCell ⟨g,o+1,none⟩ (.string p.x.nS)).setCell ⟨g,o+2,none⟩ (.bool p.x.db)).setCell ⟨g,o+3,none⟩ (.string p.x.dS)).setCell ⟨g,o+4,none⟩ (.bool p.y.nb)).setCell ⟨g,o+5,none⟩ (.string p.y.nS)).setCell ⟨g,o+6,none⟩ (.bool p.y.db)).setCell ⟨g,o+7,none⟩ (.string p.y.dS)
theorem yP {w:World}{g o:Nat}{p:PV}{b:Nat}(h:b≠g):(w8 w g o p).heap[b]? =w.heap[b]? :=by
 unfold w8;rw [heap_setCell_other _ _ _ _ h,heap_setCell_other _ _ _ _ h,heap_setCell_other _ _ _ _ h,heap_setCell_other _ _ _ _ h,heap_setCell_other _ _ _ _ h,heap_setCell_other _ _ _ _ h,heap_setCell_other _ _ _ _ h,heap_setCell_other _ _ _ _ h]
theorem Qq {w0 w:World}{g o:Nat}{p:PV}(h:Keep au w0 w)(hg:w0.heap.size≤g):Keep au w0 (w8 w g o p):=by
 unfold w8;exact(((((((h.setCell _ fun hh=>absurd hh om).setCell _ fun hh=>absurd hh om).setCell _ fun hh=>absurd hh om).setCell _ fun hh=>absurd hh om).setCell _ fun hh=>absurd hh om).setCell _ fun hh=>absurd hh om).setCell _ fun hh=>absurd hh om).setCell _ fun hh=>absurd hh om
theorem Qr {w:World}{g:Nat}{l:List Pr}(h:bD w g (gJ l)){v:Nat}{p:PV}{a:Pr}(hp:p.is a):bD (w8 w g (v*8) p) g (gJ (l.set v a)):=by
 rw [F9];have h1:=(h.set (k:=2*v) (q:=a.n) hp.1).set (k:=2*v+1) (q:=a.s) hp.2;rw [show 2*v*4=v*8 from om,show(2*v+1)*4=v*8+4 from om]at h1;exact h1
theorem Lb {w:World}{g:Nat}{qs:List Rat}(h:bD w g qs)(o:Nat):w.frozen? ⟨g,o,none⟩=false:=by
 obtain⟨A,l,h,_⟩:=h;exact h.free _
theorem LT.setVals {w0 w w':World}{bT nm:Nat}{S:TS}{L:Lay}(h:LT w0 w bT nm S L){vals':List Pr}(hl:vals'.length=S.vals.length)(hk:Keep au w0 w')(ho:∀b,b≠L.gv→w'.heap[b]? =w.heap[b]?)(hv:bD w' L.gv (gJ vals')):
  LT w0 w' bT nm {S with vals:=vals'} L where
 k:=hk
 t:=by
  have:=aL.same h.t (ho bT h.ap.tv);simp only [hl];exact this
 rows:=h.rows
 b:=fun hb=>⟨(h.b hb).1,(h.b hb).2.same (ho _ h.ap.bv)⟩
 c:=fun hc=>⟨(h.c hc).1,(h.c hc).2.same (ho _ h.ap.cv)⟩
 r:=fun i hi=>⟨(h.r i hi).1.same (ho _ (h.ap.sv i hi)),(h.r i hi).2⟩
 v:=hv
 cb:=h.cb
 cc:=h.cc
 cv:=by simp only [hl];exact h.cv
 mp:=h.mp.same (ho _ h.ap.vm.symm)
 own:=h.own
 ap:=h.ap
def TS.mvK (S:TS)(v:Nat)(d:Pr):Nat→List Pr
 | 0=>S.vals.set v ((S.val v).add d)
 | k+1=>(S.mvK v d k).set (S.basic.getD k 0) (((S.mvK v d k).getD (S.basic.getD k 0) pr0).add (d.mul (S.cell k v)))
def TS.move (S:TS)(v:Nat)(d:Pr):TS:= {S with vals:=S.mvK v d S.basic.length}
theorem yQ {S:TS}{v:Nat}{d:Pr}:∀k,(S.mvK v d k).length=S.vals.length
 | 0=>by simp [TS.mvK]
 | k+1=>by simp [TS.mvK,yQ k]
theorem kN {S:TS}{i:Nat}(h:i<S.basic.length):S.basic.getD i 0=S.basic[i]:=by
 rw [dV,eD h];rfl
theorem Qs {S:TS}{v:Nat}{d:Pr}(hnd:S.basic.Nodup){i:Nat}(hi:i<S.basic.length)(hv:S.basic[i]≠v):∀k,k≤i→(S.mvK v d k).getD S.basic[i] pr0=S.val S.basic[i]
 | 0,_=>by
  unfold TS.mvK TS.val;rw [dV,List.getElem?_set,if_neg (Ne.symm hv),←dV]
 | k+1,hk=>by
  have hk':k<S.basic.length:=om;have hne:S.basic[k]≠S.basic[i]:=fun e=>by have:=(List.getElem_inj hnd).1 e;omega
  simp only [TS.mvK];rw [kN hk',dV,List.getElem?_set,if_neg hne,←dV];exact Qs hnd hi hv k om
theorem pR {S:TS}{i v:Nat}(hi:i<S.cells.length)(hv:v<S.cells[i].length):S.cell i v=S.cells[i][v]:=by
 unfold TS.cell;have e:S.cells.getD i []=S.cells[i]:=by rw [dV,eD hi];rfl
 rw [e,dV,eD hv];rfl
def yR (g:Nat):Nat→Nat→Prop:=fun b _=>b=g
def w4 (w:World)(g o:Nat)(x:NV):World:=(((w.setCell ⟨g,o,none⟩ (.bool x.nb)).setCell ⟨g,o+1,none⟩ (.string x.nS)).setCell ⟨g,o+2,none⟩ (.bool x.db)).setCell ⟨g,o+3,none⟩ (.string x.dS)
theorem Qt {w0 w:World}{g o:Nat}{x:NV}(h:Keep (yR g) w0 w):Keep (yR g) w0 (w4 w g o x):=by
 unfold w4;exact(((h.setCell _ fun _=>rfl).setCell _ fun _=>rfl).setCell _ fun _=>rfl).setCell _ fun _=>rfl
theorem iD {w:World}{g o:Nat}{x:NV}{b:Nat}(h:b≠g):(w4 w g o x).heap[b]? =w.heap[b]? :=by
 unfold w4;rw [heap_setCell_other _ _ _ _ h,heap_setCell_other _ _ _ _ h,heap_setCell_other _ _ _ _ h,heap_setCell_other _ _ _ _ h]
theorem sH {w0 w:World}{g o:Nat}{x:NV}(h:Keep au w0 w)(hg:w0.heap.size≤g):Keep au w0 (w4 w g o x):=by
 unfold w4;exact(((h.setCell _ fun hh=>absurd hh om).setCell _ fun hh=>absurd hh om).setCell _ fun hh=>absurd hh om).setCell _ fun hh=>absurd hh om
theorem bD.set4 {w:World}{g:Nat}{qs:List Rat}(h:bD w g qs){k:Nat}{x:NV}{q:Rat}(hq:bM x.v q):bD (w4 w g (k*4) x) g (qs.set k q):=h.set hq
theorem Keep.sameB {g:Nat}{w w':World}(h:Keep (yR g) w w'){b:Nat}(hb:b<w.heap.size)(hne:b≠g):w'.heap[b]? =w.heap[b]? :=h.block b hb fun o ho=>hne ho
theorem Keep.only {g:Nat}{a b c:World}(h:Keep (yR g) a b)(k:Keep au b c):Keep (yR g) a c:=h.trans k fun _ _ _ h=>h.elim
def jX (q:List Rat)(v:Nat)(row:List Rat)(j:Nat):List Rat:=(List.range q.length).map fun k=>(if k=v then 0 else q.getD k 0)+(if k<j then q.getD v 0*row.getD k 0 else 0)
def yT (q:List Rat)(v:Nat)(row:List Rat):List Rat:=(List.range q.length).map fun k=>(if k=v then 0 else q.getD k 0)+q.getD v 0*row.getD k 0
theorem yV {q row:List Rat}{v j:Nat}:(jX q v row j).length=q.length:=by simp [jX]
theorem IL {l:List Rat}{i:Nat}(h:i<l.length):l.getD i 0=l[i]:=by rw [dV,eD h];rfl
theorem SH {q row:List Rat}{v:Nat}:jX q v row 0=q.set v 0:=by
 apply List.ext_getElem
 ·simp [jX]
 intro i h1 h2;have hi:i<q.length:=by simpa [jX]using h1
 simp only [jX,List.getElem_map,List.getElem_range,List.getElem_set,Nat.not_lt_zero,if_false,Rat.add_zero];by_cases h:i=v
 ·subst h;simp
 rw [if_neg h,if_neg (Ne.symm h),IL hi]
theorem Xe {q row:List Rat}{v:Nat}:jX q v row q.length=yT q v row:=by
 unfold jX yT;apply List.map_congr_left;intro k hk;congr 1;rw [if_pos (List.mem_range.1 hk)]
theorem SI {q row:List Rat}{v:Nat}(h:q.getD v 0=0):yT q v row=q:=by
 unfold yT;apply List.ext_getElem
 ·simp
 intro i h1 h2;simp only [List.getElem_map,List.getElem_range,h,Rat.zero_mul,Rat.add_zero];split
 ·rename_i e;subst e;rw [← IL h2,h]
 exact IL h2
theorem IQ {q row:List Rat}{v j k:Nat}(hk:k<q.length):(jX q v row j)[k]'(by rw [yV];exact hk)=(if k=v then 0 else q.getD k 0)+(if k<j then q.getD v 0*row.getD k 0 else 0):=by simp [jX]
theorem SK {q row:List Rat}{v j:Nat}(h:row.getD j 0=0):jX q v row (j+1)=jX q v row j:=by
 unfold jX;apply List.map_congr_left;intro k _;congr 1;by_cases e:k=j
 ·subst e;rw [if_pos om,if_neg om,h,Rat.mul_zero]
 by_cases h1:k<j
 ·rw [if_pos h1,if_pos om]
 rw [if_neg h1,if_neg om]
theorem SQ {q row:List Rat}{v j:Nat}(hj:j<q.length):(jX q v row j).set j ((jX q v row j)[j]'(by rw [yV];exact hj)+q.getD v 0*row.getD j 0)=jX q v row (j+1):=by
 apply List.ext_getElem
 ·simp [jX]
 intro i h1 h2;have hi:i<q.length:=by simpa [jX]using h2
 have a2:=IQ (row:=row) (v:=v) (j:=j+1) hi;have a1:=IQ (row:=row) (v:=v) (j:=j) hi;rw [List.getElem_set,a2];by_cases e:j=i
 ·subst e;rw [if_pos rfl,a1,if_neg (Nat.lt_irrefl j),if_pos (Nat.lt_succ_self j),Rat.add_zero]
 rw [if_neg e,a1];congr 1;by_cases h1:i<j
 ·rw [if_pos h1,if_pos om]
 rw [if_neg h1,if_neg om]
theorem zan {q row:List Rat}{v j:Nat}{a:Nat}(hq:∀x∈q,NB a x)(ha:1≤a){k:Nat}(hk:k<q.length)(hkj:j≤k):NB a ((jX q v row j)[k]'(by rw [yV];exact hk)):=by
 rw [IQ hk,if_neg (show ¬k<j from om),Rat.add_zero];split
 ·exact kW.mono ha
 rw [IL hk];exact hq _ (List.getElem_mem hk)
theorem SV (w:World)(gl cl bv br gr cr v:Nat)(q row:List Rat)(hv:aL w bv #[.int .i64 (v:Int)])(hb:aL w br #[.slice (some ⟨gr,0,none⟩) row.length cr])(hq:bD w gl q)(hr:bD w gr row)(hlen:row.length=q.length)(hvl:v<q.length)(hK:q.length≤1000)
  (hcl:q.length≤cl∧cl≤maxLen) (hcr:row.length≤cr∧cr≤maxLen) (n1:gr≠gl) (n2:bv≠gl) (n3:br≠gl) (nq:∀x∈q,NB 300 x) (nr:∀x∈row,NB 300 x):
  Calls Tryz.prog 138 #[.slice (some ⟨gl,0,none⟩) q.length cl,.pointer (some ⟨bv,0,none⟩),.pointer (some ⟨br,0,none⟩)] w fun e w'=>e= .returned (.tuple #[])∧bD w' gl (yT q v row)∧Keep (yR gl) w w':=by
 have HQ:=zh hq;have YJ:=zh nq;have HNR:=zh nr;have HBV:=zh hv;have Bg:=zh hb;have HR:=zh hr;unfold maxLen at hcl hcr;obtain⟨v0,vl⟩:w.cell? ⟨bv,0,none⟩=some (.int .i64 (v:Int))∧bv<w.heap.size:=⟨hv.cell 0,hv.lt⟩;obtain⟨cb,cS,cc,cU,m0,m1,m2,m3,wS,_⟩:=hq.at (k:=v) hvl;have hgl:=hq.lt;have hvI:(v:Int)<(q.length:Int):=om;have HC:=zh wS;have CS:=fun w=>zh (ko wS w);have ka:Keep au w (w.alloc (.cells #[.bool cb,.string cS,.bool cc,.string cU] 102)):=(Keep.refl _ _).alloc _;have HBC:Hid (aL (w.alloc (.cells #[.bool cb,.string cS,.bool cc,.string cU] 102)) w.heap.size #[.bool cb,.string cS,.bool cc,.string cU]):=zh (aN _ _ rfl);have KA:=zh ka;have zde:gl≠w.heap.size:=om;clear hv hb hq hr nq nr wS;go_enter Tryz.func138,Tryz.ntmps138;go_upto_region 1 with fail;generalize w.alloc (.cells #[.bool cb,.string cS,.bool cc,.string cU] 102)=w1 at *;generalize hb4:w.heap.size=b4 at *;clear hb4;have HQ1:=zh (HQ.out.keep ka);have HR1:=zh (HR.out.keep ka);have zdf:=zh (HBV.out.keep ka);have zdg:=zh (Bg.out.keep ka);clear ka v0 vl m0 m1 m2 m3 hgl HQ HR HBV Bg;obtain⟨s0,s1,s2,s3,_,_,_,_,sl⟩:=HBC.out.four;by_cases hc0:q[v]=0
 case pos=>
  have e0:=tX hc0;rw [e0]at CS;have HSQ:Hid (yT q v row=q):=zh (SI (by rw [IL hvl];exact hc0));clear hc0;go_wp2_with fail;refine(CS _).out.mono ?_;rintro e w2 ⟨rfl,hk⟩;have Qn:=zh (HQ1.out.keep hk);have K2:=zh (KA.out.both hk);clear s0 s1 s2 s3 sl hk CS;go_wp2;refine bodyPost_ret (by simp [results,Tryz.results138,go_sem];rfl) rfl ?_;exact⟨rfl,by rw [HSQ.out];exact Qn.out,K2.out.any⟩
 have e0:=tY hc0;have e1:(q[v].num.sign==0)=false:=by rw [beq_eq_false_iff_ne];exact e0
 have HCD:Hid (q.getD v 0=q[v]):=zh (IL hvl);have HNC:Hid (NB 300 q[v]):=zh (YJ.out _ (List.getElem_mem hvl));generalize q[v]=c at *;go_wp2_with fail;refine(CS _).out.mono ?_;rintro e w2 ⟨rfl,hk⟩;have Qn:=zh (HQ1.out.keep hk);have HR2:=zh (HR1.out.keep hk);have zbV:=zh (zdf.out.keep hk);have zdh:=zh (zdg.out.keep hk);have zdi:=zh (HBC.out.keep hk);have K2:=zh (KA.out.both hk);clear s0 s1 s2 s3 sl hk CS HQ1 HR1 zdf zdg HBC KA e0;obtain⟨v0,vl⟩:w2.cell? ⟨bv,0,none⟩=some (.int .i64 (v:Int))∧bv<w2.heap.size:=⟨zbV.out.cell 0,zbV.out.lt⟩;obtain⟨_,_,_,_,m0,m1,m2,m3,_,f0,f1,f2,f3⟩:=Qn.out.at (k:=v) hvl;have hgl:=Qn.out.lt;go_upto_region 3 with fail;have HQ3:Hid (bD (w4 w2 gl (v*4) nv0) gl (jX q v row 0)):=zh (by rw [SH];exact Qn.out.set4 rJ);have K3:Hid (Keep (yR gl) w (w4 w2 gl (v*4) nv0)):=zh (Qt K2.out.any);have HR3:=zh (HR2.out.same (iD (w:=w2) (o:=v*4) (x:=nv0) n1));have zbW:=zh (zdh.out.same (iD (w:=w2) (o:=v*4) (x:=nv0) n3));have zdj:=zh (zdi.out.same (iD (w:=w2) (o:=v*4) (x:=nv0) (Ne.symm zde)));rw [show((((w2.setCell ⟨gl,v*4,none⟩ (.bool false)).setCell ⟨gl,v*4+1,none⟩ (.string ⟨#[]⟩)).setCell ⟨gl,v*4+2,none⟩ (.bool false)).setCell ⟨gl,v*4+3,none⟩ (.string ⟨#[]⟩))=w4 w2 gl (v*4) nv0 from rfl];generalize w4 w2 gl (v*4) nv0=w3 at *;clear v0 vl m0 m1 m2 m3 f0 f1 f2 f3 hgl Qn HR2 zbV zdh zdi K2;obtain⟨r0,rl⟩:w3.cell? ⟨br,0,none⟩=some (.slice (some ⟨gr,0,none⟩) row.length cr)∧br<w3.heap.size:=⟨zbW.out.cell 0,zbW.out.lt⟩;go_wp2;clear r0 rl;go_loopw [20] (fun s wr=>∃j:Nat,j≤q.length∧s= .int .i64 j∧bD wr gl (jX q v row j)∧bD wr gr row∧aL wr b4 #[.bool cb,.string cS,.bool cc,.string cU]∧Keep (yR gl) w wr) (fun s _=>(q.length-intOf s).toNat)
 case atStart=>exact⟨0,om,rfl,HQ3.out,HR3.out,zdj.out,K3.out⟩
 obtain⟨j,hj,rfl,hq',hr',hb',hk'⟩:=hrel;have HQ:=zh hq';have HR:=zh hr';have HB:=zh hb';have HK:=zh hk';clear hq' hr' hb' hk' HQ3 HR3 zbW zdj K3;by_cases hjl:j<q.length
 case neg=>
  have hlt:¬(j:Int)<(row.length:Int):=om;obtain rfl:j=q.length:=om;have HSA:=zh (Xe (q:=q) (row:=row) (v:=v));go_wp2;refine bodyPost_end (by simp [results,Tryz.results138,go_sem];rfl) rfl ?_;exact⟨rfl,by rw [← HSA.out];exact HQ.out,HK.out⟩
 have hlt:(j:Int)<(row.length:Int):=om;have hjr:j<row.length:=om;obtain⟨xb,xS,xc,xU,p0,p1,p2,p3,hx,_⟩:=HR.out.at (k:=j) hjr;have hgr:=HR.out.lt;have CS:=fun w=>zh (ko hx w);have HX:=zh hx;have ka:Keep au wr (wr.alloc (.cells #[.bool xb,.string xS,.bool xc,.string xU] 102)):=(Keep.refl _ _).alloc _;have wL:Hid (aL (wr.alloc (.cells #[.bool xb,.string xS,.bool xc,.string xU] 102)) wr.heap.size #[.bool xb,.string xS,.bool xc,.string xU]):=zh (aN _ _ rfl);have HXD:Hid (row.getD j 0=row[j]):=zh (IL hjr);have lY:Hid (NB 300 row[j]):=zh (HNR.out _ (List.getElem_mem hjr));have hwg:wr.heap.size≠gl:=by have:=HQ.out.lt;omega
 go_upto_region 6 with fail;have HQ1:=zh (HQ.out.keep ka);have HR1:=zh (HR.out.keep ka);have HB1:=zh (HB.out.keep ka);have K1:=zh (HK.out.only ka);clear ka p0 p1 p2 p3 hgr hx HQ HR HB HK;generalize wr.alloc (.cells #[.bool xb,.string xS,.bool xc,.string xU] 102)=wx at *;generalize wr.heap.size=b6 at *;obtain⟨s0,s1,s2,s3,_,_,_,_,sl⟩:=wL.out.four;generalize row[j]=x at*;by_cases hx0:x=0
 case pos=>
  have e0:=tX hx0;rw [e0]at CS;have Ut:Hid (jX q v row (j+1)=jX q v row j):=zh (SK (by rw [HXD.out];exact hx0));clear hx0 e0;go_wp2_with fail;refine(CS _).out.mono ?_;rintro e w2 ⟨rfl,hk⟩;have Qn:=zh (HQ1.out.keep hk);have HR2:=zh (HR1.out.keep hk);have HB2:=zh (HB1.out.keep hk);have K2:=zh (K1.out.only hk);clear s0 s1 s2 s3 sl hk CS;go_wp2;go_roundw
  case rel=>exact⟨j+1,om,gn,by rw [Ut.out];exact Qn.out,HR2.out,HB2.out,K2.out⟩
  simp [intOf];omega
 have e0:=tY hx0;have e1':(x.num.sign != 0)=true:=by rw [bne_iff_ne];exact e0
 clear hx0 e0;go_wp2_with fail;refine(CS _).out.mono ?_;rintro e w2 ⟨rfl,hk⟩;have Qn:=zh (HQ1.out.keep hk);have HR2:=zh (HR1.out.keep hk);have HB2:=zh (HB1.out.keep hk);have zeU:=zh (wL.out.keep hk);have K2:=zh (K1.out.only hk);clear s0 s1 s2 s3 sl hk CS HQ1 HR1 HB1 wL K1;go_upto_region 7 with fail;have hjq:j<(jX q v row j).length:=by rw [yV];exact hjl
 obtain⟨yb,yS,yc,yU,p0,p1,p2,p3,hy,_⟩:=Qn.out.at (k:=j) hjq;have hgl:=Qn.out.lt;have nY:NB 300 ((jX q v row j)[j]):=zan YJ.out om hjl (Nat.le_refl _);have CT:=fun w=>zh (jD w _ c HC.out (HNC.out.mono om) _ x HX.out (lY.out.mono om));obtain⟨⟨tb,tS,tc,tU⟩,htq,htn⟩:=eP (c*x);rw [htq]at CT;have CP:=fun w=>zh (mV w _ _ hy (nY.mono om) _ _ htn ((HNC.out.mul lY.out).mono om));obtain⟨⟨rb,rS,rc,rU⟩,hrq,hrn⟩:=eP ((jX q v row j)[j]+c*x);rw [hrq]at CP;have Xc:Hid (bM (NV.v ⟨rb,rS,rc,rU⟩) ((jX q v row j)[j]+q.getD v 0*row.getD j 0)):=zh (by rw [HCD.out,HXD.out];exact hrn);unfold NV.v at CT CP;simp only at CT CP;have HJQ:=zh hjq;clear hy nY htq htn hrq hrn;refine aD (fun w'=>Keep au w2 w') [11] [([0,1,2,3,4,5,6,7],8),([],9),([10],11)] [] kr kr kp ?_;intro X W hne' hF hcls;have aY:=zh hcls;have y0:=fun x=>((hF x).cell hgl).trans p0;have y1:=fun x=>((hF x).cell hgl).trans p1;have y2:=fun x=>((hF x).cell hgl).trans p2;have y3:=fun x=>((hF x).cell hgl).trans p3;have z0:=fun x=>(HB2.out.keep (hF x)).four;have z1:=fun x=>(zeU.out.keep (hF x)).four;clear hF hcls p0 p1 p2 p3;simp only [aW,aJ,zl0,zl1,zl2,aX,Bool.false_eq_true,if_false]
 (repeat(go_big_quiet_step (fail)));refine wpQuiet_nil ?_
 refine ay rfl rfl fun K hK=> ?_;go_simp;refine(CT _).out.mono ?_;rintro e w5 ⟨rfl,hk⟩;have k5:Keep au w2 w5:=Keep.trans kp hk fun _ _ _ h=>h;refine hK _ _ ⟨fun _=>aY.out _ k5,?_⟩;clear hK K hk CT
 (repeat(go_big_quiet_step (fail)));refine wpQuiet_nil ?_
 refine ay rfl rfl fun K hK=> ?_;go_simp;refine(CP _).out.mono ?_;rintro e w6 ⟨rfl,hk⟩;have k6:Keep au w2 w6:=k5.both hk;refine hK _ _ ⟨fun _=>aY.out _ k6,?_⟩;clear hK K hk CP k5;have HQ6:=zh (Qn.out.keep k6);have HR6:=zh (HR2.out.keep k6);have vW:=zh (HB2.out.keep k6);have K6:=zh (K2.out.only k6);obtain⟨_,_,_,_,g0,g1,g2,g3,_,f0,f1,f2,f3⟩:=HQ6.out.at (k:=j) HJQ.out;have hg6:=HQ6.out.lt
 (repeat(go_big_quiet_step (fail)));refine wpQuiet_nil ?_
 refine ay rfl rfl fun K hK=> ?_;go_simp;refine hK _ _ ⟨fun h=>(by simp at h),?_⟩;clear hK K y0 y1 y2 y3 z0 z1;have Xf:=zh (SQ (q:=q) (row:=row) (v:=v) hjl);have HQ7:Hid (bD (w4 w6 gl (j*4) ⟨rb,rS,rc,rU⟩) gl (jX q v row (j+1))):=zh (by rw [← Xf.out];exact HQ6.out.set4 Xc.out);have K7:Hid (Keep (yR gl) w (w4 w6 gl (j*4) ⟨rb,rS,rc,rU⟩)):=zh (Qt K6.out);have Qu:=zh (HR6.out.same (iD (w:=w6) (o:=j*4) (x:=⟨rb,rS,rc,rU⟩) n1));have nu:=zh (vW.out.same (iD (w:=w6) (o:=j*4) (x:=⟨rb,rS,rc,rU⟩) (Ne.symm zde)));rw [show((((w6.setCell ⟨gl,j*4,none⟩ (.bool rb)).setCell ⟨gl,j*4+1,none⟩ (.string rS)).setCell ⟨gl,j*4+2,none⟩ (.bool rc)).setCell ⟨gl,j*4+3,none⟩ (.string rU))=w4 w6 gl (j*4) ⟨rb,rS,rc,rU⟩from rfl];generalize w4 w6 gl (j*4) ⟨rb,rS,rc,rU⟩=w7 at *;clear g0 g1 g2 g3 f0 f1 f2 f3 hg6 HQ6 HR6 vW K6
 (repeat(go_big_quiet_step (fail)));refine wpQuiet_nil ?_
 refine NoPanic.normal ?_;go_wp2;go_roundw
 case rel=>exact⟨j+1,om,gn,HQ7.out,Qu.out,nu.out,K7.out⟩
 simp [intOf];omega
theorem LT.setRow {w0 w w':World}{bT nm:Nat}{S:TS}{L:Lay}(h:LT w0 w bT nm S L){i:Nat}(hi:i<S.cells.length){q':List Rat}(hl:q'.length=S.cells[i].length)(hk:Keep au w0 w')(ho:∀b,b<w.heap.size→b≠L.gs i→w'.heap[b]? =w.heap[b]?)(hq:bD w' (L.gs i) q'):
  LT w0 w' bT nm {S with cells:=S.cells.set i q'} L where
 k:=hk
 t:=by
  have:=aL.same h.t (ho bT (aL.lt h.t) (h.ap.st i hi).symm);simp only [List.length_set];exact this
 rows:=h.rows
 b:=fun hb=>⟨(h.b hb).1,(h.b hb).2.same (ho _ (h.b hb).2.lt (h.ap.sb i hi).symm)⟩
 c:=fun hc=>by
  have hc':S.cells≠ []:=by intro h0;rw [h0]at hi;simp at hi
  obtain⟨h1,A,hA,hA'⟩:=h.c hc';refine⟨h1,A,hA.same (ho _ hA.lt (h.ap.sc i hi).symm),fun j hj=> ?_⟩;have hj':j<S.cells.length:=by simpa using hj
  rw [hA' j hj'];by_cases e:i=j
  ·subst e;simp [hl]
  simp [List.getElem_set,e]
 r:=fun j hj=>by
  have hj':j<S.cells.length:=by simpa using hj
  by_cases e:i=j
  ·subst e;simp only [List.getElem_set_self];exact⟨hq,by rw [hl];exact(h.r i hi).2.1,(h.r i hi).2.2⟩
  simp only [List.getElem_set,e,if_false];exact⟨(h.r j hj').1.same (ho _ (h.r j hj').1.lt (h.ap.ss j i hj' hi (Ne.symm e))),(h.r j hj').2⟩
 v:=h.v.same (ho _ h.v.lt (h.ap.sv i hi).symm)
 cb:=h.cb
 cc:=by simp only [List.length_set];exact h.cc
 cv:=h.cv
 mp:=h.mp.same (ho _ h.mp.lt (h.ap.sm i hi).symm)
 own:=by
  obtain⟨o1,o2,o3,o4,o5,o6⟩:=h.own;exact⟨o1,o2,o3,o4,o5,fun j hj=>o6 j (by simpa using hj)⟩
 ap:=by simp only [List.length_set];exact h.ap
theorem LT.pivotEnd {w0 w w':World}{bT nm nm':Nat}{S:TS}{L:Lay}(h:LT w0 w bT nm S L){i:Nat}(hi:i<S.cells.length)(hib:i<S.basic.length){row:List Rat}{gr cr v:Nat}(hl:row.length=S.cells[i].length)(hk:Keep au w0 w')
  (ho:∀b,b<w.heap.size→b≠L.gc→b≠L.gb→b≠L.gm→w'.heap[b]? =w.heap[b]?)
  (hgc:∀A,aL w L.gc A→aL w' L.gc (A.setIfInBounds i (.slice (some ⟨gr,0,none⟩) row.length cr))) (hgb:∀A,aL w L.gb A→aL w' L.gb (A.setIfInBounds i (.int .i64 (v:Int))))
  (hgm:zX w' L.gm nm' (S.basic.set i v)) (hr:bD w' gr row) (hcr:row.length≤cr∧cr≤maxLen) (hg0:w0.heap.size≤gr) (g1:gr≠bT) (g2:gr≠L.gb) (g3:gr≠L.gc) (g4:gr≠L.gv) (g5:gr≠L.gm) (g6:∀j,j<S.cells.length→gr≠L.gs j):
  EW w0 w' bT nm' {S with cells:=S.cells.set i row,basic:=S.basic.set i v}:=by
 have hc':S.cells≠ []:=by intro h0;rw [h0]at hi;simp at hi
 have hb':S.basic≠ []:=by intro h0;rw [h0]at hib;simp at hib
 have hsm:∀ {b},b<w.heap.size→b≠L.gc→b≠L.gb→b≠L.gm→w'.heap[b]? =w.heap[b]? :=fun h1 h2 h3 h4=>ho _ h1 h2 h3 h4;refine⟨{L with gs:=fun j=>if j=i then gr else L.gs j,cs:=fun j=>if j=i then cr else L.cs j},?_⟩;constructor
 ·exact hk
 ·have:=aL.same h.t (hsm (aL.lt h.t) h.ap.tc h.ap.tb h.ap.tm);simp only [List.length_set];exact this
 ·exact h.rows
 ·intro _;obtain⟨h1,A,hA,hA'⟩:=h.b hb';refine⟨h1,_,hgb A hA,fun j hj=> ?_⟩;have hj':j<S.basic.length:=by simpa using hj
  have hja:=(Array.getElem?_eq_some_iff.1 (hA' j hj')).1;rw [Array.getElem?_setIfInBounds];by_cases e:i=j
  ·subst e;simp [hja]
  simp only [e,if_false];rw [hA' j hj'];simp [List.getElem_set,e]
 ·intro _;obtain⟨h1,A,hA,hA'⟩:=h.c hc';refine⟨h1,_,hgc A hA,fun j hj=> ?_⟩;have hj':j<S.cells.length:=by simpa using hj
  have hja:=(Array.getElem?_eq_some_iff.1 (hA' j hj')).1;rw [Array.getElem?_setIfInBounds];by_cases e:i=j
  ·subst e;simp [hja]
  have e':¬j=i:=fun h=>e h.symm;simp only [e,if_false];rw [hA' j hj'];simp [List.getElem_set,e,e']
 ·intro j hj;have hj':j<S.cells.length:=by simpa using hj
  by_cases e:i=j
  ·subst e;simp only [List.getElem_set_self,if_true];exact⟨hr,hcr⟩
  have e':¬j=i:=fun h=>e h.symm;simp only [List.getElem_set,e,e',if_false];exact⟨(h.r j hj').1.same (hsm (h.r j hj').1.lt (h.ap.sc j hj') (h.ap.sb j hj') (h.ap.sm j hj')),(h.r j hj').2⟩
 ·exact h.v.same (hsm h.v.lt h.ap.cv.symm h.ap.bv.symm h.ap.vm)
 ·simp only [List.length_set];exact h.cb
 ·simp only [List.length_set];exact h.cc
 ·exact h.cv
 ·exact hgm
 ·obtain ⟨o1,o2,o3,o4,o5,o6⟩:=h.own;refine⟨o1,o2,o3,o4,o5,fun j hj=> ?_⟩;simp only;split
  ·exact hg0
  exact o6 j (by simpa using hj)
 have ap:=h.ap;simp only [List.length_set];refine⟨ap.tb,ap.tc,ap.tv,ap.tm,ap.bc,ap.bv,ap.bm,ap.cv,ap.cm,ap.vm,fun j hj=> ?_,fun j hj=> ?_,fun j hj=> ?_,fun j hj=> ?_,fun j hj=> ?_,fun j k hj hk hjk=> ?_⟩
 ·simp only;split
  ·exact g1
  exact ap.st j hj
 ·simp only;split
  ·exact g2
  exact ap.sb j hj
 ·simp only;split
  ·exact g3
  exact ap.sc j hj
 ·simp only;split
  ·exact g4
  exact ap.sv j hj
 ·simp only;split
  ·exact g5
  exact ap.sm j hj
 simp only;split
 ·rename_i e1;split
  ·rename_i e2;exact absurd (e1.trans e2.symm) hjk
  exact g6 k hk
 split
 ·exact (g6 j hj).symm
 exact ap.ss j k hj hk hjk
def qV (q:List Rat)(a:Rat)(k:Nat):List Rat:=(List.range q.length).map fun j=>if j<k then -(q.getD j 0/a)else 0
def TS.pivRow (S:TS)(i v:Nat):List Rat:=((qV (S.cells.getD i []) (S.cell i v) (S.cells.getD i []).length).set v 0).set (S.basic.getD i 0) (1/S.cell i v)
def TS.pivC (S:TS)(i v:Nat):Nat→List (List Rat)
 | 0=>S.cells
 | k+1=>if k=i then S.pivC i v k else(S.pivC i v k).set k (yT (S.cells.getD k []) v (S.pivRow i v))
def TS.pivot (S:TS)(i v:Nat):TS:= {S with cells:=(S.pivC i v S.cells.length).set i (S.pivRow i v),basic:=S.basic.set i v}
theorem qW {q:List Rat}{a:Rat}{k:Nat}:(qV q a k).length=q.length:=by simp [qV]
theorem S9 {q:List Rat}{a:Rat}:qV q a 0=List.replicate q.length 0:=by
 apply List.ext_getElem
 ·simp [qV]
 intro i h1 h2;simp [qV]
theorem Ta {q:List Rat}{a:Rat}{k:Nat}(hk:k<q.length):(qV q a k).set k (-(q.getD k 0/a))=qV q a (k+1):=by
 apply List.ext_getElem
 ·simp [qV]
 intro i h1 h2;have hi:i<q.length:=by simpa [qV]using h2
 rw [List.getElem_set];simp only [qV,List.getElem_map,List.getElem_range];by_cases e:k=i
 ·subst e;rw [if_pos rfl,if_pos (Nat.lt_succ_self k)]
 rw [if_neg e];by_cases h1:i<k
 ·rw [if_pos h1,if_pos om]
 rw [if_neg h1,if_neg om]
theorem eY {S:TS}{i v:Nat}:∀k,(S.pivC i v k).length=S.cells.length
 | 0=>rfl
 | k+1=>by
  unfold TS.pivC;split
  ·exact eY k
  rw [List.length_set];exact eY k
theorem DR {S:TS}{i v:Nat}{j:Nat}(hj:j<S.cells.length):∀k,k≤j→(S.pivC i v k)[j]'(by rw [eY];exact hj)=S.cells[j]
 | 0,_=>rfl
 | k+1,hk=>by
  unfold TS.pivC;split
  ·exact DR hj k om
  rw [List.getElem_set,if_neg om];exact DR hj k om
theorem Ab {S:TS}{i v:Nat}(hi:i<S.cells.length):∀k,(S.pivC i v k)[i]'(by rw [eY];exact hi)=S.cells[i]
 | 0=>rfl
 | k+1=>by
  unfold TS.pivC;split
  ·exact Ab hi k
  rename_i h;rw [List.getElem_set,if_neg h];exact Ab hi k
def TS.refK (S:TS)(i:Nat)(way:Int):Nat→List Rat
 | 0=>(List.replicate S.rows.length 0).set (S.basic.getD i 0-S.n) ((-way:Int):Rat)
 | k+1=>if S.cell i k=0 then S.refK i way k else(S.refK i way k).set (k-S.n) (-(S.cell i k*((-way:Int):Rat)))
theorem nM {S:TS}{i:Nat}{way:Int}:∀k,(S.refK i way k).length=S.rows.length
 | 0=>by simp [TS.refK]
 | k+1=>by
  unfold TS.refK;split
  ·exact nM k
  rw [List.length_set];exact nM k
theorem DT (w0 w:World)(bT nm:Nat)(S:TS)(h:EW w0 w bT nm S)(hw:S.wf)(hn:S.nb 300)(i:Nat)(hi:i<S.rows.length)(way:Int)(Xb:way=1∨way= -1)(hbi:S.n≤S.basic.getD i 0)(hz:∀v,v<S.n→S.cell i v=0):
  Calls Tryz.prog 68 #[.pointer (some ⟨bT,0,none⟩),.int .i64 (i:Int),.int .i64 way] w fun e w'=>∃u,e= .returned u∧jf w' u (S.refK i way (S.n+S.rows.length))∧Keep au w w':=by
 obtain⟨L,h⟩:=h;have HW:=zh hw;have HN:=zh hn;have HZ:=zh hz;have ys:=h.cb.1;have ys':=h.cb.2;have zs:=h.cc.1;have zs':=h.cc.2;have hbl:=hw.bl;have hcl:=hw.cl;have h40:=hw.r40;have h12:=hw.n12;unfold maxLen at ys' zs';have hib:i<S.basic.length:=om;have hic:i<S.cells.length:=om;have hiI:(i:Int)<(S.basic.length:Int):=om;have hll:S.cells[i].length=S.n+S.rows.length:=hw.cr _ (List.getElem_mem hic);rw [kN hib]at hbi;have hbb:=hw.bb _ (List.getElem_mem hib);obtain⟨KN,hK⟩:∃KN,S.cells[i].length=KN:=⟨_,rfl⟩;have HK:=zh hK;have HKE:Hid (KN=S.n+S.rows.length):=zh om;have zbQ:KN≤76:=om;obtain⟨c,hc⟩:∃c,S.basic[i]-S.n=c:=⟨_,rfl⟩;have HCE:Hid (S.basic.getD i 0-S.n=c):=zh (by rw [kN hib];exact hc);have hcm:c<S.rows.length:=om;have e1:(S.basic[i]:Int)-(S.n:Int)=(c:Int):=om;have e2:IntKind.i64.wrap (c:Int)=(c:Int):=Go.IntWalk.i64_in _ om;have e3:¬(c:Int)<0:=om;have hcI:(c:Int)<(S.rows.length:Int):=om;have hneg:IntKind.i64.wrap (-way)= -way:=Go.IntWalk.i64_in _ om;have CI:=fun w=>zh (iF w (-way) om om);obtain⟨⟨sb,sS,sc,sU⟩,hs,hsn⟩:=uQ (-way);rw [hs]at CI;unfold NV.v at CI;simp only at CI;have HS:=zh hsn;have zF:Hid (NB 1 ((-way:Int):Rat)):=zh (jg om);have nJ:=zh h;obtain⟨or,cr,WJ,_,hcr⟩:=h.rows.len;obtain⟨t0,t1,t2,_,t4,_,_,fJ⟩:=h.t.seven;rw [WJ]at t1;obtain⟨w1,hr1,hn1,hk1⟩:=zG w S.rows.length om;have HO1:=zh hn1;have K1:=zh hk1;have HT0:=zh (And.intro t0 (And.intro t2 t4));obtain⟨Io,hbk⟩:=h.b (by intro h0;rw [h0]at hib;simp at hib);obtain⟨hoc,hck⟩:=h.c (by intro h0;rw [h0]at hic;simp at hic);obtain⟨cb0,_⟩:=hbk.at (i:=i) hib;obtain⟨cc0,_⟩:=hck.at (i:=i) hic;have hgb:=hbk.lt;have hgc:=hck.lt;rw [HK.out]at cc0;have HRI:=(h.r i hic).1;have hcs:=(h.r i hic).2.1;have hcs2:=(h.r i hic).2.2;rw [HK.out]at hcs;unfold maxLen at hcs2 hcr;have EI:=zh HRI;have MS:=zh (And.intro cb0 cc0);have HOO:=zh (And.intro Io hoc);clear h hw hn hz hK hll hc hs hsn hbk hck Io hoc t0 t2 t4 HRI cb0 cc0 hbi hbb;go_enter Tryz.func68,Tryz.ntmps68;go_wp2_with fail;refine(CI _).out.mono ?_;rintro e w2 ⟨rfl,hk2⟩;clear t1 hr1 CI;have K2:=zh (K1.out.both hk2);have Im:=zh (HO1.out.keep hk2);have ka:Keep au w2 (w2.alloc (.cells #[.bool sb,.string sS,.bool sc,.string sU] 102)):=(Keep.refl _ _).alloc _;have jN:Hid (aL (w2.alloc (.cells #[.bool sb,.string sS,.bool sc,.string sU] 102)) w2.heap.size #[.bool sb,.string sS,.bool sc,.string sU]):=zh (aN _ _ rfl);have YO:=zh (Im.out.keep ka);have K3:=zh (K2.out.both ka);have kZ:Hid (w2.heap.size≠w.heap.size):=zh (by have:=Im.out.lt;omega);go_upto_region 3 with fail;clear ka hk2 hn1 hk1 HO1 Im K1 K2;generalize w2.alloc (.cells #[.bool sb,.string sS,.bool sc,.string sU] 102)=w3 at *;generalize w2.heap.size=b8 at *;have lt3:=bJ fJ K3.out.size;have lb3:=bJ hgb K3.out.size;generalize hgo:w.heap.size=go at kZ YO ⊢;have HLE:Hid (w.heap.size≤go):=zh (Nat.le_of_eq hgo);clear hgo;obtain⟨_,_,_,_,g0,g1,g2,g3,_,f0,f1,f2,f3⟩:=YO.out.at (k:=c) (by rw [List.length_replicate];exact hcm);have hg6:=YO.out.lt;refine aD (fun w'=>Keep au w3 w') [15] [([0,1,2,3,4,5,6,7,8,9,10,11,12,13,14],15)] [] kr kr kp ?_;intro X W hne hF hcls;have aY:=zh hcls;have x0:=fun x=>((hF x).cell lt3).trans ((K3.out.cell fJ).trans HT0.out.1);have x1:=fun x=>((hF x).cell lt3).trans ((K3.out.cell fJ).trans HT0.out.2.1);have x2:=fun x=>((hF x).cell lb3).trans ((K3.out.cell hgb).trans MS.out.1);have z0:=fun x=>(jN.out.keep (hF x)).four;clear hF hcls;rw [HOO.out.1]at x1;simp only [aW,aJ,zl0,zl1,zl2,aX,Bool.false_eq_true,if_false]
 (repeat(go_big_quiet_step (fail)));refine wpQuiet_nil ?_
 refine ay rfl rfl fun K hK=> ?_;go_simp;refine hK _ _ ⟨fun h=>(by simp at h),?_⟩;clear hK x0 x1 x2 z0;have Qu:Hid (bD (w4 w3 go (c*4) ⟨sb,sS,sc,sU⟩).drew go (S.refK i way 0)):=zh (by
  have:=(YO.out.set4 (k:=c) HS.out).keep (Keep.refl au _).drew;rw [TS.refK,HCE.out];exact this)
 have K7:Hid (Keep au w (w4 w3 go (c*4) ⟨sb,sS,sc,sU⟩).drew):=zh ((sH K3.out HLE.out).drew);have jN:Hid (aL (w4 w3 go (c*4) ⟨sb,sS,sc,sU⟩).drew b8 #[.bool sb,.string sS,.bool sc,.string sU]):=zh ((jN.out.same (iD kZ.out)).keep (Keep.refl au _).drew);rw [show((((w3.setCell ⟨go,c*4,none⟩ (.bool sb)).setCell ⟨go,c*4+1,none⟩ (.string sS)).setCell ⟨go,c*4+2,none⟩ (.bool sc)).setCell ⟨go,c*4+3,none⟩ (.string sU))=w4 w3 go (c*4) ⟨sb,sS,sc,sU⟩from rfl];generalize (w4 w3 go (c*4) ⟨sb,sS,sc,sU⟩).drew=w4' at *;clear g0 g1 g2 g3 f0 f1 f2 f3 hg6 YO K3 lt3 lb3
 (repeat(go_big_quiet_step (fail)));refine wpQuiet_nil ?_
 refine NoPanic.normal ?_;have t4:=(K7.out.cell fJ).trans HT0.out.2.2;have c4':=(K7.out.cell hgc).trans MS.out.2;have lt4:=bJ fJ K7.out.size;have lc4:=bJ hgc K7.out.size;rw [HOO.out.2]at t4;have hiC:(i:Int)<(S.cells.length:Int):=om;go_wp2;clear t4 c4' lt4 lc4;go_loopw [43] (fun s wr=>∃k:Nat,k≤KN∧s= .int .i64 k∧Keep au w wr∧bD wr go (S.refK i way k)∧aL wr b8 #[.bool sb,.string sS,.bool sc,.string sU]) (fun s _=>(KN-intOf s).toNat)
 case atStart=>exact⟨0,om,rfl,K7.out,Qu.out,jN.out⟩
 obtain⟨k,hk,rfl,hkr,hrw,hb8⟩:=hrel;have dH:=zh hkr;have HRW:=zh hrw;have jN:=zh hb8;clear hkr hrw hb8 K7 Qu;by_cases hkl:k<KN
 case neg=>
  have hlt:¬(k:Int)<(KN:Int):=om;obtain rfl:k=KN:=om;go_wp2;go_ret;exact⟨_,rfl,by rw [← HKE.out];exact HRW.out.nums (nM _).symm (Nat.le_of_eq (nM _)) (by unfold maxLen;omega),dH.out⟩
 have hlt:(k:Int)<(KN:Int):=om;have hkq:k<S.cells[i].length:=by rw [HK.out];exact hkl
 obtain⟨xb,xS,xc,xU,p0,p1,p2,p3,hx,_⟩:=(EI.out.keep dH.out).at (k:=k) hkq;have Xg:=(EI.out.keep dH.out).lt;have nx:NB 300 (S.cells[i][k]):=HN.out.c _ (List.getElem_mem hic) _ (List.getElem_mem hkq);have hxd:S.cell i k=S.cells[i][k]:=pR hic hkq;rw [← hxd]at hx nx;have HZK:=zh (HZ.out k);obtain⟨x,hxe⟩:∃x,S.cell i k=x:=⟨_,rfl⟩;rw [hxe]at hx nx HZK;have HXE:=zh hxe;have CS:=fun w=>zh (ko hx w);have HX:=zh hx;have lY:=zh nx;clear hxd hxe nx hx;have ka:Keep au wr (wr.alloc (.cells #[.bool xb,.string xS,.bool xc,.string xU] 102)):=(Keep.refl _ _).alloc _;have wL:Hid (aL (wr.alloc (.cells #[.bool xb,.string xS,.bool xc,.string xU] 102)) wr.heap.size #[.bool xb,.string xS,.bool xc,.string xU]):=zh (aN _ _ rfl);go_upto_region 7 with fail;have HRW:=zh (HRW.out.keep ka);have jN:=zh (jN.out.keep ka);have dH:=zh (dH.out.both ka);clear ka p0 p1 p2 p3 Xg;generalize wr.alloc (.cells #[.bool xb,.string xS,.bool xc,.string xU] 102)=wx at *;generalize wr.heap.size=bx at *;obtain⟨s0,s1,s2,s3,_,_,_,_,sl⟩:=wL.out.four;by_cases hx0:x=0
 case pos=>
  have e0:=tX hx0;rw [e0]at CS;have Ut:Hid (S.refK i way (k+1)=S.refK i way k):=zh (by rw [TS.refK,HXE.out,if_pos hx0]);clear hx0 e0;go_wp2_with fail;refine(CS _).out.mono ?_;rintro e w5 ⟨rfl,hk5⟩;have Tc:=zh (HRW.out.keep hk5);have dY:=zh (jN.out.keep hk5);have K5:=zh (dH.out.both hk5);clear s0 s1 s2 s3 sl hk5 CS;go_wp2;go_roundw
  case rel=>exact⟨k+1,om,gn,K5.out,by rw [Ut.out];exact Tc.out,dY.out⟩
  simp [intOf];omega
 have e0:=tY hx0;have e4:(x.num.sign != 0)=true:=by rw [bne_iff_ne];exact e0
 have hkn:¬k<S.n:=fun h=>hx0 (HZK.out h);obtain⟨d,hd⟩:∃d,k-S.n=d:=⟨_,rfl⟩;have hke:=HKE.out;have hdm:d<S.rows.length:=om;have e5:(k:Int)-(S.n:Int)=(d:Int):=om;have e6:IntKind.i64.wrap (d:Int)=(d:Int):=Go.IntWalk.i64_in _ om;have e7:¬(d:Int)<0:=om;have hdI:(d:Int)<(S.rows.length:Int):=om;have Ut:Hid (S.refK i way (k+1)=(S.refK i way k).set d (-(x*((-way:Int):Rat)))):=zh (by rw [TS.refK,HXE.out,if_neg hx0,hd]);clear hx0 e0 hkn hke hd;go_wp2_with fail;refine(CS _).out.mono ?_;rintro e w5 ⟨rfl,hk5⟩;have Tc:=zh (HRW.out.keep hk5);have dY:=zh (jN.out.keep hk5);have zeV:=zh (wL.out.keep hk5);have K5:=zh (dH.out.both hk5);clear s0 s1 s2 s3 sl hk5 CS HRW jN wL dH;have CT:=fun w=>zh (jD w _ x HX.out (lY.out.mono om) _ _ HS.out (zF.out.mono om));obtain⟨⟨tb,tS,tc,tU⟩,htq,htn⟩:=eP (x*((-way:Int):Rat));rw [htq]at CT;have CN:=fun w=>zh (Ga w _ _ htn ((lY.out.mul zF.out).mono om));obtain⟨⟨rb,rS,rc,rU⟩,hrq,hrn⟩:=eP (-(x*((-way:Int):Rat)));rw [hrq]at CN;unfold NV.v at CT CN;simp only at CT CN;have Xc:=zh hrn;clear htq htn hrq hrn;have lt5:=bJ fJ K5.out.size;have t0:=(K5.out.cell fJ).trans HT0.out.1;go_upto_region 8 with fail;refine aD (fun w'=>Keep au w5 w') [12] [([0,1,2,3,4,5,6,7,8],9),([],10),([11],12)] [] kr kr kp ?_;intro X W hne hF hcls;have aY:=zh hcls;have x0:=fun x=>((hF x).cell lt5).trans t0;have z0:=fun x=>(dY.out.keep (hF x)).four;have z1:=fun x=>(zeV.out.keep (hF x)).four;clear hF hcls t0;simp only [aW,aJ,zl0,zl1,zl2,aX,Bool.false_eq_true,if_false]
 (repeat(go_big_quiet_step (fail)));refine wpQuiet_nil ?_
 refine ay rfl rfl fun K hK=> ?_;go_simp;refine(CT _).out.mono ?_;rintro e w6 ⟨rfl,hk6⟩;have k6:Keep au w5 w6:=Keep.trans kp hk6 fun _ _ _ h=>h;refine hK _ _ ⟨fun _=>aY.out _ k6,?_⟩;clear hK hk6 CT
 (repeat(go_big_quiet_step (fail)));refine wpQuiet_nil ?_
 refine ay rfl rfl fun K hK=> ?_;go_simp;refine(CN _).out.mono ?_;rintro e w7 ⟨rfl,hk7⟩;have k7:Keep au w5 w7:=k6.both hk7;refine hK _ _ ⟨fun _=>aY.out _ k7,?_⟩;clear hK hk7 CN k6;have Qu:=zh (Tc.out.keep k7);have nu:=zh (dY.out.keep k7);have K7:=zh (K5.out.both k7);obtain⟨_,_,_,_,g0,g1,g2,g3,_,f0,f1,f2,f3⟩:=Qu.out.at (k:=d) (by rw [nM];exact hdm);have hg6:=Qu.out.lt
 (repeat(go_big_quiet_step (fail)));refine wpQuiet_nil ?_
 refine ay rfl rfl fun K hK=> ?_;go_simp;refine hK _ _ ⟨fun h=>(by simp at h),?_⟩;clear hK x0 z0 z1;have HR8:Hid (bD (w4 w7 go (d*4) ⟨rb,rS,rc,rU⟩) go (S.refK i way (k+1))):=zh (by rw [Ut.out];exact Qu.out.set4 Xc.out);have K8:Hid (Keep au w (w4 w7 go (d*4) ⟨rb,rS,rc,rU⟩)):=zh (sH K7.out HLE.out);have jN:Hid (aL (w4 w7 go (d*4) ⟨rb,rS,rc,rU⟩) b8 #[.bool sb,.string sS,.bool sc,.string sU]):=zh (nu.out.same (iD kZ.out));rw [show((((w7.setCell ⟨go,d*4,none⟩ (.bool rb)).setCell ⟨go,d*4+1,none⟩ (.string rS)).setCell ⟨go,d*4+2,none⟩ (.bool rc)).setCell ⟨go,d*4+3,none⟩ (.string rU))=w4 w7 go (d*4) ⟨rb,rS,rc,rU⟩from rfl];generalize w4 w7 go (d*4) ⟨rb,rS,rc,rU⟩=w8' at *;clear g0 g1 g2 g3 f0 f1 f2 f3 hg6 Qu nu K7 lt5
 (repeat(go_big_quiet_step (fail)));refine wpQuiet_nil ?_
 refine NoPanic.normal ?_;go_wp2;go_roundw
 case rel=>exact⟨k+1,om,gn,K8.out,HR8.out,jN.out⟩
 simp [intOf];omega
open Go.ChangeShapes Go.WideShapes Go.RowKit
def TS.start (n:Nat)(rows:List Rw):TS where
 n:=n
 rows:=rows
 basic:=(List.range rows.length).map fun i=>n+i
 cells:=rows.map fun r=>(List.range (n+rows.length)).map fun k=>((r.of.getD k 0:Int):Rat)
 vals:=List.replicate (n+rows.length) pr0
def TS.lineOf (S:TS)(b:Int):Nat:=S.basic.findIdx fun(x:Nat)=>decide ((x:Int)=b)
def TS.enter (S:TS)(i:Nat)(way:Int):Option Nat:=(List.range (S.n+S.rows.length)).find? fun v=>decide (S.cell i v≠0)&&S.canB v (way*(S.cell i v).num.sign)
def TS.by (S:TS)(b:Nat)(i e:Nat)(way:Int):Pr:=((if 0<way then Fa S.n S.rows b else jC S.n S.rows b).sub (S.val b)).mul (1/S.cell i e)
inductive zeW where
 | yes (S:TS)
 | no (l:List Rat)
 | hungry
def TS.next (S:TS)(b:Nat)(way:Int)(e:Nat):TS:=(S.move e (S.by b (S.lineOf b) e way)).pivot (S.lineOf b) e
def TS.feas:Nat→TS→zeW
 | 0,S=>if S.broken.1<0 then .yes S else .hungry
 | f+1,S=>if S.broken.1<0 then .yes S else
   match S.enter (S.lineOf S.broken.1) S.broken.2 with
   | none=> .no (S.refK (S.lineOf S.broken.1) S.broken.2 (S.n+S.rows.length))
   | some e=>TS.feas f (S.next S.broken.1.toNat S.broken.2 e)
theorem Xh {n:Nat}{rows:List Rw}(hn:n≤12)(h40:rows.length≤64)(hr:∀r∈rows,iA r n):(TS.start n rows).wf where
 n12:=hn
 r40:=h40
 rok:=hr
 bl:=by simp [TS.start]
 cl:=by simp [TS.start]
 cr:=by
  intro l hl;obtain⟨r,_,rfl⟩:=List.mem_map.1 hl;simp [TS.start]
 vl:=by simp [TS.start]
 nd:=by
  show((List.range rows.length).map fun i=>n+i).Nodup;rw [List.nodup_iff_pairwise_ne,List.pairwise_map];exact List.nodup_range.imp fun h e=>h om
 bb:=by
  intro b hb;obtain⟨i,hi,rfl⟩:=List.mem_map.1 hb;have:=List.mem_range.1 hi;show n+i<n+rows.length;omega
theorem za9 {S:TS}(h:S.wf)(v:Nat)(d:Pr):(S.move v d).wf where
 n12:=h.n12
 r40:=h.r40
 rok:=h.rok
 bl:=h.bl
 cl:=h.cl
 cr:=h.cr
 vl:=by show(S.mvK v d S.basic.length).length=_;rw [yQ];exact h.vl
 nd:=h.nd
 bb:=h.bb
theorem Td {l:List Nat}(h:l.Nodup){i v:Nat}(hv:v∉l):(l.set i v).Nodup:=by
 rw [List.nodup_iff_pairwise_ne,List.pairwise_iff_getElem];intro a b ha hb hab;have ha':a<l.length:=by simpa using ha
 have hb':b<l.length:=by simpa using hb
 rw [List.getElem_set,List.getElem_set];split
 ·split
  ·omega
  exact fun e=>hv (e ▸ List.getElem_mem hb')
 split
 ·exact fun e=>hv (e ▸ List.getElem_mem ha')
 exact fun e=>by have:=(List.getElem_inj h).1 e;omega
theorem OD {S:TS}{i v:Nat}:(S.pivRow i v).length=(S.cells.getD i []).length:=by
 unfold TS.pivRow;rw [List.length_set,List.length_set,qW]
theorem Ac {S:TS}{i v K:Nat}(h:∀l∈S.cells,l.length=K):∀k,k≤S.cells.length→∀l∈S.pivC i v k,l.length=K
 | 0,_,l,hl=>h l hl
 | k+1,hk,l,hl=>by
  unfold TS.pivC at hl;split at hl
  ·exact Ac h k om l hl
  rcases List.mem_or_eq_of_mem_set hl with hl | rfl
  ·exact Ac h k om l hl
  have e:S.cells.getD k []=S.cells[k]:=by rw [dV,eD om];rfl
  rw [e];simp only [yT,List.length_map,List.length_range];exact h _ (List.getElem_mem _)
theorem Xi {S:TS}(h:S.wf){i v:Nat}(hi:i<S.rows.length)(hv:v<S.n+S.rows.length)(hvb:v∉S.basic):(S.pivot i v).wf where
 n12:=h.n12
 r40:=h.r40
 rok:=h.rok
 bl:=by show(S.basic.set i v).length=_;rw [List.length_set];exact h.bl
 cl:=by show((S.pivC i v S.cells.length).set i (S.pivRow i v)).length=_;rw [List.length_set,eY];exact h.cl
 cr:=by
  intro l hl;have hl:l∈(S.pivC i v S.cells.length).set i (S.pivRow i v):=hl;rcases List.mem_or_eq_of_mem_set hl with hl | rfl
  ·exact Ac h.cr _ (Nat.le_refl _) l hl
  have hic:i<S.cells.length:=by rw [h.cl];exact hi
  have e:S.cells.getD i []=S.cells[i]:=by rw [dV,eD hic];rfl
  rw [OD,e];exact h.cr _ (List.getElem_mem hic)
 vl:=h.vl
 nd:=Td h.nd hvb
 bb:=by
  intro b hb;rcases List.mem_or_eq_of_mem_set hb with hb | rfl
  ·exact h.bb b hb
  exact hv
theorem Lc (w0 w:World)(bT nm:Nat)(S:TS)(h:EW w0 w bT nm S)(hw:S.wf)(hn:S.nb 300)(v:Nat)(hv:v<S.n+S.rows.length)(hvb:v∉S.basic)(z:PV)(d:Pr)(hz:z.is d)(hd:d.ok 300):
  Calls Tryz.prog 74 #[.pointer (some ⟨bT,0,none⟩),.int .i64 (v:Int),z.v] w fun e w'=>e= .returned (.tuple #[])∧EW w0 w' bT nm (S.move v d):=by
 obtain⟨L,h⟩:=h;obtain⟨⟨pb,pS,pc,pU⟩,⟨qb,qS,qc,qU⟩⟩:=z;have HW:=zh hw;have HN:=zh hn;have HZ:=zh hz;have HD:=zh hd;have xs:=h.cv.1;have xs':=h.cv.2;have ys:=h.cb.1;have ys':=h.cb.2;have zs:=h.cc.1;have zs':=h.cc.2;have hvl:=hw.vl;have hbl:=hw.bl;have hcl:=hw.cl;have h40:=hw.r40;have h12:=hw.n12;unfold maxLen at xs' ys' zs';have hvv:v<S.vals.length:=om;have hvI:(v:Int)<(S.vals.length:Int):=om;obtain⟨⟨⟨xb,xS,xc,xU⟩,⟨yb,yS,yc,yU⟩⟩,hpx,e0,e1,e2,e3,e4,e5,e6,e7⟩:=sI h.v hvv;simp only at e0 e1 e2 e3 e4 e5 e6 e7;have CP:=fun w=>zh (FT w _ _ hpx ((hn.v _ (List.getElem_mem hvv)).mono om) _ _ hz (hd.mono om));unfold PV.v;unfold PV.v at CP;simp only at CP ⊢;have Js:=zh hvb;have hW0:Hid (w0.heap.size≤w.heap.size):=zh h.k.size;have ka:Keep au w (w.alloc (.cells #[.bool pb,.string pS,.bool pc,.string pU,.bool qb,.string qS,.bool qc,.string qU] 147)):=(Keep.refl _ _).alloc _;have HB:Hid (aL (w.alloc (.cells #[.bool pb,.string pS,.bool pc,.string pU,.bool qb,.string qS,.bool qc,.string qU] 147)) w.heap.size #[.bool pb,.string pS,.bool pc,.string pU,.bool qb,.string qS,.bool qc,.string qU]):=zh (aN _ _ rfl);have nJ:=zh (h.keep ka);have hgv:=h.v.lt;have hne:L.gv≠w.heap.size:=om;have kZ:Hid (w.heap.size≠L.gv):=zh om;have e0:=(ka.cell hgv).trans e0;have e1:=(ka.cell hgv).trans e1;have e2:=(ka.cell hgv).trans e2;have e3:=(ka.cell hgv).trans e3;have e4:=(ka.cell hgv).trans e4;have e5:=(ka.cell hgv).trans e5;have e6:=(ka.cell hgv).trans e6;have e7:=(ka.cell hgv).trans e7;clear h hw hn hz hd hvb hpx;go_enter Tryz.func74,Tryz.ntmps74;go_upto_region 1 with fail;clear ka hgv;generalize w.alloc (.cells #[.bool pb,.string pS,.bool pc,.string pU,.bool qb,.string qS,.bool qc,.string qU] 147)=w1 at *;generalize hb5:w.heap.size=b5 at *;obtain⟨_,_,_,_,_,t5,_,fJ⟩:=nJ.out.t.seven;have hgv:=nJ.out.v.lt;refine aD (fun w'=>Keep au w1 w') [15] [([0,1,2,3,4,5,6,7,8,9,10,11,12],13),([14],15)] [] kr kr kp ?_;intro X W hne' hF hcls;have aY:=zh hcls;have x0:=fun x=>((hF x).cell fJ).trans t5;have y0:=fun x=>((hF x).cell hgv).trans e0;have y1:=fun x=>((hF x).cell hgv).trans e1;have y2:=fun x=>((hF x).cell hgv).trans e2;have y3:=fun x=>((hF x).cell hgv).trans e3;have y4:=fun x=>((hF x).cell hgv).trans e4;have y5:=fun x=>((hF x).cell hgv).trans e5;have y6:=fun x=>((hF x).cell hgv).trans e6;have y7:=fun x=>((hF x).cell hgv).trans e7;have z0:=fun x=>(HB.out.keep (hF x)).eight;clear hF hcls e0 e1 e2 e3 e4 e5 e6 e7 t5;simp only [aW,aJ,zl0,zl1,zl2,aX,Bool.false_eq_true,if_false]
 (repeat(go_big_quiet_step (fail)));refine wpQuiet_nil ?_
 refine ay rfl rfl fun K hK=> ?_;go_simp;refine(CP _).out.mono ?_;rintro e w2 ⟨⟨⟨rb,rS,rc,rU⟩,⟨sb,sS,sc,sU⟩⟩,rfl,hr,hk⟩;have k2:Keep au w1 w2:=Keep.trans kp hk fun _ _ _ h=>h;refine hK _ _ ⟨fun _=>aY.out _ k2,?_⟩;clear hK K hk CP;have HL2:=zh (nJ.out.keep k2);have HB:=zh (HB.out.keep k2);obtain⟨⟨⟨ab,aS,ac,aU⟩,⟨bb,bS,bc,bU⟩⟩,_,g0,g1,g2,g3,g4,g5,g6,g7⟩:=sI HL2.out.v hvv;simp only at g0 g1 g2 g3 g4 g5 g6 g7;have f:=Lb HL2.out.v;have f0:=f (v*8);have f1:=f (v*8+1);have f2:=f (v*8+2);have f3:=f (v*8+3);have f4:=f (v*8+4);have f5:=f (v*8+5);have f6:=f (v*8+6);have f7:=f (v*8+7);have hgl:=HL2.out.v.lt;clear f
 (repeat(go_big_quiet_step (fail)));refine wpQuiet_nil ?_
 refine ay rfl rfl fun K hK=> ?_;go_simp;refine hK _ _ ⟨fun h=>(by simp at h),?_⟩;clear hK K x0 y0 y1 y2 y3 y4 y5 y6 y7 z0;have Wx:Hid (LT w0 (w8 w2 L.gv (v*8) ⟨⟨rb,rS,rc,rU⟩,⟨sb,sS,sc,sU⟩⟩) bT nm {S with vals:=S.mvK v d 0} L):=zh (HL2.out.setVals (by simp [TS.mvK]) (Qq HL2.out.k HL2.out.own.2.2.2.1) (fun b hb=>yP hb) (by
  have:=Qr HL2.out.v (v:=v) hr;simp only [TS.mvK];rw [kL hvv];exact this))
 have HB3:Hid (aL (w8 w2 L.gv (v*8) ⟨⟨rb,rS,rc,rU⟩,⟨sb,sS,sc,sU⟩⟩) b5 #[.bool pb,.string pS,.bool pc,.string pU,.bool qb,.string qS,.bool qc,.string qU]):=zh (HB.out.same (yP (Ne.symm hne)));rw [show((((((((w2.setCell ⟨L.gv,v*8,none⟩ (.bool rb)).setCell ⟨L.gv,v*8+1,none⟩ (.string rS)).setCell ⟨L.gv,v*8+2,none⟩ (.bool rc)).setCell ⟨L.gv,v*8+3,none⟩ (.string rU)).setCell ⟨L.gv,v*8+4,none⟩ (.bool sb)).setCell ⟨L.gv,v*8+5,none⟩ (.string sS)).setCell ⟨L.gv,v*8+6,none⟩ (.bool sc)).setCell ⟨L.gv,v*8+7,none⟩ (.string sU))=w8 w2 L.gv (v*8) ⟨⟨rb,rS,rc,rU⟩,⟨sb,sS,sc,sU⟩⟩from rfl];generalize w8 w2 L.gv (v*8) ⟨⟨rb,rS,rc,rU⟩,⟨sb,sS,sc,sU⟩⟩=w3 at *;clear g0 g1 g2 g3 g4 g5 g6 g7 f0 f1 f2 f3 f4 f5 f6 f7 HL2 HB nJ
 (repeat(go_big_quiet_step (fail)));refine wpQuiet_nil ?_
 refine NoPanic.normal ?_;obtain⟨_,_,t2,_,_,_,_,zdk⟩:=Wx.out.t.seven;go_wp2;clear t2 fJ zdk hgv hgl hne;go_loopw [28] (fun s wr=>∃k:Nat,k≤S.basic.length∧s= .int .i64 k∧LT w0 wr bT nm {S with vals:=S.mvK v d k} L∧aL wr b5 #[.bool pb,.string pS,.bool pc,.string pU,.bool qb,.string qS,.bool qc,.string qU]) (fun s _=>(S.basic.length-intOf s).toNat)
 case atStart=>exact⟨0,om,rfl,Wx.out,HB3.out⟩
 obtain⟨k,hk,rfl,hlt',hb⟩:=hrel;have Qv:=zh hlt';have HB:=zh hb;clear hlt' hb Wx HB3;by_cases hkl:k<S.basic.length
 case neg=>
  have hlt:¬(k:Int)<(S.basic.length:Int):=om;obtain rfl:k=S.basic.length:=om;go_wp2;refine bodyPost_end (by simp [results,Tryz.results74,go_sem];rfl) rfl ?_;exact⟨rfl,L,Qv.out⟩
 have hlt:(k:Int)<(S.basic.length:Int):=om;have hkc:k<S.cells.length:=om;have hkcI:(k:Int)<(S.cells.length:Int):=om;have hxk:=HW.out.bb _ (List.getElem_mem hkl);have hxv:S.basic[k]<(S.mvK v d k).length:=by rw [yQ];omega
 have hxI:(S.basic[k]:Int)<(S.vals.length:Int):=om;have hll:S.cells[k].length=S.n+S.rows.length:=HW.out.cr _ (List.getElem_mem hkc);have EX:v<S.cells[k].length:=om;have hvcI:(v:Int)<(S.cells[k].length:Int):=om;obtain⟨_,_,_,_,t4,t5,_,fJ⟩:=Qv.out.t.seven;obtain⟨Io,hib⟩:=Qv.out.b (by intro h0;have:S.basic= []:=h0;rw [this]at hkl;simp at hkl);obtain⟨ci,_⟩:=hib.at (i:=k) hkl;have hgl:=hib.lt;have hoc:=(Qv.out.c (by intro h0;have:S.cells= []:=h0;rw [this]at hkc;simp at hkc));obtain⟨hoc,hcb⟩:=hoc;obtain⟨cc,_⟩:=hcb.at (i:=k) hkc;have hgc:=hcb.lt;have hcs:=(Qv.out.r k hkc).2.1;have hcs2:=(Qv.out.r k hkc).2.2;unfold maxLen at hcs2;have hnb:=(Qv.out.r k hkc).1;obtain⟨nb,nS,nc,nU,m0,m1,m2,m3,wS,_⟩:=hnb.at (k:=v) EX;have hgs:=hnb.lt;obtain⟨⟨⟨xb',xS',xc',xU'⟩,⟨yb',yS',yc',yU'⟩⟩,hpx,e0,e1,e2,e3,e4,e5,e6,e7⟩:=sI Qv.out.v (v:=S.basic[k]) hxv;simp only at e0 e1 e2 e3 e4 e5 e6 e7;have hgv:=Qv.out.v.lt;have hva:(S.mvK v d k)[S.basic[k]]=S.val S.basic[k]:=by
  have:=Qs (d:=d) HW.out.nd hkl (show S.basic[k]≠v from fun e=>Js.out (e ▸ List.getElem_mem hkl)) k (Nat.le_refl _);rw [dV,eD hxv]at this;exact this
 have hxv0:S.basic[k]<S.vals.length:=om;have nva:((S.mvK v d k)[S.basic[k]]).ok 300:=by rw [hva,kL hxv0];exact HN.out.v _ (List.getElem_mem hxv0)
 have nq:NB 300 (S.cells[k][v]):=HN.out.c _ (List.getElem_mem hkc) _ (List.getElem_mem EX);have CT:=fun w=>zh (Dt w _ _ HZ.out (HD.out.mono om) _ _ wS (nq.mono om));have nt:(d.mul S.cells[k][v]).ok 600:=⟨HD.out.1.mul nq,HD.out.2.mul nq⟩;have CP:=fun(w:World) (z2:PV) (hz2:z2.is (d.mul S.cells[k][v]))=>zh (FT w _ _ hpx (nva.mono om) z2 (d.mul S.cells[k][v]) hz2 (nt.mono om));have HST:Hid (S.mvK v d (k+1)=(S.mvK v d k).set S.basic[k] (((S.mvK v d k)[S.basic[k]]).add (d.mul S.cells[k][v]))):=zh (by
  simp only [TS.mvK];rw [kN hkl,pR hkc EX,dV,eD hxv];rfl)
 unfold PV.v at CT CP;simp only at CT CP;have Og:=zh (And.intro m0 (And.intro m1 (And.intro m2 m3)));have HEE:=zh (And.intro e0 (And.intro e1 (And.intro e2 (And.intro e3 (And.intro e4 (And.intro e5 (And.intro e6 e7)))))));have MS:=zh cc;have HT:=zh (And.intro t4 t5);have HBI:=zh hxv;clear m0 m1 m2 m3 e0 e1 e2 e3 e4 e5 e6 e7 hib hcb hnb hpx wS nq nt nva hva;rw [Io];go_upto_region 5 with fail;clear ci hgl;have hb5:=HB.out.lt;refine aD (fun w'=>Keep au wr w') [26] [([0,1,2,3,4,5,6,7,8,9,10,11,12,13,14,15,16,17,18,19,20,21,22],23),([],24),([25],26)] [] kr kr kp ?_;intro X W hne' hF hcls;have aY:=zh hcls;have x0:=fun x=>((hF x).cell fJ).trans HT.out.1;have x1:=fun x=>((hF x).cell fJ).trans HT.out.2;have x2:=fun x=>((hF x).cell hgc).trans MS.out;have q0:=fun x=>((hF x).cell hgs).trans Og.out.1;have q1:=fun x=>((hF x).cell hgs).trans Og.out.2.1;have q2:=fun x=>((hF x).cell hgs).trans Og.out.2.2.1;have q3:=fun x=>((hF x).cell hgs).trans Og.out.2.2.2;have y0:=fun x=>((hF x).cell hgv).trans HEE.out.1;have y1:=fun x=>((hF x).cell hgv).trans HEE.out.2.1;have y2:=fun x=>((hF x).cell hgv).trans HEE.out.2.2.1;have y3:=fun x=>((hF x).cell hgv).trans HEE.out.2.2.2.1;have y4:=fun x=>((hF x).cell hgv).trans HEE.out.2.2.2.2.1;have y5:=fun x=>((hF x).cell hgv).trans HEE.out.2.2.2.2.2.1;have y6:=fun x=>((hF x).cell hgv).trans HEE.out.2.2.2.2.2.2.1;have y7:=fun x=>((hF x).cell hgv).trans HEE.out.2.2.2.2.2.2.2;have z0:=fun x=>(HB.out.keep (hF x)).eight;clear hF hcls;rw [hoc]at x0;simp only [aW,aJ,zl0,zl1,zl2,aX,Bool.false_eq_true,if_false]
 (repeat(go_big_quiet_step (fail)));refine wpQuiet_nil ?_
 refine ay rfl rfl fun K hK=> ?_;go_simp;refine(CT _).out.mono ?_;rintro e w4 ⟨⟨⟨ub,uS,uc,uU⟩,⟨vb,vS,vc,vU⟩⟩,rfl,hm,hk4⟩;have k4:Keep au wr w4:=Keep.trans kp hk4 fun _ _ _ h=>h;refine hK _ _ ⟨fun _=>aY.out _ k4,?_⟩;clear hK K hk4 CT;have CP:=fun w=>CP w _ hm;unfold PV.v at CP;simp only at CP
 (repeat(go_big_quiet_step (fail)));refine wpQuiet_nil ?_
 refine ay rfl rfl fun K hK=> ?_;go_simp;refine(CP _).out.mono ?_;rintro e w5 ⟨⟨⟨rb,rS,rc,rU⟩,⟨sb,sS,sc,sU⟩⟩,rfl,hr,hk5⟩;have k5:Keep au wr w5:=k4.both hk5;refine hK _ _ ⟨fun _=>aY.out _ k5,?_⟩;clear hK K hk5 CP hm k4;have Xj:=zh (Qv.out.keep k5);have dY:=zh (HB.out.keep k5);obtain⟨⟨⟨ab,aS,ac,aU⟩,⟨bb,bS,bc,bU⟩⟩,_,g0,g1,g2,g3,g4,g5,g6,g7⟩:=sI Xj.out.v (v:=S.basic[k]) HBI.out;simp only at g0 g1 g2 g3 g4 g5 g6 g7;have f:=Lb Xj.out.v;have f0:=f (S.basic[k]*8);have f1:=f (S.basic[k]*8+1);have f2:=f (S.basic[k]*8+2);have f3:=f (S.basic[k]*8+3);have f4:=f (S.basic[k]*8+4);have f5:=f (S.basic[k]*8+5);have f6:=f (S.basic[k]*8+6);have f7:=f (S.basic[k]*8+7);have hgl:=Xj.out.v.lt;clear f
 (repeat(go_big_quiet_step (fail)));refine wpQuiet_nil ?_
 refine ay rfl rfl fun K hK=> ?_;go_simp;refine hK _ _ ⟨fun h=>(by simp at h),?_⟩;clear hK K x0 x1 x2 q0 q1 q2 q3 y0 y1 y2 y3 y4 y5 y6 y7 z0;have hown:=Xj.out.own.2.2.2.1;have h5v:b5≠L.gv:=kZ.out;have HL6:Hid (LT w0 (w8 w5 L.gv (S.basic[k]*8) ⟨⟨rb,rS,rc,rU⟩,⟨sb,sS,sc,sU⟩⟩) bT nm {S with vals:=S.mvK v d (k+1)} L):=zh (by
  have:=Xj.out.setVals (vals':=S.mvK v d (k+1)) (by simp only [yQ]) (Qq Xj.out.k hown) (fun b hb=>yP hb) (by
   rw [HST.out];exact Qr Xj.out.v (v:=S.basic[k]) hr)
  exact this)
 have vW:Hid (aL (w8 w5 L.gv (S.basic[k]*8) ⟨⟨rb,rS,rc,rU⟩,⟨sb,sS,sc,sU⟩⟩) b5 #[.bool pb,.string pS,.bool pc,.string pU,.bool qb,.string qS,.bool qc,.string qU]):=zh (dY.out.same (yP h5v));rw [show((((((((w5.setCell ⟨L.gv,S.basic[k]*8,none⟩ (.bool rb)).setCell ⟨L.gv,S.basic[k]*8+1,none⟩ (.string rS)).setCell ⟨L.gv,S.basic[k]*8+2,none⟩ (.bool rc)).setCell ⟨L.gv,S.basic[k]*8+3,none⟩ (.string rU)).setCell ⟨L.gv,S.basic[k]*8+4,none⟩ (.bool sb)).setCell ⟨L.gv,S.basic[k]*8+5,none⟩ (.string sS)).setCell ⟨L.gv,S.basic[k]*8+6,none⟩ (.bool sc)).setCell ⟨L.gv,S.basic[k]*8+7,none⟩ (.string sU))=w8 w5 L.gv (S.basic[k]*8) ⟨⟨rb,rS,rc,rU⟩,⟨sb,sS,sc,sU⟩⟩from rfl];generalize w8 w5 L.gv (S.basic[k]*8) ⟨⟨rb,rS,rc,rU⟩,⟨sb,sS,sc,sU⟩⟩=w6 at *;clear g0 g1 g2 g3 g4 g5 g6 g7 f0 f1 f2 f3 f4 f5 f6 f7 Xj dY
 (repeat(go_big_quiet_step (fail)));refine wpQuiet_nil ?_
 refine NoPanic.normal ?_;go_wp2;go_roundw
 case rel=>exact⟨k+1,om,gn,HL6.out,vW.out⟩
 simp [intOf];omega
end Go.Proofs.YtmepglhdcphffaaGreat
