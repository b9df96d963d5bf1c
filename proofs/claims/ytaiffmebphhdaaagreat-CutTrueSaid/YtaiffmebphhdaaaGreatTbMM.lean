/- Package tableau's T: what a store leaves. Package tableau's pivot: its closure, that lays a line into another. Package tableau's T: what a pivot leaves. Package tableau's refutation. Package tableau, plain: the start, a step, the search for a point. Package tableau's move. -/
import Derived.Test.YtaiffmebphhdaaaGreatTbE
namespace Go.Proofs.YtaiffmebphhdaaaGreat
set_option maxRecDepth 100000
set_option maxHeartbeats 32000000
set_option linter.unusedSimpArgs false
set_option linter.unusedVariables false
open Go.ChangeShapes Go.WideShapes Go.RowKit Go.Maps
theorem aL.same {w w':World}{b:Nat}{A:Array Value}(h:aL w b A)(e:w'.heap[b]? =w.heap[b]?):aL w' b A:=by
 obtain⟨t,h⟩:=h;exact⟨t,e.trans h⟩
theorem Ar.same {w w':World}{b:Nat}{l:List Nat}(h:Ar w b l)(e:w'.heap[b]? =w.heap[b]?):Ar w' b l:=by
 obtain⟨A,h,h'⟩:=h;exact⟨A,h.same e,h'⟩
theorem Au.same {w w':World}{b:Nat}{l:List (List Rat)}{gs cs:Nat→Nat}(h:Au w b l gs cs)(e:w'.heap[b]? =w.heap[b]?):Au w' b l gs cs:=by
 obtain⟨A,h,h'⟩:=h;exact⟨A,h.same e,h'⟩
theorem bE.same {w w':World}{b:Nat}{l:List Rat}(h:bE w b l)(e:w'.heap[b]? =w.heap[b]?):bE w' b l:=by
 obtain⟨A,l',h,h'⟩:=h;exact⟨A,l',h.same e,h'⟩
theorem Am.same {w w':World}{b n:Nat}{l:List Nat}(h:Am w b n l)(e:w'.heap[b]? =w.heap[b]?):Am w' b n l:=by
 obtain⟨D,⟨es,clock,hb,F,hs,hD⟩,h'⟩:=h;exact⟨D,⟨es,clock,e.trans hb,F,hs,hD⟩,h'⟩
def w8 (w:World)(g o:Nat)(p:PV):World:=(((((((w.setCell ⟨g,o,none⟩ (.bool p.x.nb)).setCell ⟨g,o+1,none⟩ (.string p.x.nS)).setCell ⟨g,o+2,none⟩ (.bool p.x.db)).setCell ⟨g,o+3,none⟩ (.string p.x.dS)).setCell ⟨g,o+4,none⟩ (.bool p.y.nb)).setCell ⟨g,o+5,none⟩ (.string p.y.nS)).setCell ⟨g,o+6,none⟩ (.bool p.y.db)).setCell ⟨g,o+7,none⟩ (.string p.y.dS)
theorem zQ {w:World}{g o:Nat}{p:PV}{b:Nat}(h:b≠g):(w8 w g o p).heap[b]? =w.heap[b]? :=by
 unfold w8;rw [heap_setCell_other _ _ _ _ h,heap_setCell_other _ _ _ _ h,heap_setCell_other _ _ _ _ h,heap_setCell_other _ _ _ _ h,heap_setCell_other _ _ _ _ h,heap_setCell_other _ _ _ _ h,heap_setCell_other _ _ _ _ h,heap_setCell_other _ _ _ _ h]
theorem QA {w0 w:World}{g o:Nat}{p:PV}(h:Keep au w0 w)(hg:w0.heap.size≤g):Keep au w0 (w8 w g o p):=by
 unfold w8;exact(((((((h.setCell _ fun hh=>absurd hh om).setCell _ fun hh=>absurd hh om).setCell _ fun hh=>absurd hh om).setCell _ fun hh=>absurd hh om).setCell _ fun hh=>absurd hh om).setCell _ fun hh=>absurd hh om).setCell _ fun hh=>absurd hh om).setCell _ fun hh=>absurd hh om
theorem QC {w:World}{g:Nat}{l:List Pr}(h:bE w g (iJ l)){v:Nat}{p:PV}{a:Pr}(hp:p.is a):bE (w8 w g (v*8) p) g (iJ (l.set v a)):=by
 rw [Gu];have h1:=(h.set (k:=2*v) (q:=a.n) hp.1).set (k:=2*v+1) (q:=a.s) hp.2;rw [show 2*v*4=v*8 from om,show(2*v+1)*4=v*8+4 from om]at h1;exact h1
theorem MR {w:World}{g:Nat}{qs:List Rat}(h:bE w g qs)(o:Nat):w.frozen? ⟨g,o,none⟩=false:=by
 obtain⟨A,l,h,_⟩:=h;exact h.free _
theorem LT.setVals {w0 w w':World}{bT nm:Nat}{S:TS}{L:Lay}(h:LT w0 w bT nm S L){vals':List Pr}(hl:vals'.length=S.vals.length)(hk:Keep au w0 w')(ho:∀b,b≠L.gv→w'.heap[b]? =w.heap[b]?)(hv:bE w' L.gv (iJ vals')):
  LT w0 w' bT nm {S with vals:=vals'} L where
 k:=hk
 t:=by
  have:=aL.same h.t (ho bT h.ap.tv);simp only [hl];exact this
 rows:=h.rows
 b:=fun hb=>⟨(h.b hb).1,(h.b hb).2.same (ho _ h.ap.bv)⟩
 c:=fun hc=>⟨(h.c hc).1,(h.c hc).2.same (ho _ h.ap.cv)⟩
 r:=fun i hi=>⟨(h.r i hi).1.same (ho _ (h.ap.sv i hi)),(h.r i hi).2⟩
 v:=hv
 cb:=h.cb
 cc:=h.cc
 cv:=by simp only [hl];exact h.cv
 mp:=h.mp.same (ho _ h.ap.vm.symm)
 own:=h.own
 ap:=h.ap
def TS.mvK (S:TS)(v:Nat)(d:Pr):Nat→List Pr
 | 0=>S.vals.set v ((S.val v).add d)
 | k+1=>(S.mvK v d k).set (S.basic.getD k 0) (((S.mvK v d k).getD (S.basic.getD k 0) pr0).add (d.mul (S.cell k v)))
def TS.move (S:TS)(v:Nat)(d:Pr):TS:= {S with vals:=S.mvK v d S.basic.length}
theorem zw {S:TS}{v:Nat}{d:Pr}:∀k,(S.mvK v d k).length=S.vals.length
 | 0=>by simp [TS.mvK]
 | k+1=>by simp [TS.mvK,zw k]
theorem mo {S:TS}{i:Nat}(h:i<S.basic.length):S.basic.getD i 0=S.basic[i]:=by
 rw [dX,fG h];rfl
theorem QD {S:TS}{v:Nat}{d:Pr}(hnd:S.basic.Nodup){i:Nat}(hi:i<S.basic.length)(hv:S.basic[i]≠v):∀k,k≤i→(S.mvK v d k).getD S.basic[i] pr0=S.val S.basic[i]
 | 0,_=>by
  unfold TS.mvK TS.val;rw [dX,List.getElem?_set,if_neg (Ne.symm hv),←dX]
 | k+1,hk=>by
  have hk':k<S.basic.length:=om;have hne:S.basic[k]≠S.basic[i]:=fun e=>by have:=(List.getElem_inj hnd).1 e;omega
  simp only [TS.mvK];rw [mo hk',dX,List.getElem?_set,if_neg hne,←dX];exact QD hnd hi hv k om
theorem mK {S:TS}{i v:Nat}(hi:i<S.cells.length)(hv:v<S.cells[i].length):S.cell i v=S.cells[i][v]:=by
 unfold TS.cell;have e:S.cells.getD i []=S.cells[i]:=by rw [dX,fG hi];rfl
 rw [e,dX,fG hv];rfl
def zR (g:Nat):Nat→Nat→Prop:=fun b _=>b=g
def w4 (w:World)(g o:Nat)(x:NV):World:=(((w.setCell ⟨g,o,none⟩ (.bool x.nb)).setCell ⟨g,o+1,none⟩ (.string x.nS)).setCell ⟨g,o+2,none⟩ (.bool x.db)).setCell ⟨g,o+3,none⟩ (.string x.dS)
theorem QE {w0 w:World}{g o:Nat}{x:NV}(h:Keep (zR g) w0 w):Keep (zR g) w0 (w4 w g o x):=by
 unfold w4;exact(((h.setCell _ fun _=>rfl).setCell _ fun _=>rfl).setCell _ fun _=>rfl).setCell _ fun _=>rfl
theorem jc {w:World}{g o:Nat}{x:NV}{b:Nat}(h:b≠g):(w4 w g o x).heap[b]? =w.heap[b]? :=by
 unfold w4;rw [heap_setCell_other _ _ _ _ h,heap_setCell_other _ _ _ _ h,heap_setCell_other _ _ _ _ h,heap_setCell_other _ _ _ _ h]
theorem sG {w0 w:World}{g o:Nat}{x:NV}(h:Keep au w0 w)(hg:w0.heap.size≤g):Keep au w0 (w4 w g o x):=by
 unfold w4;exact(((h.setCell _ fun hh=>absurd hh om).setCell _ fun hh=>absurd hh om).setCell _ fun hh=>absurd hh om).setCell _ fun hh=>absurd hh om
theorem bE.set4 {w:World}{g:Nat}{qs:List Rat}(h:bE w g qs){k:Nat}{x:NV}{q:Rat}(hq:bO x.v q):bE (w4 w g (k*4) x) g (qs.set k q):=h.set hq
theorem Keep.sameB {g:Nat}{w w':World}(h:Keep (zR g) w w'){b:Nat}(hb:b<w.heap.size)(hne:b≠g):w'.heap[b]? =w.heap[b]? :=h.block b hb fun o ho=>hne ho
theorem Keep.only {g:Nat}{a b c:World}(h:Keep (zR g) a b)(k:Keep au b c):Keep (zR g) a c:=h.trans k fun _ _ _ h=>h.elim
def lN (q:List Rat)(v:Nat)(row:List Rat)(j:Nat):List Rat:=(List.range q.length).map fun k=>(if k=v then 0 else q.getD k 0)+(if k<j then q.getD v 0*row.getD k 0 else 0)
def yJ (q:List Rat)(v:Nat)(row:List Rat):List Rat:=(List.range q.length).map fun k=>(if k=v then 0 else q.getD k 0)+q.getD v 0*row.getD k 0
theorem zT {q row:List Rat}{v j:Nat}:(lN q v row j).length=q.length:=by simp [lN]
theorem Iy {l:List Rat}{i:Nat}(h:i<l.length):l.getD i 0=l[i]:=by rw [dX,fG h];rfl
theorem TD {q row:List Rat}{v:Nat}:lN q v row 0=q.set v 0:=by
 apply List.ext_getElem
 ·simp [lN]
 intro i h1 h2;have hi:i<q.length:=by simpa [lN]using h1
 simp only [lN,List.getElem_map,List.getElem_range,List.getElem_set,Nat.not_lt_zero,if_false,Rat.add_zero];by_cases h:i=v
 ·subst h;simp
 rw [if_neg h,if_neg (Ne.symm h),Iy hi]
theorem Xu {q row:List Rat}{v:Nat}:lN q v row q.length=yJ q v row:=by
 unfold lN yJ;apply List.map_congr_left;intro k hk;congr 1;rw [if_pos (List.mem_range.1 hk)]
theorem TH {q row:List Rat}{v:Nat}(h:q.getD v 0=0):yJ q v row=q:=by
 unfold yJ;apply List.ext_getElem
 ·simp
 intro i h1 h2;simp only [List.getElem_map,List.getElem_range,h,Rat.zero_mul,Rat.add_zero];split
 ·rename_i e;subst e;rw [← Iy h2,h]
 exact Iy h2
theorem JF {q row:List Rat}{v j k:Nat}(hk:k<q.length):(lN q v row j)[k]'(by rw [zT];exact hk)=(if k=v then 0 else q.getD k 0)+(if k<j then q.getD v 0*row.getD k 0 else 0):=by simp [lN]
theorem TJ {q row:List Rat}{v j:Nat}(h:row.getD j 0=0):lN q v row (j+1)=lN q v row j:=by
 unfold lN;apply List.map_congr_left;intro k _;congr 1;by_cases e:k=j
 ·subst e;rw [if_pos om,if_neg om,h,Rat.mul_zero]
 by_cases h1:k<j
 ·rw [if_pos h1,if_pos om]
 rw [if_neg h1,if_neg om]
theorem TK {q row:List Rat}{v j:Nat}(hj:j<q.length):(lN q v row j).set j ((lN q v row j)[j]'(by rw [zT];exact hj)+q.getD v 0*row.getD j 0)=lN q v row (j+1):=by
 apply List.ext_getElem
 ·simp [lN]
 intro i h1 h2;have hi:i<q.length:=by simpa [lN]using h2
 have a2:=JF (row:=row) (v:=v) (j:=j+1) hi;have a1:=JF (row:=row) (v:=v) (j:=j) hi;rw [List.getElem_set,a2];by_cases e:j=i
 ·subst e;rw [if_pos rfl,a1,if_neg (Nat.lt_irrefl j),if_pos (Nat.lt_succ_self j),Rat.add_zero]
 rw [if_neg e,a1];congr 1;by_cases h1:i<j
 ·rw [if_pos h1,if_pos om]
 rw [if_neg h1,if_neg om]
theorem Zy {q row:List Rat}{v j:Nat}{a:Nat}(hq:∀x∈q,NB a x)(ha:1≤a){k:Nat}(hk:k<q.length)(hkj:j≤k):NB a ((lN q v row j)[k]'(by rw [zT];exact hk)):=by
 rw [JF hk,if_neg (show ¬k<j from om),Rat.add_zero];split
 ·exact jJ.mono ha
 rw [Iy hk];exact hq _ (List.getElem_mem hk)
theorem QW (w:World)(gl cl bv br gr cr v:Nat)(q row:List Rat)(hv:aL w bv #[.int .i64 (v:Int)])(hb:aL w br #[.slice (some ⟨gr,0,none⟩) row.length cr])(hq:bE w gl q)(hr:bE w gr row)(hlen:row.length=q.length)(hvl:v<q.length)(hK:q.length≤1000)
  (hcl:q.length≤cl∧cl≤maxLen) (hcr:row.length≤cr∧cr≤maxLen) (n1:gr≠gl) (n2:bv≠gl) (n3:br≠gl) (nq:∀x∈q,NB 300 x) (nr:∀x∈row,NB 300 x):
  Calls Tryz.prog 84 #[.slice (some ⟨gl,0,none⟩) q.length cl,.pointer (some ⟨bv,0,none⟩),.pointer (some ⟨br,0,none⟩)] w fun e w'=>e= .returned (.tuple #[])∧bE w' gl (yJ q v row)∧Keep (zR gl) w w':=by
 have HQ:=zh hq;have QL:=zh nq;have HNR:=zh nr;have Uh:=zh hv;have Af:=zh hb;have HR:=zh hr;unfold maxLen at hcl hcr;obtain⟨v0,vl⟩:w.cell? ⟨bv,0,none⟩=some (.int .i64 (v:Int))∧bv<w.heap.size:=⟨hv.cell 0,hv.lt⟩;obtain⟨cb,cS,cc,cU,m0,m1,m2,m3,FT,_⟩:=hq.at (k:=v) hvl;have hgl:=hq.lt;have hvI:(v:Int)<(q.length:Int):=om;have HC:=zh FT;have CS:=fun w=>zh (mg FT w);have ka:Keep au w (w.alloc (.cells #[.bool cb,.string cS,.bool cc,.string cU] 93)):=(Keep.refl _ _).alloc _;have HBC:Hid (aL (w.alloc (.cells #[.bool cb,.string cS,.bool cc,.string cU] 93)) w.heap.size #[.bool cb,.string cS,.bool cc,.string cU]):=zh (aP _ _ rfl);have KA:=zh ka;have zcs:gl≠w.heap.size:=om;clear hv hb hq hr nq nr FT;go_enter Tryz.func84,Tryz.ntmps84;go_upto_region 1 with fail;generalize w.alloc (.cells #[.bool cb,.string cS,.bool cc,.string cU] 93)=w1 at *;generalize hb4:w.heap.size=b4 at *;clear hb4;have HQ1:=zh (HQ.out.keep ka);have HR1:=zh (HR.out.keep ka);have zct:=zh (Uh.out.keep ka);have zcu:=zh (Af.out.keep ka);clear ka v0 vl m0 m1 m2 m3 hgl HQ HR Uh Af;obtain⟨s0,s1,s2,s3,_,_,_,_,sl⟩:=HBC.out.four;by_cases hc0:q[v]=0
 case pos=>
  have e0:=nH hc0;rw [e0]at CS;have HSQ:Hid (yJ q v row=q):=zh (TH (by rw [Iy hvl];exact hc0));clear hc0;go_wp2_with fail;refine(CS _).out.mono ?_;rintro e w2 ⟨rfl,hk⟩;have yQ:=zh (HQ1.out.keep hk);have K2:=zh (KA.out.both hk);clear s0 s1 s2 s3 sl hk CS;go_wp2;refine bodyPost_ret (by simp [results,Tryz.results84,go_sem];rfl) rfl ?_;exact⟨rfl,by rw [HSQ.out];exact yQ.out,K2.out.any⟩
 have e0:=nJ hc0;have e1:(q[v].num.sign==0)=false:=by rw [beq_eq_false_iff_ne];exact e0
 have HCD:Hid (q.getD v 0=q[v]):=zh (Iy hvl);have XZ:Hid (NB 300 q[v]):=zh (QL.out _ (List.getElem_mem hvl));generalize q[v]=c at *;go_wp2_with fail;refine(CS _).out.mono ?_;rintro e w2 ⟨rfl,hk⟩;have yQ:=zh (HQ1.out.keep hk);have HR2:=zh (HR1.out.keep hk);have zbf:=zh (zct.out.keep hk);have zcv:=zh (zcu.out.keep hk);have zcw:=zh (HBC.out.keep hk);have K2:=zh (KA.out.both hk);clear s0 s1 s2 s3 sl hk CS HQ1 HR1 zct zcu HBC KA e0;obtain⟨v0,vl⟩:w2.cell? ⟨bv,0,none⟩=some (.int .i64 (v:Int))∧bv<w2.heap.size:=⟨zbf.out.cell 0,zbf.out.lt⟩;obtain⟨_,_,_,_,m0,m1,m2,m3,_,f0,f1,f2,f3⟩:=yQ.out.at (k:=v) hvl;have hgl:=yQ.out.lt;go_upto_region 3 with fail;have HQ3:Hid (bE (w4 w2 gl (v*4) nv0) gl (lN q v row 0)):=zh (by rw [TD];exact yQ.out.set4 sH);have K3:Hid (Keep (zR gl) w (w4 w2 gl (v*4) nv0)):=zh (QE K2.out.any);have HR3:=zh (HR2.out.same (jc (w:=w2) (o:=v*4) (x:=nv0) n1));have zbg:=zh (zcv.out.same (jc (w:=w2) (o:=v*4) (x:=nv0) n3));have zcx:=zh (zcw.out.same (jc (w:=w2) (o:=v*4) (x:=nv0) (Ne.symm zcs)));rw [show((((w2.setCell ⟨gl,v*4,none⟩ (.bool false)).setCell ⟨gl,v*4+1,none⟩ (.string ⟨#[]⟩)).setCell ⟨gl,v*4+2,none⟩ (.bool false)).setCell ⟨gl,v*4+3,none⟩ (.string ⟨#[]⟩))=w4 w2 gl (v*4) nv0 from rfl];generalize w4 w2 gl (v*4) nv0=w3 at *;clear v0 vl m0 m1 m2 m3 f0 f1 f2 f3 hgl yQ HR2 zbf zcv zcw K2;obtain⟨r0,rl⟩:w3.cell? ⟨br,0,none⟩=some (.slice (some ⟨gr,0,none⟩) row.length cr)∧br<w3.heap.size:=⟨zbg.out.cell 0,zbg.out.lt⟩;go_wp2;clear r0 rl;go_loopw [20] (fun s wr=>∃j:Nat,j≤q.length∧s= .int .i64 j∧bE wr gl (lN q v row j)∧bE wr gr row∧aL wr b4 #[.bool cb,.string cS,.bool cc,.string cU]∧Keep (zR gl) w wr) (fun s _=>(q.length-intOf s).toNat)
 case atStart=>exact⟨0,om,rfl,HQ3.out,HR3.out,zcx.out,K3.out⟩
 obtain⟨j,hj,rfl,hq',hr',hb',hk'⟩:=hrel;have HQ:=zh hq';have HR:=zh hr';have HB:=zh hb';have HK:=zh hk';clear hq' hr' hb' hk' HQ3 HR3 zbg zcx K3;by_cases hjl:j<q.length
 case neg=>
  have hlt:¬(j:Int)<(row.length:Int):=om;obtain rfl:j=q.length:=om;have HSA:=zh (Xu (q:=q) (row:=row) (v:=v));go_wp2;refine bodyPost_end (by simp [results,Tryz.results84,go_sem];rfl) rfl ?_;exact⟨rfl,by rw [← HSA.out];exact HQ.out,HK.out⟩
 have hlt:(j:Int)<(row.length:Int):=om;have hjr:j<row.length:=om;obtain⟨xb,xS,xc,xU,p0,p1,p2,p3,hx,_⟩:=HR.out.at (k:=j) hjr;have hgr:=HR.out.lt;have CS:=fun w=>zh (mg hx w);have HX:=zh hx;have ka:Keep au wr (wr.alloc (.cells #[.bool xb,.string xS,.bool xc,.string xU] 93)):=(Keep.refl _ _).alloc _;have Bz:Hid (aL (wr.alloc (.cells #[.bool xb,.string xS,.bool xc,.string xU] 93)) wr.heap.size #[.bool xb,.string xS,.bool xc,.string xU]):=zh (aP _ _ rfl);have HXD:Hid (row.getD j 0=row[j]):=zh (Iy hjr);have mM:Hid (NB 300 row[j]):=zh (HNR.out _ (List.getElem_mem hjr));have hwg:wr.heap.size≠gl:=by have:=HQ.out.lt;omega
 go_upto_region 6 with fail;have HQ1:=zh (HQ.out.keep ka);have HR1:=zh (HR.out.keep ka);have HB1:=zh (HB.out.keep ka);have K1:=zh (HK.out.only ka);clear ka p0 p1 p2 p3 hgr hx HQ HR HB HK;generalize wr.alloc (.cells #[.bool xb,.string xS,.bool xc,.string xU] 93)=wx at *;generalize wr.heap.size=b6 at *;obtain⟨s0,s1,s2,s3,_,_,_,_,sl⟩:=Bz.out.four;generalize row[j]=x at*;by_cases hx0:x=0
 case pos=>
  have e0:=nH hx0;rw [e0]at CS;have HSS:Hid (lN q v row (j+1)=lN q v row j):=zh (TJ (by rw [HXD.out];exact hx0));clear hx0 e0;go_wp2_with fail;refine(CS _).out.mono ?_;rintro e w2 ⟨rfl,hk⟩;have yQ:=zh (HQ1.out.keep hk);have HR2:=zh (HR1.out.keep hk);have HB2:=zh (HB1.out.keep hk);have K2:=zh (K1.out.only hk);clear s0 s1 s2 s3 sl hk CS;go_wp2;go_roundw
  case rel=>exact⟨j+1,om,gn,by rw [HSS.out];exact yQ.out,HR2.out,HB2.out,K2.out⟩
  simp [intOf];omega
 have e0:=nJ hx0;have e1':(x.num.sign != 0)=true:=by rw [bne_iff_ne];exact e0
 clear hx0 e0;go_wp2_with fail;refine(CS _).out.mono ?_;rintro e w2 ⟨rfl,hk⟩;have yQ:=zh (HQ1.out.keep hk);have HR2:=zh (HR1.out.keep hk);have HB2:=zh (HB1.out.keep hk);have zdk:=zh (Bz.out.keep hk);have K2:=zh (K1.out.only hk);clear s0 s1 s2 s3 sl hk CS HQ1 HR1 HB1 Bz K1;go_upto_region 7 with fail;have hjq:j<(lN q v row j).length:=by rw [zT];exact hjl
 obtain⟨yb,yS,yc,yU,p0,p1,p2,p3,hy,_⟩:=yQ.out.at (k:=j) hjq;have hgl:=yQ.out.lt;have nY:NB 300 ((lN q v row j)[j]):=Zy QL.out om hjl (Nat.le_refl _);have CT:=fun w=>zh (nL w _ c HC.out (XZ.out.mono om) _ x HX.out (mM.out.mono om));obtain⟨⟨tb,tS,tc,tU⟩,ZK,htn⟩:=fF (c*x);rw [ZK]at CT;have CP:=fun w=>zh (uq w _ _ hy (nY.mono om) _ _ htn ((XZ.out.mul mM.out).mono om));obtain⟨⟨rb,rS,rc,rU⟩,hrq,hrn⟩:=fF ((lN q v row j)[j]+c*x);rw [hrq]at CP;have Uz:Hid (bO (NV.v ⟨rb,rS,rc,rU⟩) ((lN q v row j)[j]+q.getD v 0*row.getD j 0)):=zh (by rw [HCD.out,HXD.out];exact hrn);unfold NV.v at CT CP;simp only at CT CP;have HJQ:=zh hjq;clear hy nY ZK htn hrq hrn;refine aD (fun w'=>Keep au w2 w') [11] [([0,1,2,3,4,5,6,7],8),([],9),([10],11)] [] kr kr kp ?_;intro X W hne' hF hcls;have aQ:=zh hcls;have y0:=fun x=>((hF x).cell hgl).trans p0;have y1:=fun x=>((hF x).cell hgl).trans p1;have y2:=fun x=>((hF x).cell hgl).trans p2;have y3:=fun x=>((hF x).cell hgl).trans p3;have z0:=fun x=>(HB2.out.keep (hF x)).four;have z1:=fun x=>(zdk.out.keep (hF x)).four;clear hF hcls p0 p1 p2 p3;simp only [aO,aJ,zl0,zl1,zl2,aR,Bool.false_eq_true,if_false]
 (repeat(go_big_quiet_step (fail)));refine wpQuiet_nil ?_
 refine ay rfl rfl fun K hK=> ?_;go_simp;refine(CT _).out.mono ?_;rintro e w5 ⟨rfl,hk⟩;have k5:Keep au w2 w5:=Keep.trans kp hk fun _ _ _ h=>h;refine hK _ _ ⟨fun _=>aQ.out _ k5,?_⟩;clear hK K hk CT
 (repeat(go_big_quiet_step (fail)));refine wpQuiet_nil ?_
 refine ay rfl rfl fun K hK=> ?_;go_simp;refine(CP _).out.mono ?_;rintro e w6 ⟨rfl,hk⟩;have k6:Keep au w2 w6:=k5.both hk;refine hK _ _ ⟨fun _=>aQ.out _ k6,?_⟩;clear hK K hk CP k5;have HQ6:=zh (yQ.out.keep k6);have XG:=zh (HR2.out.keep k6);have JO:=zh (HB2.out.keep k6);have K6:=zh (K2.out.only k6);obtain⟨_,_,_,_,g0,g1,g2,g3,_,f0,f1,f2,f3⟩:=HQ6.out.at (k:=j) HJQ.out;have hg6:=HQ6.out.lt
 (repeat(go_big_quiet_step (fail)));refine wpQuiet_nil ?_
 refine ay rfl rfl fun K hK=> ?_;go_simp;refine hK _ _ ⟨fun h=>(by simp at h),?_⟩;clear hK K y0 y1 y2 y3 z0 z1;have BD:=zh (TK (q:=q) (row:=row) (v:=v) hjl);have HQ7:Hid (bE (w4 w6 gl (j*4) ⟨rb,rS,rc,rU⟩) gl (lN q v row (j+1))):=zh (by rw [← BD.out];exact HQ6.out.set4 Uz.out);have K7:Hid (Keep (zR gl) w (w4 w6 gl (j*4) ⟨rb,rS,rc,rU⟩)):=zh (QE K6.out);have JX:=zh (XG.out.same (jc (w:=w6) (o:=j*4) (x:=⟨rb,rS,rc,rU⟩) n1));have mO:=zh (JO.out.same (jc (w:=w6) (o:=j*4) (x:=⟨rb,rS,rc,rU⟩) (Ne.symm zcs)));rw [show((((w6.setCell ⟨gl,j*4,none⟩ (.bool rb)).setCell ⟨gl,j*4+1,none⟩ (.string rS)).setCell ⟨gl,j*4+2,none⟩ (.bool rc)).setCell ⟨gl,j*4+3,none⟩ (.string rU))=w4 w6 gl (j*4) ⟨rb,rS,rc,rU⟩from rfl];generalize w4 w6 gl (j*4) ⟨rb,rS,rc,rU⟩=w7 at *;clear g0 g1 g2 g3 f0 f1 f2 f3 hg6 HQ6 XG JO K6
 (repeat(go_big_quiet_step (fail)));refine wpQuiet_nil ?_
 refine NoPanic.normal ?_;go_wp2;go_roundw
 case rel=>exact⟨j+1,om,gn,HQ7.out,JX.out,mO.out,K7.out⟩
 simp [intOf];omega
theorem LT.setRow {w0 w w':World}{bT nm:Nat}{S:TS}{L:Lay}(h:LT w0 w bT nm S L){i:Nat}(hi:i<S.cells.length){q':List Rat}(hl:q'.length=S.cells[i].length)(hk:Keep au w0 w')(ho:∀b,b<w.heap.size→b≠L.gs i→w'.heap[b]? =w.heap[b]?)(hq:bE w' (L.gs i) q'):
  LT w0 w' bT nm {S with cells:=S.cells.set i q'} L where
 k:=hk
 t:=by
  have:=aL.same h.t (ho bT (aL.lt h.t) (h.ap.st i hi).symm);simp only [List.length_set];exact this
 rows:=h.rows
 b:=fun hb=>⟨(h.b hb).1,(h.b hb).2.same (ho _ (h.b hb).2.lt (h.ap.sb i hi).symm)⟩
 c:=fun hc=>by
  have hc':S.cells≠ []:=by intro h0;rw [h0]at hi;simp at hi
  obtain⟨h1,A,hA,hA'⟩:=h.c hc';refine⟨h1,A,hA.same (ho _ hA.lt (h.ap.sc i hi).symm),fun j hj=> ?_⟩;have hj':j<S.cells.length:=by simpa using hj
  rw [hA' j hj'];by_cases e:i=j
  ·subst e;simp [hl]
  simp [List.getElem_set,e]
 r:=fun j hj=>by
  have hj':j<S.cells.length:=by simpa using hj
  by_cases e:i=j
  ·subst e;simp only [List.getElem_set_self];exact⟨hq,by rw [hl];exact(h.r i hi).2.1,(h.r i hi).2.2⟩
  simp only [List.getElem_set,e,if_false];exact⟨(h.r j hj').1.same (ho _ (h.r j hj').1.lt (h.ap.ss j i hj' hi (Ne.symm e))),(h.r j hj').2⟩
 v:=h.v.same (ho _ h.v.lt (h.ap.sv i hi).symm)
 cb:=h.cb
 cc:=by simp only [List.length_set];exact h.cc
 cv:=h.cv
 mp:=h.mp.same (ho _ h.mp.lt (h.ap.sm i hi).symm)
 own:=by
  obtain⟨o1,o2,o3,o4,o5,o6⟩:=h.own;exact⟨o1,o2,o3,o4,o5,fun j hj=>o6 j (by simpa using hj)⟩
 ap:=by simp only [List.length_set];exact h.ap
theorem LT.pivotEnd {w0 w w':World}{bT nm nm':Nat}{S:TS}{L:Lay}(h:LT w0 w bT nm S L){i:Nat}(hi:i<S.cells.length)(hib:i<S.basic.length){row:List Rat}{gr cr v:Nat}(hl:row.length=S.cells[i].length)(hk:Keep au w0 w')
  (ho:∀b,b<w.heap.size→b≠L.gc→b≠L.gb→b≠L.gm→w'.heap[b]? =w.heap[b]?)
  (hgc:∀A,aL w L.gc A→aL w' L.gc (A.setIfInBounds i (.slice (some ⟨gr,0,none⟩) row.length cr))) (hgb:∀A,aL w L.gb A→aL w' L.gb (A.setIfInBounds i (.int .i64 (v:Int))))
  (hgm:Am w' L.gm nm' (S.basic.set i v)) (hr:bE w' gr row) (hcr:row.length≤cr∧cr≤maxLen) (hg0:w0.heap.size≤gr) (g1:gr≠bT) (g2:gr≠L.gb) (g3:gr≠L.gc) (g4:gr≠L.gv) (g5:gr≠L.gm) (g6:∀j,j<S.cells.length→gr≠L.gs j):
  DX w0 w' bT nm' {S with cells:=S.cells.set i row,basic:=S.basic.set i v}:=by
 have hc':S.cells≠ []:=by intro h0;rw [h0]at hi;simp at hi
 have hb':S.basic≠ []:=by intro h0;rw [h0]at hib;simp at hib
 have hsm:∀ {b},b<w.heap.size→b≠L.gc→b≠L.gb→b≠L.gm→w'.heap[b]? =w.heap[b]? :=fun h1 h2 h3 h4=>ho _ h1 h2 h3 h4;refine⟨{L with gs:=fun j=>if j=i then gr else L.gs j,cs:=fun j=>if j=i then cr else L.cs j},?_⟩;constructor
 ·exact hk
 ·have:=aL.same h.t (hsm (aL.lt h.t) h.ap.tc h.ap.tb h.ap.tm);simp only [List.length_set];exact this
 ·exact h.rows
 ·intro _;obtain⟨h1,A,hA,hA'⟩:=h.b hb';refine⟨h1,_,hgb A hA,fun j hj=> ?_⟩;have hj':j<S.basic.length:=by simpa using hj
  have hja:=(Array.getElem?_eq_some_iff.1 (hA' j hj')).1;rw [Array.getElem?_setIfInBounds];by_cases e:i=j
  ·subst e;simp [hja]
  simp only [e,if_false];rw [hA' j hj'];simp [List.getElem_set,e]
 ·intro _;obtain⟨h1,A,hA,hA'⟩:=h.c hc';refine⟨h1,_,hgc A hA,fun j hj=> ?_⟩;have hj':j<S.cells.length:=by simpa using hj
  have hja:=(Array.getElem?_eq_some_iff.1 (hA' j hj')).1;rw [Array.getElem?_setIfInBounds];by_cases e:i=j
  ·subst e;simp [hja]
  have e':¬j=i:=fun h=>e h.symm;simp only [e,if_false];rw [hA' j hj'];simp [List.getElem_set,e,e']
 ·intro j hj;have hj':j<S.cells.length:=by simpa using hj
  by_cases e:i=j
  ·subst e;simp only [List.getElem_set_self,if_true];exact⟨hr,hcr⟩
  have e':¬j=i:=fun h=>e h.symm;simp only [List.getElem_set,e,e',if_false];exact⟨(h.r j hj').1.same (hsm (h.r j hj').1.lt (h.ap.sc j hj') (h.ap.sb j hj') (h.ap.sm j hj')),(h.r j hj').2⟩
 ·exact h.v.same (hsm h.v.lt h.ap.cv.symm h.ap.bv.symm h.ap.vm)
 ·simp only [List.length_set];exact h.cb
 ·simp only [List.length_set];exact h.cc
 ·exact h.cv
 ·exact hgm
 ·obtain ⟨o1,o2,o3,o4,o5,o6⟩:=h.own;refine⟨o1,o2,o3,o4,o5,fun j hj=> ?_⟩;simp only;split
  ·exact hg0
  exact o6 j (by simpa using hj)
 have ap:=h.ap;simp only [List.length_set];refine⟨ap.tb,ap.tc,ap.tv,ap.tm,ap.bc,ap.bv,ap.bm,ap.cv,ap.cm,ap.vm,fun j hj=> ?_,fun j hj=> ?_,fun j hj=> ?_,fun j hj=> ?_,fun j hj=> ?_,fun j k hj hk hjk=> ?_⟩
 ·simp only;split
  ·exact g1
  exact ap.st j hj
 ·simp only;split
  ·exact g2
  exact ap.sb j hj
 ·simp only;split
  ·exact g3
  exact ap.sc j hj
 ·simp only;split
  ·exact g4
  exact ap.sv j hj
 ·simp only;split
  ·exact g5
  exact ap.sm j hj
 simp only;split
 ·rename_i e1;split
  ·rename_i e2;exact absurd (e1.trans e2.symm) hjk
  exact g6 k hk
 split
 ·exact (g6 j hj).symm
 exact ap.ss j k hj hk hjk
def rE (q:List Rat)(a:Rat)(k:Nat):List Rat:=(List.range q.length).map fun j=>if j<k then -(q.getD j 0/a)else 0
def TS.pivRow (S:TS)(i v:Nat):List Rat:=((rE (S.cells.getD i []) (S.cell i v) (S.cells.getD i []).length).set v 0).set (S.basic.getD i 0) (1/S.cell i v)
def TS.pivC (S:TS)(i v:Nat):Nat→List (List Rat)
 | 0=>S.cells
 | k+1=>if k=i then S.pivC i v k else(S.pivC i v k).set k (yJ (S.cells.getD k []) v (S.pivRow i v))
def TS.pivot (S:TS)(i v:Nat):TS:= {S with cells:=(S.pivC i v S.cells.length).set i (S.pivRow i v),basic:=S.basic.set i v}
theorem rF {q:List Rat}{a:Rat}{k:Nat}:(rE q a k).length=q.length:=by simp [rE]
theorem QU {q:List Rat}{a:Rat}:rE q a 0=List.replicate q.length 0:=by
 apply List.ext_getElem
 ·simp [rE]
 intro i h1 h2;simp [rE]
theorem QV {q:List Rat}{a:Rat}{k:Nat}(hk:k<q.length):(rE q a k).set k (-(q.getD k 0/a))=rE q a (k+1):=by
 apply List.ext_getElem
 ·simp [rE]
 intro i h1 h2;have hi:i<q.length:=by simpa [rE]using h2
 rw [List.getElem_set];simp only [rE,List.getElem_map,List.getElem_range];by_cases e:k=i
 ·subst e;rw [if_pos rfl,if_pos (Nat.lt_succ_self k)]
 rw [if_neg e];by_cases h1:i<k
 ·rw [if_pos h1,if_pos om]
 rw [if_neg h1,if_neg om]
theorem fZ {S:TS}{i v:Nat}:∀k,(S.pivC i v k).length=S.cells.length
 | 0=>rfl
 | k+1=>by
  unfold TS.pivC;split
  ·exact fZ k
  rw [List.length_set];exact fZ k
theorem D8 {S:TS}{i v:Nat}{j:Nat}(hj:j<S.cells.length):∀k,k≤j→(S.pivC i v k)[j]'(by rw [fZ];exact hj)=S.cells[j]
 | 0,_=>rfl
 | k+1,hk=>by
  unfold TS.pivC;split
  ·exact D8 hj k om
  rw [List.getElem_set,if_neg om];exact D8 hj k om
theorem Ap {S:TS}{i v:Nat}(hi:i<S.cells.length):∀k,(S.pivC i v k)[i]'(by rw [fZ];exact hi)=S.cells[i]
 | 0=>rfl
 | k+1=>by
  unfold TS.pivC;split
  ·exact Ap hi k
  rename_i h;rw [List.getElem_set,if_neg h];exact Ap hi k
def TS.refK (S:TS)(i:Nat)(way:Int):Nat→List Rat
 | 0=>(List.replicate S.rows.length 0).set (S.basic.getD i 0-S.n) ((-way:Int):Rat)
 | k+1=>if S.cell i k=0 then S.refK i way k else(S.refK i way k).set (k-S.n) (-(S.cell i k*((-way:Int):Rat)))
theorem nu {S:TS}{i:Nat}{way:Int}:∀k,(S.refK i way k).length=S.rows.length
 | 0=>by simp [TS.refK]
 | k+1=>by
  unfold TS.refK;split
  ·exact nu k
  rw [List.length_set];exact nu k
theorem DZ (w0 w:World)(bT nm:Nat)(S:TS)(h:DX w0 w bT nm S)(hw:S.wf)(hn:S.nb 300)(i:Nat)(hi:i<S.rows.length)(way:Int)(Ur:way=1∨way= -1)(hbi:S.n≤S.basic.getD i 0)(hz:∀v,v<S.n→S.cell i v=0):
  Calls Tryz.prog 45 #[.pointer (some ⟨bT,0,none⟩),.int .i64 (i:Int),.int .i64 way] w fun e w'=>∃u,e= .returned u∧jQ w' u (S.refK i way (S.n+S.rows.length))∧Keep au w w':=by
 obtain⟨L,h⟩:=h;have HW:=zh hw;have HN:=zh hn;have HZ:=zh hz;have ys:=h.cb.1;have ys':=h.cb.2;have zs:=h.cc.1;have zs':=h.cc.2;have hbl:=hw.bl;have hcl:=hw.cl;have h40:=hw.r40;have h12:=hw.n12;unfold maxLen at ys' zs';have hib:i<S.basic.length:=om;have hic:i<S.cells.length:=om;have hiI:(i:Int)<(S.basic.length:Int):=om;have hll:S.cells[i].length=S.n+S.rows.length:=hw.cr _ (List.getElem_mem hic);rw [mo hib]at hbi;have hbb:=hw.bb _ (List.getElem_mem hib);obtain⟨KN,hK⟩:∃KN,S.cells[i].length=KN:=⟨_,rfl⟩;have HK:=zh hK;have HKE:Hid (KN=S.n+S.rows.length):=zh om;have zak:KN≤76:=om;obtain⟨c,hc⟩:∃c,S.basic[i]-S.n=c:=⟨_,rfl⟩;have HCE:Hid (S.basic.getD i 0-S.n=c):=zh (by rw [mo hib];exact hc);have hcm:c<S.rows.length:=om;have e1:(S.basic[i]:Int)-(S.n:Int)=(c:Int):=om;have e2:IntKind.i64.wrap (c:Int)=(c:Int):=Go.IntWalk.i64_in _ om;have e3:¬(c:Int)<0:=om;have hcI:(c:Int)<(S.rows.length:Int):=om;have hneg:IntKind.i64.wrap (-way)= -way:=Go.IntWalk.i64_in _ om;have CI:=fun w=>zh (jI w (-way) om om);obtain⟨⟨sb,sS,sc,sU⟩,hs,hsn⟩:=qQ (-way);rw [hs]at CI;unfold NV.v at CI;simp only at CI;have HS:=zh hsn;have uP:Hid (NB 1 ((-way:Int):Rat)):=zh (jv om);have nM:=zh h;obtain⟨or,cr,PD,_,hcr⟩:=h.rows.len;obtain⟨t0,t1,t2,_,t4,_,_,eT⟩:=h.t.seven;rw [PD]at t1;obtain⟨w1,hr1,hn1,hk1⟩:=Ai w S.rows.length om;have RG:=zh hn1;have K1:=zh hk1;have HT0:=zh (And.intro t0 (And.intro t2 t4));obtain⟨JW,hbk⟩:=h.b (by intro h0;rw [h0]at hib;simp at hib);obtain⟨hoc,hck⟩:=h.c (by intro h0;rw [h0]at hic;simp at hic);obtain⟨cb0,_⟩:=hbk.at (i:=i) hib;obtain⟨cc0,_⟩:=hck.at (i:=i) hic;have hgb:=hbk.lt;have hgc:=hck.lt;rw [HK.out]at cc0;have HRI:=(h.r i hic).1;have hcs:=(h.r i hic).2.1;have hcs2:=(h.r i hic).2.2;rw [HK.out]at hcs;unfold maxLen at hcs2 hcr;have DY:=zh HRI;have Ir:=zh (And.intro cb0 cc0);have HOO:=zh (And.intro JW hoc);clear h hw hn hz hK hll hc hs hsn hbk hck JW hoc t0 t2 t4 HRI cb0 cc0 hbi hbb;go_enter Tryz.func45,Tryz.ntmps45;go_wp2_with fail;refine(CI _).out.mono ?_;rintro e w2 ⟨rfl,hk2⟩;clear t1 hr1 CI;have K2:=zh (K1.out.both hk2);have uF:=zh (RG.out.keep hk2);have ka:Keep au w2 (w2.alloc (.cells #[.bool sb,.string sS,.bool sc,.string sU] 93)):=(Keep.refl _ _).alloc _;have mh:Hid (aL (w2.alloc (.cells #[.bool sb,.string sS,.bool sc,.string sU] 93)) w2.heap.size #[.bool sb,.string sS,.bool sc,.string sU]):=zh (aP _ _ rfl);have P8:=zh (uF.out.keep ka);have K3:=zh (K2.out.both ka);have gV:Hid (w2.heap.size≠w.heap.size):=zh (by have:=uF.out.lt;omega);go_upto_region 3 with fail;clear ka hk2 hn1 hk1 RG uF K1 K2;generalize w2.alloc (.cells #[.bool sb,.string sS,.bool sc,.string sU] 93)=w3 at *;generalize w2.heap.size=b8 at *;have lt3:=dJ eT K3.out.size;have lb3:=dJ hgb K3.out.size;generalize hgo:w.heap.size=go at gV P8 ⊢;have XI:Hid (w.heap.size≤go):=zh (Nat.le_of_eq hgo);clear hgo;obtain⟨_,_,_,_,g0,g1,g2,g3,_,f0,f1,f2,f3⟩:=P8.out.at (k:=c) (by rw [List.length_replicate];exact hcm);have hg6:=P8.out.lt;refine aD (fun w'=>Keep au w3 w') [15] [([0,1,2,3,4,5,6,7,8,9,10,11,12,13,14],15)] [] kr kr kp ?_;intro X W hne hF hcls;have aQ:=zh hcls;have x0:=fun x=>((hF x).cell lt3).trans ((K3.out.cell eT).trans HT0.out.1);have x1:=fun x=>((hF x).cell lt3).trans ((K3.out.cell eT).trans HT0.out.2.1);have x2:=fun x=>((hF x).cell lb3).trans ((K3.out.cell hgb).trans Ir.out.1);have z0:=fun x=>(mh.out.keep (hF x)).four;clear hF hcls;rw [HOO.out.1]at x1;simp only [aO,aJ,zl0,zl1,zl2,aR,Bool.false_eq_true,if_false]
 (repeat(go_big_quiet_step (fail)));refine wpQuiet_nil ?_
 refine ay rfl rfl fun K hK=> ?_;go_simp;refine hK _ _ ⟨fun h=>(by simp at h),?_⟩;clear hK x0 x1 x2 z0;have JX:Hid (bE (w4 w3 go (c*4) ⟨sb,sS,sc,sU⟩).drew go (S.refK i way 0)):=zh (by
  have:=(P8.out.set4 (k:=c) HS.out).keep (Keep.refl au _).drew;rw [TS.refK,HCE.out];exact this)
 have K7:Hid (Keep au w (w4 w3 go (c*4) ⟨sb,sS,sc,sU⟩).drew):=zh ((sG K3.out XI.out).drew);have mh:Hid (aL (w4 w3 go (c*4) ⟨sb,sS,sc,sU⟩).drew b8 #[.bool sb,.string sS,.bool sc,.string sU]):=zh ((mh.out.same (jc gV.out)).keep (Keep.refl au _).drew);rw [show((((w3.setCell ⟨go,c*4,none⟩ (.bool sb)).setCell ⟨go,c*4+1,none⟩ (.string sS)).setCell ⟨go,c*4+2,none⟩ (.bool sc)).setCell ⟨go,c*4+3,none⟩ (.string sU))=w4 w3 go (c*4) ⟨sb,sS,sc,sU⟩from rfl];generalize (w4 w3 go (c*4) ⟨sb,sS,sc,sU⟩).drew=w4' at *;clear g0 g1 g2 g3 f0 f1 f2 f3 hg6 P8 K3 lt3 lb3
 (repeat(go_big_quiet_step (fail)));refine wpQuiet_nil ?_
 refine NoPanic.normal ?_;have t4:=(K7.out.cell eT).trans HT0.out.2.2;have c4':=(K7.out.cell hgc).trans Ir.out.2;have lt4:=dJ eT K7.out.size;have lc4:=dJ hgc K7.out.size;rw [HOO.out.2]at t4;have hiC:(i:Int)<(S.cells.length:Int):=om;go_wp2;clear t4 c4' lt4 lc4;go_loopw [43] (fun s wr=>∃k:Nat,k≤KN∧s= .int .i64 k∧Keep au w wr∧bE wr go (S.refK i way k)∧aL wr b8 #[.bool sb,.string sS,.bool sc,.string sU]) (fun s _=>(KN-intOf s).toNat)
 case atStart=>exact⟨0,om,rfl,K7.out,JX.out,mh.out⟩
 obtain⟨k,hk,rfl,hkr,hrw,hb8⟩:=hrel;have cK:=zh hkr;have HRW:=zh hrw;have mh:=zh hb8;clear hkr hrw hb8 K7 JX;by_cases hkl:k<KN
 case neg=>
  have hlt:¬(k:Int)<(KN:Int):=om;obtain rfl:k=KN:=om;go_wp2;go_ret;exact⟨_,rfl,by rw [← HKE.out];exact HRW.out.nums (nu _).symm (Nat.le_of_eq (nu _)) (by unfold maxLen;omega),cK.out⟩
 have hlt:(k:Int)<(KN:Int):=om;have hkq:k<S.cells[i].length:=by rw [HK.out];exact hkl
 obtain⟨xb,xS,xc,xU,p0,p1,p2,p3,hx,_⟩:=(DY.out.keep cK.out).at (k:=k) hkq;have Us:=(DY.out.keep cK.out).lt;have nx:NB 300 (S.cells[i][k]):=HN.out.c _ (List.getElem_mem hic) _ (List.getElem_mem hkq);have hxd:S.cell i k=S.cells[i][k]:=mK hic hkq;rw [← hxd]at hx nx;have HZK:=zh (HZ.out k);obtain⟨x,hxe⟩:∃x,S.cell i k=x:=⟨_,rfl⟩;rw [hxe]at hx nx HZK;have HXE:=zh hxe;have CS:=fun w=>zh (mg hx w);have HX:=zh hx;have mM:=zh nx;clear hxd hxe nx hx;have ka:Keep au wr (wr.alloc (.cells #[.bool xb,.string xS,.bool xc,.string xU] 93)):=(Keep.refl _ _).alloc _;have Bz:Hid (aL (wr.alloc (.cells #[.bool xb,.string xS,.bool xc,.string xU] 93)) wr.heap.size #[.bool xb,.string xS,.bool xc,.string xU]):=zh (aP _ _ rfl);go_upto_region 7 with fail;have HRW:=zh (HRW.out.keep ka);have mh:=zh (mh.out.keep ka);have cK:=zh (cK.out.both ka);clear ka p0 p1 p2 p3 Us;generalize wr.alloc (.cells #[.bool xb,.string xS,.bool xc,.string xU] 93)=wx at *;generalize wr.heap.size=bx at *;obtain⟨s0,s1,s2,s3,_,_,_,_,sl⟩:=Bz.out.four;by_cases hx0:x=0
 case pos=>
  have e0:=nH hx0;rw [e0]at CS;have HSS:Hid (S.refK i way (k+1)=S.refK i way k):=zh (by rw [TS.refK,HXE.out,if_pos hx0]);clear hx0 e0;go_wp2_with fail;refine(CS _).out.mono ?_;rintro e w5 ⟨rfl,hk5⟩;have Nj:=zh (HRW.out.keep hk5);have fM:=zh (mh.out.keep hk5);have K5:=zh (cK.out.both hk5);clear s0 s1 s2 s3 sl hk5 CS;go_wp2;go_roundw
  case rel=>exact⟨k+1,om,gn,K5.out,by rw [HSS.out];exact Nj.out,fM.out⟩
  simp [intOf];omega
 have e0:=nJ hx0;have e4:(x.num.sign != 0)=true:=by rw [bne_iff_ne];exact e0
 have hkn:¬k<S.n:=fun h=>hx0 (HZK.out h);obtain⟨d,hd⟩:∃d,k-S.n=d:=⟨_,rfl⟩;have hke:=HKE.out;have hdm:d<S.rows.length:=om;have e5:(k:Int)-(S.n:Int)=(d:Int):=om;have e6:IntKind.i64.wrap (d:Int)=(d:Int):=Go.IntWalk.i64_in _ om;have e7:¬(d:Int)<0:=om;have hdI:(d:Int)<(S.rows.length:Int):=om;have HSS:Hid (S.refK i way (k+1)=(S.refK i way k).set d (-(x*((-way:Int):Rat)))):=zh (by rw [TS.refK,HXE.out,if_neg hx0,hd]);clear hx0 e0 hkn hke hd;go_wp2_with fail;refine(CS _).out.mono ?_;rintro e w5 ⟨rfl,hk5⟩;have Nj:=zh (HRW.out.keep hk5);have fM:=zh (mh.out.keep hk5);have zdl:=zh (Bz.out.keep hk5);have K5:=zh (cK.out.both hk5);clear s0 s1 s2 s3 sl hk5 CS HRW mh Bz cK;have CT:=fun w=>zh (nL w _ x HX.out (mM.out.mono om) _ _ HS.out (uP.out.mono om));obtain⟨⟨tb,tS,tc,tU⟩,ZK,htn⟩:=fF (x*((-way:Int):Rat));rw [ZK]at CT;have CN:=fun w=>zh (Gm w _ _ htn ((mM.out.mul uP.out).mono om));obtain⟨⟨rb,rS,rc,rU⟩,hrq,hrn⟩:=fF (-(x*((-way:Int):Rat)));rw [hrq]at CN;unfold NV.v at CT CN;simp only at CT CN;have Uz:=zh hrn;clear ZK htn hrq hrn;have lt5:=dJ eT K5.out.size;have t0:=(K5.out.cell eT).trans HT0.out.1;go_upto_region 8 with fail;refine aD (fun w'=>Keep au w5 w') [12] [([0,1,2,3,4,5,6,7,8],9),([],10),([11],12)] [] kr kr kp ?_;intro X W hne hF hcls;have aQ:=zh hcls;have x0:=fun x=>((hF x).cell lt5).trans t0;have z0:=fun x=>(fM.out.keep (hF x)).four;have z1:=fun x=>(zdl.out.keep (hF x)).four;clear hF hcls t0;simp only [aO,aJ,zl0,zl1,zl2,aR,Bool.false_eq_true,if_false]
 (repeat(go_big_quiet_step (fail)));refine wpQuiet_nil ?_
 refine ay rfl rfl fun K hK=> ?_;go_simp;refine(CT _).out.mono ?_;rintro e w6 ⟨rfl,hk6⟩;have k6:Keep au w5 w6:=Keep.trans kp hk6 fun _ _ _ h=>h;refine hK _ _ ⟨fun _=>aQ.out _ k6,?_⟩;clear hK hk6 CT
 (repeat(go_big_quiet_step (fail)));refine wpQuiet_nil ?_
 refine ay rfl rfl fun K hK=> ?_;go_simp;refine(CN _).out.mono ?_;rintro e w7 ⟨rfl,hk7⟩;have k7:Keep au w5 w7:=k6.both hk7;refine hK _ _ ⟨fun _=>aQ.out _ k7,?_⟩;clear hK hk7 CN k6;have JX:=zh (Nj.out.keep k7);have mO:=zh (fM.out.keep k7);have K7:=zh (K5.out.both k7);obtain⟨_,_,_,_,g0,g1,g2,g3,_,f0,f1,f2,f3⟩:=JX.out.at (k:=d) (by rw [nu];exact hdm);have hg6:=JX.out.lt
 (repeat(go_big_quiet_step (fail)));refine wpQuiet_nil ?_
 refine ay rfl rfl fun K hK=> ?_;go_simp;refine hK _ _ ⟨fun h=>(by simp at h),?_⟩;clear hK x0 z0 z1;have HR8:Hid (bE (w4 w7 go (d*4) ⟨rb,rS,rc,rU⟩) go (S.refK i way (k+1))):=zh (by rw [HSS.out];exact JX.out.set4 Uz.out);have K8:Hid (Keep au w (w4 w7 go (d*4) ⟨rb,rS,rc,rU⟩)):=zh (sG K7.out XI.out);have mh:Hid (aL (w4 w7 go (d*4) ⟨rb,rS,rc,rU⟩) b8 #[.bool sb,.string sS,.bool sc,.string sU]):=zh (mO.out.same (jc gV.out));rw [show((((w7.setCell ⟨go,d*4,none⟩ (.bool rb)).setCell ⟨go,d*4+1,none⟩ (.string rS)).setCell ⟨go,d*4+2,none⟩ (.bool rc)).setCell ⟨go,d*4+3,none⟩ (.string rU))=w4 w7 go (d*4) ⟨rb,rS,rc,rU⟩from rfl];generalize w4 w7 go (d*4) ⟨rb,rS,rc,rU⟩=w8' at *;clear g0 g1 g2 g3 f0 f1 f2 f3 hg6 JX mO K7 lt5
 (repeat(go_big_quiet_step (fail)));refine wpQuiet_nil ?_
 refine NoPanic.normal ?_;go_wp2;go_roundw
 case rel=>exact⟨k+1,om,gn,K8.out,HR8.out,mh.out⟩
 simp [intOf];omega
open Go.ChangeShapes Go.WideShapes Go.RowKit
def TS.start (n:Nat)(rows:List Rw):TS where
 n:=n
 rows:=rows
 basic:=(List.range rows.length).map fun i=>n+i
 cells:=rows.map fun r=>(List.range (n+rows.length)).map fun k=>((r.of.getD k 0:Int):Rat)
 vals:=List.replicate (n+rows.length) pr0
def TS.lineOf (S:TS)(b:Int):Nat:=S.basic.findIdx fun(x:Nat)=>decide ((x:Int)=b)
def TS.enter (S:TS)(i:Nat)(way:Int):Option Nat:=(List.range (S.n+S.rows.length)).find? fun v=>decide (S.cell i v≠0)&&S.canB v (way*(S.cell i v).num.sign)
def TS.by (S:TS)(b:Nat)(i e:Nat)(way:Int):Pr:=((if 0<way then uD S.n S.rows b else jH S.n S.rows b).sub (S.val b)).mul (1/S.cell i e)
inductive zdm where
 | yes (S:TS)
 | no (l:List Rat)
 | hungry
def TS.next (S:TS)(b:Nat)(way:Int)(e:Nat):TS:=(S.move e (S.by b (S.lineOf b) e way)).pivot (S.lineOf b) e
def TS.feas:Nat→TS→zdm
 | 0,S=>if S.broken.1<0 then .yes S else .hungry
 | f+1,S=>if S.broken.1<0 then .yes S else
   match S.enter (S.lineOf S.broken.1) S.broken.2 with
   | none=> .no (S.refK (S.lineOf S.broken.1) S.broken.2 (S.n+S.rows.length))
   | some e=>TS.feas f (S.next S.broken.1.toNat S.broken.2 e)
theorem VQ {n:Nat}{rows:List Rw}(hn:n≤12)(h40:rows.length≤64)(hr:∀r∈rows,eD r n):(TS.start n rows).wf where
 n12:=hn
 r40:=h40
 rok:=hr
 bl:=by simp [TS.start]
 cl:=by simp [TS.start]
 cr:=by
  intro l hl;obtain⟨r,_,rfl⟩:=List.mem_map.1 hl;simp [TS.start]
 vl:=by simp [TS.start]
 nd:=by
  show((List.range rows.length).map fun i=>n+i).Nodup;rw [List.nodup_iff_pairwise_ne,List.pairwise_map];exact List.nodup_range.imp fun h e=>h om
 bb:=by
  intro b hb;obtain⟨i,hi,rfl⟩:=List.mem_map.1 hb;have:=List.mem_range.1 hi;show n+i<n+rows.length;omega
theorem Uw {S:TS}(h:S.wf)(v:Nat)(d:Pr):(S.move v d).wf where
 n12:=h.n12
 r40:=h.r40
 rok:=h.rok
 bl:=h.bl
 cl:=h.cl
 cr:=h.cr
 vl:=by show(S.mvK v d S.basic.length).length=_;rw [zw];exact h.vl
 nd:=h.nd
 bb:=h.bb
theorem TM {l:List Nat}(h:l.Nodup){i v:Nat}(hv:v∉l):(l.set i v).Nodup:=by
 rw [List.nodup_iff_pairwise_ne,List.pairwise_iff_getElem];intro a b ha hb hab;have ha':a<l.length:=by simpa using ha
 have hb':b<l.length:=by simpa using hb
 rw [List.getElem_set,List.getElem_set];split
 ·split
  ·omega
  exact fun e=>hv (e ▸ List.getElem_mem hb')
 split
 ·exact fun e=>hv (e ▸ List.getElem_mem ha')
 exact fun e=>by have:=(List.getElem_inj h).1 e;omega
theorem OX {S:TS}{i v:Nat}:(S.pivRow i v).length=(S.cells.getD i []).length:=by
 unfold TS.pivRow;rw [List.length_set,List.length_set,rF]
theorem Bn {S:TS}{i v K:Nat}(h:∀l∈S.cells,l.length=K):∀k,k≤S.cells.length→∀l∈S.pivC i v k,l.length=K
 | 0,_,l,hl=>h l hl
 | k+1,hk,l,hl=>by
  unfold TS.pivC at hl;split at hl
  ·exact Bn h k om l hl
  rcases List.mem_or_eq_of_mem_set hl with hl | rfl
  ·exact Bn h k om l hl
  have e:S.cells.getD k []=S.cells[k]:=by rw [dX,fG om];rfl
  rw [e];simp only [yJ,List.length_map,List.length_range];exact h _ (List.getElem_mem _)
theorem VX {S:TS}(h:S.wf){i v:Nat}(hi:i<S.rows.length)(hv:v<S.n+S.rows.length)(hvb:v∉S.basic):(S.pivot i v).wf where
 n12:=h.n12
 r40:=h.r40
 rok:=h.rok
 bl:=by show(S.basic.set i v).length=_;rw [List.length_set];exact h.bl
 cl:=by show((S.pivC i v S.cells.length).set i (S.pivRow i v)).length=_;rw [List.length_set,fZ];exact h.cl
 cr:=by
  intro l hl;have hl:l∈(S.pivC i v S.cells.length).set i (S.pivRow i v):=hl;rcases List.mem_or_eq_of_mem_set hl with hl | rfl
  ·exact Bn h.cr _ (Nat.le_refl _) l hl
  have hic:i<S.cells.length:=by rw [h.cl];exact hi
  have e:S.cells.getD i []=S.cells[i]:=by rw [dX,fG hic];rfl
  rw [OX,e];exact h.cr _ (List.getElem_mem hic)
 vl:=h.vl
 nd:=TM h.nd hvb
 bb:=by
  intro b hb;rcases List.mem_or_eq_of_mem_set hb with hb | rfl
  ·exact h.bb b hb
  exact hv
theorem BA (w0 w:World)(bT nm:Nat)(S:TS)(h:DX w0 w bT nm S)(hw:S.wf)(hn:S.nb 300)(v:Nat)(hv:v<S.n+S.rows.length)(hvb:v∉S.basic)(z:PV)(d:Pr)(hz:z.is d)(hd:d.ok 300):
  Calls Tryz.prog 51 #[.pointer (some ⟨bT,0,none⟩),.int .i64 (v:Int),z.v] w fun e w'=>e= .returned (.tuple #[])∧DX w0 w' bT nm (S.move v d):=by
 obtain⟨L,h⟩:=h;obtain⟨⟨pb,pS,pc,pU⟩,⟨qb,qS,qc,qU⟩⟩:=z;have HW:=zh hw;have HN:=zh hn;have HZ:=zh hz;have HD:=zh hd;have xs:=h.cv.1;have xs':=h.cv.2;have ys:=h.cb.1;have ys':=h.cb.2;have zs:=h.cc.1;have zs':=h.cc.2;have hvl:=hw.vl;have hbl:=hw.bl;have hcl:=hw.cl;have h40:=hw.r40;have h12:=hw.n12;unfold maxLen at xs' ys' zs';have hvv:v<S.vals.length:=om;have hvI:(v:Int)<(S.vals.length:Int):=om;obtain⟨⟨⟨xb,xS,xc,xU⟩,⟨yb,yS,yc,yU⟩⟩,hpx,e0,e1,e2,e3,e4,e5,e6,e7⟩:=qP h.v hvv;simp only at e0 e1 e2 e3 e4 e5 e6 e7;have CP:=fun w=>zh (Ig w _ _ hpx ((hn.v _ (List.getElem_mem hvv)).mono om) _ _ hz (hd.mono om));unfold PV.v;unfold PV.v at CP;simp only at CP ⊢;have JN:=zh hvb;have hW0:Hid (w0.heap.size≤w.heap.size):=zh h.k.size;have ka:Keep au w (w.alloc (.cells #[.bool pb,.string pS,.bool pc,.string pU,.bool qb,.string qS,.bool qc,.string qU] 101)):=(Keep.refl _ _).alloc _;have HB:Hid (aL (w.alloc (.cells #[.bool pb,.string pS,.bool pc,.string pU,.bool qb,.string qS,.bool qc,.string qU] 101)) w.heap.size #[.bool pb,.string pS,.bool pc,.string pU,.bool qb,.string qS,.bool qc,.string qU]):=zh (aP _ _ rfl);have nM:=zh (h.keep ka);have hgv:=h.v.lt;have hne:L.gv≠w.heap.size:=om;have gV:Hid (w.heap.size≠L.gv):=zh om;have e0:=(ka.cell hgv).trans e0;have e1:=(ka.cell hgv).trans e1;have e2:=(ka.cell hgv).trans e2;have e3:=(ka.cell hgv).trans e3;have e4:=(ka.cell hgv).trans e4;have e5:=(ka.cell hgv).trans e5;have e6:=(ka.cell hgv).trans e6;have e7:=(ka.cell hgv).trans e7;clear h hw hn hz hd hvb hpx;go_enter Tryz.func51,Tryz.ntmps51;go_upto_region 1 with fail;clear ka hgv;generalize w.alloc (.cells #[.bool pb,.string pS,.bool pc,.string pU,.bool qb,.string qS,.bool qc,.string qU] 101)=w1 at *;generalize hb5:w.heap.size=b5 at *;obtain⟨_,_,_,_,_,t5,_,eT⟩:=nM.out.t.seven;have hgv:=nM.out.v.lt;refine aD (fun w'=>Keep au w1 w') [15] [([0,1,2,3,4,5,6,7,8,9,10,11,12],13),([14],15)] [] kr kr kp ?_;intro X W hne' hF hcls;have aQ:=zh hcls;have x0:=fun x=>((hF x).cell eT).trans t5;have y0:=fun x=>((hF x).cell hgv).trans e0;have y1:=fun x=>((hF x).cell hgv).trans e1;have y2:=fun x=>((hF x).cell hgv).trans e2;have y3:=fun x=>((hF x).cell hgv).trans e3;have y4:=fun x=>((hF x).cell hgv).trans e4;have y5:=fun x=>((hF x).cell hgv).trans e5;have y6:=fun x=>((hF x).cell hgv).trans e6;have y7:=fun x=>((hF x).cell hgv).trans e7;have z0:=fun x=>(HB.out.keep (hF x)).eight;clear hF hcls e0 e1 e2 e3 e4 e5 e6 e7 t5;simp only [aO,aJ,zl0,zl1,zl2,aR,Bool.false_eq_true,if_false]
 (repeat(go_big_quiet_step (fail)));refine wpQuiet_nil ?_
 refine ay rfl rfl fun K hK=> ?_;go_simp;refine(CP _).out.mono ?_;rintro e w2 ⟨⟨⟨rb,rS,rc,rU⟩,⟨sb,sS,sc,sU⟩⟩,rfl,hr,hk⟩;have k2:Keep au w1 w2:=Keep.trans kp hk fun _ _ _ h=>h;refine hK _ _ ⟨fun _=>aQ.out _ k2,?_⟩;clear hK K hk CP;have HL2:=zh (nM.out.keep k2);have HB:=zh (HB.out.keep k2);obtain⟨⟨⟨ab,aS,ac,aU⟩,⟨bb,bS,bc,bU⟩⟩,_,g0,g1,g2,g3,g4,g5,g6,g7⟩:=qP HL2.out.v hvv;simp only at g0 g1 g2 g3 g4 g5 g6 g7;have f:=MR HL2.out.v;have f0:=f (v*8);have f1:=f (v*8+1);have f2:=f (v*8+2);have f3:=f (v*8+3);have f4:=f (v*8+4);have f5:=f (v*8+5);have f6:=f (v*8+6);have f7:=f (v*8+7);have hgl:=HL2.out.v.lt;clear f
 (repeat(go_big_quiet_step (fail)));refine wpQuiet_nil ?_
 refine ay rfl rfl fun K hK=> ?_;go_simp;refine hK _ _ ⟨fun h=>(by simp at h),?_⟩;clear hK K x0 y0 y1 y2 y3 y4 y5 y6 y7 z0;have XO:Hid (LT w0 (w8 w2 L.gv (v*8) ⟨⟨rb,rS,rc,rU⟩,⟨sb,sS,sc,sU⟩⟩) bT nm {S with vals:=S.mvK v d 0} L):=zh (HL2.out.setVals (by simp [TS.mvK]) (QA HL2.out.k HL2.out.own.2.2.2.1) (fun b hb=>zQ hb) (by
  have:=QC HL2.out.v (v:=v) hr;simp only [TS.mvK];rw [kg hvv];exact this))
 have HB3:Hid (aL (w8 w2 L.gv (v*8) ⟨⟨rb,rS,rc,rU⟩,⟨sb,sS,sc,sU⟩⟩) b5 #[.bool pb,.string pS,.bool pc,.string pU,.bool qb,.string qS,.bool qc,.string qU]):=zh (HB.out.same (zQ (Ne.symm hne)));rw [show((((((((w2.setCell ⟨L.gv,v*8,none⟩ (.bool rb)).setCell ⟨L.gv,v*8+1,none⟩ (.string rS)).setCell ⟨L.gv,v*8+2,none⟩ (.bool rc)).setCell ⟨L.gv,v*8+3,none⟩ (.string rU)).setCell ⟨L.gv,v*8+4,none⟩ (.bool sb)).setCell ⟨L.gv,v*8+5,none⟩ (.string sS)).setCell ⟨L.gv,v*8+6,none⟩ (.bool sc)).setCell ⟨L.gv,v*8+7,none⟩ (.string sU))=w8 w2 L.gv (v*8) ⟨⟨rb,rS,rc,rU⟩,⟨sb,sS,sc,sU⟩⟩from rfl];generalize w8 w2 L.gv (v*8) ⟨⟨rb,rS,rc,rU⟩,⟨sb,sS,sc,sU⟩⟩=w3 at *;clear g0 g1 g2 g3 g4 g5 g6 g7 f0 f1 f2 f3 f4 f5 f6 f7 HL2 HB nM
 (repeat(go_big_quiet_step (fail)));refine wpQuiet_nil ?_
 refine NoPanic.normal ?_;obtain⟨_,_,t2,_,_,_,_,zcy⟩:=XO.out.t.seven;go_wp2;clear t2 eT zcy hgv hgl hne;go_loopw [28] (fun s wr=>∃k:Nat,k≤S.basic.length∧s= .int .i64 k∧LT w0 wr bT nm {S with vals:=S.mvK v d k} L∧aL wr b5 #[.bool pb,.string pS,.bool pc,.string pU,.bool qb,.string qS,.bool qc,.string qU]) (fun s _=>(S.basic.length-intOf s).toNat)
 case atStart=>exact⟨0,om,rfl,XO.out,HB3.out⟩
 obtain⟨k,hk,rfl,hlt',hb⟩:=hrel;have Pe:=zh hlt';have HB:=zh hb;clear hlt' hb XO HB3;by_cases hkl:k<S.basic.length
 case neg=>
  have hlt:¬(k:Int)<(S.basic.length:Int):=om;obtain rfl:k=S.basic.length:=om;go_wp2;refine bodyPost_end (by simp [results,Tryz.results51,go_sem];rfl) rfl ?_;exact⟨rfl,L,Pe.out⟩
 have hlt:(k:Int)<(S.basic.length:Int):=om;have hkc:k<S.cells.length:=om;have hkcI:(k:Int)<(S.cells.length:Int):=om;have hxk:=HW.out.bb _ (List.getElem_mem hkl);have hxv:S.basic[k]<(S.mvK v d k).length:=by rw [zw];omega
 have hxI:(S.basic[k]:Int)<(S.vals.length:Int):=om;have hll:S.cells[k].length=S.n+S.rows.length:=HW.out.cr _ (List.getElem_mem hkc);have Bw:v<S.cells[k].length:=om;have hvcI:(v:Int)<(S.cells[k].length:Int):=om;obtain⟨_,_,_,_,t4,t5,_,eT⟩:=Pe.out.t.seven;obtain⟨JW,hib⟩:=Pe.out.b (by intro h0;have:S.basic= []:=h0;rw [this]at hkl;simp at hkl);obtain⟨ci,_⟩:=hib.at (i:=k) hkl;have hgl:=hib.lt;have hoc:=(Pe.out.c (by intro h0;have:S.cells= []:=h0;rw [this]at hkc;simp at hkc));obtain⟨hoc,hcb⟩:=hoc;obtain⟨cc,_⟩:=hcb.at (i:=k) hkc;have hgc:=hcb.lt;have hcs:=(Pe.out.r k hkc).2.1;have hcs2:=(Pe.out.r k hkc).2.2;unfold maxLen at hcs2;have hnb:=(Pe.out.r k hkc).1;obtain⟨nb,nS,nc,nU,m0,m1,m2,m3,FT,_⟩:=hnb.at (k:=v) Bw;have hgs:=hnb.lt;obtain⟨⟨⟨xb',xS',xc',xU'⟩,⟨yb',yS',yc',yU'⟩⟩,hpx,e0,e1,e2,e3,e4,e5,e6,e7⟩:=qP Pe.out.v (v:=S.basic[k]) hxv;simp only at e0 e1 e2 e3 e4 e5 e6 e7;have hgv:=Pe.out.v.lt;have hva:(S.mvK v d k)[S.basic[k]]=S.val S.basic[k]:=by
  have:=QD (d:=d) HW.out.nd hkl (show S.basic[k]≠v from fun e=>JN.out (e ▸ List.getElem_mem hkl)) k (Nat.le_refl _);rw [dX,fG hxv]at this;exact this
 have hxv0:S.basic[k]<S.vals.length:=om;have nva:((S.mvK v d k)[S.basic[k]]).ok 300:=by rw [hva,kg hxv0];exact HN.out.v _ (List.getElem_mem hxv0)
 have nq:NB 300 (S.cells[k][v]):=HN.out.c _ (List.getElem_mem hkc) _ (List.getElem_mem Bw);have CT:=fun w=>zh (xP w _ _ HZ.out (HD.out.mono om) _ _ FT (nq.mono om));have nt:(d.mul S.cells[k][v]).ok 600:=⟨HD.out.1.mul nq,HD.out.2.mul nq⟩;have CP:=fun(w:World) (z2:PV) (hz2:z2.is (d.mul S.cells[k][v]))=>zh (Ig w _ _ hpx (nva.mono om) z2 (d.mul S.cells[k][v]) hz2 (nt.mono om));have HST:Hid (S.mvK v d (k+1)=(S.mvK v d k).set S.basic[k] (((S.mvK v d k)[S.basic[k]]).add (d.mul S.cells[k][v]))):=zh (by
  simp only [TS.mvK];rw [mo hkl,mK hkc Bw,dX,fG hxv];rfl)
 unfold PV.v at CT CP;simp only at CT CP;have QN:=zh (And.intro m0 (And.intro m1 (And.intro m2 m3)));have HEE:=zh (And.intro e0 (And.intro e1 (And.intro e2 (And.intro e3 (And.intro e4 (And.intro e5 (And.intro e6 e7)))))));have Ir:=zh cc;have HT:=zh (And.intro t4 t5);have Z0:=zh hxv;clear m0 m1 m2 m3 e0 e1 e2 e3 e4 e5 e6 e7 hib hcb hnb hpx FT nq nt nva hva;rw [JW];go_upto_region 5 with fail;clear ci hgl;have hb5:=HB.out.lt;refine aD (fun w'=>Keep au wr w') [26] [([0,1,2,3,4,5,6,7,8,9,10,11,12,13,14,15,16,17,18,19,20,21,22],23),([],24),([25],26)] [] kr kr kp ?_;intro X W hne' hF hcls;have aQ:=zh hcls;have x0:=fun x=>((hF x).cell eT).trans HT.out.1;have x1:=fun x=>((hF x).cell eT).trans HT.out.2;have x2:=fun x=>((hF x).cell hgc).trans Ir.out;have q0:=fun x=>((hF x).cell hgs).trans QN.out.1;have q1:=fun x=>((hF x).cell hgs).trans QN.out.2.1;have q2:=fun x=>((hF x).cell hgs).trans QN.out.2.2.1;have q3:=fun x=>((hF x).cell hgs).trans QN.out.2.2.2;have y0:=fun x=>((hF x).cell hgv).trans HEE.out.1;have y1:=fun x=>((hF x).cell hgv).trans HEE.out.2.1;have y2:=fun x=>((hF x).cell hgv).trans HEE.out.2.2.1;have y3:=fun x=>((hF x).cell hgv).trans HEE.out.2.2.2.1;have y4:=fun x=>((hF x).cell hgv).trans HEE.out.2.2.2.2.1;have y5:=fun x=>((hF x).cell hgv).trans HEE.out.2.2.2.2.2.1;have y6:=fun x=>((hF x).cell hgv).trans HEE.out.2.2.2.2.2.2.1;have y7:=fun x=>((hF x).cell hgv).trans HEE.out.2.2.2.2.2.2.2;have z0:=fun x=>(HB.out.keep (hF x)).eight;clear hF hcls;rw [hoc]at x0;simp only [aO,aJ,zl0,zl1,zl2,aR,Bool.false_eq_true,if_false]
 (repeat(go_big_quiet_step (fail)));refine wpQuiet_nil ?_
 refine ay rfl rfl fun K hK=> ?_;go_simp;refine(CT _).out.mono ?_;rintro e w4 ⟨⟨⟨ub,uS,uc,uU⟩,⟨vb,vS,vc,vU⟩⟩,rfl,hm,hk4⟩;have k4:Keep au wr w4:=Keep.trans kp hk4 fun _ _ _ h=>h;refine hK _ _ ⟨fun _=>aQ.out _ k4,?_⟩;clear hK K hk4 CT;have CP:=fun w=>CP w _ hm;unfold PV.v at CP;simp only at CP
 (repeat(go_big_quiet_step (fail)));refine wpQuiet_nil ?_
 refine ay rfl rfl fun K hK=> ?_;go_simp;refine(CP _).out.mono ?_;rintro e w5 ⟨⟨⟨rb,rS,rc,rU⟩,⟨sb,sS,sc,sU⟩⟩,rfl,hr,hk5⟩;have k5:Keep au wr w5:=k4.both hk5;refine hK _ _ ⟨fun _=>aQ.out _ k5,?_⟩;clear hK K hk5 CP hm k4;have KD:=zh (Pe.out.keep k5);have fM:=zh (HB.out.keep k5);obtain⟨⟨⟨ab,aS,ac,aU⟩,⟨bb,bS,bc,bU⟩⟩,_,g0,g1,g2,g3,g4,g5,g6,g7⟩:=qP KD.out.v (v:=S.basic[k]) Z0.out;simp only at g0 g1 g2 g3 g4 g5 g6 g7;have f:=MR KD.out.v;have f0:=f (S.basic[k]*8);have f1:=f (S.basic[k]*8+1);have f2:=f (S.basic[k]*8+2);have f3:=f (S.basic[k]*8+3);have f4:=f (S.basic[k]*8+4);have f5:=f (S.basic[k]*8+5);have f6:=f (S.basic[k]*8+6);have f7:=f (S.basic[k]*8+7);have hgl:=KD.out.v.lt;clear f
 (repeat(go_big_quiet_step (fail)));refine wpQuiet_nil ?_
 refine ay rfl rfl fun K hK=> ?_;go_simp;refine hK _ _ ⟨fun h=>(by simp at h),?_⟩;clear hK K x0 x1 x2 q0 q1 q2 q3 y0 y1 y2 y3 y4 y5 y6 y7 z0;have hown:=KD.out.own.2.2.2.1;have h5v:b5≠L.gv:=gV.out;have HL6:Hid (LT w0 (w8 w5 L.gv (S.basic[k]*8) ⟨⟨rb,rS,rc,rU⟩,⟨sb,sS,sc,sU⟩⟩) bT nm {S with vals:=S.mvK v d (k+1)} L):=zh (by
  have:=KD.out.setVals (vals':=S.mvK v d (k+1)) (by simp only [zw]) (QA KD.out.k hown) (fun b hb=>zQ hb) (by
   rw [HST.out];exact QC KD.out.v (v:=S.basic[k]) hr)
  exact this)
 have JO:Hid (aL (w8 w5 L.gv (S.basic[k]*8) ⟨⟨rb,rS,rc,rU⟩,⟨sb,sS,sc,sU⟩⟩) b5 #[.bool pb,.string pS,.bool pc,.string pU,.bool qb,.string qS,.bool qc,.string qU]):=zh (fM.out.same (zQ h5v));rw [show((((((((w5.setCell ⟨L.gv,S.basic[k]*8,none⟩ (.bool rb)).setCell ⟨L.gv,S.basic[k]*8+1,none⟩ (.string rS)).setCell ⟨L.gv,S.basic[k]*8+2,none⟩ (.bool rc)).setCell ⟨L.gv,S.basic[k]*8+3,none⟩ (.string rU)).setCell ⟨L.gv,S.basic[k]*8+4,none⟩ (.bool sb)).setCell ⟨L.gv,S.basic[k]*8+5,none⟩ (.string sS)).setCell ⟨L.gv,S.basic[k]*8+6,none⟩ (.bool sc)).setCell ⟨L.gv,S.basic[k]*8+7,none⟩ (.string sU))=w8 w5 L.gv (S.basic[k]*8) ⟨⟨rb,rS,rc,rU⟩,⟨sb,sS,sc,sU⟩⟩from rfl];generalize w8 w5 L.gv (S.basic[k]*8) ⟨⟨rb,rS,rc,rU⟩,⟨sb,sS,sc,sU⟩⟩=w6 at *;clear g0 g1 g2 g3 g4 g5 g6 g7 f0 f1 f2 f3 f4 f5 f6 f7 KD fM
 (repeat(go_big_quiet_step (fail)));refine wpQuiet_nil ?_
 refine NoPanic.normal ?_;go_wp2;go_roundw
 case rel=>exact⟨k+1,om,gn,HL6.out,JO.out⟩
 simp [intOf];omega
end Go.Proofs.YtaiffmebphhdaaaGreat
