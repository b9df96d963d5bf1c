/- Package cut: the reference's cutFails: clauses that fail by propagation. -/
import Derived.Test.YtaiffmebphhdaaaGreatCuR
import Derived.Deep.LoopGhost
namespace Go.Proofs.YtaiffmebphhdaaaGreat
set_option maxRecDepth 100000
set_option maxHeartbeats 16000000
set_option linter.unusedSimpArgs false
set_option linter.unusedVariables false
open Go.ChangeShapes Go.WideShapes Go.RowKit Go.Deep
def mY (so:List Int)(v:Nat):Int:=so.getD v 0
def mH:List Int→Nat
 | []=>0
 | x::l=>(if x=0 then 1 else 0)+mH l
theorem ED:∀ {so:List Int} {i:Nat} {v:Int},i<so.length→mY so i=0→v≠0→mH (so.set i v)+1=mH so
 | [],_,_,h,_,_=>by simp at h
 | x::l,0,v,_,h0,hv=>by
  have h0:x=0:=h0;simp only [List.set_cons_zero,mH];rw [if_neg hv,if_pos h0];omega
 | x::l,i+1,v,h,h0,hv=>by
  simp only [List.set_cons_succ,mH];have:=ED (so:=l) (i:=i) (v:=v) (by simpa using h) h0 hv;omega
theorem PG (so:List Int)(i j:Nat)(v:Int)(hi:i<so.length):mY (so.set i v) j=if j=i then v else mY so j:=by
 unfold mY;rw [dX,dX];by_cases h:j=i
 ·subst h;rw [if_pos rfl,List.getElem?_set_self hi];rfl
 rw [if_neg h,List.getElem?_set_ne om]
structure RZ (vars:Nat)(lits so:List Int):Prop where
 len:so.length=vars+1
 rng:∀v,-1≤mY so v∧mY so v≤1
 lit:∀l∈lits,jN (mY so) l= -1
theorem RZ.put {vars:Nat}{lits so:List Int}(h:RZ vars lits so){i:Nat}(hi:i≤vars)(h0:mY so i=0){v:Int}(hv:v=1∨v= -1):RZ vars lits (so.set i v):=by
 have hl:=h.len;refine⟨by rw [List.length_set];exact hl,fun j=> ?_,fun l hm=> ?_⟩
 ·rw [PG _ _ _ _ om];split
  ·omega
  exact h.rng j
 have:=h.lit l hm;unfold jN at this ⊢;rw [PG _ _ _ _ om];by_cases e:l.natAbs=i
 ·rw [e,h0]at this;exfalso;split at this<;>omega
 rw [if_neg e];exact this
def PI (lits:List Int)(vars k:Nat):List Int:=(List.range (vars+1)).map fun(v:Nat)=>if -(v:Int)∈lits.take k then 1 else 0
theorem Dp (lits:List Int)(vars k:Nat):(PI lits vars k).length=vars+1:=by simp [PI]
theorem Vz (lits:List Int)(vars:Nat):PI lits vars 0=List.replicate (vars+1) 0:=by
 apply List.ext_getElem
 ·simp [PI]
 intro i h1 h2;simp [PI]
theorem Yy {lits:List Int}{vars k:Nat}(hk:k<lits.length)(hn:lits[k]<0):(PI lits vars k).set lits[k].natAbs 1=PI lits vars (k+1):=by
 apply List.ext_getElem
 ·simp [PI]
 intro i h1 h2;rw [List.getElem_set];simp only [PI,List.getElem_map,List.getElem_range];rw [List.take_succ_eq_append_getElem hk];simp only [List.mem_append,List.mem_singleton];by_cases e:lits[k].natAbs=i
 ·rw [if_pos e,if_pos (.inr om)]
 rw [if_neg e];have:¬ -(i:Int)=lits[k]:=om;simp [this]
theorem VA {lits:List Int}{vars k v:Nat}(hv:v≤vars):mY (PI lits vars k) v=if -(v:Int)∈lits.take k then 1 else 0:=by
 unfold mY PI;rw [dX,List.getElem?_map,List.getElem?_range om];rfl
theorem zaE {lits:List Int}{vars:Nat}(h:∀l∈lits,l<0∧l.natAbs≤vars):RZ vars lits (PI lits vars lits.length):=by
 refine⟨Dp _ _ _,fun v=> ?_,fun l hl=> ?_⟩
 ·by_cases hv:v≤vars
  ·rw [VA hv];split<;>omega
  unfold mY;rw [dX,List.getElem?_eq_none (by rw [Dp];omega)];decide
 obtain⟨h1,h2⟩:=h l hl;unfold jN;rw [if_neg om,VA h2,if_pos (by rw [List.take_length,show -((l.natAbs:Nat):Int)=l from om];exact hl)]
def lU (so:Nat→Int)(c:List Int)(k:Nat):Nat:=((c.take k).filter fun x=>decide (jN so x=0)).length
def qH (so:Nat→Int)(c:List Int)(k:Nat):Bool:=(c.take k).any fun x=>decide (0<jN so x)
theorem Oi {so:Nat→Int}{c:List Int}{k:Nat}(hk:k<c.length):lU so c (k+1)=lU so c k+if jN so c[k]=0 then 1 else 0:=by
 unfold lU;rw [List.take_succ_eq_append_getElem hk,List.filter_append,List.length_append];by_cases h:jN so c[k]=0
 ·simp [h]
 simp [h]
theorem Oj {so:Nat→Int}{c:List Int}{k:Nat}(hk:k<c.length):qH so c (k+1)=(qH so c k || decide (0<jN so c[k])):=by
 unfold qH;rw [List.take_succ_eq_append_getElem hk,List.any_append];simp
theorem VB (so:Nat→Int)(c:List Int)(k:Nat):lU so c k≤k:=by
 unfold lU;exact Nat.le_trans (List.length_filter_le _ _) (by rw [List.length_take];omega)
theorem R3 (so:Nat→Int)(c:List Int):ze so c↔qH so c c.length=true∨1<lU so c c.length:=by
 unfold ze qH lU;rw [List.take_length,List.any_eq_true];simp
def EF (w:World)(v:Value)(l:List (List Int)):Prop:=
 ∃oa cap,v= .slice oa l.length cap∧l.length≤cap∧cap≤maxLen∧(l≠ []→∃b o,oa=some ⟨b,o,none⟩∧b<w.heap.size∧∀i c,l[i]? =some c→∃sv,w.cell? ⟨b,o+i,none⟩=some sv∧aW w sv c)
theorem EF.len {w:World}{v:Value}{l:List (List Int)}(h:EF w v l):∃oa cap,v= .slice oa l.length cap∧l.length≤cap∧cap≤maxLen:=by
 obtain⟨oa,cap,h1,h2,h3,_⟩:=h;exact⟨oa,cap,h1,h2,h3⟩
theorem EF.at {w:World}{oa:Option Addr}{n cap:Nat}{l:List (List Int)}(h:EF w (.slice oa n cap) l){k:Nat}(hk:k<l.length):
  ∃b o oc cc,oa=some ⟨b,o,none⟩∧b<w.heap.size∧w.cell? ⟨b,o+k,none⟩=some (.slice oc l[k].length cc)∧aW w (.slice oc l[k].length cc) l[k]∧l[k].length≤maxLen:=by
 obtain⟨XL,cap',hv,_,_,h4⟩:=h;cases hv;obtain⟨b,o,e,hb,hc⟩:=h4 (by rintro rfl;simp at hk);obtain⟨sv,h1,h2⟩:=hc k l[k] (by simp [hk]);obtain⟨oc,cc,rfl,hm⟩:=h2.len;exact⟨b,o,oc,cc,e,hb,h1,h2,hm⟩
theorem zf {w:World}{base b n:Nat}{xs:List Int}(h:bD w base (.slice (some ⟨b,0,none⟩) n n) xs)(hl:xs.length=n){i:Nat}(hi:i<n):w.cell? ⟨b,i,none⟩=some (.int .i64 (mY xs i))∧w.frozen? ⟨b,i,none⟩=false∧b<w.heap.size:=by
 obtain⟨b',c',hv,_,hlt,hc⟩:=uV h (by rintro rfl;simp at hl;omega);cases hv;obtain⟨A,hA⟩:=gF h (b:=b) rfl;exact⟨hc i om,aL.free (A:=A) ⟨_,hA⟩ i,hlt⟩
theorem Ol {w:World}{base b n:Nat}{xs:List Int}(h:bD w base (.slice (some ⟨b,0,none⟩) n n) xs)(hl:xs.length=n){i:Nat}(hi:i<n)(v:Int):bD (w.setCell ⟨b,i,none⟩ (.int .i64 v)) base (.slice (some ⟨b,0,none⟩) n n) (xs.set i v):=by
 subst hl;exact h.set hi v
structure F4 (vars:Nat)(lits:List Int)(cl:List (List Int))(z:Nat)(so:List Int)(ag:Bool)(k:Nat):Prop where
 ok:RZ vars lits so
 le:mH so≤z
 lt:ag=true→mH so+1≤z
 op:ag=false→∀c∈cl.take k,ze (mY so) c
theorem F4.open {vars:Nat}{lits:List Int}{cl:List (List Int)}{z:Nat}{so:List Int}{ag:Bool}{k:Nat}(h:F4 vars lits cl z so ag k)(hk:k<cl.length)(ho:ze (mY so) cl[k]):F4 vars lits cl z so ag (k+1):=
 ⟨h.ok,h.le,h.lt,fun e c hc=>by
  rw [List.take_succ_eq_append_getElem hk,List.mem_append,List.mem_singleton]at hc;rcases hc with hc | rfl
  ·exact h.op e c hc
  exact ho⟩
theorem F4.put {vars:Nat}{lits:List Int}{cl:List (List Int)}{z:Nat}{so:List Int}{ag:Bool}{k:Nat}(h:F4 vars lits cl z so ag k){i:Nat}(hi:i≤vars)(h0:mY so i=0){v:Int}(hv:v=1∨v= -1):F4 vars lits cl z (so.set i v) true (k+1):=by
 have hz:=ED (v:=v) (by rw [h.ok.len];omega) h0 om;have:=h.le;exact⟨h.ok.put hi h0 hv,om,fun _=>om,fun e=>by cases e⟩
theorem UPF.end {cl:List (List Int)}{lits:List Int}(h:UPF cl lits){vars z:Nat}{so:List Int}(hi:F4 vars lits cl z so false cl.length):False:=by
 obtain⟨c,hc,ho⟩:=h _ hi.ok.rng hi.ok.lit;exact ho (hi.op rfl c (by rw [List.take_length];exact hc))
def KH (so:Nat→Int)(c:List Int)(k:Nat)(x:Int):Prop:=0<lU so c k→x∈c∧jN so x=0
theorem Jb (w:World)(v u:Value)(cl:List (List Int))(lits:List Int)(vars:Nat)(h:EF w v cl)(hl:aW w u lits)(hn:∀l∈lits,l<0∧l.natAbs≤vars)(hc:∀c∈cl,∀x∈c,x≠0∧x.natAbs≤vars)(hv:vars≤1000)(hu:UPF cl lits):
  Calls Tryz.prog 27 #[v,u,.int .i64 (vars:Int)] w fun e w'=>e= .returned (.bool true)∧Keep au w w':=by
 have HC:=zh h;have HL:=zh hl;have HN:=zh hn;have HX:=zh hc;have HU:=zh hu;obtain⟨oa,ca,rfl,hca,hma⟩:=h.len;obtain⟨ol,cl',rfl,hml⟩:=hl.len;unfold maxLen at hma hml;have hcl:cl.length≤2^63-1:=Nat.le_trans hca hma;obtain⟨w1,hr1,ho1,hk1⟩:=Aw w (vars+1) om;obtain⟨n,hnn⟩:∃n,n=vars+1:=⟨_,rfl⟩;rw [← hnn]at hr1 ho1;have hr1:(Instr.makeSlice 38 (.int .i64 ((vars:Int)+1)) (.int .i64 ((vars:Int)+1))).run Tryz.prog w= .ok (.slice (some ⟨w.heap.size,0,none⟩) n n) w1:=by rw [show(vars:Int)+1=(n:Int)from om];exact hr1
 have RG:=zh ho1;have Ac:=zh hnn;have hn1:n≤1001:=om;obtain⟨bo,hbo⟩:∃bo,w.heap.size=bo:=⟨_,rfl⟩;have FK:=zh hbo;have K1:=zh hk1;rw [hbo]at hr1;clear h hl hn hc hu hca hma ho1 hnn hbo hk1;go_enter Tryz.func27,Tryz.ntmps27;go_wp2;go_loopw [8] (fun s wr=>∃k:Nat,k≤lits.length∧s= .int .i64 k∧bD wr w.heap.size (.slice (some ⟨bo,0,none⟩) n n) (PI lits vars k)∧Keep au w wr) (fun s _=>(lits.length-intOf s).toNat)
 case atStart=>exact⟨0,om,rfl,by rw [Vz,←Ac.out,←FK.out]at *;exact RG.out,K1.out⟩
 obtain⟨k,hk,rfl,hou,hkr⟩:=hrel;have kN:=zh hou;have KR:=zh hkr;clear hou hkr;by_cases hkl:k<lits.length
 case pos=>
  have hlt:(k:Int)<(lits.length:Int):=om;obtain⟨bl,ofl,cl',hv',hbl,p0⟩:=HL.out.at hkl;injection hv' with q1 q2 q3;clear q2;subst q1;subst q3;have p0:=(KR.out.cell hbl).trans p0;have NZ:=dJ hbl KR.out.size;obtain⟨g1,g2⟩:=HN.out _ (List.getElem_mem hkl);have HS:=zh (Yy (vars:=vars) hkl g1);generalize lits[k]=y at *;obtain⟨q,rfl⟩:∃q:Nat,y= -((q:Int)+1):=⟨y.natAbs-1,om⟩;rw [show(-((q:Int)+1)).natAbs=q+1 from om]at HS g2;have f0:¬0< -((q:Int)+1):=om;have f1:(q:Int)+1<(n:Int):=by have:=Ac.out;omega
  obtain⟨m0,m1,m2⟩:=zf kN.out (by rw [Dp,Ac.out]) (i:=q+1) om;have Gz:=zh (Ol kN.out (by rw [Dp,Ac.out]) (i:=q+1) om 1);rw [HS.out]at Gz;clear g1 g2 HS hbl;go_wp2;go_roundw
  case rel=>exact⟨k+1,om,gn,Gz.out,iC KR.out _ (by rw [FK.out];exact Nat.le_refl _)⟩
  simp [intOf];omega
 have hlt:¬(k:Int)<(lits.length:Int):=om;obtain rfl:lits.length=k:=om;have Dn:=zh (zaE HN.out);obtain⟨so0,hso⟩:∃so,PI lits vars lits.length=so:=⟨_,rfl⟩;rw [hso]at kN Dn;clear hso K1 RG HL HN hr1 hkl hk;obtain⟨w2,rfl⟩:∃W:World,W=wr:=⟨_,rfl⟩;go_wp2;go_loopg [9] (2*mH so0+1) (fun gk s wr=>∃(so:List Int) (ag:Bool),s= .bool ag∧RZ vars lits so∧(ag=false→∀c∈cl,ze (mY so) c)∧2*mH so+(if ag then 1 else 0)≤gk∧bD wr w.heap.size (.slice (some ⟨bo,0,none⟩) n n) so∧Keep au w wr)
 case atStart=>exact⟨so0,true,rfl,Dn.out,fun e=>(by cases e),Nat.le_refl _,kN.out,KR.out⟩
 obtain⟨so,ag,rfl,hok,hop,hgk,hou,hkr⟩:=hrel;rcases ag with _ | _
 case false=>exact absurd (F4.mk hok (Nat.le_refl (mH so)) (fun e=>by cases e) (fun _ c hc=>hop rfl c (List.mem_of_mem_take hc))) fun hi=>HU.out.end hi
 have zbK:=zh (F4.mk (cl:=cl) (k:=0) (ag:=false) hok (Nat.le_refl (mH so)) (fun e=>by cases e) (fun _ c hc=>by simp at hc));have HGK:Hid (2*mH so+1≤gk):=zh (by simpa using hgk);have HOV:=zh hou;have KV:=zh hkr;clear hok hop hgk hou hkr kN KR Dn;obtain⟨z,hz⟩:∃z,mH so=z:=⟨_,rfl⟩;rw [hz]at zbK HGK;clear hz;obtain⟨w3,rfl⟩:∃W:World,W=wr:=⟨_,rfl⟩;go_wp2;go_loopw [10,9] (fun s t wr=>∃(k:Nat) (ag:Bool) (so:List Int),k≤cl.length∧s= .int .i64 k∧t= .bool ag∧F4 vars lits cl z so ag k∧bD wr w.heap.size (.slice (some ⟨bo,0,none⟩) n n) so∧Keep au w wr) (fun s _ _=>(cl.length-intOf s).toNat)
 case atStart=>exact⟨0,false,so,om,rfl,rfl,zbK.out,HOV.out,KV.out⟩
 obtain⟨k,ag,sF,hk,rfl,rfl,hinv,hou,hkr⟩:=hrel;have HI:=zh hinv;have kN:=zh hou;have KR:=zh hkr;clear hinv hou hkr;by_cases hkl:k<cl.length
 case neg=>
  have hlt:¬(k:Int)<(cl.length:Int):=om;obtain rfl:cl.length=k:=om;clear hkl;rcases ag with _ | _
  case false=>exact absurd HI.out fun hi=>HU.out.end hi
  go_wp2;go_roundg (gk-1)
  case measure=>have:=HGK.out;omega
  exact⟨sF,true,rfl,HI.out.ok,fun e=>(by cases e),by have:=HGK.out;have:=HI.out.lt rfl;simp;omega,kN.out,KR.out⟩
 have hlt:(k:Int)<(cl.length:Int):=om;obtain⟨bc,oc,ob,cb,rfl,hbc,c0,c1,c2⟩:=HC.out.at hkl;have c0:=(KR.out.cell hbc).trans c0;have hbcr:=dJ hbc KR.out.size;have Ns:=zh (c1.keep KR.out);have HXC:=zh (HX.out _ (List.getElem_mem hkl));have zaF:=zh (fun h=>HI.out.open hkl h);clear c1 hbc;generalize cl[k]=c at *;unfold maxLen at c2;obtain⟨w4,rfl⟩:∃W:World,W=wr:=⟨_,rfl⟩;go_wp2;go_loopw [11,12,13,14] (fun p m h t wr=>∃(j:Nat) (x:Int),j≤c.length∧p= .int .i64 x∧m= .int .i64 (lU (mY sF) c j:Nat)∧h= .bool (qH (mY sF) c j)∧t= .int .i64 j∧KH (mY sF) c j x∧wr=w4) (fun _ _ _ t _=>(c.length-intOf t).toNat)
 case atStart=>exact⟨0,0,om,rfl,rfl,rfl,rfl,fun h=>by simp [lU]at h,rfl⟩
 obtain⟨j,x,hj,rfl,rfl,rfl,rfl,hone,hw⟩:=hrel;have hw:w4=wr:=hw.symm;subst hw;have hmj:=VB (mY sF) c j;unfold KH at hone;have H1:=zh hone;clear hone;by_cases hjl:j<c.length
 case pos=>
  have hjt:(j:Int)<(c.length:Int):=om;obtain⟨be,oe,ce,hv',hbe,p0⟩:=Ns.out.at hjl;injection hv' with q1 q2 q3;clear q2;subst q1;subst q3;obtain⟨g1,g2⟩:=HXC.out _ (List.getElem_mem hjl);have HM:=zh (Oi (so:=mY sF) hjl);have HH:=zh (Oj (so:=mY sF) hjl);have KL:=zh (List.getElem_mem hjl);generalize c[j]=y at *;generalize lU (mY sF) c j=m at *;generalize qH (mY sF) c j=hh at *;have hml:m<2^63-1:=om;rcases Int.lt_or_lt_of_ne g1 with hy | hy
  ·obtain ⟨q,rfl⟩:∃q:Nat,y= -((q:Int)+1):=⟨y.natAbs-1,om⟩;rw [show(-((q:Int)+1)).natAbs=q+1 from om]at g2;have HV:Hid (jN (mY sF) (-((q:Int)+1))= -mY sF (q+1)):=zh (by unfold jN;rw [if_neg om];congr 2);have f0:¬0< -((q:Int)+1):=om;have f1:(q:Int)+1<(n:Int):=by have:=Ac.out;omega
   obtain⟨m0,m1,m2⟩:=zf kN.out (by rw [HI.out.ok.len,Ac.out]) (i:=q+1) om;have hrg:=HI.out.ok.rng (q+1);clear g1 g2;generalize mY sF (q+1)=e at *;have he:e= -1∨e=0∨e=1:=om;clear hrg m1;rcases he with rfl | rfl | rfl
   ·have Om:Hid (lU (mY sF) c (j+1)=m):=zh (by rw [HM.out,HV.out];rfl);have VD:Hid (qH (mY sF) c (j+1)=true):=zh (by rw [HH.out,HV.out];simp);have VE:Hid (KH (mY sF) c (j+1) x):=zh fun h=>H1.out (by rw [Om.out]at h;exact h);clear HM HH HV KL;go_wp2;go_roundw
    case rel=>exact⟨j+1,x,om,rfl,by rw [Om.out],by rw [VD.out],gn,VE.out,by trivial⟩
    simp [intOf];omega
   ·have Om:Hid (lU (mY sF) c (j+1)=m+1):=zh (by rw [HM.out,HV.out];rfl);have VD:Hid (qH (mY sF) c (j+1)=hh):=zh (by rw [HH.out,HV.out];simp);have VE:Hid (KH (mY sF) c (j+1) (-((q:Int)+1))):=zh fun _=>⟨KL.out,HV.out⟩;clear HM HH HV KL;go_wp2;go_roundw
    case rel=>exact⟨j+1,_,om,rfl,by rw [Om.out];go_num,by rw [VD.out],gn,VE.out,by trivial⟩
    simp [intOf];omega
   have Om:Hid (lU (mY sF) c (j+1)=m):=zh (by rw [HM.out,HV.out];rfl);have VD:Hid (qH (mY sF) c (j+1)=hh):=zh (by rw [HH.out,HV.out];simp);have VE:Hid (KH (mY sF) c (j+1) x):=zh fun h=>H1.out (by rw [Om.out]at h;exact h);clear HM HH HV KL;go_wp2;go_roundw
   case rel=>exact⟨j+1,x,om,rfl,by rw [Om.out],by rw [VD.out],gn,VE.out,by trivial⟩
   simp [intOf];omega
  obtain⟨q,rfl⟩:∃q:Nat,y=(q:Int)+1:=⟨y.natAbs-1,om⟩;rw [show((q:Int)+1).natAbs=q+1 from om]at g2;have HV:Hid (jN (mY sF) ((q:Int)+1)=mY sF (q+1)):=zh (by unfold jN;rw [if_pos om];congr 1);have f0:0<(q:Int)+1:=om;have f1:(q:Int)+1<(n:Int):=by have:=Ac.out;omega
  obtain⟨m0,m1,m2⟩:=zf kN.out (by rw [HI.out.ok.len,Ac.out]) (i:=q+1) om;have hrg:=HI.out.ok.rng (q+1);clear g1 g2;generalize mY sF (q+1)=e at *;have he:e= -1∨e=0∨e=1:=om;clear hrg m1;rcases he with rfl | rfl | rfl
  ·have Om:Hid (lU (mY sF) c (j+1)=m):=zh (by rw [HM.out,HV.out];rfl);have VD:Hid (qH (mY sF) c (j+1)=hh):=zh (by rw [HH.out,HV.out];simp);have VE:Hid (KH (mY sF) c (j+1) x):=zh fun h=>H1.out (by rw [Om.out]at h;exact h);clear HM HH HV KL;go_wp2;go_roundw
   case rel=>exact⟨j+1,x,om,rfl,by rw [Om.out],by rw [VD.out],gn,VE.out,by trivial⟩
   simp [intOf];omega
  ·have Om:Hid (lU (mY sF) c (j+1)=m+1):=zh (by rw [HM.out,HV.out];rfl);have VD:Hid (qH (mY sF) c (j+1)=hh):=zh (by rw [HH.out,HV.out];simp);have VE:Hid (KH (mY sF) c (j+1) ((q:Int)+1)):=zh fun _=>⟨KL.out,HV.out⟩;clear HM HH HV KL;go_wp2;go_roundw
   case rel=>exact⟨j+1,_,om,rfl,by rw [Om.out];go_num,by rw [VD.out],gn,VE.out,by trivial⟩
   simp [intOf];omega
  have Om:Hid (lU (mY sF) c (j+1)=m):=zh (by rw [HM.out,HV.out];rfl);have VD:Hid (qH (mY sF) c (j+1)=true):=zh (by rw [HH.out,HV.out];simp);have VE:Hid (KH (mY sF) c (j+1) x):=zh fun h=>H1.out (by rw [Om.out]at h;exact h);clear HM HH HV KL;go_wp2;go_roundw
  case rel=>exact⟨j+1,x,om,rfl,by rw [Om.out],by rw [VD.out],gn,VE.out,by trivial⟩
  simp [intOf];omega
 have hjt:¬(j:Int)<(c.length:Int):=om;obtain rfl:c.length=j:=om;have yE:=zh (R3 (mY sF) c);generalize lU (mY sF) c c.length=m at *;generalize qH (mY sF) c c.length=hh at *;clear hjl;rcases hh with _ | _
 case true=>
  have TY:=zh (zaF.out (yE.out.2 (.inl rfl)));go_wp2;go_roundw
  case rel=>exact⟨k+1,ag,sF,om,gn,rfl,TY.out,kN.out,KR.out⟩
  simp [intOf];omega
 by_cases h1:1<m
 case pos=>
  have f1:(1:Int)<(m:Int):=om;have TY:=zh (zaF.out (yE.out.2 (.inr h1)));go_wp2;go_roundw
  case rel=>exact⟨k+1,ag,sF,om,gn,rfl,TY.out,kN.out,KR.out⟩
  simp [intOf];omega
 by_cases h0:m=0
 case pos=>
  subst h0;go_wp2;go_ret;exact⟨rfl,KR.out⟩
 obtain rfl:m=1:=om;obtain⟨hxm,hxv⟩:=H1.out om;obtain⟨g1,g2⟩:=HXC.out _ hxm;clear H1 yE zaF h1 h0 hxm hmj;rcases Int.lt_or_lt_of_ne g1 with hy | hy
 ·obtain ⟨q,rfl⟩:∃q:Nat,x= -((q:Int)+1):=⟨x.natAbs-1,om⟩;rw [show(-((q:Int)+1)).natAbs=q+1 from om]at g2;have hz0:mY sF (q+1)=0:=by
   unfold jN at hxv;rw [if_neg om,show(-((q:Int)+1)).natAbs=q+1 from om]at hxv;omega
  have f0:¬0< -((q:Int)+1):=om;have f1:(q:Int)+1<(n:Int):=by have:=Ac.out;omega
  have HP:=zh (HI.out.put g2 hz0 (v:= -1) (.inr rfl));obtain⟨m0,m1,m2⟩:=zf kN.out (by rw [HI.out.ok.len,Ac.out]) (i:=q+1) om;have Gz:=zh (Ol kN.out (by rw [HI.out.ok.len,Ac.out]) (i:=q+1) om (-1));clear hxv hz0 g1 g2 hy;go_wp2;go_roundw
  case rel=>exact⟨k+1,true,_,om,gn,rfl,HP.out,Gz.out,iC KR.out _ (by rw [FK.out];exact Nat.le_refl _)⟩
  simp [intOf];omega
 obtain⟨q,rfl⟩:∃q:Nat,x=(q:Int)+1:=⟨x.natAbs-1,om⟩;rw [show((q:Int)+1).natAbs=q+1 from om]at g2;have hz0:mY sF (q+1)=0:=by
  unfold jN at hxv;rw [if_pos om,show((q:Int)+1).natAbs=q+1 from om]at hxv;omega
 have f0:0<(q:Int)+1:=om;have f1:(q:Int)+1<(n:Int):=by have:=Ac.out;omega
 have HP:=zh (HI.out.put g2 hz0 (v:=1) (.inl rfl));obtain⟨m0,m1,m2⟩:=zf kN.out (by rw [HI.out.ok.len,Ac.out]) (i:=q+1) om;have Gz:=zh (Ol kN.out (by rw [HI.out.ok.len,Ac.out]) (i:=q+1) om 1);clear hxv hz0 g1 g2 hy;go_wp2;go_roundw
 case rel=>exact⟨k+1,true,_,om,gn,rfl,HP.out,Gz.out,iC KR.out _ (by rw [FK.out];exact Nat.le_refl _)⟩
 simp [intOf];omega
end Go.Proofs.YtaiffmebphhdaaaGreat
