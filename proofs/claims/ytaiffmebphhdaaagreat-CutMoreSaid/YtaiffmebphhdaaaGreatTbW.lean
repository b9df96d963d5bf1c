/- The tableau, plain: with the least variables the search ends (Bland). -/
import Derived.Test.YtaiffmebphhdaaaGreatTbV
namespace Go.Proofs.YtaiffmebphhdaaaGreat
set_option linter.unusedSimpArgs false
set_option linter.unusedVariables false
open Go.ChangeShapes Go.WideShapes Go.RowKit
def ni (a b:Rat):Prop:=a<0∨a=0∧b<0
def zZ (a b:Rat):Prop:=a<0∨a=0∧b≤0
theorem ni.le {a b:Rat}(h:ni a b):zZ a b:=by
 unfold ni at h;unfold zZ
 grind
theorem zZ.zero:zZ 0 0:= .inr ⟨rfl,Rat.le_refl⟩
theorem zZ.add {a b c d:Rat}(h:zZ a b)(k:zZ c d):zZ (a+c) (b+d):=by
 unfold zZ at*
 grind
theorem ni.addL {a b c d:Rat}(h:ni a b)(k:zZ c d):ni (a+c) (b+d):=by
 unfold ni zZ at*
 grind
theorem ni.addR {a b c d:Rat}(h:zZ a b)(k:ni c d):ni (a+c) (b+d):=by
 unfold ni zZ at*
 grind
theorem zZ.sum {f g:Nat→Rat}:∀n,(∀j,j<n→zZ (f j) (g j))→zZ (sQ n f) (sQ n g)
 | 0,_=>zZ.zero
 | n+1,h=>(zZ.sum n fun j hj=>h j (by omega)).add (h n (by omega))
theorem ni.sum {f g:Nat→Rat}{r:Nat}:∀n,r<n→(∀j,j<n→zZ (f j) (g j))→ni (f r) (g r)→ni (sQ n f) (sQ n g)
 | 0,h,_,_=>absurd h (by omega)
 | n+1,h,hl,hr=>by
  by_cases e:r=n
  ·subst e
   exact ni.addR (zZ.sum r fun j hj=>hl j (by omega)) hr
  ·exact ni.addL (ni.sum n (by omega) (fun j hj=>hl j (by omega)) hr) (hl n (by omega))
theorem sO {c a:Rat}(hc:0<c)(ha:a<0):c*a<0:=by
 have:=Rat.mul_pos hc (show 0< -a by grind)
 grind
theorem ni.mulP {c a b:Rat}(hc:0<c)(h:ni a b):ni (c*a) (c*b):=by
 rcases h with h | ⟨h1,h2⟩
 ·exact .inl (sO hc h)
 ·exact .inr ⟨by rw [h1,Rat.mul_zero],sO hc h2⟩
theorem zZ.mulP {c a b:Rat}(hc:0<c)(h:zZ a b):zZ (c*a) (c*b):=by
 rcases h with h | ⟨h1,h2⟩
 ·exact .inl (sO hc h)
 ·refine .inr ⟨by rw [h1,Rat.mul_zero],?_⟩
  rcases(by grind:b<0∨b=0)with h | h
  ·have:=sO hc h;grind
  ·rw [h,Rat.mul_zero];exact Rat.le_refl
structure Stp (S S':TS)(b:Nat)(way:Int)(e:Nat):Prop where
 brk:OP S b way
 ent:S.enter (S.lineOf b) way=some e
 nxt:S'=S.next b way e
theorem Stp.basic {n:Nat}{rows:List Rw}{S S':TS}{b e:Nat}{way:Int}(h:Stp S S' b way e)(hI:Inv n rows S):
  e∉S.basic∧b∈S.basic∧b≠e∧∀v,v∈S'.basic↔v=e∨v∈S.basic∧v≠b:=by
 obtain⟨hi,hib⟩:=lW h.brk.mem;obtain⟨hek,⟨hc,_⟩,_⟩:=xQ h.ent;have hbl:=hI.wf.bl;rw [hI.hr]at hbl;have QW:e∉S.basic:=hI.not_basic (i:=S.lineOf b) (by omega) hc
 refine⟨QW,h.brk.mem,fun hx=>QW (hx ▸ h.brk.mem),fun v=> ?_⟩
 rw [h.nxt];show v∈S.basic.set (S.lineOf b) e↔_
 constructor
 ·intro hv
  rcases List.mem_or_eq_of_mem_set hv with hv' | rfl
  ·by_cases hvb:v=b
   ·subst hvb
    by_cases hve:v=e
    ·exact .inl hve
    ·exfalso
     obtain⟨j,hj,hjv⟩:=List.getElem_of_mem hv;rw [List.getElem_set]at hjv
     split at hjv
     ·exact hve hjv.symm
     ·rename_i hne
      have hj':j<S.basic.length:=by simpa using hj
      rw [qz hi]at hib;have:=(List.getElem_inj hI.wf.nd).1 (hib.trans hjv.symm);exact hne this
   ·exact .inr ⟨hv',hvb⟩
  ·exact .inl rfl
 ·rintro (rfl | ⟨hv,hvb⟩)
  ·exact List.mem_set hi v
  ·obtain ⟨j,hj,rfl⟩:=List.getElem_of_mem hv
   have hne:S.lineOf b≠j:=fun e'=>by
    subst e';rw [qz hi]at hib;exact hvb hib
   have e':(S.basic.set (S.lineOf b) e)[j]'(by simpa using hj)=S.basic[j]:=by rw [List.getElem_set,if_neg hne]
   rw [← e'];exact List.getElem_mem _
structure Way (n:Nat)(rows:List Rw)(f:Nat)(s:Nat→TS)(bv ev:Nat→Nat)(wy:Nat→Int):Prop where
 inv:∀t,t≤f→Inv n rows (s t)
 stp:∀t,t<f→Stp (s t) (s (t+1)) (bv t) (wy t) (ev t)
theorem Way.still {n:Nat}{rows:List Rw}{f:Nat}{s:Nat→TS}{bv ev:Nat→Nat}{wy:Nat→Int}(h:Way n rows f s bv ev wy){i v:Nat}:∀d,i+d≤f→(∀t,i≤t→t<i+d→bv t≠v∧ev t≠v)→(v∈(s (i+d)).basic↔v∈(s i).basic)
 | 0,_,_=>Iff.rfl
 | d+1,hd,hn=>by
  have ih:=h.still (i:=i) (v:=v) d (by omega) fun t h1 h2=>hn t h1 (by omega)
  obtain⟨h1,h2⟩:=hn (i+d) (by omega) (by omega)
  rw [← ih];have:=((h.stp (i+d) (by omega)).basic (h.inv _ (by omega))).2.2.2 v
  rw [show i+(d+1)=i+d+1 from rfl,this]
  constructor
  ·rintro (e | ⟨hv,_⟩)
   ·exact absurd e.symm h2
   ·exact hv
  ·intro hv
   exact .inr ⟨hv,fun e=>h1 e.symm⟩
theorem Way.left {n:Nat}{rows:List Rw}{f:Nat}{s:Nat→TS}{bv ev:Nat→Nat}{wy:Nat→Int}(h:Way n rows f s bv ev wy){i v:Nat}:∀d,i+d≤f→v∈(s i).basic→v∉(s (i+d)).basic→∃t,i≤t∧t<i+d∧bv t=v
 | 0,_,h1,h2=>absurd h1 h2
 | d+1,hd,h1,h2=>by
  by_cases hm:v∈(s (i+d)).basic
  ·refine ⟨i+d,by omega,by omega,Classical.byContradiction fun hne=>h2 ?_⟩
   exact(((h.stp (i+d) (by omega)).basic (h.inv _ (by omega))).2.2.2 v).2 (.inr ⟨hm,fun e=>hne e.symm⟩)
  ·obtain ⟨t,h3,h4,h5⟩:=h.left d (by omega) h1 hm
   exact⟨t,h3,by omega,h5⟩
theorem Way.came {n:Nat}{rows:List Rw}{f:Nat}{s:Nat→TS}{bv ev:Nat→Nat}{wy:Nat→Int}(h:Way n rows f s bv ev wy){i v:Nat}:∀d,i+d≤f→v∉(s i).basic→v∈(s (i+d)).basic→∃t,i≤t∧t<i+d∧ev t=v
 | 0,_,h1,h2=>absurd h2 h1
 | d+1,hd,h1,h2=>by
  by_cases hm:v∈(s (i+d)).basic
  ·obtain ⟨t,h3,h4,h5⟩:=h.came d (by omega) h1 hm
   exact⟨t,h3,by omega,h5⟩
  ·refine ⟨i+d,by omega,by omega,?_⟩
   rcases(((h.stp (i+d) (by omega)).basic (h.inv _ (by omega))).2.2.2 v).1 h2 with e | ⟨h3,_⟩
   ·exact e.symm
   ·exact absurd h3 hm
theorem great (g:Nat→Nat):∀k,0<k→∃t,t<k∧∀u,u<k→g u≤g t
 | 0,h=>absurd h (by omega)
 | 1,_=>⟨0,by omega,fun u hu=>by rw [show u=0 by omega];exact Nat.le_refl _⟩
 | k+2,_=>by
  obtain⟨t,h1,h2⟩:=great g (k+1) (by omega)
  by_cases hx:g t≤g (k+1)
  ·refine ⟨k+1,by omega,fun u hu=> ?_⟩
   by_cases e:u=k+1
   ·rw [e];exact Nat.le_refl _
   ·exact Nat.le_trans (h2 u (by omega)) hx
  ·refine ⟨t,by omega,fun u hu=> ?_⟩
   by_cases e:u=k+1
   ·rw [e];omega
   ·exact h2 u (by omega)
theorem Inv.kept {n:Nat}{rows:List Rw}{S:TS}(h:Inv n rows S){v:Nat}(hv:v<n+rows.length)(hb:v∈S.basic→¬S.lowB v∧¬S.upB v):
  (gK n v=true→zZ ((S.val v).n-(fF n rows v).n) ((S.val v).s-(fF n rows v).s))∧(hasLo n rows v=true→S.val v=fF n rows v):=by
 by_cases hm:v∈S.basic
 ·obtain ⟨h1,h2⟩:=hb hm
  unfold TS.upB at h2;unfold TS.lowB at h1;rw [h.hn,h.hr,rG]at h2;rw [h.hn,h.hr,uY]at h1
  constructor
  ·intro hu
   have h3:¬_:=fun hx=>h2 ⟨hu,hx⟩
   unfold zZ
   grind
  ·intro hlo
   have hu:gK n v=true:=by
    unfold hasLo at hlo;unfold gK;exact decide_eq_true (of_decide_eq_true hlo).1
   have h3:¬((fF n rows v).n<(S.val v).n∨(S.val v).n=(fF n rows v).n∧(fF n rows v).s<(S.val v).s):=fun hx=>h2 ⟨hu,hx⟩
   have h4:¬((S.val v).n<(qZ n rows v).n∨(S.val v).n=(qZ n rows v).n∧(S.val v).s<(qZ n rows v).s):=fun hx=>h1 ⟨hlo,hx⟩
   rw [oP hlo]at h4;generalize fF n rows v=u at h3 h4;generalize S.val v=x at h3 h4;obtain⟨u1,u2⟩:=u;obtain⟨x1,x2⟩:=x;simp only at h3 h4;rw [Pr.mk.injEq]
   constructor<;>grind
 ·have:=h.up v hv hm
  rw [this];exact⟨fun _=>by unfold zZ;right;constructor<;>grind,fun _=>rfl⟩
theorem zbq {n:Nat}{rows:List Rw}{f:Nat}{s:Nat→TS}{bv ev:Nat→Nat}{wy:Nat→Int}(h:Way n rows f s bv ev wy){i d:Nat}(hd:0<d)(hf:i+d≤f)(hsame:∀v,v∈(s (i+d)).basic↔v∈(s i).basic):False:=by
 have hB:∀t,t<f→_:=fun t ht=>(h.stp t ht).basic (h.inv t (by omega))
 have zbr:∀t,i≤t→t<i+d→∃t',i≤t'∧t'<i+d∧ev t'=bv t:=by
  intro t h1 h2;obtain⟨_,hb,hbe,hx⟩:=hB t (by omega)
  have hn:bv t∉(s (t+1)).basic:=fun hm=>by
   rcases(hx _).1 hm with e | ⟨_,e⟩
   ·exact hbe e
   ·exact e rfl
  by_cases hm:bv t∈(s i).basic
  ·obtain ⟨t',h3,h4,h5⟩:=h.came (i:=t+1) (v:=bv t) (i+d-(t+1)) (by omega) hn (by rw [show t+1+(i+d-(t+1))=i+d by omega,hsame];exact hm)
   exact⟨t',by omega,by omega,h5⟩
  ·obtain ⟨t',h3,h4,h5⟩:=h.came (i:=i) (v:=bv t) (t-i) (by omega) hm (by rw [show i+(t-i)=t by omega];exact hb)
   exact⟨t',by omega,by omega,h5⟩
 have hleave:∀t,i≤t→t<i+d→∃t',i≤t'∧t'<i+d∧bv t'=ev t:=by
  intro t h1 h2;obtain⟨he,_,hbe,hx⟩:=hB t (by omega)
  have hn:ev t∈(s (t+1)).basic:=(hx _).2 (.inl rfl)
  by_cases hm:ev t∈(s i).basic
  ·obtain ⟨t',h3,h4,h5⟩:=h.left (i:=i) (v:=ev t) (t-i) (by omega) hm (by rw [show i+(t-i)=t by omega];exact he)
   exact⟨t',by omega,by omega,h5⟩
  ·obtain ⟨t',h3,h4,h5⟩:=h.left (i:=t+1) (v:=ev t) (i+d-(t+1)) (by omega) hn (by rw [show t+1+(i+d-(t+1))=i+d by omega,hsame];exact hm)
   exact⟨t',by omega,by omega,h5⟩
 obtain⟨q0,hq0,hmax0⟩:=great (fun u=>ev (i+u)) d hd
 obtain⟨q,hq⟩:∃q,q=i+q0:=⟨_,rfl⟩;obtain⟨r,hr⟩:∃r,r=ev q:=⟨_,rfl⟩;have YO:∀t,i≤t→t<i+d→ev t≤r:=by
  intro t h1 h2;have:=hmax0 (t-i) (by omega)
  rw [show i+(t-i)=t by omega,←hq,←hr]at this
  exact this
 have YP:∀t,i≤t→t<i+d→bv t≤r:=by
  intro t h1 h2;obtain⟨t',h3,h4,h5⟩:=zbr t h1 h2;rw [← h5];exact YO t' h3 h4
 obtain⟨p,hp1,hp2,hpr⟩:=hleave q (by omega) (by omega)
 rw [← hr]at hpr;have Iq:=h.inv q (by omega)
 have Ip:=h.inv p (by omega)
 have Sq:=h.stp q (by omega)
 have Sp:=h.stp p (by omega)
 obtain⟨heq,hbq,hbeq,_⟩:=hB q (by omega)
 rw [← hr]at heq hbeq;have hbr:bv q<r:=by
  have:=YP q (by omega) (by omega)
  omega
 have Bp:=Sp.brk;rw [hpr]at Bp;have hin:∀v,v<r→v∈(s p).basic→¬(s p).lowB v∧¬(s p).upB v:=by
  intro v hv hm
  constructor
  ·intro hx;have:=Bp.least v hm (.inl hx);omega
  ·intro hx;have:=Bp.least v hm (.inr hx);omega
 have hrK:r<n+rows.length:=by
  have:=Ip.wf.bb _ Bp.mem;rw [Ip.hn,Ip.hr]at this;exact this
 have hup:gK n r=true:=by
  have:=Bp.n_le;rw [Ip.hn]at this;unfold gK;exact decide_eq_true this
 obtain⟨b,hb⟩:∃b,b=bv q:=⟨_,rfl⟩;obtain⟨way,hwy⟩:∃way,way=wy q:=⟨_,rfl⟩;have Bq:=Sq.brk;have Eq:=Sq.ent;rw [← hb,←hwy]at Bq Eq;rw [← hb]at hbr hbq;rw [← hr]at Eq;obtain⟨hi,hib⟩:=lW hbq;obtain⟨iq,hiq⟩:∃iq,iq=(s q).lineOf b:=⟨_,rfl⟩;rw [← hiq]at hi hib Eq;have hbl:=Iq.wf.bl;rw [Iq.hr]at hbl;rw [hbl]at hi;obtain⟨_,⟨hcr,hcan⟩,zad⟩:=xQ Eq;have YQ:(s q).val r=fF n rows r:=Iq.up r hrK heq;have UG:¬0<way*((s q).cell iq r).num.sign∧¬hasLo n rows r=true:=by
  unfold TS.canB at hcan;rw [Iq.hn,Iq.hr,YQ,hup]at hcan;have hself:(fF n rows r).cmp (fF n rows r)=0:=by
   have h1:=uY (a:=fF n rows r) (b:=fF n rows r);have h2:=rG (a:=fF n rows r) (b:=fF n rows r);have h3:¬(fF n rows r).cmp (fF n rows r)<0:=fun hx=>by rcases h1.1 hx with hx | hx<;>grind
   have h4:¬0<(fF n rows r).cmp (fF n rows r):=fun hx=>by rcases h2.1 hx with hx | hx<;>grind
   omega
  split at hcan
  ·rw [hself]at hcan
   exact absurd hcan (by decide)
  ·rename_i hpos
   refine⟨hpos,fun hlo=> ?_⟩
   rw [hlo,oP hlo,hself]at hcan;exact absurd hcan (by decide)
 have zbs:ni ((fF n rows r).n-((s p).val r).n) ((fF n rows r).s-((s p).val r).s):=by
  rcases Bp.out with⟨_,h1⟩ | ⟨_,_,h1⟩
  ·have:=h1.1
   rw [Ip.hn,Ip.hr]at this;exact absurd this UG.2
  ·have:=h1.2
   rw [Ip.hn,Ip.hr,rG]at this;unfold ni
   grind
 have JH:=Bq.way;have zbt:∀x:Rat,x≠0→¬0<way*x.num.sign→(way:Rat)*x<0:=by
  intro x hx hs;have h1:x.num.sign≠0:=fun h0=>hx (by rw [Int.sign_eq_zero_iff_zero]at h0;exact Rat.num_eq_zero.1 h0)
  rcases JH with e | e
  ·subst e
   have:=yB.1 (show x.num.sign<0 by omega)
   rw [show((1:Int):Rat)=1 from rfl];grind
  ·subst e
   have:=nT.1 (show 0<x.num.sign by omega)
   rw [show((-1:Int):Rat)= -1 from rfl];grind
 have spos:∀x:Rat,0<way*x.num.sign→0<(way:Rat)*x:=by
  intro x hs
  rcases JH with e | e
  ·subst e
   have:=nT.1 (show 0<x.num.sign by omega)
   rw [show((1:Int):Rat)=1 from rfl];grind
  ·subst e
   have:=yB.1 (show x.num.sign<0 by omega)
   rw [show((-1:Int):Rat)= -1 from rfl];grind
 have Nq:=Iq.vn iq hi;have Sqs:=Iq.vs iq hi;have Np:=(Iq.sat _).2 ((Ip.sat _).1 Ip.vn) iq hi;have Sps:=(Iq.sat _).2 ((Ip.sat _).1 Ip.vs) iq hi;simp only [hib]at Nq Sqs Np Sps;have zbu:∀v,v<n+rows.length→zZ ((way:Rat)*(s q).cell iq v*(((s p).val v).n-((s q).val v).n)) ((way:Rat)*(s q).cell iq v*(((s p).val v).s-((s q).val v).s)):=by
  intro v hv
  by_cases hc:(s q).cell iq v=0
  ·rw [hc]
   refine .inr ⟨by grind,by grind⟩
  have Wo:v∉(s q).basic:=Iq.not_basic hi hc;have hval:(s q).val v=fF n rows v:=Iq.up v hv Wo;rw [hval]
  rcases Nat.lt_trichotomy v r with hlt | rfl | hgt
  ·have hne:=zad v hlt
   have hnc:¬(s q).canB v (way*((s q).cell iq v).num.sign)=true:=fun hx=>hne ⟨hc,hx⟩
   obtain⟨k1,k2⟩:=Ip.kept hv (hin v hlt);unfold TS.canB at hnc;rw [Iq.hn,Iq.hr]at hnc
   split at hnc
   ·rename_i hpos
    have hu:gK n v=true:=by
     refine Classical.byContradiction fun hx=>hnc ?_
     rw [Bool.not_eq_true]at hx;rw [hx];rfl
    exact(k1 hu).mulP (spos _ hpos)
   ·have hlo:hasLo n rows v=true:=by
     refine Classical.byContradiction fun hx=>hnc ?_
     rw [Bool.not_eq_true]at hx;rw [hx];rfl
    rw [k2 hlo];refine .inr ⟨by grind,by grind⟩
  ·have h1:=zbs.mulP (c:= -((way:Rat)*(s q).cell iq v)) (by have:=zbt _ hc UG.1;grind)
   have e1: -((way:Rat)*(s q).cell iq v)*((fF n rows v).n-((s p).val v).n)=(way:Rat)*(s q).cell iq v*(((s p).val v).n-(fF n rows v).n):=by grind
   have e2: -((way:Rat)*(s q).cell iq v)*((fF n rows v).s-((s p).val v).s)=(way:Rat)*(s q).cell iq v*(((s p).val v).s-(fF n rows v).s):=by grind
   rw [e1,e2]at h1;exact h1.le
  ·have hst:v∉(s p).basic:=by
    have hnm:∀t,i≤t→t<i+d→bv t≠v∧ev t≠v:=fun t h1 h2=>⟨by have:=YP t h1 h2;omega,by have:=YO t h1 h2;omega⟩
    have a1:=h.still (i:=i) (v:=v) (p-i) (by omega) fun t h1 h2=>hnm t h1 (by omega)
    have a2:=h.still (i:=i) (v:=v) (q-i) (by omega) fun t h1 h2=>hnm t h1 (by omega)
    rw [show i+(p-i)=p by omega]at a1
    rw [show i+(q-i)=q by omega]at a2
    rw [a1,←a2];exact Wo
   rw [Ip.up v hv hst];refine .inr ⟨by grind,by grind⟩
 have Xm:ni ((way:Rat)*(s q).cell iq r*(((s p).val r).n-((s q).val r).n)) ((way:Rat)*(s q).cell iq r*(((s p).val r).s-((s q).val r).s)):=by
  rw [YQ];have h1:=zbs.mulP (c:= -((way:Rat)*(s q).cell iq r)) (by have:=zbt _ hcr UG.1;grind)
  have e1: -((way:Rat)*(s q).cell iq r)*((fF n rows r).n-((s p).val r).n)=(way:Rat)*(s q).cell iq r*(((s p).val r).n-(fF n rows r).n):=by grind
  have e2: -((way:Rat)*(s q).cell iq r)*((fF n rows r).s-((s p).val r).s)=(way:Rat)*(s q).cell iq r*(((s p).val r).s-(fF n rows r).s):=by grind
  rw [e1,e2]at h1;exact h1
 have hsum:=ni.sum (f:=fun v=>(way:Rat)*(s q).cell iq v*(((s p).val v).n-((s q).val v).n)) (g:=fun v=>(way:Rat)*(s q).cell iq v*(((s p).val v).s-((s q).val v).s)) (n+rows.length) hrK zbu Xm
 have e1:(sQ (n+rows.length) fun v=>(way:Rat)*(s q).cell iq v*(((s p).val v).n-((s q).val v).n))=(way:Rat)*(((s p).val b).n-((s q).val b).n):=by
  rw [Np,Nq,←EM,←sI];refine dD _ fun v _=> ?_
  grind
 have e2:(sQ (n+rows.length) fun v=>(way:Rat)*(s q).cell iq v*(((s p).val v).s-((s q).val v).s))=(way:Rat)*(((s p).val b).s-((s q).val b).s):=by
  rw [Sps,Sqs,←EM,←sI];refine dD _ fun v _=> ?_
  grind
 rw [e1,e2]at hsum;have hbK:b<n+rows.length:=by
  have:=Iq.wf.bb _ hbq;rw [Iq.hn,Iq.hr]at this;exact this
 obtain⟨k1,k2⟩:=Ip.kept hbK (hin b hbr)
 rcases Bq.out with⟨hw,h1⟩ | ⟨hw,_,h1⟩
 ·have hlo:=h1.1
  have hlt:=h1.2;rw [Iq.hn,Iq.hr]at hlo hlt;rw [oP hlo,uY]at hlt;rw [k2 hlo,hw,show((1:Int):Rat)=1 from rfl]at hsum
  unfold ni at hsum
  grind
 ·have hu:=h1.1
  have hgt:=h1.2;rw [Iq.hn]at hu;rw [Iq.hn,Iq.hr,rG]at hgt;have k3:=k1 hu;rw [hw,show((-1:Int):Rat)= -1 from rfl]at hsum
  unfold ni at hsum;unfold zZ at k3
  grind
theorem EO {n:Nat}{rows:List Rw}:∀(f:Nat) (S:TS),Inv n rows S→TS.feas f S= .hungry→∃s bv ev wy,s 0=S∧Way n rows f s bv ev wy
 | 0,S,h,_=>⟨fun _=>S,fun _=>0,fun _=>0,fun _=>0,rfl,fun _ _=>h,fun t ht=>absurd ht (by omega)⟩
 | f+1,S,h,hf=>by
  rcases qW S with⟨hb,h'⟩ | ⟨b,way,hb'⟩
  ·unfold TS.feas at hf
   rw [if_pos hb]at hf
   cases hf
  ·rw [oI hb']at hf
   split at hf
   ·cases hf
   ·rename_i e he
    obtain⟨s,bv,ev,wy,h0,hW⟩:=EO f _ (uE h hb' he) hf;refine⟨fun t=>if t=0 then S else s (t-1),fun t=>if t=0 then b else bv (t-1),fun t=>if t=0 then e else ev (t-1),fun t=>if t=0 then way else wy (t-1),rfl,fun t ht=> ?_,fun t ht=> ?_⟩
    ·by_cases e0:t=0
     ·simp only [e0,if_true];exact h
     ·simp only [e0,if_false];exact hW.inv _ (by omega)
    ·by_cases e0:t=0
     ·subst e0
      simp only [if_true,Nat.zero_add,Nat.one_ne_zero,if_false,Nat.sub_self];exact⟨hb',he,h0⟩
     ·have:=hW.stp (t-1) (by omega)
      simp only [e0,if_false,Nat.succ_ne_zero,Nat.add_sub_cancel];rw [show t-1+1=t by omega]at this
      exact this
theorem FZ {n F D K:Nat}{rows:List Rw}{S:TS}(h:Inv n rows S)(hn:n≤D)(hm:n+rows.length≤K)(hF:(K+1)^D<F):TS.feas F S≠ .hungry:=by
 intro hf;obtain⟨s,bv,ev,wy,_,hW⟩:=EO F S h hf;have hnl:∀t,t≤F→(FL (n+rows.length) rows.length (s t).bs).length≤D:=by
  intro t ht;have I:=hW.inv t ht;have:=Cw (K:=n+rows.length) (m:=rows.length) (bs:=(s t).bs) (fun j hj=>by have:=I.wf.lt (i:=j) (by rw [I.hr];exact hj);rw [I.hn,I.hr]at this;exact this) (fun i j hi hj e=>I.wf.inj (by rw [I.hr];exact hi) (by rw [I.hr];exact hj) e)
  omega
 have hmem:∀t,t≤F→∀v,v<n+rows.length→(v∈FL (n+rows.length) rows.length (s t).bs↔v∉(s t).basic):=by
  intro t ht v hv;have I:=hW.inv t ht;have hbl:=I.wf.bl;rw [I.hr]at hbl;rw [kL]
  constructor
  ·rintro ⟨_,h2⟩ hm
   obtain⟨j,hj,e⟩:=DX hm;exact h2 j (by omega) e
  ·intro hm
   exact⟨hv,fun j hj e=>hm (e ▸ vF (by omega))⟩
 have hlt:∀t,t≤F→∀u,u<D→(FL (n+rows.length) rows.length (s t).bs).getD u K<K+1:=by
  intro t ht u hu
  by_cases hl:u<(FL (n+rows.length) rows.length (s t).bs).length
  ·rw [eG,iw hl]
   have:=(kL.1 (List.getElem_mem hl)).1;show _<K+1;simp only [Option.getD_some];omega
  ·rw [eG,List.getElem?_eq_none (by omega)]
   show K<K+1;omega
 obtain⟨i,j,hij,hj,he⟩:=AL ((K+1)^D) F (fun t=>zo (K+1) D fun u=>(FL (n+rows.length) rows.length (s t).bs).getD u K) (fun t ht=>Jd D fun u hu=>hlt t (by omega) u hu) hF
 have hsame:=EP D (fun u hu=>hlt i (by omega) u hu) (fun u hu=>hlt j (by omega) u hu) he
 have hsub:∀t t',t≤F→t'≤F→(∀u,u<D→(FL (n+rows.length) rows.length (s t).bs).getD u K=(FL (n+rows.length) rows.length (s t').bs).getD u K)→∀v,v<n+rows.length→v∉(s t).basic→v∉(s t').basic:=by
  intro t t' ht ht' hs v hv hm;have h1:=(hmem t ht v hv).2 hm;obtain⟨u,hu,e⟩:=List.getElem_of_mem h1;have hu3:u<D:=by have:=hnl t ht;omega
  have h2:=hs u hu3;rw [eG,iw hu,Option.getD_some,e]at h2
  by_cases hl:u<(FL (n+rows.length) rows.length (s t').bs).length
  ·rw [eG,iw hl,Option.getD_some]at h2
   exact(hmem t' ht' v hv).1 (h2 ▸ List.getElem_mem hl)
  ·rw [eG,List.getElem?_eq_none (by omega),Option.getD_none]at h2
   omega
 refine zbq hW (i:=i) (d:=j-i) (by omega) (by omega) fun v=> ?_
 rw [show i+(j-i)=j by omega]
 have hbK:∀t,t≤F→v∈(s t).basic→v<n+rows.length:=by
  intro t ht hm;have I:=hW.inv t ht;have:=I.wf.bb _ hm;rw [I.hn,I.hr]at this;exact this
 constructor
 ·intro hm
  refine Classical.byContradiction fun hx=> ?_
  exact hsub i j (by omega) (by omega) hsame v (hbK j (by omega) hm) hx hm
 ·intro hm
  refine Classical.byContradiction fun hx=> ?_
  exact hsub j i (by omega) (by omega) (fun u hu=>(hsame u hu).symm) v (hbK i (by omega) hm) hx hm
end Go.Proofs.YtaiffmebphhdaaaGreat
