/- The tableau, plain: with the least variables the search ends (Bland). -/
import Derived.Test.YtaiffmebphhdaaaGreatTbV
namespace Go.Proofs.YtaiffmebphhdaaaGreat
set_option linter.unusedSimpArgs false
set_option linter.unusedVariables false
open Go.ChangeShapes Go.WideShapes Go.RowKit
def LNeg (a b:Rat):Prop:=a<0∨a=0∧b<0
def LLe (a b:Rat):Prop:=a<0∨a=0∧b≤0
theorem LNeg.le {a b:Rat}(h:LNeg a b):LLe a b:=by
 unfold LNeg at h;unfold LLe
 grind
theorem LLe.zero:LLe 0 0:= .inr ⟨rfl,Rat.le_refl⟩
theorem LLe.add {a b c d:Rat}(h:LLe a b)(k:LLe c d):LLe (a+c) (b+d):=by
 unfold LLe at*
 grind
theorem LNeg.addL {a b c d:Rat}(h:LNeg a b)(k:LLe c d):LNeg (a+c) (b+d):=by
 unfold LNeg LLe at*
 grind
theorem LNeg.addR {a b c d:Rat}(h:LLe a b)(k:LNeg c d):LNeg (a+c) (b+d):=by
 unfold LNeg LLe at*
 grind
theorem LLe.sum {f g:Nat→Rat}:∀n,(∀j,j<n→LLe (f j) (g j))→LLe (sQ n f) (sQ n g)
 | 0,_=>LLe.zero
 | n+1,h=>(LLe.sum n fun j hj=>h j (by omega)).add (h n (by omega))
theorem LNeg.sum {f g:Nat→Rat}{r:Nat}:∀n,r<n→(∀j,j<n→LLe (f j) (g j))→LNeg (f r) (g r)→LNeg (sQ n f) (sQ n g)
 | 0,h,_,_=>absurd h (by omega)
 | n+1,h,hl,hr=>by
  by_cases e:r=n
  ·subst e
   exact LNeg.addR (LLe.sum r fun j hj=>hl j (by omega)) hr
  ·exact LNeg.addL (LNeg.sum n (by omega) (fun j hj=>hl j (by omega)) hr) (hl n (by omega))
theorem mul_pos_lt {c a:Rat}(hc:0<c)(ha:a<0):c*a<0:=by
 have:=Rat.mul_pos hc (show 0< -a by grind)
 grind
theorem LNeg.mulP {c a b:Rat}(hc:0<c)(h:LNeg a b):LNeg (c*a) (c*b):=by
 rcases h with h | ⟨h1,h2⟩
 ·exact .inl (mul_pos_lt hc h)
 ·exact .inr ⟨by rw [h1,Rat.mul_zero],mul_pos_lt hc h2⟩
theorem LLe.mulP {c a b:Rat}(hc:0<c)(h:LLe a b):LLe (c*a) (c*b):=by
 rcases h with h | ⟨h1,h2⟩
 ·exact .inl (mul_pos_lt hc h)
 ·refine .inr ⟨by rw [h1,Rat.mul_zero],?_⟩
  rcases(by grind:b<0∨b=0)with h | h
  ·have:=mul_pos_lt hc h;grind
  ·rw [h,Rat.mul_zero];exact Rat.le_refl
structure Stp (S S':TS)(b:Nat)(way:Int)(e:Nat):Prop where
 brk:Brk S b way
 ent:S.enter (S.lineOf b) way=some e
 nxt:S'=S.next b way e
theorem Stp.basic {n:Nat}{rows:List Rw}{S S':TS}{b e:Nat}{way:Int}(h:Stp S S' b way e)(hI:Inv n rows S):
  e∉S.basic∧b∈S.basic∧b≠e∧∀v,v∈S'.basic↔v=e∨v∈S.basic∧v≠b:=by
 obtain⟨hi,hib⟩:=line_spec h.brk.mem;obtain⟨hek,⟨hc,_⟩,_⟩:=enter_some h.ent;have hbl:=hI.wf.bl;rw [hI.hr]at hbl;have heb:e∉S.basic:=hI.not_basic (i:=S.lineOf b) (by omega) hc
 refine⟨heb,h.brk.mem,fun hx=>heb (hx ▸ h.brk.mem),fun v=> ?_⟩
 rw [h.nxt];show v∈S.basic.set (S.lineOf b) e↔_
 constructor
 ·intro hv
  rcases List.mem_or_eq_of_mem_set hv with hv' | rfl
  ·by_cases hvb:v=b
   ·subst hvb
    by_cases hve:v=e
    ·exact .inl hve
    ·exfalso
     obtain⟨j,hj,hjv⟩:=List.getElem_of_mem hv;rw [List.getElem_set]at hjv
     split at hjv
     ·exact hve hjv.symm
     ·rename_i hne
      have hj':j<S.basic.length:=by simpa using hj
      rw [bs_at hi]at hib;have:=(List.getElem_inj hI.wf.nd).1 (hib.trans hjv.symm);exact hne this
   ·exact .inr ⟨hv',hvb⟩
  ·exact .inl rfl
 ·rintro (rfl | ⟨hv,hvb⟩)
  ·exact List.mem_set hi v
  ·obtain ⟨j,hj,rfl⟩:=List.getElem_of_mem hv
   have hne:S.lineOf b≠j:=fun e'=>by
    subst e';rw [bs_at hi]at hib;exact hvb hib
   have e':(S.basic.set (S.lineOf b) e)[j]'(by simpa using hj)=S.basic[j]:=by rw [List.getElem_set,if_neg hne]
   rw [← e'];exact List.getElem_mem _
structure Way (n:Nat)(rows:List Rw)(f:Nat)(s:Nat→TS)(bv ev:Nat→Nat)(wy:Nat→Int):Prop where
 inv:∀t,t≤f→Inv n rows (s t)
 stp:∀t,t<f→Stp (s t) (s (t+1)) (bv t) (wy t) (ev t)
theorem Way.still {n:Nat}{rows:List Rw}{f:Nat}{s:Nat→TS}{bv ev:Nat→Nat}{wy:Nat→Int}(h:Way n rows f s bv ev wy){i v:Nat}:∀d,i+d≤f→(∀t,i≤t→t<i+d→bv t≠v∧ev t≠v)→(v∈(s (i+d)).basic↔v∈(s i).basic)
 | 0,_,_=>Iff.rfl
 | d+1,hd,hn=>by
  have ih:=h.still (i:=i) (v:=v) d (by omega) fun t h1 h2=>hn t h1 (by omega)
  obtain⟨h1,h2⟩:=hn (i+d) (by omega) (by omega)
  rw [← ih];have:=((h.stp (i+d) (by omega)).basic (h.inv _ (by omega))).2.2.2 v
  rw [show i+(d+1)=i+d+1 from rfl,this]
  constructor
  ·rintro (e | ⟨hv,_⟩)
   ·exact absurd e.symm h2
   ·exact hv
  ·intro hv
   exact .inr ⟨hv,fun e=>h1 e.symm⟩
theorem Way.left {n:Nat}{rows:List Rw}{f:Nat}{s:Nat→TS}{bv ev:Nat→Nat}{wy:Nat→Int}(h:Way n rows f s bv ev wy){i v:Nat}:∀d,i+d≤f→v∈(s i).basic→v∉(s (i+d)).basic→∃t,i≤t∧t<i+d∧bv t=v
 | 0,_,h1,h2=>absurd h1 h2
 | d+1,hd,h1,h2=>by
  by_cases hm:v∈(s (i+d)).basic
  ·refine ⟨i+d,by omega,by omega,Classical.byContradiction fun hne=>h2 ?_⟩
   exact(((h.stp (i+d) (by omega)).basic (h.inv _ (by omega))).2.2.2 v).2 (.inr ⟨hm,fun e=>hne e.symm⟩)
  ·obtain ⟨t,h3,h4,h5⟩:=h.left d (by omega) h1 hm
   exact⟨t,h3,by omega,h5⟩
theorem Way.came {n:Nat}{rows:List Rw}{f:Nat}{s:Nat→TS}{bv ev:Nat→Nat}{wy:Nat→Int}(h:Way n rows f s bv ev wy){i v:Nat}:∀d,i+d≤f→v∉(s i).basic→v∈(s (i+d)).basic→∃t,i≤t∧t<i+d∧ev t=v
 | 0,_,h1,h2=>absurd h2 h1
 | d+1,hd,h1,h2=>by
  by_cases hm:v∈(s (i+d)).basic
  ·obtain ⟨t,h3,h4,h5⟩:=h.came d (by omega) h1 hm
   exact⟨t,h3,by omega,h5⟩
  ·refine ⟨i+d,by omega,by omega,?_⟩
   rcases(((h.stp (i+d) (by omega)).basic (h.inv _ (by omega))).2.2.2 v).1 h2 with e | ⟨h3,_⟩
   ·exact e.symm
   ·exact absurd h3 hm
theorem great (g:Nat→Nat):∀k,0<k→∃t,t<k∧∀u,u<k→g u≤g t
 | 0,h=>absurd h (by omega)
 | 1,_=>⟨0,by omega,fun u hu=>by rw [show u=0 by omega];exact Nat.le_refl _⟩
 | k+2,_=>by
  obtain⟨t,h1,h2⟩:=great g (k+1) (by omega)
  by_cases hx:g t≤g (k+1)
  ·refine ⟨k+1,by omega,fun u hu=> ?_⟩
   by_cases e:u=k+1
   ·rw [e];exact Nat.le_refl _
   ·exact Nat.le_trans (h2 u (by omega)) hx
  ·refine ⟨t,by omega,fun u hu=> ?_⟩
   by_cases e:u=k+1
   ·rw [e];omega
   ·exact h2 u (by omega)
theorem Inv.kept {n:Nat}{rows:List Rw}{S:TS}(h:Inv n rows S){v:Nat}(hv:v<n+rows.length)(hb:v∈S.basic→¬S.lowB v∧¬S.upB v):
  (hasUp n v=true→LLe ((S.val v).n-(upP n rows v).n) ((S.val v).s-(upP n rows v).s))∧(hasLo n rows v=true→S.val v=upP n rows v):=by
 by_cases hm:v∈S.basic
 ·obtain ⟨h1,h2⟩:=hb hm
  unfold TS.upB at h2;unfold TS.lowB at h1;rw [h.hn,h.hr,prCmp_gt]at h2;rw [h.hn,h.hr,prCmp_lt]at h1
  constructor
  ·intro hu
   have h3:¬_:=fun hx=>h2 ⟨hu,hx⟩
   unfold LLe
   grind
  ·intro hlo
   have hu:hasUp n v=true:=by
    unfold hasLo at hlo;unfold hasUp;exact decide_eq_true (of_decide_eq_true hlo).1
   have h3:¬((upP n rows v).n<(S.val v).n∨(S.val v).n=(upP n rows v).n∧(upP n rows v).s<(S.val v).s):=fun hx=>h2 ⟨hu,hx⟩
   have h4:¬((S.val v).n<(loP n rows v).n∨(S.val v).n=(loP n rows v).n∧(S.val v).s<(loP n rows v).s):=fun hx=>h1 ⟨hlo,hx⟩
   rw [lo_is_up hlo]at h4;generalize upP n rows v=u at h3 h4;generalize S.val v=x at h3 h4;obtain⟨u1,u2⟩:=u;obtain⟨x1,x2⟩:=x;simp only at h3 h4;rw [Pr.mk.injEq]
   constructor<;>grind
 ·have:=h.up v hv hm
  rw [this];exact⟨fun _=>by unfold LLe;right;constructor<;>grind,fun _=>rfl⟩
theorem bland {n:Nat}{rows:List Rw}{f:Nat}{s:Nat→TS}{bv ev:Nat→Nat}{wy:Nat→Int}(h:Way n rows f s bv ev wy){i d:Nat}(hd:0<d)(hf:i+d≤f)(hsame:∀v,v∈(s (i+d)).basic↔v∈(s i).basic):False:=by
 have hB:∀t,t<f→_:=fun t ht=>(h.stp t ht).basic (h.inv t (by omega))
 have hcome:∀t,i≤t→t<i+d→∃t',i≤t'∧t'<i+d∧ev t'=bv t:=by
  intro t h1 h2;obtain⟨_,hb,hbe,hx⟩:=hB t (by omega)
  have hn:bv t∉(s (t+1)).basic:=fun hm=>by
   rcases(hx _).1 hm with e | ⟨_,e⟩
   ·exact hbe e
   ·exact e rfl
  by_cases hm:bv t∈(s i).basic
  ·obtain ⟨t',h3,h4,h5⟩:=h.came (i:=t+1) (v:=bv t) (i+d-(t+1)) (by omega) hn (by rw [show t+1+(i+d-(t+1))=i+d by omega,hsame];exact hm)
   exact⟨t',by omega,by omega,h5⟩
  ·obtain ⟨t',h3,h4,h5⟩:=h.came (i:=i) (v:=bv t) (t-i) (by omega) hm (by rw [show i+(t-i)=t by omega];exact hb)
   exact⟨t',by omega,by omega,h5⟩
 have hleave:∀t,i≤t→t<i+d→∃t',i≤t'∧t'<i+d∧bv t'=ev t:=by
  intro t h1 h2;obtain⟨he,_,hbe,hx⟩:=hB t (by omega)
  have hn:ev t∈(s (t+1)).basic:=(hx _).2 (.inl rfl)
  by_cases hm:ev t∈(s i).basic
  ·obtain ⟨t',h3,h4,h5⟩:=h.left (i:=i) (v:=ev t) (t-i) (by omega) hm (by rw [show i+(t-i)=t by omega];exact he)
   exact⟨t',by omega,by omega,h5⟩
  ·obtain ⟨t',h3,h4,h5⟩:=h.left (i:=t+1) (v:=ev t) (i+d-(t+1)) (by omega) hn (by rw [show t+1+(i+d-(t+1))=i+d by omega,hsame];exact hm)
   exact⟨t',by omega,by omega,h5⟩
 obtain⟨q0,hq0,hmax0⟩:=great (fun u=>ev (i+u)) d hd
 obtain⟨q,hq⟩:∃q,q=i+q0:=⟨_,rfl⟩;obtain⟨r,hr⟩:∃r,r=ev q:=⟨_,rfl⟩;have hmaxe:∀t,i≤t→t<i+d→ev t≤r:=by
  intro t h1 h2;have:=hmax0 (t-i) (by omega)
  rw [show i+(t-i)=t by omega,←hq,←hr]at this
  exact this
 have hmaxb:∀t,i≤t→t<i+d→bv t≤r:=by
  intro t h1 h2;obtain⟨t',h3,h4,h5⟩:=hcome t h1 h2;rw [← h5];exact hmaxe t' h3 h4
 obtain⟨p,hp1,hp2,hpr⟩:=hleave q (by omega) (by omega)
 rw [← hr]at hpr;have Iq:=h.inv q (by omega)
 have Ip:=h.inv p (by omega)
 have Sq:=h.stp q (by omega)
 have Sp:=h.stp p (by omega)
 obtain⟨heq,hbq,hbeq,_⟩:=hB q (by omega)
 rw [← hr]at heq hbeq;have hbr:bv q<r:=by
  have:=hmaxb q (by omega) (by omega)
  omega
 have Bp:=Sp.brk;rw [hpr]at Bp;have hin:∀v,v<r→v∈(s p).basic→¬(s p).lowB v∧¬(s p).upB v:=by
  intro v hv hm
  constructor
  ·intro hx;have:=Bp.least v hm (.inl hx);omega
  ·intro hx;have:=Bp.least v hm (.inr hx);omega
 have hrK:r<n+rows.length:=by
  have:=Ip.wf.bb _ Bp.mem;rw [Ip.hn,Ip.hr]at this;exact this
 have hup:hasUp n r=true:=by
  have:=Bp.n_le;rw [Ip.hn]at this;unfold hasUp;exact decide_eq_true this
 obtain⟨b,hb⟩:∃b,b=bv q:=⟨_,rfl⟩;obtain⟨way,hwy⟩:∃way,way=wy q:=⟨_,rfl⟩;have Bq:=Sq.brk;have Eq:=Sq.ent;rw [← hb,←hwy]at Bq Eq;rw [← hb]at hbr hbq;rw [← hr]at Eq;obtain⟨hi,hib⟩:=line_spec hbq;obtain⟨iq,hiq⟩:∃iq,iq=(s q).lineOf b:=⟨_,rfl⟩;rw [← hiq]at hi hib Eq;have hbl:=Iq.wf.bl;rw [Iq.hr]at hbl;rw [hbl]at hi;obtain⟨_,⟨hcr,hcan⟩,hleast⟩:=enter_some Eq;have hvalr:(s q).val r=upP n rows r:=Iq.up r hrK heq;have hdown:¬0<way*((s q).cell iq r).num.sign∧¬hasLo n rows r=true:=by
  unfold TS.canB at hcan;rw [Iq.hn,Iq.hr,hvalr,hup]at hcan;have hself:(upP n rows r).cmp (upP n rows r)=0:=by
   have h1:=prCmp_lt (a:=upP n rows r) (b:=upP n rows r);have h2:=prCmp_gt (a:=upP n rows r) (b:=upP n rows r);have h3:¬(upP n rows r).cmp (upP n rows r)<0:=fun hx=>by rcases h1.1 hx with hx | hx<;>grind
   have h4:¬0<(upP n rows r).cmp (upP n rows r):=fun hx=>by rcases h2.1 hx with hx | hx<;>grind
   omega
  split at hcan
  ·rw [hself]at hcan
   exact absurd hcan (by decide)
  ·rename_i hpos
   refine⟨hpos,fun hlo=> ?_⟩
   rw [hlo,lo_is_up hlo,hself]at hcan;exact absurd hcan (by decide)
 have hupr:LNeg ((upP n rows r).n-((s p).val r).n) ((upP n rows r).s-((s p).val r).s):=by
  rcases Bp.out with⟨_,h1⟩ | ⟨_,_,h1⟩
  ·have:=h1.1
   rw [Ip.hn,Ip.hr]at this;exact absurd this hdown.2
  ·have:=h1.2
   rw [Ip.hn,Ip.hr,prCmp_gt]at this;unfold LNeg
   grind
 have hway:=Bq.way;have sneg:∀x:Rat,x≠0→¬0<way*x.num.sign→(way:Rat)*x<0:=by
  intro x hx hs;have h1:x.num.sign≠0:=fun h0=>hx (by rw [Int.sign_eq_zero_iff_zero]at h0;exact Rat.num_eq_zero.1 h0)
  rcases hway with e | e
  ·subst e
   have:=sgn_neg.1 (show x.num.sign<0 by omega)
   rw [show((1:Int):Rat)=1 from rfl];grind
  ·subst e
   have:=sgn_pos.1 (show 0<x.num.sign by omega)
   rw [show((-1:Int):Rat)= -1 from rfl];grind
 have spos:∀x:Rat,0<way*x.num.sign→0<(way:Rat)*x:=by
  intro x hs
  rcases hway with e | e
  ·subst e
   have:=sgn_pos.1 (show 0<x.num.sign by omega)
   rw [show((1:Int):Rat)=1 from rfl];grind
  ·subst e
   have:=sgn_neg.1 (show x.num.sign<0 by omega)
   rw [show((-1:Int):Rat)= -1 from rfl];grind
 have Nq:=Iq.vn iq hi;have Sqs:=Iq.vs iq hi;have Np:=(Iq.sat _).2 ((Ip.sat _).1 Ip.vn) iq hi;have Sps:=(Iq.sat _).2 ((Ip.sat _).1 Ip.vs) iq hi;simp only [hib]at Nq Sqs Np Sps;have hterm:∀v,v<n+rows.length→LLe ((way:Rat)*(s q).cell iq v*(((s p).val v).n-((s q).val v).n)) ((way:Rat)*(s q).cell iq v*(((s p).val v).s-((s q).val v).s)):=by
  intro v hv
  by_cases hc:(s q).cell iq v=0
  ·rw [hc]
   refine .inr ⟨by grind,by grind⟩
  have hvq:v∉(s q).basic:=Iq.not_basic hi hc;have hval:(s q).val v=upP n rows v:=Iq.up v hv hvq;rw [hval]
  rcases Nat.lt_trichotomy v r with hlt | rfl | hgt
  ·have hne:=hleast v hlt
   have hnc:¬(s q).canB v (way*((s q).cell iq v).num.sign)=true:=fun hx=>hne ⟨hc,hx⟩
   obtain⟨k1,k2⟩:=Ip.kept hv (hin v hlt);unfold TS.canB at hnc;rw [Iq.hn,Iq.hr]at hnc
   split at hnc
   ·rename_i hpos
    have hu:hasUp n v=true:=by
     refine Classical.byContradiction fun hx=>hnc ?_
     rw [Bool.not_eq_true]at hx;rw [hx];rfl
    exact(k1 hu).mulP (spos _ hpos)
   ·have hlo:hasLo n rows v=true:=by
     refine Classical.byContradiction fun hx=>hnc ?_
     rw [Bool.not_eq_true]at hx;rw [hx];rfl
    rw [k2 hlo];refine .inr ⟨by grind,by grind⟩
  ·have h1:=hupr.mulP (c:= -((way:Rat)*(s q).cell iq v)) (by have:=sneg _ hc hdown.1;grind)
   have e1: -((way:Rat)*(s q).cell iq v)*((upP n rows v).n-((s p).val v).n)=(way:Rat)*(s q).cell iq v*(((s p).val v).n-(upP n rows v).n):=by grind
   have e2: -((way:Rat)*(s q).cell iq v)*((upP n rows v).s-((s p).val v).s)=(way:Rat)*(s q).cell iq v*(((s p).val v).s-(upP n rows v).s):=by grind
   rw [e1,e2]at h1;exact h1.le
  ·have hst:v∉(s p).basic:=by
    have hnm:∀t,i≤t→t<i+d→bv t≠v∧ev t≠v:=fun t h1 h2=>⟨by have:=hmaxb t h1 h2;omega,by have:=hmaxe t h1 h2;omega⟩
    have a1:=h.still (i:=i) (v:=v) (p-i) (by omega) fun t h1 h2=>hnm t h1 (by omega)
    have a2:=h.still (i:=i) (v:=v) (q-i) (by omega) fun t h1 h2=>hnm t h1 (by omega)
    rw [show i+(p-i)=p by omega]at a1
    rw [show i+(q-i)=q by omega]at a2
    rw [a1,←a2];exact hvq
   rw [Ip.up v hv hst];refine .inr ⟨by grind,by grind⟩
 have hterm_r:LNeg ((way:Rat)*(s q).cell iq r*(((s p).val r).n-((s q).val r).n)) ((way:Rat)*(s q).cell iq r*(((s p).val r).s-((s q).val r).s)):=by
  rw [hvalr];have h1:=hupr.mulP (c:= -((way:Rat)*(s q).cell iq r)) (by have:=sneg _ hcr hdown.1;grind)
  have e1: -((way:Rat)*(s q).cell iq r)*((upP n rows r).n-((s p).val r).n)=(way:Rat)*(s q).cell iq r*(((s p).val r).n-(upP n rows r).n):=by grind
  have e2: -((way:Rat)*(s q).cell iq r)*((upP n rows r).s-((s p).val r).s)=(way:Rat)*(s q).cell iq r*(((s p).val r).s-(upP n rows r).s):=by grind
  rw [e1,e2]at h1;exact h1
 have hsum:=LNeg.sum (f:=fun v=>(way:Rat)*(s q).cell iq v*(((s p).val v).n-((s q).val v).n)) (g:=fun v=>(way:Rat)*(s q).cell iq v*(((s p).val v).s-((s q).val v).s)) (n+rows.length) hrK hterm hterm_r
 have e1:(sQ (n+rows.length) fun v=>(way:Rat)*(s q).cell iq v*(((s p).val v).n-((s q).val v).n))=(way:Rat)*(((s p).val b).n-((s q).val b).n):=by
  rw [Np,Nq,←sQ_sub,←sQ_mul];refine sQ_congr _ fun v _=> ?_
  grind
 have e2:(sQ (n+rows.length) fun v=>(way:Rat)*(s q).cell iq v*(((s p).val v).s-((s q).val v).s))=(way:Rat)*(((s p).val b).s-((s q).val b).s):=by
  rw [Sps,Sqs,←sQ_sub,←sQ_mul];refine sQ_congr _ fun v _=> ?_
  grind
 rw [e1,e2]at hsum;have hbK:b<n+rows.length:=by
  have:=Iq.wf.bb _ hbq;rw [Iq.hn,Iq.hr]at this;exact this
 obtain⟨k1,k2⟩:=Ip.kept hbK (hin b hbr)
 rcases Bq.out with⟨hw,h1⟩ | ⟨hw,_,h1⟩
 ·have hlo:=h1.1
  have hlt:=h1.2;rw [Iq.hn,Iq.hr]at hlo hlt;rw [lo_is_up hlo,prCmp_lt]at hlt;rw [k2 hlo,hw,show((1:Int):Rat)=1 from rfl]at hsum
  unfold LNeg at hsum
  grind
 ·have hu:=h1.1
  have hgt:=h1.2;rw [Iq.hn]at hu;rw [Iq.hn,Iq.hr,prCmp_gt]at hgt;have k3:=k1 hu;rw [hw,show((-1:Int):Rat)= -1 from rfl]at hsum
  unfold LNeg at hsum;unfold LLe at k3
  grind
theorem hungry_way {n:Nat}{rows:List Rw}:∀(f:Nat) (S:TS),Inv n rows S→TS.feas f S= .hungry→∃s bv ev wy,s 0=S∧Way n rows f s bv ev wy
 | 0,S,h,_=>⟨fun _=>S,fun _=>0,fun _=>0,fun _=>0,rfl,fun _ _=>h,fun t ht=>absurd ht (by omega)⟩
 | f+1,S,h,hf=>by
  rcases broken_or S with⟨hb,h'⟩ | ⟨b,way,hb'⟩
  ·unfold TS.feas at hf
   rw [if_pos hb]at hf
   cases hf
  ·rw [feas_succ hb']at hf
   split at hf
   ·cases hf
   ·rename_i e he
    obtain⟨s,bv,ev,wy,h0,hW⟩:=hungry_way f _ (next_inv h hb' he) hf;refine⟨fun t=>if t=0 then S else s (t-1),fun t=>if t=0 then b else bv (t-1),fun t=>if t=0 then e else ev (t-1),fun t=>if t=0 then way else wy (t-1),rfl,fun t ht=> ?_,fun t ht=> ?_⟩
    ·by_cases e0:t=0
     ·simp only [e0,if_true];exact h
     ·simp only [e0,if_false];exact hW.inv _ (by omega)
    ·by_cases e0:t=0
     ·subst e0
      simp only [if_true,Nat.zero_add,Nat.one_ne_zero,if_false,Nat.sub_self];exact⟨hb',he,h0⟩
     ·have:=hW.stp (t-1) (by omega)
      simp only [e0,if_false,Nat.succ_ne_zero,Nat.add_sub_cancel];rw [show t-1+1=t by omega]at this
      exact this
theorem never_hungryG {n F D K:Nat}{rows:List Rw}{S:TS}(h:Inv n rows S)(hn:n≤D)(hm:n+rows.length≤K)(hF:(K+1)^D<F):TS.feas F S≠ .hungry:=by
 intro hf;obtain⟨s,bv,ev,wy,_,hW⟩:=hungry_way F S h hf;have hnl:∀t,t≤F→(nbL (n+rows.length) rows.length (s t).bs).length≤D:=by
  intro t ht;have I:=hW.inv t ht;have:=nbL_len (K:=n+rows.length) (m:=rows.length) (bs:=(s t).bs) (fun j hj=>by have:=I.wf.lt (i:=j) (by rw [I.hr];exact hj);rw [I.hn,I.hr]at this;exact this) (fun i j hi hj e=>I.wf.inj (by rw [I.hr];exact hi) (by rw [I.hr];exact hj) e)
  omega
 have hmem:∀t,t≤F→∀v,v<n+rows.length→(v∈nbL (n+rows.length) rows.length (s t).bs↔v∉(s t).basic):=by
  intro t ht v hv;have I:=hW.inv t ht;have hbl:=I.wf.bl;rw [I.hr]at hbl;rw [mem_nbL]
  constructor
  ·rintro ⟨_,h2⟩ hm
   obtain⟨j,hj,e⟩:=mem_bs hm;exact h2 j (by omega) e
  ·intro hm
   exact⟨hv,fun j hj e=>hm (e ▸ bs_mem (by omega))⟩
 have hlt:∀t,t≤F→∀u,u<D→(nbL (n+rows.length) rows.length (s t).bs).getD u K<K+1:=by
  intro t ht u hu
  by_cases hl:u<(nbL (n+rows.length) rows.length (s t).bs).length
  ·rw [List.getD_eq_getElem?_getD,List.getElem?_eq_getElem hl]
   have:=(mem_nbL.1 (List.getElem_mem hl)).1;show _<K+1;simp only [Option.getD_some];omega
  ·rw [List.getD_eq_getElem?_getD,List.getElem?_eq_none (by omega)]
   show K<K+1;omega
 obtain⟨i,j,hij,hj,he⟩:=pigeon ((K+1)^D) F (fun t=>encN (K+1) D fun u=>(nbL (n+rows.length) rows.length (s t).bs).getD u K) (fun t ht=>encN_lt D fun u hu=>hlt t (by omega) u hu) hF
 have hsame:=encN_inj D (fun u hu=>hlt i (by omega) u hu) (fun u hu=>hlt j (by omega) u hu) he
 have hsub:∀t t',t≤F→t'≤F→(∀u,u<D→(nbL (n+rows.length) rows.length (s t).bs).getD u K=(nbL (n+rows.length) rows.length (s t').bs).getD u K)→∀v,v<n+rows.length→v∉(s t).basic→v∉(s t').basic:=by
  intro t t' ht ht' hs v hv hm;have h1:=(hmem t ht v hv).2 hm;obtain⟨u,hu,e⟩:=List.getElem_of_mem h1;have hu3:u<D:=by have:=hnl t ht;omega
  have h2:=hs u hu3;rw [List.getD_eq_getElem?_getD,List.getElem?_eq_getElem hu,Option.getD_some,e]at h2
  by_cases hl:u<(nbL (n+rows.length) rows.length (s t').bs).length
  ·rw [List.getD_eq_getElem?_getD,List.getElem?_eq_getElem hl,Option.getD_some]at h2
   exact(hmem t' ht' v hv).1 (h2 ▸ List.getElem_mem hl)
  ·rw [List.getD_eq_getElem?_getD,List.getElem?_eq_none (by omega),Option.getD_none]at h2
   omega
 refine bland hW (i:=i) (d:=j-i) (by omega) (by omega) fun v=> ?_
 rw [show i+(j-i)=j by omega]
 have hbK:∀t,t≤F→v∈(s t).basic→v<n+rows.length:=by
  intro t ht hm;have I:=hW.inv t ht;have:=I.wf.bb _ hm;rw [I.hn,I.hr]at this;exact this
 constructor
 ·intro hm
  refine Classical.byContradiction fun hx=> ?_
  exact hsub i j (by omega) (by omega) hsame v (hbK j (by omega) hm) hx hm
 ·intro hm
  refine Classical.byContradiction fun hx=> ?_
  exact hsub j i (by omega) (by omega) (fun u hu=>(hsame u hu).symm) v (hbK i (by omega) hm) hx hm
theorem never_hungry {n:Nat}{rows:List Rw}{S:TS}(h:Inv n rows S)(hn:n≤3)(hm:rows.length≤8):TS.feas 2000 S≠ .hungry:=never_hungryG (D:=3) (K:=11) h hn (by omega) (by decide)
theorem feas_mono:∀f g S,TS.feas f S≠ .hungry→TS.feas (f+g) S=TS.feas f S
 | 0,g,S,h=>by
  unfold TS.feas at h
  by_cases hb:S.broken.1<0
  ·cases g with
   | zero=>rfl
   | succ g=>
    rw [Nat.zero_add];unfold TS.feas;rw [if_pos hb,if_pos hb]
  ·rw [if_neg hb]at h
   exact absurd rfl h
 | f+1,g,S,h=>by
  rw [show f+1+g=f+g+1 by omega]
  unfold TS.feas at h ⊢
  by_cases hb:S.broken.1<0
  ·rw [if_pos hb,if_pos hb]
  ·rw [if_neg hb]at h
   rw [if_neg hb,if_neg hb]
   rcases he:S.enter (S.lineOf S.broken.1) S.broken.2 with _ | e
   ·rfl
   ·rw [he]at h
    exact feas_mono f g _ h
end Go.Proofs.YtaiffmebphhdaaaGreat
