/- Package tableau's small. Package tableau's Point. -/
import Derived.Test.YtmepglhdcphffaaGreatTbBB
import Derived.Test.YtmepglhdcphffaaGreatRegVV
import Derived.Test.YtmepglhdcphffaaGreatOwGG
namespace Go.Proofs.YtmepglhdcphffaaGreat
set_option maxRecDepth 100000
set_option maxHeartbeats 32000000
set_option linter.unusedSimpArgs false
set_option linter.unusedVariables false
open Go.ChangeShapes Go.WideShapes Go.RowKit Go.Maps
def mq (t:Bool)(g:Nat)(v:Value)(w:World)(A:Array Value):Prop:=∃b,v= .pointer (some ⟨b,0,none⟩)∧g≤b∧b<w.heap.size∧(t=false→aL w b #[.bool false,.string ⟨#[]⟩,.bool false,.string ⟨#[]⟩])∧(t=true→aL w b A)
theorem aL.same2b {w w':World}{b:Nat}{A:Array Value}(h:aL w b A)(e:w'.heap[b]? =w.heap[b]?):aL w' b A:=by
 obtain⟨t,h⟩:=h;exact⟨t,e.trans h⟩
theorem mq.keepM {S:Nat→Bool}{d e g:Nat}{v:Value}{w w':World}{A:Array Value}(h:mq (S d) g v w A)(he:e≠d)(k:Keep au w w'):mq (mark S e d) g v w' A:=by
 obtain⟨b,e1,h1,h2,h3,h4⟩:=h;rw [dL (Ne.symm he)];exact⟨b,e1,h1,bJ h2 k.size,fun hm=>(h3 hm).keep k,fun hm=>(h4 hm).keep k⟩
theorem mq.same {S:Nat→Bool}{d e g:Nat}{v:Value}{w w':World}{A:Array Value}(h:mq (S d) g v w A)(he:e≠d)(hs:w.heap.size≤w'.heap.size)(ho:∀b,v= .pointer (some ⟨b,0,none⟩)→w'.heap[b]? =w.heap[b]?):mq (mark S e d) g v w' A:=by
 obtain⟨b,e1,h1,h2,h3,h4⟩:=h;rw [dL (Ne.symm he)];exact⟨b,e1,h1,bJ h2 hs,fun hm=>(h3 hm).same2b (ho b e1),fun hm=>(h4 hm).same2b (ho b e1)⟩
def DN (g:Nat)(pT EP sV UC YW pB YX:Value)(vi:Int)(va ve vp vq:Value)(db dc kb kc:Bool)(dS dU kS kU:ByteArray)(S:Nat→Bool):Nat→Value→World→Prop
 | 0,v,_=>v=pB
 | 1,v,_=>v=va
 | 2,v,_=>v=pT
 | 3,v,_=>v=pT
 | 4,v,_=>v=EP
 | 5,v,_=>v=sV
 | 6,v,_=>v= .int .i64 vi
 | 7,v,_=>v=UC
 | 8,v,_=>v=UC
 | 9,v,_=>v=vp
 | 10,v,_=>v= .agg #[.bool db,.string dS,.bool dc,.string dU]
 | 11,v,_=>v=pT
 | 12,v,_=>v=pT
 | 13,v,_=>v=EP
 | 14,v,_=>v=sV
 | 15,v,_=>v= .int .i64 vi
 | 16,v,_=>v=UC
 | 17,v,_=>v=YW
 | 18,v,_=>v=vq
 | 19,v,_=>v=YX
 | 20,v,_=>v=ve
 | 21,v,_=>v= .agg #[.bool kb,.string kS,.bool kc,.string kU]
 | 22,v,w=>mq (S 24) g v w #[.bool db,.string dS,.bool dc,.string dU]
 | 23,v,w=>mq (S 25) g v w #[.bool kb,.string kS,.bool kc,.string kU]
 | 24,_,_=>True
 | 25,_,_=>True
 | _,_,_=>True
theorem bK {g:Nat}{pT EP sV UC YW pB YX:Value}{vi:Int}{va ve vp vq:Value}{db dc kb kc:Bool}{dS dU kS kU:ByteArray}{S:Nat→Bool}{w w':World}{e:Nat}(he:e≠24∧e≠25)(k:Keep au w w'):∀(d:Nat) (v:Value),DN g pT EP sV UC YW pB YX vi va ve vp vq db dc kb kc dS dU kS kU S d v w→DN g pT EP sV UC YW pB YX vi va ve vp vq db dc kb kc dS dU kS kU (mark S e) d v w'
 | 0,v,h=>h
 | 1,v,h=>h
 | 2,v,h=>h
 | 3,v,h=>h
 | 4,v,h=>h
 | 5,v,h=>h
 | 6,v,h=>h
 | 7,v,h=>h
 | 8,v,h=>h
 | 9,v,h=>h
 | 10,v,h=>h
 | 11,v,h=>h
 | 12,v,h=>h
 | 13,v,h=>h
 | 14,v,h=>h
 | 15,v,h=>h
 | 16,v,h=>h
 | 17,v,h=>h
 | 18,v,h=>h
 | 19,v,h=>h
 | 20,v,h=>h
 | 21,v,h=>h
 | 22,v,h=>h.keepM he.1 k
 | 23,v,h=>h.keepM he.2 k
 | 24,v,h=>h
 | 25,v,h=>h
 | n+26,v,h=>trivial
theorem mI {S:Nat→Bool}{σ:Nat→Value}{e i j:Nat}{v:Value}(h0:i≠e)(h9:j≠e)(h:S i=true→S j=true→σ i≠σ j):mark S e i=true→mark S e j=true→upd σ e v i≠upd σ e v j:=by
 intro a b;rw [dL h0]at a;rw [dL h9]at b;unfold upd;rw [if_neg h0,if_neg h9];exact h a b
theorem zdc {S:Nat→Bool}{σ:Nat→Value}{i j n:Nat}(hij:j≠i)(h:S j=true→∃b,σ j= .pointer (some ⟨b,0,none⟩)∧b<n):mark S i i=true→mark S i j=true→upd σ i (.pointer (some ⟨n,0,none⟩)) i≠upd σ i (.pointer (some ⟨n,0,none⟩)) j:=by
 intro _ hj e;rw [dL hij]at hj;obtain⟨b,e1,hb⟩:=h hj;unfold upd at e;rw [if_pos rfl,if_neg hij,e1]at e;cases e;omega
theorem zeS {S:Nat→Bool}{σ:Nat→Value}{i j n:Nat}(hij:j≠i)(h:S j=true→∃b,σ j= .pointer (some ⟨b,0,none⟩)∧b<n):mark S i j=true→mark S i i=true→upd σ i (.pointer (some ⟨n,0,none⟩)) j≠upd σ i (.pointer (some ⟨n,0,none⟩)) i:=fun a b e=>zdc hij h b a e.symm
theorem SC {g:Nat}{pT EP sV UC YW pB YX:Value}{vi:Int}{va ve vp vq:Value}{db dc kb kc:Bool}{dS dU kS kU:ByteArray}{S:Nat→Bool}{w w':World}{σ:Nat→Value}{b7:Nat}(e0:σ 22= .pointer (some ⟨b7,0,none⟩))(hg:g≤b7)(hb:aL w' b7 #[.bool db,.string dS,.bool dc,.string dU])(hs:w.heap.size≤w'.heap.size)(ho:∀b,b≠b7→w'.heap[b]? =w.heap[b]?)(hne:S 23=true→σ 23≠σ 22):∀(d:Nat),d≠24→S d=true→DN g pT EP sV UC YW pB YX vi va ve vp vq db dc kb kc dS dU kS kU S d (σ d) w→DN g pT EP sV UC YW pB YX vi va ve vp vq db dc kb kc dS dU kS kU (mark S 24) d (σ d) w'
 | 0,_,_,h=>h
 | 1,_,_,h=>h
 | 2,_,_,h=>h
 | 3,_,_,h=>h
 | 4,_,_,h=>h
 | 5,_,_,h=>h
 | 6,_,_,h=>h
 | 7,_,_,h=>h
 | 8,_,_,h=>h
 | 9,_,_,h=>h
 | 10,_,_,h=>h
 | 11,_,_,h=>h
 | 12,_,_,h=>h
 | 13,_,_,h=>h
 | 14,_,_,h=>h
 | 15,_,_,h=>h
 | 16,_,_,h=>h
 | 17,_,_,h=>h
 | 18,_,_,h=>h
 | 19,_,_,h=>h
 | 20,_,_,h=>h
 | 21,_,_,h=>h
 | 22,_,_,h=>⟨b7,e0,hg,hb.lt,fun hm=>(by rw [kM]at hm;cases hm),fun _=>hb⟩
 | 23,_,hS,h=>mq.same h om hs fun b hb'=>ho b (fun e=>hne hS (by rw [hb',e0,e]))
 | 24,hd,_,_=>absurd rfl hd
 | 25,_,_,h=>h
 | n+26,_,_,h=>trivial
theorem SE {g:Nat}{pT EP sV UC YW pB YX:Value}{vi:Int}{va ve vp vq:Value}{db dc kb kc:Bool}{dS dU kS kU:ByteArray}{S:Nat→Bool}{w w':World}{σ:Nat→Value}{b7:Nat}(e0:σ 23= .pointer (some ⟨b7,0,none⟩))(hg:g≤b7)(hb:aL w' b7 #[.bool kb,.string kS,.bool kc,.string kU])(hs:w.heap.size≤w'.heap.size)(ho:∀b,b≠b7→w'.heap[b]? =w.heap[b]?)(hne:S 22=true→σ 22≠σ 23):∀(d:Nat),d≠25→S d=true→DN g pT EP sV UC YW pB YX vi va ve vp vq db dc kb kc dS dU kS kU S d (σ d) w→DN g pT EP sV UC YW pB YX vi va ve vp vq db dc kb kc dS dU kS kU (mark S 25) d (σ d) w'
 | 0,_,_,h=>h
 | 1,_,_,h=>h
 | 2,_,_,h=>h
 | 3,_,_,h=>h
 | 4,_,_,h=>h
 | 5,_,_,h=>h
 | 6,_,_,h=>h
 | 7,_,_,h=>h
 | 8,_,_,h=>h
 | 9,_,_,h=>h
 | 10,_,_,h=>h
 | 11,_,_,h=>h
 | 12,_,_,h=>h
 | 13,_,_,h=>h
 | 14,_,_,h=>h
 | 15,_,_,h=>h
 | 16,_,_,h=>h
 | 17,_,_,h=>h
 | 18,_,_,h=>h
 | 19,_,_,h=>h
 | 20,_,_,h=>h
 | 21,_,_,h=>h
 | 22,_,hS,h=>mq.same h om hs fun b hb'=>ho b (fun e=>hne hS (by rw [hb',e0,e]))
 | 23,_,_,h=>⟨b7,e0,hg,hb.lt,fun hm=>(by rw [kM]at hm;cases hm),fun _=>hb⟩
 | 24,_,_,h=>h
 | 25,hd,_,_=>absurd rfl hd
 | n+26,_,_,h=>trivial
def TS.dK (S:TS)(v:Nat):Rat:=(jC S.n S.rows v).n-(S.val v).n
def TS.kK (S:TS)(v:Nat):Rat:=(S.val v).s-(jC S.n S.rows v).s
def TS.smK (S:TS):Nat→Rat
 | 0=>1
 | v+1=>if jd S.n v=true∧0<(S.kK v).num.sign∧0<(S.dK v).num.sign∧qP (S.dK v/S.kK v) (S.smK v)<0 then S.dK v/S.kK v else S.smK v
theorem SF (w0 w:World)(bT nm:Nat)(T:TS)(h:EW w0 w bT nm T)(hw:T.wf)(hn:T.nb 100):
  Calls Tryz.prog 76 #[.pointer (some ⟨bT,0,none⟩)] w fun e w'=>∃z,e= .returned z∧bM z (T.smK T.vals.length)∧Keep au w w':=by
 obtain⟨L,h⟩:=h;have HW:=zh hw;have HN:=zh hn;have nJ:=zh h;obtain⟨_,_,_,_,_,t5,_,fJ⟩:=h.t.seven;have hgv:=h.v.lt;have HT0:=zh t5;have xs:=h.cv.1;have xs':=h.cv.2;have hvl:=hw.vl;have h40:=hw.r40;have h12:=hw.n12;unfold maxLen at xs';have HVL:=zh hvl;have h52:T.vals.length≤76:=om;clear hvl;have CI:=fun w=>zh (iF w 1 om om);obtain⟨⟨ob,oS,oc,oU⟩,ho,hon⟩:=uQ 1;rw [ho]at CI;unfold NV.v at CI;simp only at CI;have HON:Hid (bM (NV.v ⟨ob,oS,oc,oU⟩) (T.smK 0)):=zh hon;clear h hw hn ho hon;go_enter Tryz.func76,Tryz.ntmps76;go_wp2_with fail;refine(CI _).out.mono ?_;rintro e w1 ⟨rfl,hk1⟩;have B2:Hid (aL w1 w.heap.size #[.bool false,.string ⟨#[]⟩,.bool false,.string ⟨#[]⟩]):=zh (aL.keep kb hk1);have K1:Hid (Keep au w w1):=zh (Keep.both kp hk1);clear hk1 CI;have ka:Keep au w1 (w1.alloc (.cells #[.bool ob,.string oS,.bool oc,.string oU] 102)):=(Keep.refl _ _).alloc _;have HB3:Hid (aL (w1.alloc (.cells #[.bool ob,.string oS,.bool oc,.string oU] 102)) w1.heap.size #[.bool ob,.string oS,.bool oc,.string oU]):=zh (aN _ _ rfl);have HB2:=zh (B2.out.keep ka);have K2:=zh (K1.out.both ka);have H23:Hid (w.heap.size≠w1.heap.size):=zh (Nat.ne_of_lt B2.out.lt);have HG3:Hid (w.heap.size≤w1.heap.size):=zh K1.out.size;go_upto_region 2 with fail;clear ka B2 K1;generalize w1.alloc (.cells #[.bool ob,.string oS,.bool oc,.string oU] 102)=w2 at *;generalize w1.heap.size=b3 at *;generalize hb2:w.heap.size=b2 at H23 HB2 ⊢;have HG2:Hid (w.heap.size≤b2):=zh (Nat.le_of_eq hb2);clear hb2;have t5:=(K2.out.cell fJ).trans HT0.out;have lt2:=bJ fJ K2.out.size;go_wp2;clear t5 lt2;go_loopw [15] (fun s wr=>∃v:Nat,∃x:NV,v≤T.vals.length∧s= .int .i64 v∧Keep au w wr∧aL wr b2 #[.bool false,.string ⟨#[]⟩,.bool false,.string ⟨#[]⟩]∧aL wr b3 #[.bool x.nb,.string x.nS,.bool x.db,.string x.dS]∧bM x.v (T.smK v)∧NB 300 (T.smK v)) (fun s _=>(T.vals.length-intOf s).toNat)
 case atStart=>exact⟨0,⟨ob,oS,oc,oU⟩,om,rfl,K2.out,HB2.out,HB3.out,HON.out,(jg (x:=1) (by decide)).mono om⟩
 obtain⟨v,⟨xb,xS,xc,xU⟩,hv,rfl,hkr,hb2,hb3,hxn,hnb⟩:=hrel;simp only at hb3;have dH:=zh hkr;have HB2:=zh hb2;have HB3:=zh hb3;have Z9:=zh hxn;have EI:=zh hnb;clear hkr hb2 hb3 hxn hnb K2;by_cases zam:v<T.vals.length
 case neg=>
  have hlt:¬(v:Int)<(T.vals.length:Int):=om;obtain rfl:v=T.vals.length:=om;obtain⟨s0,s1,s2,s3,_,_,_,_,sl⟩:=HB3.out.four;obtain⟨r0,r1,r2,r3,f0,f1,f2,f3,rl⟩:=HB2.out.four;have rR:=zh (HB2.out.set4 (.bool xb) (.string xS) (.bool xc) (.string xU));have KR:=zh (fF dH.out HG2.out (.bool xb) (.string xS) (.bool xc) (.string xU));go_upto_region 11 with fail;go_simp
  repeat go_step
  obtain⟨q0,q1,q2,q3,_,_,_,_,ql⟩:=rR.out.four;refine bodyPost_ret (by simp [results,Tryz.results76,go_sem,q0,q1,q2,q3,ql];rfl) rfl ?_;exact⟨_,rfl,Z9.out,KR.out⟩
 have hlt:(v:Int)<(T.vals.length:Int):=om;have hvb:v<T.n+T.rows.length:=by have:=HVL.out;omega
 have CU:=fun w' (k:Keep au w w')=>zh (vO w' bT T.n _ _ _ _ _ _ T.rows v (nJ.out.t.keep k) (nJ.out.rows.keep (nJ.out.k.both k)) HW.out.n12 HW.out.r40 hvb);have Rh:=zh (KU HW.out v);obtain⟨⟨⟨pb,pS,pc,pU⟩,⟨qb,qS,qc,qU⟩⟩,hpx,e0,e1,e2,e3,e4,e5,e6,e7⟩:=sI nJ.out.v zam;simp only at e0 e1 e2 e3 e4 e5 e6 e7;rw [← kL zam]at hpx;have YU:=zh hpx;have La:Hid ((T.val v).ok 100):=zh (by rw [kL zam];exact HN.out.v _ (List.getElem_mem zam));have HC:=zh (And.intro e0 (And.intro e1 (And.intro e2 (And.intro e3 (And.intro e4 (And.intro e5 (And.intro e6 e7)))))));clear e0 e1 e2 e3 e4 e5 e6 e7 hpx;go_wp2_with fail;refine(CU _ dH.out).out.mono ?_;rintro e wA ⟨⟨⟨ab,aS,ac,aU⟩,⟨eb,eS,ec,eU⟩⟩,rfl,hz,hk⟩;have HZ:=zh hz;have KA:=zh (dH.out.both hk);have HB2:=zh (HB2.out.keep hk);have HB3:=zh (HB3.out.keep hk);clear hk hz CU;have ka:Keep au wA (wA.alloc (.cells #[.bool ab,.string aS,.bool ac,.string aU,.bool eb,.string eS,.bool ec,.string eU] 147)):=(Keep.refl _ _).alloc _;have dY:Hid (aL (wA.alloc (.cells #[.bool ab,.string aS,.bool ac,.string aU,.bool eb,.string eS,.bool ec,.string eU] 147)) wA.heap.size #[.bool ab,.string aS,.bool ac,.string aU,.bool eb,.string eS,.bool ec,.string eU]):=zh (aN _ _ rfl);have KB:=zh (KA.out.both ka);have HB2:=zh (HB2.out.keep ka);have HB3:=zh (HB3.out.keep ka);unfold PV.v;go_upto_region 6 with fail;clear ka;generalize wA.alloc (.cells #[.bool ab,.string aS,.bool ac,.string aU,.bool eb,.string eS,.bool ec,.string eU] 147)=wB at *;generalize wA.heap.size=b5 at *;generalize YV:jd T.n v=hu at*;cases hu
 case false=>
  have AV:Hid (T.smK (v+1)=T.smK v):=zh (by rw [TS.smK,if_neg (fun h=>by rw [YV]at h;cases h.1)]);clear YV;go_wp2;go_roundw
  case rel=>exact⟨v+1,⟨xb,xS,xc,xU⟩,om,gn,KB.out,HB2.out,HB3.out,by rw [AV.out];exact Z9.out,by rw [AV.out];exact EI.out⟩
  simp [intOf];omega
 have HHU:=zh YV;clear YV;have nD:NB 102 (T.dK v):=(Rh.out.1.sub La.out.1).mono om;have nK:NB 102 (T.kK v):=(La.out.2.sub Rh.out.2).mono om;have CD:=fun w=>zh (pO w _ _ HZ.out.1 (Rh.out.1.mono om) _ _ YU.out.1 (La.out.1.mono om));have CK:=fun w=>zh (pO w _ _ YU.out.2 (La.out.2.mono om) _ _ HZ.out.2 (Rh.out.2.mono om));obtain⟨⟨db,dS,dc,dU⟩,hd,hdn⟩:=eP (T.dK v);obtain⟨⟨kb,kS,kc,kU⟩,hk',hkn⟩:=eP (T.kK v);have hd':qj ((jC T.n T.rows v).n-(T.val v).n)=_:=hd;have hk'':qj ((T.val v).s-(jC T.n T.rows v).s)=_:=hk';rw [hd']at CD;rw [hk'']at CK;unfold NV.v at CD CK;simp only at CD CK;have HDN:=zh hdn;have HKN:=zh hkn;have Ux:=zh nD;have HNK:=zh nK;have lT:=bJ fJ KB.out.size;have lV:=bJ hgv KB.out.size;have l5:=dY.out.lt;have HT5:=zh ((KB.out.cell fJ).trans HT0.out);have HV:=zh (And.intro ((KB.out.cell hgv).trans HC.out.1) (And.intro ((KB.out.cell hgv).trans HC.out.2.1) (And.intro ((KB.out.cell hgv).trans HC.out.2.2.1) (And.intro ((KB.out.cell hgv).trans HC.out.2.2.2.1) (And.intro ((KB.out.cell hgv).trans HC.out.2.2.2.2.1) (And.intro ((KB.out.cell hgv).trans HC.out.2.2.2.2.2.1) (And.intro ((KB.out.cell hgv).trans HC.out.2.2.2.2.2.2.1) ((KB.out.cell hgv).trans HC.out.2.2.2.2.2.2.2))))))));clear nD nK hd hdn hk' hkn hd' hk'';go_upto_region 7 with fail;refine kY (fun S σ w'=>Keep au wB w'∧(S 22=true→S 23=true→σ 22≠σ 23)) (DN wB.heap.size (.pointer (some ⟨bT,0,none⟩)) (.pointer (some ⟨bT,5,none⟩)) (.slice (some ⟨L.gv,0,none⟩) T.vals.length L.cv) (.pointer (some ⟨L.gv,v*8,none⟩)) (.pointer (some ⟨L.gv,v*8+4,none⟩)) (.pointer (some ⟨b5,0,none⟩)) (.pointer (some ⟨b5,4,none⟩)) v (.agg #[.bool ab,.string aS,.bool ac,.string aU]) (.agg #[.bool eb,.string eS,.bool ec,.string eU]) (.agg #[.bool pb,.string pS,.bool pc,.string pU]) (.agg #[.bool qb,.string qS,.bool qc,.string qU]) db dc kb kc dS dU kS kU) kr kr kr kr (fun S σ hS=>⟨by exact kp,fun h=>by rw [hS 22]at h;cases h⟩) _ (fun σ=>by
  show bP _ σ [0,1,2,3,4,5,6,7,8,9,10,11,12,13,14,15,16,17,18,19,20,21,22,23,24,25] _=_;simp only [bP,zl0,zl1,zl2,Act.put,List.setIfInBounds_toArray,List.set_cons_zero,List.set_cons_succ];rfl) ?_ ?_
 ·intro S σ w1 UD hall e he HK;have he:e<26:=he;obtain⟨hC,hR⟩:=UD;obtain rfl | rfl | rfl | rfl | rfl | rfl | rfl | rfl | rfl | rfl | rfl | rfl | rfl | rfl | rfl | rfl | rfl | rfl | rfl | rfl | rfl | rfl | rfl | rfl | rfl | rfl:e=0∨e=1∨e=2∨e=3∨e=4∨e=5∨e=6∨e=7∨e=8∨e=9∨e=10∨e=11∨e=12∨e=13∨e=14∨e=15∨e=16∨e=17∨e=18∨e=19∨e=20∨e=21∨e=22∨e=23∨e=24∨e=25:=om
  ·refine ay rfl rfl fun K hK=> ?_;go_simp;exact hK _ _ ⟨_,⟨hC,mI om om hR⟩,fun d hd hs h=>bK (by decide) (Keep.refl _ _) d _ h,rfl,rfl⟩
  ·have h0:σ 0=Value.pointer (some ⟨b5,0,none⟩):=HK.post 0 kr;rw [h0];obtain⟨s0,s1,s2,s3,s4,s5,s6,s7,sl⟩:=(dY.out.keep hC).eight;refine ay rfl rfl fun K hK=> ?_;go_simp;exact hK _ _ ⟨_,⟨hC,mI om om hR⟩,fun d hd hs h=>bK (by decide) (Keep.refl _ _) d _ h,rfl,rfl⟩
  ·refine ay rfl rfl fun K hK=> ?_;go_simp;exact hK _ _ ⟨_,⟨hC,mI om om hR⟩,fun d hd hs h=>bK (by decide) (Keep.refl _ _) d _ h,rfl,rfl⟩
  ·have h2:σ 2=Value.pointer (some ⟨bT,0,none⟩):=HK.post 2 kr;rw [h2];refine ay rfl rfl fun K hK=> ?_;go_simp;exact hK _ _ ⟨_,⟨hC,mI om om hR⟩,fun d hd hs h=>bK (by decide) (Keep.refl _ _) d _ h,rfl,rfl⟩
  ·have h3:σ 3=Value.pointer (some ⟨bT,0,none⟩):=HK.post 3 kr;rw [h3];refine ay rfl rfl fun K hK=> ?_;go_simp;exact hK _ _ ⟨_,⟨hC,mI om om hR⟩,fun d hd hs h=>bK (by decide) (Keep.refl _ _) d _ h,rfl,rfl⟩
  ·have h4:σ 4=Value.pointer (some ⟨bT,5,none⟩):=HK.post 4 kr;rw [h4];have m0:=(hC.cell lT).trans HT5.out;refine ay rfl rfl fun K hK=> ?_;go_simp;exact hK _ _ ⟨_,⟨hC,mI om om hR⟩,fun d hd hs h=>bK (by decide) (Keep.refl _ _) d _ h,rfl,rfl⟩
  ·refine ay rfl rfl fun K hK=> ?_;go_simp;exact hK _ _ ⟨_,⟨hC,mI om om hR⟩,fun d hd hs h=>bK (by decide) (Keep.refl _ _) d _ h,rfl,rfl⟩
  ·have h5:σ 5=Value.slice (some ⟨L.gv,0,none⟩) T.vals.length L.cv:=HK.post 5 kr;rw [h5];have h6:σ 6=Value.int .i64 v:=HK.post 6 kr;rw [h6];refine ay rfl rfl fun K hK=> ?_;go_simp;exact hK _ _ ⟨_,⟨hC,mI om om hR⟩,fun d hd hs h=>bK (by decide) (Keep.refl _ _) d _ h,rfl,rfl⟩
  ·have h7:σ 7=Value.pointer (some ⟨L.gv,v*8,none⟩):=HK.post 7 kr;rw [h7];refine ay rfl rfl fun K hK=> ?_;go_simp;exact hK _ _ ⟨_,⟨hC,mI om om hR⟩,fun d hd hs h=>bK (by decide) (Keep.refl _ _) d _ h,rfl,rfl⟩
  ·have h8:σ 8=Value.pointer (some ⟨L.gv,v*8,none⟩):=HK.post 8 kr;rw [h8];have m0:=(hC.cell lV).trans HV.out.1;have m1:=(hC.cell lV).trans HV.out.2.1;have m2:=(hC.cell lV).trans HV.out.2.2.1;have m3:=(hC.cell lV).trans HV.out.2.2.2.1;have m4:=(hC.cell lV).trans HV.out.2.2.2.2.1;have m5:=(hC.cell lV).trans HV.out.2.2.2.2.2.1;have m6:=(hC.cell lV).trans HV.out.2.2.2.2.2.2.1;have m7:=(hC.cell lV).trans HV.out.2.2.2.2.2.2.2;refine ay rfl rfl fun K hK=> ?_;go_simp;exact hK _ _ ⟨_,⟨hC,mI om om hR⟩,fun d hd hs h=>bK (by decide) (Keep.refl _ _) d _ h,rfl,rfl⟩
  ·have h1:σ 1=Value.agg #[.bool ab,.string aS,.bool ac,.string aU]:=HK.post 1 kr;rw [h1];have h9:σ 9=Value.agg #[.bool pb,.string pS,.bool pc,.string pU]:=HK.post 9 kr;rw [h9];refine ay rfl rfl fun K hK=> ?_;go_simp;refine(CD _).out.mono ?_;rintro e w2 ⟨rfl,hk2⟩;exact hK _ _ ⟨_,⟨hC.both hk2,mI om om hR⟩,fun d hd hs h=>bK (by decide) hk2 d _ h,rfl,rfl⟩
  ·refine ay rfl rfl fun K hK=> ?_;go_simp;exact hK _ _ ⟨_,⟨hC,mI om om hR⟩,fun d hd hs h=>bK (by decide) (Keep.refl _ _) d _ h,rfl,rfl⟩
  ·have h11:σ 11=Value.pointer (some ⟨bT,0,none⟩):=HK.post 11 kr;rw [h11];refine ay rfl rfl fun K hK=> ?_;go_simp;exact hK _ _ ⟨_,⟨hC,mI om om hR⟩,fun d hd hs h=>bK (by decide) (Keep.refl _ _) d _ h,rfl,rfl⟩
  ·have h12:σ 12=Value.pointer (some ⟨bT,0,none⟩):=HK.post 12 kr;rw [h12];refine ay rfl rfl fun K hK=> ?_;go_simp;exact hK _ _ ⟨_,⟨hC,mI om om hR⟩,fun d hd hs h=>bK (by decide) (Keep.refl _ _) d _ h,rfl,rfl⟩
  ·have h13:σ 13=Value.pointer (some ⟨bT,5,none⟩):=HK.post 13 kr;rw [h13];have m0:=(hC.cell lT).trans HT5.out;refine ay rfl rfl fun K hK=> ?_;go_simp;exact hK _ _ ⟨_,⟨hC,mI om om hR⟩,fun d hd hs h=>bK (by decide) (Keep.refl _ _) d _ h,rfl,rfl⟩
  ·refine ay rfl rfl fun K hK=> ?_;go_simp;exact hK _ _ ⟨_,⟨hC,mI om om hR⟩,fun d hd hs h=>bK (by decide) (Keep.refl _ _) d _ h,rfl,rfl⟩
  ·have h14:σ 14=Value.slice (some ⟨L.gv,0,none⟩) T.vals.length L.cv:=HK.post 14 kr;rw [h14];have h15:σ 15=Value.int .i64 v:=HK.post 15 kr;rw [h15];refine ay rfl rfl fun K hK=> ?_;go_simp;exact hK _ _ ⟨_,⟨hC,mI om om hR⟩,fun d hd hs h=>bK (by decide) (Keep.refl _ _) d _ h,rfl,rfl⟩
  ·have h16:σ 16=Value.pointer (some ⟨L.gv,v*8,none⟩):=HK.post 16 kr;rw [h16];refine ay rfl rfl fun K hK=> ?_;go_simp;exact hK _ _ ⟨_,⟨hC,mI om om hR⟩,fun d hd hs h=>bK (by decide) (Keep.refl _ _) d _ h,rfl,rfl⟩
  ·have h17:σ 17=Value.pointer (some ⟨L.gv,v*8+4,none⟩):=HK.post 17 kr;rw [h17];have m0:=(hC.cell lV).trans HV.out.1;have m1:=(hC.cell lV).trans HV.out.2.1;have m2:=(hC.cell lV).trans HV.out.2.2.1;have m3:=(hC.cell lV).trans HV.out.2.2.2.1;have m4:=(hC.cell lV).trans HV.out.2.2.2.2.1;have m5:=(hC.cell lV).trans HV.out.2.2.2.2.2.1;have m6:=(hC.cell lV).trans HV.out.2.2.2.2.2.2.1;have m7:=(hC.cell lV).trans HV.out.2.2.2.2.2.2.2;refine ay rfl rfl fun K hK=> ?_;go_simp;exact hK _ _ ⟨_,⟨hC,mI om om hR⟩,fun d hd hs h=>bK (by decide) (Keep.refl _ _) d _ h,rfl,rfl⟩
  ·refine ay rfl rfl fun K hK=> ?_;go_simp;exact hK _ _ ⟨_,⟨hC,mI om om hR⟩,fun d hd hs h=>bK (by decide) (Keep.refl _ _) d _ h,rfl,rfl⟩
  ·have h19:σ 19=Value.pointer (some ⟨b5,4,none⟩):=HK.post 19 kr;rw [h19];obtain⟨s0,s1,s2,s3,s4,s5,s6,s7,sl⟩:=(dY.out.keep hC).eight;refine ay rfl rfl fun K hK=> ?_;go_simp;exact hK _ _ ⟨_,⟨hC,mI om om hR⟩,fun d hd hs h=>bK (by decide) (Keep.refl _ _) d _ h,rfl,rfl⟩
  ·have h18:σ 18=Value.agg #[.bool qb,.string qS,.bool qc,.string qU]:=HK.post 18 kr;rw [h18];have h20:σ 20=Value.agg #[.bool eb,.string eS,.bool ec,.string eU]:=HK.post 20 kr;rw [h20];refine ay rfl rfl fun K hK=> ?_;go_simp;refine(CK _).out.mono ?_;rintro e w2 ⟨rfl,hk2⟩;exact hK _ _ ⟨_,⟨hC.both hk2,mI om om hR⟩,fun d hd hs h=>bK (by decide) hk2 d _ h,rfl,rfl⟩
  ·refine ay rfl rfl fun K hK=> ?_;go_simp;exact hK _ _ ⟨_,⟨hC.alloc _,zdc om fun hs=>(by
    obtain⟨b,e1,_,e2,_⟩:=(show mq (S 25) wB.heap.size (σ 23) w1 #[.bool kb,.string kS,.bool kc,.string kU]from hall 23 hs);exact⟨b,e1,e2⟩)⟩,fun d hd hs h=>bK (by decide) ((Keep.refl _ _).alloc _) d _ h,rfl,⟨w1.heap.size,rfl,hC.size,sm,fun _=>aN _ _ rfl,fun hm=>by rw [dL om,HK.down 24 kr]at hm;cases hm⟩⟩
  ·refine ay rfl rfl fun K hK=> ?_;go_simp;exact hK _ _ ⟨_,⟨hC.alloc _,zeS om fun hs=>(by
    obtain⟨b,e1,_,e2,_⟩:=(show mq (S 24) wB.heap.size (σ 22) w1 #[.bool db,.string dS,.bool dc,.string dU]from hall 22 hs);exact⟨b,e1,e2⟩)⟩,fun d hd hs h=>bK (by decide) ((Keep.refl _ _).alloc _) d _ h,rfl,⟨w1.heap.size,rfl,hC.size,sm,fun _=>aN _ _ rfl,fun hm=>by rw [dL om,HK.down 25 kr]at hm;cases hm⟩⟩
  ·have h10:σ 10=Value.agg #[.bool db,.string dS,.bool dc,.string dU]:=HK.post 10 kr;rw [h10];obtain⟨b7,e0,hg7,_,hz7,_⟩:=(show mq (S 24) wB.heap.size (σ 22) w1 #[.bool db,.string dS,.bool dc,.string dU]from HK.post 22 kr);have hz7:=hz7 HK.self;rw [e0];obtain⟨s0,s1,s2,s3,f0,f1,f2,f3,sl⟩:=hz7.four;refine ay rfl rfl fun K hK=> ?_;go_simp;exact hK _ _ ⟨undef,⟨fF hC hg7 _ _ _ _,mI om om hR⟩,SC (w:=w1) e0 hg7 (hz7.set4 _ _ _ _) sm (fun b hb=>by rw [heap_setCell_other _ _ _ _ hb,heap_setCell_other _ _ _ _ hb,heap_setCell_other _ _ _ _ hb,heap_setCell_other _ _ _ _ hb]) (fun hs=>(hR (HK.up 22 kr) hs).symm),rfl,trivial⟩
  have h21:σ 21=Value.agg #[.bool kb,.string kS,.bool kc,.string kU]:=HK.post 21 kr;rw [h21];obtain⟨b7,e0,hg7,_,hz7,_⟩:=(show mq (S 25) wB.heap.size (σ 23) w1 #[.bool kb,.string kS,.bool kc,.string kU]from HK.post 23 kr);have hz7:=hz7 HK.self;rw [e0];obtain⟨s0,s1,s2,s3,f0,f1,f2,f3,sl⟩:=hz7.four;refine ay rfl rfl fun K hK=> ?_;go_simp;exact hK _ _ ⟨undef,⟨fF hC hg7 _ _ _ _,mI om om hR⟩,SE (w:=w1) e0 hg7 (hz7.set4 _ _ _ _) sm (fun b hb=>by rw [heap_setCell_other _ _ _ _ hb,heap_setCell_other _ _ _ _ hb,heap_setCell_other _ _ _ _ hb,heap_setCell_other _ _ _ _ hb]) (fun hs=>hR hs (HK.up 23 kr)),rfl,trivial⟩
 intro S σ w5 UD hS hP7;obtain⟨hC,_⟩:=UD;obtain⟨bd,e22,hgd,_,_,hbd⟩:=(show mq (S 24) wB.heap.size (σ 22) w5 #[.bool db,.string dS,.bool dc,.string dU]from hP7 22 (by decide));obtain⟨bk,e23,hgk,_,_,hbk⟩:=(show mq (S 25) wB.heap.size (σ 23) w5 #[.bool kb,.string kS,.bool kc,.string kU]from hP7 23 (by decide));have HBD:=zh (hbd (hS 24 (by decide)));have SG:=zh (hbk (hS 25 (by decide)));rw [e22,e23];refine NoPanic.normal ?_;have K5:=zh (KB.out.both hC);have HB2:=zh (HB2.out.keep hC);have HB3:=zh (HB3.out.keep hC);clear hP7 hS hC e22 e23 hgd hgk hbd hbk CD CK HT5 HV dY lT lV l5;have CSK:=fun w=>zh (ko HKN.out w);have CSD:=fun w=>zh (ko HDN.out w);obtain⟨sk,hsk⟩:∃s,(T.kK v).num.sign=s:=⟨_,rfl⟩;obtain⟨sd,hsd⟩:∃s,(T.dK v).num.sign=s:=⟨_,rfl⟩;have HSK:=zh hsk;have HSD:=zh hsd;rw [hsk]at CSK;rw [hsd]at CSD;unfold NV.v at CSK CSD;simp only at CSK CSD;clear hsk hsd;go_upto_region 8 with fail;refine aD (fun w'=>Keep au w5 w') [] [([0],1),([2,3,4],5),([6,7,8,9,10,12],11),([],13)] [14,15] kr kr kp ?_;intro X W hne hF hcls;have aY:=zh hcls;have z0:=fun x=>(HBD.out.keep (hF x)).four;have z1:=fun x=>(SG.out.keep (hF x)).four;have z2:=fun x=>(HB3.out.keep (hF x)).four;clear hF hcls;simp only [aW,aJ,zl0,zl1,zl2,aX,Bool.false_eq_true,if_false]
 (repeat(go_big_quiet_step (fail)));refine wpQuiet_nil ?_
 refine ay rfl rfl fun K hK=> ?_;go_simp;refine(CSK _).out.mono ?_;rintro e w6 ⟨rfl,hk6⟩;have k6:Keep au w5 w6:=Keep.trans kp hk6 fun _ _ _ h=>h;refine hK _ _ ⟨fun _=>aY.out _ k6,?_⟩;clear hK hk6 CSK;by_cases hk0:0<sk
 case neg=>
  have AV:Hid (T.smK (v+1)=T.smK v):=zh (by rw [TS.smK,if_neg (fun h=>hk0 (by rw [← HSK.out];exact h.2.1))])
  (repeat(go_big_quiet_step (fail)));refine wpQuiet_nil ?_
  refine fE (by simp only [zl0,zl1,zl2];rfl) (by rfl) ?_;simp only [Act.put,List.setIfInBounds_toArray,List.set_cons_zero,List.set_cons_succ];refine⟨fun _=>aY.out _ k6,?_⟩
  (repeat(go_big_quiet_step (fail)));refine wpQuiet_nil ?_
  refine fE (by simp only [zl0,zl1,zl2];rfl) (by rfl) ?_;simp only [Act.put,List.setIfInBounds_toArray,List.set_cons_zero,List.set_cons_succ];refine⟨fun _=>aY.out _ k6,?_⟩
  (repeat(go_big_quiet_step (fail)));refine wpQuiet_nil ?_
  refine fE (by simp only [zl0,zl1,zl2];rfl) (by rfl) ?_;simp only [Act.put,List.setIfInBounds_toArray,List.set_cons_zero,List.set_cons_succ];refine⟨fun _=>aY.out _ k6,?_⟩
  (repeat(go_big_quiet_step (fail)));refine wpQuiet_nil ?_
  refine NoPanic.normal ?_;have KE:=zh (K5.out.both k6);have HB2:=zh (HB2.out.keep k6);have HB3:=zh (HB3.out.keep k6);clear z0 z1 z2 aY;go_wp2;go_roundw
  case rel=>exact⟨v+1,⟨xb,xS,xc,xU⟩,om,gn,KE.out,HB2.out,HB3.out,by rw [AV.out];exact Z9.out,by rw [AV.out];exact EI.out⟩
  simp [intOf];omega
 (repeat(go_big_quiet_step (fail)));refine wpQuiet_nil ?_
 refine E9 rfl rfl fun K hK=> ?_;go_simp;refine(CSD _).out.mono ?_;rintro e w7 ⟨rfl,hk7⟩;have k7:Keep au w5 w7:=k6.both hk7;refine hK _ _ ⟨fun _=>aY.out _ k7,?_⟩;clear hK hk7 CSD k6;by_cases hd0:0<sd
 case neg=>
  have AV:Hid (T.smK (v+1)=T.smK v):=zh (by rw [TS.smK,if_neg (fun h=>hd0 (by rw [← HSD.out];exact h.2.2.1))])
  (repeat(go_big_quiet_step (fail)));refine wpQuiet_nil ?_
  refine fE (by simp only [zl0,zl1,zl2];rfl) (by rfl) ?_;simp only [Act.put,List.setIfInBounds_toArray,List.set_cons_zero,List.set_cons_succ];refine⟨fun _=>aY.out _ k7,?_⟩
  (repeat(go_big_quiet_step (fail)));refine wpQuiet_nil ?_
  refine fE (by simp only [zl0,zl1,zl2];rfl) (by rfl) ?_;simp only [Act.put,List.setIfInBounds_toArray,List.set_cons_zero,List.set_cons_succ];refine⟨fun _=>aY.out _ k7,?_⟩
  (repeat(go_big_quiet_step (fail)));refine wpQuiet_nil ?_
  refine NoPanic.normal ?_;have KE:=zh (K5.out.both k7);have HB2:=zh (HB2.out.keep k7);have HB3:=zh (HB3.out.keep k7);clear z0 z1 z2 aY;go_wp2;go_roundw
  case rel=>exact⟨v+1,⟨xb,xS,xc,xU⟩,om,gn,KE.out,HB2.out,HB3.out,by rw [AV.out];exact Z9.out,by rw [AV.out];exact EI.out⟩
  simp [intOf];omega
 have hkn:T.kK v≠0:=fun h=>by
  have:=HSK.out;rw [h]at this;have h0:(0:Rat).num.sign=0:=rfl;omega
 have HKZ:=zh hkn;have CO:=fun w=>zh (sJ w _ _ HDN.out (Ux.out.mono om) _ _ HKN.out (HNK.out.mono om) hkn);have nq:=Ux.out.div HNK.out hkn;have YJ:Hid (NB 300 (T.dK v/T.kK v)):=zh (nq.mono om);obtain⟨⟨rb,rS,rc,rU⟩,hr,hrn⟩:=eP (T.dK v/T.kK v);rw [hr]at CO;have Xc:=zh hrn;have CC:=fun w=>zh (vF w _ _ hrn (YJ.out.mono om) _ _ Z9.out (EI.out.mono om));have HCM:Hid (qP (T.dK v/T.kK v) (T.smK v)=((T.dK v/T.kK v).num*(T.smK v).den-(T.smK v).num*(T.dK v/T.kK v).den).sign):=zh rfl;generalize ((T.dK v/T.kK v).num*(T.smK v).den-(T.smK v).num*(T.dK v/T.kK v).den).sign=cm at *;unfold NV.v at CO CC;simp only at CO CC;clear hkn nq hr hrn
 (repeat(go_big_quiet_step (fail)));refine wpQuiet_nil ?_
 refine E9 rfl rfl fun K hK=> ?_;go_simp;refine(CO _).out.mono ?_;rintro e w8 ⟨rfl,hk8⟩;have k8:Keep au w5 w8:=k7.both hk8;refine hK _ _ ⟨fun _=>aY.out _ k8,?_⟩;clear hK hk8 k7
 (repeat(go_big_quiet_step (fail)));refine wpQuiet_nil ?_
 refine E9 rfl rfl fun K hK=> ?_;go_simp;refine(CC _).out.mono ?_;rintro e w9 ⟨rfl,hk9⟩;have k9:Keep au w5 w9:=k8.both hk9;refine hK _ _ ⟨fun _=>aY.out _ k9,?_⟩;clear hK hk9 k8 CC;by_cases hc0:cm<0
 case neg=>
  have AV:Hid (T.smK (v+1)=T.smK v):=zh (by rw [TS.smK,if_neg (fun h=>hc0 (by rw [← HCM.out];exact h.2.2.2))])
  (repeat(go_big_quiet_step (fail)));refine wpQuiet_nil ?_
  refine NoPanic.normal ?_;have KE:=zh (K5.out.both k9);have HB2:=zh (HB2.out.keep k9);have HB3:=zh (HB3.out.keep k9);clear z0 z1 z2 aY;go_wp2;go_roundw
  case rel=>exact⟨v+1,⟨xb,xS,xc,xU⟩,om,gn,KE.out,HB2.out,HB3.out,by rw [AV.out];exact Z9.out,by rw [AV.out];exact EI.out⟩
  simp [intOf];omega
 have AV:Hid (T.smK (v+1)=T.dK v/T.kK v):=zh (by rw [TS.smK,if_pos ⟨HHU.out,by rw [HSK.out];exact hk0,by rw [HSD.out];exact hd0,by rw [HCM.out];exact hc0⟩])
 (repeat(go_big_quiet_step (fail)));refine wpQuiet_nil ?_
 refine NoPanic.normal ?_;have KE:=zh (K5.out.both k9);have HB2:=zh (HB2.out.keep k9);have HB3:=zh (HB3.out.keep k9);have HBD:=zh (HBD.out.keep k9);have SG:=zh (SG.out.keep k9);clear z0 z1 z2 aY;obtain⟨d0,d1,d2,d3,_,_,_,_,dl⟩:=HBD.out.four;obtain⟨k0,k1,k2,k3,_,_,_,_,kl⟩:=SG.out.four;go_wp2_with fail;refine(CO _).out.mono ?_;rintro e wX ⟨rfl,hkX⟩;have KX:=zh (KE.out.both hkX);have HB2:=zh (HB2.out.keep hkX);have HB3:=zh (HB3.out.keep hkX);clear hkX CO d0 d1 d2 d3 dl k0 k1 k2 k3 kl;obtain⟨s0,s1,s2,s3,f0,f1,f2,f3,sl⟩:=HB3.out.four;have ES:=zh (HB3.out.set4 (.bool rb) (.string rS) (.bool rc) (.string rU));have NM:=zh (HB2.out.other4 H23.out (.bool rb) (.string rS) (.bool rc) (.string rU));have KY:=zh (fF KX.out HG3.out (.bool rb) (.string rS) (.bool rc) (.string rU));go_wp2;go_roundw
 case rel=>exact⟨v+1,⟨rb,rS,rc,rU⟩,om,gn,KY.out,NM.out,ES.out,by rw [AV.out];exact Xc.out,by rw [AV.out];exact YJ.out⟩
 simp [intOf];omega
def TS.ptQ (S:TS)(v:Nat):Rat:=(S.val v).n+(S.val v).s*S.smK S.vals.length
def TS.ptK (S:TS)(n:Nat):List Rat:=(List.range n).map S.ptQ
theorem BH {S:TS}{n:Nat}:(S.ptK n).length=n:=by simp [TS.ptK]
theorem Xd {S:TS}{n:Nat}:S.ptK (n+1)=S.ptK n++ [S.ptQ n]:=by
 unfold TS.ptK;rw [List.range_succ,List.map_append];rfl
theorem OC {S:TS}(hw:S.wf)(hn:S.nb 100):∀k,k≤S.vals.length→NB 300 (S.smK k)
 | 0,_=>(jg (x:=1) (by decide)).mono om
 | k+1,h=>by
  unfold TS.smK;split
  ·rename_i hc;have hv:(S.val k).ok 100:=by rw [kL om];exact hn.v _ (List.getElem_mem _)
   have hu:=KU hw k;have h0:S.kK k≠0:=fun h=>by
    have:=hc.2.1;rw [h]at this;have h0:(0:Rat).num.sign=0:=rfl;omega
   exact((((hu.1.sub hv.1).mono (k:=102) om:NB 102 (S.dK k))).div ((hv.2.sub hu.2).mono (k:=102) om:NB 102 (S.kK k)) h0).mono om
  exact OC hw hn k om
theorem Ru (w0 w:World)(bT nm:Nat)(T:TS)(h:EW w0 w bT nm T)(hw:T.wf)(hn:T.nb 100):
  Calls Tryz.prog 32 #[.pointer (some ⟨bT,0,none⟩)] w fun e w'=>∃u,e= .returned u∧jf w' u (T.ptK T.n)∧Keep au w w':=by
 have CS:=fun w' (k:Keep au w w')=>zh (SF w0 w' bT nm T (h.keep k) hw hn);obtain⟨L,h⟩:=h;have HW:=zh hw;have HN:=zh hn;have nJ:=zh h;have zdd:=zh (OC hw hn T.vals.length (Nat.le_refl _));obtain⟨t0,_,_,_,_,t5,_,fJ⟩:=h.t.seven;have hgv:=h.v.lt;have HT0:=zh (And.intro t0 t5);have xs:=h.cv.1;have xs':=h.cv.2;have hvl:=hw.vl;have h40:=hw.r40;have h12:=hw.n12;unfold maxLen at xs';have hnl:T.n≤T.vals.length:=om;have hnc:T.n≤L.cv:=om;have hncI:(T.n:Int)≤(L.cv:Int):=om;clear h hw hn hvl t0 t5;go_enter Tryz.func32,Tryz.ntmps32;go_wp2_with fail;refine(CS _ kp).out.mono ?_;rintro e w1 ⟨z,rfl,hz,hk1⟩;obtain⟨⟨sb,sS,sc,sU⟩,rfl⟩:=Ci hz;have K1:Hid (Keep au w w1):=zh (Keep.both kp hk1);have HZ:=zh hz;clear hk1 CS hz;have ka:Keep au w1 (w1.alloc (.cells #[.bool sb,.string sS,.bool sc,.string sU] 102)):=(Keep.refl _ _).alloc _;have HB3:Hid (aL (w1.alloc (.cells #[.bool sb,.string sS,.bool sc,.string sU] 102)) w1.heap.size #[.bool sb,.string sS,.bool sc,.string sU]):=zh (aN _ _ rfl);have K2:=zh (K1.out.both ka);unfold NV.v;simp only;go_upto_region 3 with fail;clear ka K1;generalize w1.alloc (.cells #[.bool sb,.string sS,.bool sc,.string sU] 102)=w2 at *;generalize w1.heap.size=b3 at *;have lt2:=bJ fJ K2.out.size;refine aD (fun w'=>Keep au w2 w') [] [] [0,1,2,3,4,5,6,7,8,9,10] kr kr kp ?_;intro X W hne hF hcls;have x0:=fun x=>((hF x).cell lt2).trans ((K2.out.cell fJ).trans HT0.out.1);have x1:=fun x=>((hF x).cell lt2).trans ((K2.out.cell fJ).trans HT0.out.2);clear hF hcls;simp only [aW,aJ,zl0,zl1,zl2,aX,Bool.false_eq_true,if_false]
 (repeat(go_big_quiet_step (fail)));refine wpQuiet_nil ?_
 refine NoPanic.normal ?_;have K2:=zh (K2.out.drew);have HB3:=zh (HB3.out.keep (Keep.refl au w2).drew);have HG2:Hid (w.heap.size≤w2.drew.heap.size):=zh K2.out.size;clear x0 x1 lt2;generalize w2.drew=w3 at *;have zeT:Hid (b3<w3.heap.size):=zh HB3.out.lt;go_wp2;go_loopw [4,19] (fun s4 s19 wr=>∃v:Nat,v≤T.n∧s19= .int .i64 v∧Keep au w wr∧aL wr b3 #[.bool sb,.string sS,.bool sc,.string sU]∧oK wr w3.heap.size s4 (T.ptK v)∧w3.heap.size≤wr.heap.size) (fun _ s _=>(T.n-intOf s).toNat)
 case atStart=>exact⟨0,om,rfl,K2.out,HB3.out,oK.nil _ _,Nat.le_refl _⟩
 obtain⟨v,hv,rfl,hkr,hb3,hou,hsz⟩:=hrel;have dH:=zh hkr;have ES:=zh hb3;have zD:=zh hou;have qJ:=zh hsz;obtain⟨ou,cu,hu⟩:=hou.len;rw [BH]at hu;subst hu;clear hkr hb3 hou hsz K2;by_cases WY:v<T.n
 case neg=>
  have hlt:¬(v:Int)<(T.n:Int):=om;obtain rfl:v=T.n:=om;go_wp2;go_ret;exact⟨_,rfl,zD.out.nums,dH.out⟩
 have hlt:(v:Int)<(T.n:Int):=om;have hvv:v<T.vals.length:=om;obtain⟨⟨⟨pb,pS,pc,pU⟩,⟨qb,qS,qc,qU⟩⟩,hpx,e0,e1,e2,e3,e4,e5,e6,e7⟩:=sI nJ.out.v hvv;simp only at e0 e1 e2 e3 e4 e5 e6 e7;rw [← kL hvv]at hpx;have YU:=zh hpx;have La:Hid ((T.val v).ok 100):=zh (by rw [kL hvv];exact HN.out.v _ (List.getElem_mem hvv));have m0:=(dH.out.cell hgv).trans e0;have m1:=(dH.out.cell hgv).trans e1;have m2:=(dH.out.cell hgv).trans e2;have m3:=(dH.out.cell hgv).trans e3;have m4:=(dH.out.cell hgv).trans e4;have m5:=(dH.out.cell hgv).trans e5;have m6:=(dH.out.cell hgv).trans e6;have m7:=(dH.out.cell hgv).trans e7;have lgr:=bJ hgv dH.out.size;clear e0 e1 e2 e3 e4 e5 e6 e7 hpx;have ka:Keep au wr (wr.alloc (.cells #[.bool pb,.string pS,.bool pc,.string pU,.bool qb,.string qS,.bool qc,.string qU] 147)):=(Keep.refl _ _).alloc _;have wL:Hid (aL (wr.alloc (.cells #[.bool pb,.string pS,.bool pc,.string pU,.bool qb,.string qS,.bool qc,.string qU] 147)) wr.heap.size #[.bool pb,.string pS,.bool pc,.string pU,.bool qb,.string qS,.bool qc,.string qU]):=zh (aN _ _ rfl);have HB3:=zh (ES.out.keep ka);have KX:=zh (dH.out.both ka);have HOX:=zh (zD.out.keep ka);have HSX:=zh (Nat.le_trans qJ.out ka.size);have CT:=fun w=>zh (jD w _ _ YU.out.2 (La.out.2.mono om) _ _ HZ.out (zdd.out.mono om));obtain⟨⟨tb,tS,tc,tU⟩,ht,htn⟩:=eP ((T.val v).s*T.smK T.vals.length);rw [ht]at CT;have CP:=fun w=>zh (mV w _ _ YU.out.1 (La.out.1.mono om) _ _ htn ((La.out.2.mul zdd.out).mono om));obtain⟨⟨rb,rS,rc,rU⟩,hr,hrn⟩:=eP ((T.val v).n+(T.val v).s*T.smK T.vals.length);rw [hr]at CP;have Xc:Hid (bM (NV.v ⟨rb,rS,rc,rU⟩) (T.ptQ v)):=zh hrn;unfold NV.v at CT CP;simp only at CT CP;clear ht htn hr hrn;go_upto_region 6 with fail;clear ka m0 m1 m2 m3 m4 m5 m6 m7 lgr ES dH zD qJ;generalize wr.alloc (.cells #[.bool pb,.string pS,.bool pc,.string pU,.bool qb,.string qS,.bool qc,.string qU] 147)=wx at *;generalize wr.heap.size=bx at *;refine aD (fun w'=>Keep au wx w') [9,10] [([0,1,2,3,4,5],6),([],7),([],8),([],9)] [10] kr kr kp ?_;intro X W hne hF hcls;have aY:=zh hcls;have z0:=fun x=>(wL.out.keep (hF x)).eight;have z1:=fun x=>(HB3.out.keep (hF x)).four;clear hF hcls;simp only [aW,aJ,zl0,zl1,zl2,aX,Bool.false_eq_true,if_false]
 (repeat(go_big_quiet_step (fail)));refine wpQuiet_nil ?_
 refine ay rfl rfl fun K hK=> ?_;go_simp;refine(CT _).out.mono ?_;rintro e w5 ⟨rfl,hk5⟩;have k5:Keep au wx w5:=Keep.trans kp hk5 fun _ _ _ h=>h;refine hK _ _ ⟨fun _=>aY.out _ k5,?_⟩;clear hK hk5 CT
 (repeat(go_big_quiet_step (fail)));refine wpQuiet_nil ?_
 refine ay rfl rfl fun K hK=> ?_;go_simp;refine(CP _).out.mono ?_;rintro e w6 ⟨rfl,hk6⟩;have k6:Keep au wx w6:=k5.both hk6;refine hK _ _ ⟨fun _=>aY.out _ k6,?_⟩;clear hK hk6 CP k5
 (repeat(go_big_quiet_step (fail)));refine wpQuiet_nil ?_
 refine ay rfl rfl fun K hK=> ?_;go_simp;have k7:Keep au wx (w6.alloc (.cells #[.bool rb,.string rS,.bool rc,.string rU] 102)):=k6.alloc _;refine hK _ _ ⟨fun _=>aY.out _ k7,?_⟩;clear hK;obtain⟨v7,w7,hr7,ho7,hg7⟩:=Zg (x:=⟨rb,rS,rc,rU⟩) (HOX.out.keep k7) (b:=w6.heap.size) (aN _ _ rfl) Xc.out (by rw [BH];omega) (Nat.le_trans HSX.out k7.size);rw [← Xd]at ho7;have YN:=zh ho7;obtain⟨o7,c7,hs7⟩:=ho7.len;rw [BH]at hs7;subst hs7;have hblk:=fun kk hh=>HOX.out.block kk hh;have K7:=zh ((KX.out.both k7).grown hg7 fun kk hh=>Nat.le_trans HG2.out (hblk kk hh));have nu:=zh ((HB3.out.keep k7).grown hg7 fun kk hh=>by have:=hblk kk hh;have:=zeT.out;omega);have Fw:=zh (Nat.le_trans HSX.out (Nat.le_trans k7.size hg7.size));clear ho7 hg7 hblk k6 k7
 (repeat(go_big_quiet_step (fail)));refine wpQuiet_nil ?_
 refine ay rfl rfl fun K hK=> ?_;refine dn _ _ 86 _ _ rfl rfl rfl hr7 ?_;refine hK _ _ ⟨fun h=>(by simp at h),?_⟩;clear hK z0 z1 hr7;simp only [Act.put,List.setIfInBounds_toArray,List.set_cons_zero,List.set_cons_succ]
 (repeat(go_big_quiet_step (fail)));refine wpQuiet_nil ?_
 refine NoPanic.normal ?_;go_wp2;go_roundw
 case rel=>exact⟨v+1,om,gn,K7.out,nu.out,YN.out,Fw.out⟩
 simp [intOf];omega
end Go.Proofs.YtmepglhdcphffaaGreat
