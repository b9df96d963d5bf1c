/- Package tableau's Feasible. -/
import Derived.Test.YtmepglhdcphffaaGreatTbTT
import Derived.Test.YtmepglhdcphffaaGreatTbMM
import Derived.Test.YtmepglhdcphffaaGreatTbEE
namespace Go.Proofs.YtmepglhdcphffaaGreat
set_option maxRecDepth 100000
set_option maxHeartbeats 64000000
set_option linter.unusedSimpArgs false
set_option linter.unusedVariables false
open Go.ChangeShapes Go.WideShapes Go.RowKit Go.Maps
def Gv (t:Bool)(g:Nat)(v:Value)(w:World)(a:Pr):Prop:=∃b,v= .pointer (some ⟨b,0,none⟩)∧g≤b∧b<w.heap.size∧(t=false→aL w b #[.bool false,.string ⟨#[]⟩,.bool false,.string ⟨#[]⟩,.bool false,.string ⟨#[]⟩,.bool false,.string ⟨#[]⟩])∧(t=true→∃z:PV,z.is a∧aL w b #[.bool z.x.nb,.string z.x.nS,.bool z.x.db,.string z.x.dS,.bool z.y.nb,.string z.y.nS,.bool z.y.db,.string z.y.dS])
theorem Gv.keepM {S:Nat→Bool}{d e g:Nat}{v:Value}{w w':World}{a:Pr}(h:Gv (S d) g v w a)(he:e≠d)(k:Keep au w w'):Gv (mark S e d) g v w' a:=by
 obtain⟨b,e1,h1,h2,h3,h4⟩:=h;rw [dL (Ne.symm he)];refine⟨b,e1,h1,bJ h2 k.size,fun hm=>(h3 hm).keep k,fun hm=> ?_⟩;obtain⟨z,hz,hb⟩:=h4 hm;exact⟨z,hz,hb.keep k⟩
def xO (g:Nat)(pT EP Y3 sV sC sL pV pC pA pB:Value)(bi ii ei:Int)(va vp v1 vA vo:Value)(aM aT:Pr)(S:Nat→Bool):Nat→Value→World→Prop
 | 0,v,_=>v=va
 | 1,v,_=>v=pT
 | 2,v,_=>v=pT
 | 3,v,_=>v=EP
 | 4,v,_=>v=sV
 | 5,v,_=>v= .int .i64 bi
 | 6,v,_=>v=pV
 | 7,v,_=>v=vp
 | 8,v,w=>∃z:PV,v=z.v∧z.is aM
 | 9,v,_=>v=v1
 | 10,v,_=>v=pT
 | 11,v,_=>v=pT
 | 12,v,_=>v=Y3
 | 13,v,_=>v=sC
 | 14,v,_=>v= .int .i64 ii
 | 15,v,_=>v=pC
 | 16,v,_=>v=sL
 | 17,v,_=>v= .int .i64 ei
 | 18,v,_=>v=pA
 | 19,v,_=>v=vA
 | 20,v,_=>v=vo
 | 21,v,w=>∃z:PV,v=z.v∧z.is aT
 | 22,v,w=>Gv (S 23) g v w aT
 | 23,_,_=>True
 | _,_,_=>True
theorem jJ {g:Nat}{pT EP Y3 sV sC sL pV pC pA pB:Value}{bi ii ei:Int}{va vp v1 vA vo:Value}{aM aT:Pr}{S:Nat→Bool}{w w':World}{e:Nat}(he:e≠23)(k:Keep au w w'):∀(d:Nat) (v:Value),xO g pT EP Y3 sV sC sL pV pC pA pB bi ii ei va vp v1 vA vo aM aT S d v w→xO g pT EP Y3 sV sC sL pV pC pA pB bi ii ei va vp v1 vA vo aM aT (mark S e) d v w'
 | 0,v,h=>h
 | 1,v,h=>h
 | 2,v,h=>h
 | 3,v,h=>h
 | 4,v,h=>h
 | 5,v,h=>h
 | 6,v,h=>h
 | 7,v,h=>h
 | 8,v,h=>h
 | 9,v,h=>h
 | 10,v,h=>h
 | 11,v,h=>h
 | 12,v,h=>h
 | 13,v,h=>h
 | 14,v,h=>h
 | 15,v,h=>h
 | 16,v,h=>h
 | 17,v,h=>h
 | 18,v,h=>h
 | 19,v,h=>h
 | 20,v,h=>h
 | 21,v,h=>h
 | 22,v,h=>h.keepM he k
 | 23,v,h=>h
 | n+24,v,h=>trivial
theorem dW {g:Nat}{pT EP Y3 sV sC sL pV pC pA pB:Value}{bi ii ei:Int}{va vp v1 vA vo:Value}{aM aT:Pr}{S:Nat→Bool}{w:World}{σ:Nat→Value}{e:Nat}(he:e≠23):∀d,d≠e→S d=true→xO g pT EP Y3 sV sC sL pV pC pA pB bi ii ei va vp v1 vA vo aM aT S d (σ d) w→xO g pT EP Y3 sV sC sL pV pC pA pB bi ii ei va vp v1 vA vo aM aT (mark S e) d (σ d) w:=fun d _ _=>jJ he (Keep.refl _ _) d _
theorem X9 {g:Nat}{pT EP Y3 sV sC sL pV pC pA pB:Value}{bi ii ei:Int}{va vp v1 vA vo:Value}{aM aT:Pr}{S:Nat→Bool}{w w':World}{σ:Nat→Value}{b7:Nat}{z:PV}(e0:σ 22= .pointer (some ⟨b7,0,none⟩))(hg:g≤b7)(hz:z.is aT)(hb:aL w' b7 #[.bool z.x.nb,.string z.x.nS,.bool z.x.db,.string z.x.dS,.bool z.y.nb,.string z.y.nS,.bool z.y.db,.string z.y.dS]):∀(d:Nat),d≠23→S d=true→xO g pT EP Y3 sV sC sL pV pC pA pB bi ii ei va vp v1 vA vo aM aT S d (σ d) w→xO g pT EP Y3 sV sC sL pV pC pA pB bi ii ei va vp v1 vA vo aM aT (mark S 23) d (σ d) w'
 | 0,_,_,h=>h
 | 1,_,_,h=>h
 | 2,_,_,h=>h
 | 3,_,_,h=>h
 | 4,_,_,h=>h
 | 5,_,_,h=>h
 | 6,_,_,h=>h
 | 7,_,_,h=>h
 | 8,_,_,h=>h
 | 9,_,_,h=>h
 | 10,_,_,h=>h
 | 11,_,_,h=>h
 | 12,_,_,h=>h
 | 13,_,_,h=>h
 | 14,_,_,h=>h
 | 15,_,_,h=>h
 | 16,_,_,h=>h
 | 17,_,_,h=>h
 | 18,_,_,h=>h
 | 19,_,_,h=>h
 | 20,_,_,h=>h
 | 21,_,_,h=>h
 | 22,_,_,h=>⟨b7,e0,hg,hb.lt,fun hm=>(by rw [kM]at hm;cases hm),fun _=>⟨z,hz,hb⟩⟩
 | 23,hd,_,_=>absurd rfl hd
 | n+24,_,_,h=>trivial
theorem Ya {S:TS}{i v:Nat}{way:Int}(hv:v<S.n+S.rows.length)(hok:S.okE i way v)(hno:∀u,u<v→¬S.okE i way u):S.enter i way=some v:=by
 unfold TS.enter;rw [List.find?_range_eq_some];refine⟨by simp only [Bool.and_eq_true,decide_eq_true_eq];exact hok,List.mem_range.2 hv,fun u hu=> ?_⟩;rw [Bool.not_eq_true',Bool.eq_false_iff];intro hx;simp only [Bool.and_eq_true,decide_eq_true_eq]at hx;exact hno u hu hx
theorem Yb {S:TS}{i:Nat}{way:Int}(hno:∀u,u<S.n+S.rows.length→¬S.okE i way u):S.enter i way=none:=by
 unfold TS.enter;rw [List.find?_eq_none];intro v hv hx;simp only [Bool.and_eq_true,decide_eq_true_eq]at hx;exact hno v (List.mem_range.1 hv) hx
theorem TS.nb.more {S:TS}{j k:Nat}(h:S.nb j)(hk:j≤k):S.nb k:=⟨fun p hp=>⟨(h.v p hp).1.mono hk,(h.v p hp).2.mono hk⟩,fun l hl q hq=>(h.c l hl q hq).mono hk⟩
theorem Pr.ok.mono' {j k:Nat}{a:Pr}(h:a.ok j)(hk:j≤k):a.ok k:=⟨h.1.mono hk,h.2.mono hk⟩
theorem Vz (w0 w:World)(bT nm n:Nat)(rows:List Rw)(S0:TS)(f:Nat)(h:EW w0 w bT nm S0)(hI:Inv n rows S0)(hf:f≤1048576)(hnm:nm≤100):
  Calls Tryz.prog 31 #[.pointer (some ⟨bT,0,none⟩),.int .i64 (f:Int)] w fun e w'=>
   (∃T nm',TS.feas f S0= .yes T∧e= .returned (.tuple #[.slice none 0 0,.bool true])∧EW w0 w' bT nm' T)∨
   (∃l u,TS.feas f S0= .no l∧e= .returned (.tuple #[u,.bool true])∧jf w' u l∧Keep au w0 w')∨
   (TS.feas f S0= .hungry∧e= .returned (.tuple #[.slice none 0 0,.bool false])∧Keep au w0 w'):=by
 have HI0:=zh hI;have HT0:=zh h;clear h hI;go_enter Tryz.func31,Tryz.ntmps31;go_wp2;go_loopw [1,4,5] (fun s1 s4 s5 wr=>∃(k nk:Nat) (S:TS),k+nk≤f+nm∧s1= .int .i64 k∧s4= .slice none 0 0∧s5= .bool false∧k≤1048576∧EW w0 wr bT nk S∧Inv n rows S∧TS.feas k S=TS.feas f S0) (fun s _ _ _=>(intOf s).toNat)
 case atStart=>exact⟨f,nm,S0,Nat.le_refl _,rfl,rfl,rfl,hf,HT0.out,HI0.out,rfl⟩
 obtain⟨k,nk,S,hkn,rfl,rfl,rfl,hk2,hT,hI,hfe⟩:=hrel;clear HT0 HI0;have HT:=zh hT;have HI:=zh hI;have HFE:=zh hfe;clear hT hI hfe;have CB:=fun w' (k:Keep au wr w')=>zh (OB w0 w' bT nk S (HT.out.keep k) HI.out.wf (HI.out.nb.more om));rcases vT S with⟨hneg,-⟩ | ⟨b,way,hB⟩
 case inl=>
  have zft:Hid (TS.feas k S= .yes S):=zh (by cases k<;>(unfold TS.feas;rw [if_pos hneg]));generalize S.broken.1=z at *;generalize S.broken.2=y at *;go_wp2_with fail;refine(CB _ kp).out.mono ?_;rintro e wB ⟨rfl,hk⟩;have EK:=zh (HT.out.keep hk);clear hk CB;go_simp
  repeat go_step
  refine bodyPost_ret (by simp [results,Tryz.results31,go_sem];rfl) rfl ?_;exact .inl ⟨S,nk,by rw [← HFE.out,zft.out],rfl,EK.out⟩
 have hbn:=hB.n_le;have Xb:=hB.way;have heq:=hB.eq;simp only [heq]at CB;have SG:=zh hB;have OT:=zh hB.nonneg;have hbb:b<S.n+S.rows.length:=HI.out.wf.bb _ hB.mem;have h12:=HI.out.wf.n12;have h40:=HI.out.wf.r40;have zfC:¬(b:Int)<0:=om;clear hB heq;rcases k with _ | k
 case zero=>
  have HHU:Hid (TS.feas 0 S= .hungry):=zh (by unfold TS.feas;rw [if_neg OT.out]);go_wp2_with fail;refine(CB _ kp).out.mono ?_;rintro e wB ⟨rfl,hk⟩;have KB:=zh (HT.out.keep hk);clear hk CB;go_simp
  repeat go_step
  refine bodyPost_ret (by simp [results,Tryz.results31,go_sem];rfl) rfl ?_;exact .inr (.inr ⟨by rw [← HFE.out,HHU.out],rfl,by obtain⟨L,hL⟩:=KB.out;exact hL.k⟩)
 have hk0:¬((k+1:Nat):Int)=0:=om;have ek:((k+1:Nat):Int)-1=(k:Int):=om;go_wp2_with fail;refine(CB _ kp).out.mono ?_;rintro e wB ⟨rfl,hk⟩;have HT:=zh (HT.out.keep hk);clear hk CB;go_upto_region 7 with fail;have HI':=HI;obtain⟨L,hL⟩:=HT.out;have nJ:=zh hL;have hbl:=HI.out.wf.bl;have hcl:=HI.out.wf.cl;obtain⟨hi,hib⟩:=qK SG.out.mem;obtain⟨i,hii⟩:∃i,S.lineOf (b:Int)=i:=⟨_,rfl⟩;have YM:=zh hii;rw [hii]at hi hib;have hic:i<S.cells.length:=om;have hiC:(i:Int)<(S.cells.length:Int):=om;obtain⟨_,_,_,t3,t4,_,_,fJ⟩:=hL.t.seven;obtain⟨D,hown,hat⟩:=hL.mp;have law:Keyed Tryz.prog 3:=int_keyed Tryz.underlying3;have hkb:keyOf Tryz.prog 3 (.int .i64 (b:Int))=some (.int .i64 (b:Int)):=keyOf_int_mk Tryz.underlying3 (WalkArith.wf_i64 om);obtain⟨c,hrun,zd3,-⟩:=hown.lookup_int law Tryz.underlying138 Tryz.underlying3 (by rfl) hkb;have hci:=hat i hi;rw [← qg hi,hib,zd3]at hci;injection hci with hci;injection hci with _ hci;subst hci;obtain⟨hoc,hck⟩:=hL.c (by intro h0;rw [h0]at hic;simp at hic);obtain⟨cc0,_⟩:=hck.at (i:=i) hic;have hgc:=hck.lt;obtain⟨KN,hK⟩:∃KN,S.cells[i].length=KN:=⟨_,rfl⟩;have HK:=zh hK;have hKK:KN=S.n+S.rows.length:=by rw [← hK];exact HI.out.wf.cr _ (List.getElem_mem hic)
 have zbQ:KN≤76:=om;rw [hK]at cc0;rw [hoc]at t4;have zs:=hL.cc.1;have zs':=hL.cc.2;have hcs:=(hL.r i hic).2.1;have hcs2:=(hL.r i hic).2.2;rw [hK]at hcs;unfold maxLen at zs' hcs2;have EI:=zh (hL.r i hic).1;have HIB:=zh hib;have HOC:=zh hoc;have HT4:=zh t4;have MS:=zh cc0;have HKK:=zh hKK;have HII2:=zh hi;clear hL hown hat zd3 hck hK hoc hib hii hi law hkb hbl hcl hKK;go_wp2;clear hrun t3 t4 cc0;go_loopw [40,9] (fun s s9 wr=>∃v:Nat,v≤KN∧s= .int .i64 v∧s9= .int .i64 (-1)∧Keep au wB wr∧∀u,u<v→¬S.okE i way u) (fun s _ _=>(KN-intOf s).toNat)
 case atStart=>exact⟨0,om,rfl,rfl,Keep.refl _ _,fun u hu=>absurd hu om⟩
 obtain⟨v,hv,rfl,rfl,hkr,hno⟩:=hrel;have dH:=zh hkr;have YR:=zh hno;clear hkr hno;by_cases hvK:v<KN
 case neg=>
  have hlt:¬(v:Int)<(KN:Int):=om;obtain rfl:v=KN:=om;have HEN:Hid (S.enter i way=none):=zh (Yb (by rw [← HKK.out];exact YR.out));have hir:i<S.rows.length:=by have:=HI.out.wf.cl;omega
  have zfu:Hid (TS.feas (k+1) S= .no (S.refK i way (S.n+S.rows.length))):=zh (by
   rw [vV SG.out,YM.out,HEN.out])
  have CR:=fun w' (kk:Keep au wr w')=>zh (DT w0 w' bT nk S (HT.out.keep (dH.out.both kk)) HI.out.wf (HI.out.nb.more om) i hir way Xb (by have:=HIB.out;unfold TS.bs at this;rw [this];exact hbn) (fun v hv=>HI.out.free HEN.out (by rw [← HI.out.hn];exact hv)));go_wp2_with fail;refine(CR _ kp).out.mono ?_;rintro e w5 ⟨u,rfl,hu,hk5⟩;have HU:=zh hu;have K5:Hid (Keep au w0 w5):=zh ((nJ.out.k.both dH.out).both hk5);obtain⟨ou,lu,cu,rfl⟩:∃o l c,u= .slice o l c:=by obtain⟨o,c,_,h,_⟩:=hu;exact⟨o,_,c,h⟩
  clear hu hk5 CR;go_simp
  repeat go_step
  refine bodyPost_ret (by simp [results,Tryz.results31,go_sem];rfl) rfl ?_;exact .inr (.inl ⟨_,_,by rw [← HFE.out,zfu.out],rfl,HU.out,K5.out⟩)
 have hlt:(v:Int)<(KN:Int):=om;have EX:v<S.cells[i].length:=by rw [HK.out];exact hvK
 obtain⟨xb,xS,xc,xU,p0,p1,p2,p3,hx,_⟩:=(EI.out.keep dH.out).at (k:=v) EX;have Xg:=(EI.out.keep dH.out).lt;rw [← pR hic EX]at hx;have hvb:v<S.n+S.rows.length:=by have:=HKK.out;omega
 obtain⟨q,hq⟩:∃q,S.cell i v=q:=⟨_,rfl⟩;have HQ:=zh hq;rw [hq]at hx;have CS:=fun w=>zh (ko hx w);have Z9:=zh hx;obtain⟨sg,hsg⟩:∃sg,q.num.sign=sg:=⟨_,rfl⟩;have Nc:=zh hsg;rw [hsg]at CS;have hsb:sg=0∨sg=1∨sg= -1:=by
  rw [← hsg];rcases Int.lt_trichotomy q.num 0 with h | h | h
  ·right;right;exact Int.sign_eq_neg_one_of_neg h
  ·left;rw [h];rfl
  right;left;exact Int.sign_eq_one_of_pos h
 have ka:Keep au wr (wr.alloc (.cells #[.bool xb,.string xS,.bool xc,.string xU] 102)):=(Keep.refl _ _).alloc _;have wL:Hid (aL (wr.alloc (.cells #[.bool xb,.string xS,.bool xc,.string xU] 102)) wr.heap.size #[.bool xb,.string xS,.bool xc,.string xU]):=zh (aN _ _ rfl);clear hx hq hsg EX;go_upto_region 12 with fail;have dH:=zh (dH.out.both ka);clear ka p0 p1 p2 p3 Xg;generalize wr.alloc (.cells #[.bool xb,.string xS,.bool xc,.string xU] 102)=wx at *;generalize wr.heap.size=bx at *;obtain⟨s0,s1,s2,s3,_,_,_,_,sl⟩:=wL.out.four;by_cases hs0:sg=0
 case pos=>
  subst hs0;go_wp2_with fail;refine(CS _).out.mono ?_;rintro e w2 ⟨rfl,hk2⟩;have dH:=zh (dH.out.both hk2);clear hk2 CS s0 s1 s2 s3 sl;go_wp2;go_roundw
  case rel=>
   refine⟨v+1,om,gn,rfl,dH.out,fun u hu hx=> ?_⟩;by_cases e:u=v
   ·subst e;have:=hx.1;rw [HQ.out]at this;have h0:=Nc.out;rw [Int.sign_eq_zero_iff_zero,Rat.num_eq_zero]at h0;exact this h0
   exact YR.out u om hx
  simp [intOf];omega
 obtain⟨ws,hws⟩:∃ws,way*sg=ws:=⟨_,rfl⟩;have hwb: -1≤ws∧ws≤1:=by rcases Xb with rfl | rfl<;>rcases hsb with rfl | rfl | rfl<;>omega
 have hw1:=hwb.1;have hw2:=hwb.2;have HWS:=zh hws;have CC:=fun w' (kk:Keep au wx w')=>zh (zal w0 w' bT nk S (HT.out.keep (dH.out.both kk)) HI.out.wf (HI.out.nb.more om) v hvb ws (by unfold dA;omega));have hq0:q≠0:=fun h=>hs0 (by rw [← Nc.out,h];rfl);have HQ0:=zh hq0;obtain⟨cn,hcn⟩:∃cn,S.canB v ws=cn:=⟨_,rfl⟩;rw [hcn]at CC;have HCN:=zh hcn;have ewr:IntKind.i64.wrap ws=ws:=Go.IntWalk.i64_in _ om;clear hwb hsb hq0 hcn;go_wp2_with fail;refine(CS _).out.mono ?_;rintro e w2 ⟨rfl,hk2⟩;have kx2:=hk2;have HB2:=zh (wL.out.keep hk2);clear s0 s1 s2 s3 sl hk2;obtain⟨s0,s1,s2,s3,_,_,_,_,sl⟩:=HB2.out.four;go_wp2_with fail;refine(CS _).out.mono ?_;rintro e w3 ⟨rfl,hk3⟩;have kx3:=kx2.both hk3;clear s0 s1 s2 s3 sl CS;go_wp2_with fail;refine(CC _ kp).out.mono ?_;rintro e w4 ⟨rfl,hk4⟩;have dH:=zh ((dH.out.both kx3).both hk4);clear kx2 kx3 hk3 hk4 CC hws;rcases cn with _ | _
 case false=>
  go_wp2;go_roundw
  case rel=>
   refine⟨v+1,om,gn,rfl,dH.out,fun u hu hx=> ?_⟩;by_cases e:u=v
   ·subst e;have:=hx.2;rw [HQ.out,Nc.out,HWS.out,HCN.out]at this;cases this
   exact YR.out u om hx
  simp [intOf];omega
 have HEN:Hid (S.enter i way=some v):=zh (Ya hvb ⟨by rw [HQ.out];exact HQ0.out,by rw [HQ.out,Nc.out,HWS.out,HCN.out]⟩ YR.out);have CU:=fun w' (kk:Keep au w4 w')=>zh (vO w' bT S.n _ _ _ _ _ _ S.rows b (nJ.out.t.keep (dH.out.both kk)) (nJ.out.rows.keep (nJ.out.k.both (dH.out.both kk))) h12 h40 hbb);clear wL HB2;go_wp2_with fail;refine(CU _ kp).out.mono ?_;rintro e w5 ⟨⟨⟨ub,uS,uc,uU⟩,⟨sb,sS,sc,sU⟩⟩,rfl,hz,hk5⟩;rw [HI.out.hn,HI.out.hr]at hz;have HN1:=zh hz;have ka:Keep au w5 (w5.alloc (.cells #[.bool ub,.string uS,.bool uc,.string uU,.bool sb,.string sS,.bool sc,.string sU] 147)):=(Keep.refl _ _).alloc _;have Yc:Hid (aL (w5.alloc (.cells #[.bool ub,.string uS,.bool uc,.string uU,.bool sb,.string sS,.bool sc,.string sU] 147)) w5.heap.size #[.bool ub,.string uS,.bool uc,.string uU,.bool sb,.string sS,.bool sc,.string sU]):=zh (aN _ _ rfl);have KX:=zh ((dH.out.both hk5).both ka);have zfv:Hid (wB.heap.size≤w5.heap.size):=zh (dH.out.both hk5).size;clear hz hk5 CU;unfold PV.v;go_upto_region 18 with fail;clear ka;generalize w5.alloc (.cells #[.bool ub,.string uS,.bool uc,.string uU,.bool sb,.string sS,.bool sc,.string sU] 147)=wX at *;generalize w5.heap.size=b12 at *;have lY:Hid (Inv n rows (S.next b way v)):=zh (Eo HI.out SG.out (by rw [YM.out];exact HEN.out));have zcp:Hid (S.next b way v=(S.move v (((jC n rows b).sub (S.val b)).mul (1/S.cell i v))).pivot i v):=zh (by
  unfold TS.next TS.by
  rw [YM.out,SG.out.to_up,HI.out.hn,HI.out.hr])
 obtain⟨SN,hSN⟩:∃T:TS,S.next b way v=T:=⟨_,rfl⟩;rw [hSN]at lY zcp;have HSN:=zh hSN;clear hSN
 rcases Xb with rfl | rfl
 case' inl=>
  have CL:=fun w' (kk:Keep au wX w')=>zh (Aa w' bT S.n _ _ _ _ _ _ S.rows b (nJ.out.t.keep (KX.out.both kk)) (nJ.out.rows.keep (nJ.out.k.both (KX.out.both kk))) h12 h40 hbb);have HLO:Hid (hasLo S.n S.rows b=true):=zh (by
   rcases SG.out.out with⟨_,h⟩ | ⟨h,_⟩
   ·exact h.1
   cases h)
  go_wp2_with fail;refine(CL _ kp).out.mono ?_;rintro e w6 ⟨⟨⟨ub,uS,uc,uU⟩,⟨sb,sS,sc,sU⟩⟩,rfl,hz,hk6⟩;rw [uY HLO.out,HI.out.hn,HI.out.hr]at hz;have Jt:=zh hz;have hb12:=Yc.out.keep hk6;obtain⟨s0,s1,s2,s3,s4,s5,s6,s7,sl⟩:=hb12.eight;obtain⟨f0,f1,f2,f3,f4,f5,f6,f7⟩:=hb12.eightF;have Yc:Hid _:=zh (hb12.set8 (.bool ub) (.string uS) (.bool uc) (.string uU) (.bool sb) (.string sS) (.bool sc) (.string sU));have KY:Hid _:=zh (gI (KX.out.both hk6) zfv.out (.bool ub) (.string uS) (.bool uc) (.string uU) (.bool sb) (.string sS) (.bool sc) (.string sU));clear hz hk6 CL HN1 hb12;unfold PV.v;go_upto_region 20 with fail;clear s0 s1 s2 s3 s4 s5 s6 s7 sl f0 f1 f2 f3 f4 f5 f6 f7;generalize ((((((((w6.setCell ⟨b12,0,none⟩ (.bool ub)).setCell ⟨b12,1,none⟩ (.string uS)).setCell ⟨b12,2,none⟩ (.bool uc)).setCell ⟨b12,3,none⟩ (.string uU)).setCell ⟨b12,4,none⟩ (.bool sb)).setCell ⟨b12,5,none⟩ (.string sS)).setCell ⟨b12,6,none⟩ (.bool sc)).setCell ⟨b12,7,none⟩ (.string sU))=wY at*
 case' inr=>
  have Jt:=HN1;have KY:=KX;go_upto_region 20 with fail;generalize wX=wY at*
 all_goals
  have Zy:=zh (nJ.out.keep KY.out);have zfw:=HI.out.wf.vl;have zaS:b<S.vals.length:=om;obtain⟨⟨⟨mb,mS,mc,mU⟩,⟨yb,yS,yc,yU⟩⟩,hpx,e0,e1,e2,e3,e4,e5,e6,e7⟩:=sI Zy.out.v zaS;simp only at e0 e1 e2 e3 e4 e5 e6 e7;rw [← kL zaS]at hpx;have La:Hid ((S.val b).ok 100):=zh (by rw [kL zaS];exact HI.out.nb.v _ (List.getElem_mem zaS));have HV:=zh (And.intro e0 (And.intro e1 (And.intro e2 (And.intro e3 (And.intro e4 (And.intro e5 (And.intro e6 e7)))))));have EX:v<S.cells[i].length:=by rw [HK.out];exact hvK
  obtain⟨ab,aS,ac,aU,a0,a1,a2,a3,han,_⟩:=(Zy.out.r i hic).1.at (k:=v) EX;rw [← pR hic EX]at han;have HA4:=zh (And.intro a0 (And.intro a1 (And.intro a2 a3)));have hNA:NB 100 (S.cell i v):=by rw [pR hic EX];exact HI.out.nb.c _ (List.getElem_mem hic) _ (List.getElem_mem EX)
  have hA0:S.cell i v≠0:=by rw [HQ.out];exact HQ0.out
  obtain⟨_,_,_,_,y4,y5,_,lT⟩:=Zy.out.t.seven;rw [HOC.out]at y4;have HT4:=zh y4;have HT5:=zh y5;obtain⟨_,zcq⟩:=Zy.out.c (by intro h0;rw [h0]at hic;simp at hic);obtain⟨ccY,_⟩:=zcq.at (i:=i) hic;rw [HK.out]at ccY;have MS:=zh ccY;have lC:=zcq.lt;have lV:=Zy.out.v.lt;have lA:=(Zy.out.r i hic).1.lt;have l12:=Yc.out.lt;have hUN:=Jt.out;have hUO:(jC n rows b).ok 1:=by have:=KU HI.out.wf b;rw [HI.out.hn,HI.out.hr]at this;exact this
  have CM:=fun w=>zh (Om w _ _ hUN (hUO.mono' om) _ _ hpx (La.out.mono' om));have CI:=fun w=>zh (iF w 1 om om);obtain⟨⟨ob,oS,oc,oU⟩,ho,hon⟩:=uQ 1;rw [ho]at CI;have CO:=fun w=>zh (sJ w _ _ hon ((jg (x:=1) dc).mono om) _ _ han (hNA.mono om) hA0);obtain⟨⟨qb,qS,qc,qU⟩,hqq,Jr⟩:=eP (((1:Int):Rat)/S.cell i v);rw [hqq]at CO;unfold NV.v at CI CO;unfold PV.v at CM;simp only at CI CO CM;have HQN:Hid (bM (NV.v ⟨qb,qS,qc,qU⟩) (1/S.cell i v)):=zh Jr;have YJ:Hid (NB 101 (1/S.cell i v)):=zh (((jg (x:=1) dc).div hNA hA0).mono om);have HNM:Hid (((jC n rows b).sub (S.val b)).ok 102):=zh ⟨(hUO.1.sub La.out.1).mono om,(hUO.2.sub La.out.2).mono om⟩;have HA0:=zh hA0;have Js:Hid (v∉S.basic):=zh (HI.out.not_basic (i:=i) (by rw [← HI.out.hr];have:=HI.out.wf.cl;omega) hA0);clear hpx e0 e1 e2 e3 e4 e5 e6 e7 a0 a1 a2 a3 han hNA hA0 y4 y5 zcq ccY hUN hUO ho hon hqq Jr zfw;refine jo (fun w'=>Keep au wY w') (xO wY.heap.size (.pointer (some ⟨bT,0,none⟩)) (.pointer (some ⟨bT,5,none⟩)) (.pointer (some ⟨bT,4,none⟩)) (.slice (some ⟨L.gv,0,none⟩) S.vals.length L.cv) (.slice (some ⟨L.gc,0,none⟩) S.cells.length L.cc) (.slice (some ⟨L.gs i,0,none⟩) KN (L.cs i)) (.pointer (some ⟨L.gv,b*8,none⟩)) (.pointer (some ⟨L.gc,i,none⟩)) (.pointer (some ⟨L.gs i,v*4,none⟩)) (.pointer (some ⟨b12,0,none⟩)) b i v (.agg #[.bool ub,.string uS,.bool uc,.string uU,.bool sb,.string sS,.bool sc,.string sU]) (.agg #[.bool mb,.string mS,.bool mc,.string mU,.bool yb,.string yS,.bool yc,.string yU]) (.agg #[.bool ob,.string oS,.bool oc,.string oU]) (.agg #[.bool ab,.string aS,.bool ac,.string aU]) (.agg #[.bool qb,.string qS,.bool qc,.string qU]) ((jC n rows b).sub (S.val b)) (((jC n rows b).sub (S.val b)).mul (1/S.cell i v))) kr kr kr kr kp _ (fun σ=>by
   show bP _ σ [0,1,2,3,4,5,6,7,8,9,10,11,12,13,14,15,16,17,18,19,20,21,22,23] _=_;simp only [bP,zl0,zl1,zl2,Act.put,List.setIfInBounds_toArray,List.set_cons_zero,List.set_cons_succ];rfl) ?_ ?_
  ·intro S' σ w1 hC d20 he HK;have he:d20<24:=he;have hC:Keep au wY w1:=hC;obtain rfl | rfl | rfl | rfl | rfl | rfl | rfl | rfl | rfl | rfl | rfl | rfl | rfl | rfl | rfl | rfl | rfl | rfl | rfl | rfl | rfl | rfl | rfl | rfl:d20=0∨d20=1∨d20=2∨d20=3∨d20=4∨d20=5∨d20=6∨d20=7∨d20=8∨d20=9∨d20=10∨d20=11∨d20=12∨d20=13∨d20=14∨d20=15∨d20=16∨d20=17∨d20=18∨d20=19∨d20=20∨d20=21∨d20=22∨d20=23:=om
   ·obtain ⟨s0,s1,s2,s3,s4,s5,s6,s7,sl⟩:=(Yc.out.keep hC).eight;refine ay rfl rfl fun K hK=> ?_;go_simp;exact hK _ _ ⟨hC,dW dc,_,rfl,rfl⟩
   ·refine ay rfl rfl fun K hK=> ?_;go_simp;exact hK _ _ ⟨hC,dW dc,_,rfl,rfl⟩
   ·have h1:σ 1=Value.pointer (some ⟨bT,0,none⟩):=HK.post 1 kr;rw [h1];refine ay rfl rfl fun K hK=> ?_;go_simp;exact hK _ _ ⟨hC,dW dc,_,rfl,rfl⟩
   ·have h2:σ 2=Value.pointer (some ⟨bT,0,none⟩):=HK.post 2 kr;rw [h2];refine ay rfl rfl fun K hK=> ?_;go_simp;exact hK _ _ ⟨hC,dW dc,_,rfl,rfl⟩
   ·have h3:σ 3=Value.pointer (some ⟨bT,5,none⟩):=HK.post 3 kr;rw [h3];have m0:=(hC.cell lT).trans HT5.out;refine ay rfl rfl fun K hK=> ?_;go_simp;exact hK _ _ ⟨hC,dW dc,_,rfl,rfl⟩
   ·refine ay rfl rfl fun K hK=> ?_;go_simp;exact hK _ _ ⟨hC,dW dc,_,rfl,rfl⟩
   ·have h4:σ 4=Value.slice (some ⟨L.gv,0,none⟩) S.vals.length L.cv:=HK.post 4 kr;rw [h4];have h5:σ 5=Value.int .i64 b:=HK.post 5 kr;rw [h5];refine ay rfl rfl fun K hK=> ?_;go_simp;exact hK _ _ ⟨hC,dW dc,_,rfl,rfl⟩
   ·have h6:σ 6=Value.pointer (some ⟨L.gv,b*8,none⟩):=HK.post 6 kr;rw [h6];have m0:=(hC.cell lV).trans HV.out.1;have m1:=(hC.cell lV).trans HV.out.2.1;have m2:=(hC.cell lV).trans HV.out.2.2.1;have m3:=(hC.cell lV).trans HV.out.2.2.2.1;have m4:=(hC.cell lV).trans HV.out.2.2.2.2.1;have m5:=(hC.cell lV).trans HV.out.2.2.2.2.2.1;have m6:=(hC.cell lV).trans HV.out.2.2.2.2.2.2.1;have m7:=(hC.cell lV).trans HV.out.2.2.2.2.2.2.2;refine ay rfl rfl fun K hK=> ?_;go_simp;exact hK _ _ ⟨hC,dW dc,_,rfl,rfl⟩
   ·have h0:σ 0=Value.agg #[.bool ub,.string uS,.bool uc,.string uU,.bool sb,.string sS,.bool sc,.string sU]:=HK.post 0 kr;rw [h0];have h7:σ 7=Value.agg #[.bool mb,.string mS,.bool mc,.string mU,.bool yb,.string yS,.bool yc,.string yU]:=HK.post 7 kr;rw [h7];refine ay rfl rfl fun K hK=> ?_;go_simp;refine(CM _).out.mono ?_;rintro e w2 ⟨z,rfl,hz,hk2⟩;exact hK _ _ ⟨hC.both hk2,fun d hd hs h=>jJ dc hk2 d _ h,_,rfl,⟨z,rfl,hz⟩⟩
   ·refine ay rfl rfl fun K hK=> ?_;go_simp;refine(CI _).out.mono ?_;rintro e w2 ⟨rfl,hk2⟩;exact hK _ _ ⟨hC.both hk2,fun d hd hs h=>jJ dc hk2 d _ h,_,rfl,rfl⟩
   ·refine ay rfl rfl fun K hK=> ?_;go_simp;exact hK _ _ ⟨hC,dW dc,_,rfl,rfl⟩
   ·have h10:σ 10=Value.pointer (some ⟨bT,0,none⟩):=HK.post 10 kr;rw [h10];refine ay rfl rfl fun K hK=> ?_;go_simp;exact hK _ _ ⟨hC,dW dc,_,rfl,rfl⟩
   ·have h11:σ 11=Value.pointer (some ⟨bT,0,none⟩):=HK.post 11 kr;rw [h11];refine ay rfl rfl fun K hK=> ?_;go_simp;exact hK _ _ ⟨hC,dW dc,_,rfl,rfl⟩
   ·have h12:σ 12=Value.pointer (some ⟨bT,4,none⟩):=HK.post 12 kr;rw [h12];have m0:=(hC.cell lT).trans HT4.out;refine ay rfl rfl fun K hK=> ?_;go_simp;exact hK _ _ ⟨hC,dW dc,_,rfl,rfl⟩
   ·refine ay rfl rfl fun K hK=> ?_;go_simp;exact hK _ _ ⟨hC,dW dc,_,rfl,rfl⟩
   ·have h13:σ 13=Value.slice (some ⟨L.gc,0,none⟩) S.cells.length L.cc:=HK.post 13 kr;rw [h13];have h14:σ 14=Value.int .i64 i:=HK.post 14 kr;rw [h14];refine ay rfl rfl fun K hK=> ?_;go_simp;exact hK _ _ ⟨hC,dW dc,_,rfl,rfl⟩
   ·have h15:σ 15=Value.pointer (some ⟨L.gc,i,none⟩):=HK.post 15 kr;rw [h15];have m0:=(hC.cell lC).trans MS.out;refine ay rfl rfl fun K hK=> ?_;go_simp;exact hK _ _ ⟨hC,dW dc,_,rfl,rfl⟩
   ·refine ay rfl rfl fun K hK=> ?_;go_simp;exact hK _ _ ⟨hC,dW dc,_,rfl,rfl⟩
   ·have h16:σ 16=Value.slice (some ⟨L.gs i,0,none⟩) KN (L.cs i):=HK.post 16 kr;rw [h16];have h17:σ 17=Value.int .i64 v:=HK.post 17 kr;rw [h17];refine ay rfl rfl fun K hK=> ?_;go_simp;exact hK _ _ ⟨hC,dW dc,_,rfl,rfl⟩
   ·have h18:σ 18=Value.pointer (some ⟨L.gs i,v*4,none⟩):=HK.post 18 kr;rw [h18];have m0:=(hC.cell lA).trans HA4.out.1;have m1:=(hC.cell lA).trans HA4.out.2.1;have m2:=(hC.cell lA).trans HA4.out.2.2.1;have m3:=(hC.cell lA).trans HA4.out.2.2.2;refine ay rfl rfl fun K hK=> ?_;go_simp;exact hK _ _ ⟨hC,dW dc,_,rfl,rfl⟩
   ·have h9:σ 9=Value.agg #[.bool ob,.string oS,.bool oc,.string oU]:=HK.post 9 kr;rw [h9];have h19:σ 19=Value.agg #[.bool ab,.string aS,.bool ac,.string aU]:=HK.post 19 kr;rw [h19];refine ay rfl rfl fun K hK=> ?_;go_simp;refine(CO _).out.mono ?_;rintro e w2 ⟨rfl,hk2⟩;exact hK _ _ ⟨hC.both hk2,fun d hd hs h=>jJ dc hk2 d _ h,_,rfl,rfl⟩
   ·obtain ⟨z8,h8,hz8⟩:∃z:PV,σ 8=z.v∧z.is ((jC n rows b).sub (S.val b)):=HK.post 8 kr;rw [h8];have h20:σ 20=Value.agg #[.bool qb,.string qS,.bool qc,.string qU]:=HK.post 20 kr;rw [h20];obtain⟨⟨z1,z2,z3,z4⟩,⟨z5,z6,z7,z9⟩⟩:=z8;have CT:=fun w=>zh (Dt w _ _ hz8 (HNM.out.mono' om) _ _ HQN.out (YJ.out.mono om));unfold PV.v at CT ⊢;unfold NV.v at CT;simp only at CT ⊢;refine ay rfl rfl fun K hK=> ?_;go_simp;refine(CT _).out.mono ?_;rintro e w2 ⟨z,rfl,hz,hk2⟩;exact hK _ _ ⟨hC.both hk2,fun d hd hs h=>jJ dc hk2 d _ h,_,rfl,⟨z,rfl,hz⟩⟩
   ·refine ay rfl rfl fun K hK=> ?_;go_simp;exact hK _ _ ⟨hC.alloc _,fun d hd hs h=>jJ dc ((Keep.refl _ _).alloc _) d _ h,_,rfl,⟨w1.heap.size,rfl,hC.size,sm,fun _=>aN _ _ rfl,fun hm=>by rw [dL om,HK.down 23 kr]at hm;cases hm⟩⟩
   obtain⟨z,h21,hz⟩:∃z:PV,σ 21=z.v∧z.is (((jC n rows b).sub (S.val b)).mul (1/S.cell i v)):=HK.post 21 kr;obtain⟨b7,e0,hg7,_,hz7,_⟩:=(show Gv (S' 23) wY.heap.size (σ 22) w1 (((jC n rows b).sub (S.val b)).mul (1/S.cell i v))from HK.post 22 kr);have hz7:=hz7 HK.self;rw [e0,h21];obtain⟨⟨z1,z2,z3,z4⟩,⟨z5,z6,z8,z9⟩⟩:=z;unfold PV.v;simp only;obtain⟨s0,s1,s2,s3,s4,s5,s6,s7,sl⟩:=hz7.eight;obtain⟨f0,f1,f2,f3,f4,f5,f6,f7⟩:=hz7.eightF;refine ay rfl rfl fun K hK=> ?_;go_simp;exact hK _ _ ⟨gI hC hg7 _ _ _ _ _ _ _ _,X9 (w:=w1) e0 hg7 hz (hz7.set8 _ _ _ _ _ _ _ _),undef,rfl,trivial⟩
  intro S' σ w5 hC hS zd4;obtain⟨b14,e22,hg14,_,_,hb14⟩:=(show Gv (S' 23) wY.heap.size (σ 22) w5 (((jC n rows b).sub (S.val b)).mul (1/S.cell i v))from zd4 22 dc);obtain⟨⟨⟨z1,z2,z3,z4⟩,⟨z5,z6,z8,z9⟩⟩,hz,hb14⟩:=hb14 (hS 23 dc);rw [e22];refine NoPanic.normal ?_;have zd5:=zh hb14;have zfx:=zh (show EW w0 w5 bT nk S from⟨L,Zy.out.keep hC⟩);have HDZ:=zh hz;clear zd4 hS hC e22 hg14 hb14 CM CI CO HT5 HT4 HV HA4 MS Yc Zy lT lV lC lA l12 hz;obtain⟨s0,s1,s2,s3,s4,s5,s6,s7,sl⟩:=zd5.out.eight;simp only at s0 s1 s2 s3 s4 s5 s6 s7;have CMV:=fun w' (kk:Keep au w5 w')=>zh (Lc w0 w' bT nk S (zfx.out.keep kk) HI.out.wf (HI.out.nb.more om) v hvb Js.out _ _ HDZ.out ⟨(HNM.out.1.mul YJ.out).mono om,(HNM.out.2.mul YJ.out).mono om⟩);unfold PV.v at CMV;simp only at CMV;go_wp2_with fail;refine(CMV _ kp).out.mono ?_;rintro e w6 ⟨rfl,hT6⟩;have VL:=zh hT6;clear hT6 CMV s0 s1 s2 s3 s4 s5 s6 s7 sl zd5;have CPV:=fun w' (kk:Keep au w6 w')=>zh (Jh w0 w' bT nk _ (VL.out.keep kk) (za9 HI.out.wf _ _) ⟨by have:=lY.out.nb.v;rw [zcp.out]at this;exact this,HI.out.nb.c⟩ i v (by show i<S.rows.length;have:=HI.out.wf.cl;omega) hvb Js.out HA0.out om);go_wp2_with fail;refine(CPV _ kp).out.mono ?_;rintro e w7 ⟨rfl,hT7⟩;have HT7:=zh (show EW w0 w7 bT (nk+1) (SN) by rw [zcp.out];exact hT7);clear hT7 CPV;go_wp2;go_roundw
  case rel=>exact⟨k,nk+1,SN,om,gn,rfl,rfl,om,HT7.out,lY.out,by rw [← HFE.out,vV SG.out,YM.out,HEN.out];simp only;rw [HSN.out]⟩
  simp [intOf]
end Go.Proofs.YtmepglhdcphffaaGreat
