/- Package tableau's bounds: upper, lower. Package tableau's T as it lies. Package tableau's can. Package tableau's broken. -/
import Derived.Test.YtmepglhdcphffaaGreatTbA
import Derived.Test.YtmepglhdcphffaaGreatPtAA
import Derived.Test.YtmepglhdcphffaaGreatFkAA
import Derived.Test.YtmepglhdcphffaaGreatBaseA
import Derived.Maps.OwnSet
namespace Go.Proofs.YtmepglhdcphffaaGreat
set_option maxRecDepth 100000
set_option maxHeartbeats 32000000
set_option linter.unusedSimpArgs false
set_option linter.unusedVariables false
open Go.ChangeShapes Go.WideShapes Go.RowKit
def jC (n:Nat)(rows:List Rw)(v:Nat):Pr:=if v<n then pr0 else⟨((rows.getD (v-n) bZ).to:Rat),if(rows.getD (v-n) bZ).kind=2 then -1 else 0⟩
def jd (n v:Nat):Bool:=decide (n≤v)
def Fa (n:Nat)(rows:List Rw)(v:Nat):Pr:=if v<n∨(rows.getD (v-n) bZ).kind≠3 then pr0 else⟨((rows.getD (v-n) bZ).to:Rat),0⟩
def hasLo (n:Nat)(rows:List Rw)(v:Nat):Bool:=decide (n≤v∧(rows.getD (v-n) bZ).kind=3)
theorem uQ (x:Int):∃y:NV,Bh x 1=y.v∧bM y.v (x:Rat):=by
 rw [← Cn];exact eP _
theorem aL.tri {w:World}{k:Nat}{x y z:Value}(h:aL w k #[x,y,z]):
  w.cell? ⟨k,0,none⟩=some x∧w.cell? ⟨k,1,none⟩=some y∧w.cell? ⟨k,2,none⟩=some z∧w.frozen? ⟨k,0,none⟩=false∧w.frozen? ⟨k,1,none⟩=false∧w.frozen? ⟨k,2,none⟩=false∧k<w.heap.size:=
 ⟨h.cell 0,h.cell 1,h.cell 2,h.free 0,h.free 1,h.free 2,h.lt⟩
theorem SA {w0 w:World}{b:Nat}(h:Keep au w0 w)(hb:w0.heap.size≤b)(u v x:Value):Keep au w0 (((w.setCell ⟨b,0,none⟩ u).setCell ⟨b,1,none⟩ v).setCell ⟨b,2,none⟩ x):=
 ((h.setCell _ fun hh=>absurd hh om).setCell _ fun hh=>absurd hh om).setCell _ fun hh=>absurd hh om
theorem aL.set3 {w:World}{b:Nat}{x y z:Value}(h:aL w b #[x,y,z])(p q r:Value):aL (((w.setCell ⟨b,0,none⟩ p).setCell ⟨b,1,none⟩ q).setCell ⟨b,2,none⟩ r) b #[p,q,r]:=by
 obtain⟨t,h⟩:=h;exact⟨t,heap_setCell_same 2 r (heap_setCell_same 1 q (heap_setCell_same 0 p h))⟩
theorem aL.other3 {w:World}{b b':Nat}{A:Array Value}(h:aL w b A)(hne:b≠b')(p q r:Value):aL (((w.setCell ⟨b',0,none⟩ p).setCell ⟨b',1,none⟩ q).setCell ⟨b',2,none⟩ r) b A:=by
 obtain⟨t,h⟩:=h;exact⟨t,by rw [heap_setCell_other _ _ _ _ hne,heap_setCell_other _ _ _ _ hne,heap_setCell_other _ _ _ _ hne];exact h⟩
theorem aL.set4hi {w:World}{b:Nat}{a0 a1 a2 a3 a4 a5 a6 a7:Value}(h:aL w b #[a0,a1,a2,a3,a4,a5,a6,a7])(c4 c5 c6 c7:Value):aL ((((w.setCell ⟨b,4,none⟩ c4).setCell ⟨b,5,none⟩ c5).setCell ⟨b,6,none⟩ c6).setCell ⟨b,7,none⟩ c7) b #[a0,a1,a2,a3,c4,c5,c6,c7]:=by
 obtain⟨t,h⟩:=h;exact⟨t,heap_setCell_same 7 c7 (heap_setCell_same 6 c6 (heap_setCell_same 5 c5 (heap_setCell_same 4 c4 h)))⟩
def vZ (w:World)(bT:Nat)(n:Nat)(vr vb vm vc vv vg:Value):Prop:=aL w bT #[.int .i64 n,vr,vb,vm,vc,vv,vg]
theorem aL.seven {w:World}{k:Nat}{a0 a1 a2 a3 a4 a5 a6:Value}(h:aL w k #[a0,a1,a2,a3,a4,a5,a6]):
  w.cell? ⟨k,0,none⟩=some a0∧w.cell? ⟨k,1,none⟩=some a1∧w.cell? ⟨k,2,none⟩=some a2∧w.cell? ⟨k,3,none⟩=some a3∧w.cell? ⟨k,4,none⟩=some a4∧w.cell? ⟨k,5,none⟩=some a5∧w.cell? ⟨k,6,none⟩=some a6∧k<w.heap.size:=
 ⟨h.cell 0,h.cell 1,h.cell 2,h.cell 3,h.cell 4,h.cell 5,h.cell 6,h.lt⟩
theorem vO (w:World)(bT n:Nat)(vr vb vm vc vv vg:Value)(rows:List Rw)(v:Nat)(h:vZ w bT n vr vb vm vc vv vg)(hr:iH w vr rows)(hn:n≤12)(h40:rows.length≤64)(hv:v<n+rows.length):
  Calls Tryz.prog 69 #[.pointer (some ⟨bT,0,none⟩),.int .i64 (v:Int)] w fun e w'=>∃z:PV,e= .returned (.tuple #[z.v,.bool (jd n v)])∧z.is (jC n rows v)∧Keep au w w':=by
 unfold jd jC;have HT:=zh h;have HR:=zh hr;have hvI:(v:Int)<1000:=om;obtain⟨oa,ca,rfl,_,_⟩:=hr.len;unfold vZ at HT h;obtain⟨c0,c1,_,_,_,_,_,cl⟩:=h.seven;clear h hr;have W4:Hid (Keep au w (w.alloc (.cells #[.bool false,.string ⟨#[]⟩,.bool false,.string ⟨#[]⟩,.bool false,.string ⟨#[]⟩,.bool false,.string ⟨#[]⟩] 147))):=zh ((Keep.refl _ _).alloc _);have fC:Hid (aL (w.alloc (.cells #[.bool false,.string ⟨#[]⟩,.bool false,.string ⟨#[]⟩,.bool false,.string ⟨#[]⟩,.bool false,.string ⟨#[]⟩] 147)) w.heap.size #[.bool false,.string ⟨#[]⟩,.bool false,.string ⟨#[]⟩,.bool false,.string ⟨#[]⟩,.bool false,.string ⟨#[]⟩]):=zh (aN _ _ rfl);by_cases WY:v<n
 case pos=>
  have hlt:(v:Int)<(n:Int):=om;rw [if_pos WY,decide_eq_false om];clear WY;go_enter Tryz.func69,Tryz.ntmps69;go_upto_region 2 with fail;generalize w.alloc (.cells #[.bool false,.string ⟨#[]⟩,.bool false,.string ⟨#[]⟩,.bool false,.string ⟨#[]⟩,.bool false,.string ⟨#[]⟩] 147)=w0 at *;generalize hb4:w.heap.size=b4 at *;obtain⟨s0,s1,s2,s3,s4,s5,s6,s7,sl⟩:=fC.out.eight;obtain⟨f0,f1,f2,f3,f4,f5,f6,f7⟩:=fC.out.eightF;clear c0 c1 cl;go_simp
  repeat go_step
  refine bodyPost_ret (by simp [results,Tryz.results69,go_sem,s0,s1,s2,s3,s4,s5,s6,s7,sl];rfl) rfl ?_;exact⟨pv0,rfl,Ol,gI W4.out om _ _ _ _ _ _ _ _⟩
 have hlt:¬(v:Int)<(n:Int):=om;rw [if_neg WY,decide_eq_true om];obtain⟨i,WC⟩:∃i,v-n=i:=⟨_,rfl⟩;have hi:i<rows.length:=om;have hiI:(i:Int)<(rows.length:Int):=om;rw [WC,Ck hi];obtain⟨b,o,rfl,hb,hrow⟩:=HR.out.at hi;obtain⟨os,cs,r0,r1,r2,hrw⟩:=hrow.row;obtain⟨_,_,_,hk64,ht64,_⟩:=hrw;have e1:(v:Int)-(n:Int)=(i:Int):=om;have e2:¬(i:Int)<0:=om;have e3:IntKind.i64.wrap (i:Int)=(i:Int):=Go.IntWalk.i64_in _ om;clear WC hv;generalize rows[i]=r at *;obtain⟨rof,UA,WZ⟩:=r;simp only at r0 r1 r2 hk64 ht64 ⊢;obtain⟨sm,hsm⟩:∃sm:Rat,(if UA=2 then(-1:Rat)else 0)=sm:=⟨_,rfl⟩;rw [hsm];have AV:=zh hsm;clear hsm;unfold dA at hk64 ht64;have CI:=fun w=>zh (iF w WZ ht64.1 ht64.2);have CM:=fun w=>zh (iF w (-1) om om);obtain⟨⟨pb,pS,pc,pU⟩,hp,hpn⟩:=uQ WZ;obtain⟨⟨qb,qS,qc,qU⟩,hq,Jr⟩:=uQ (-1);rw [hp]at CI;rw [hq]at CM;unfold NV.v at CI CM;simp only at CI CM;have HP:=zh (And.intro hpn Jr);clear WY hk64 ht64 hp hq hpn Jr hrow;go_enter Tryz.func69,Tryz.ntmps69;go_upto_region 3 with fail;have hb40:=fC.out.lt;generalize w.alloc (.cells #[.bool false,.string ⟨#[]⟩,.bool false,.string ⟨#[]⟩,.bool false,.string ⟨#[]⟩,.bool false,.string ⟨#[]⟩] 147)=w0 at *;generalize hb4:w.heap.size=b4 at *;have EG:Hid (w.heap.size≤b4):=zh om;have hcl0:bT<w0.heap.size:=bJ om W4.out.size;have hbl0:b<w0.heap.size:=bJ om W4.out.size;have d0:=(W4.out.cell om).trans c0;have d1:=(W4.out.cell om).trans c1;have g0:=(W4.out.cell om).trans r0;have g1:=(W4.out.cell om).trans r1;have g2:=(W4.out.cell om).trans r2;clear c0 c1 cl r0 r1 r2 hb;refine aD (fun w'=>Keep au w0 w') [13] [([0,1,2,3,4,5,6,7,8,9,10,11],12),([],13)] [] kr kr kp ?_;intro X W hne hF hcl;have aY:=zh hcl;have x0:=fun x=>((hF x).cell hcl0).trans d0;have x1:=fun x=>((hF x).cell hcl0).trans d1;have y0:=fun x=>((hF x).cell hbl0).trans g0;have y1:=fun x=>((hF x).cell hbl0).trans g1;have y2:=fun x=>((hF x).cell hbl0).trans g2;clear hF hcl d0 d1 g0 g1 g2;simp only [aW,aJ,zl0,zl1,zl2,aX,Bool.false_eq_true,if_false]
 (repeat(quiet_step (fail)));refine wpQuiet_nil ?_
 refine ay rfl rfl fun K hK=> ?_;go_simp;have k5:Keep au w0 (w0.alloc (.cells #[.slice none 0 0,.int .i64 0,.int .i64 0] 34)).drew:=((Keep.refl au w0).alloc _).drew;refine hK _ _ ⟨fun _=>aY.out _ k5,?_⟩;clear hK K;have B6:Hid (aL (w0.alloc (.cells #[.slice none 0 0,.int .i64 0,.int .i64 0] 34)).drew w0.heap.size #[.slice none 0 0,.int .i64 0,.int .i64 0]):=zh ((aN _ _ rfl).keep (Keep.refl au _).drew);have fC:=zh (fC.out.keep k5);have K5:=zh (W4.out.both k5);have HS6:Hid (w.heap.size≤w0.heap.size):=zh W4.out.size;have h46:b4≠w0.heap.size:=Nat.ne_of_lt hb40;generalize (w0.alloc (.cells #[.slice none 0 0,.int .i64 0,.int .i64 0] 34)).drew=w5 at *;generalize w0.heap.size=b6 at *;obtain⟨t0,t1,t2,u0,u1,u2,tl⟩:=B6.out.tri
 (repeat(quiet_step (fail)));refine wpQuiet_nil ?_
 refine ay rfl rfl fun K hK=> ?_;go_simp;refine hK _ _ ⟨fun h=>(by simp at h),?_⟩;clear hK K x0 x1 y0 y1 y2;have vW:=zh (B6.out.set3 (.slice os rof.length cs) (.int .i64 UA) (.int .i64 WZ));have fC:=zh (fC.out.other3 h46 (.slice os rof.length cs) (.int .i64 UA) (.int .i64 WZ));have K6:=zh (SA K5.out HS6.out (.slice os rof.length cs) (.int .i64 UA) (.int .i64 WZ));clear t0 t1 t2 u0 u1 u2 tl B6;generalize ((w5.setCell ⟨b6,0,none⟩ (.slice os rof.length cs)).setCell ⟨b6,1,none⟩ (.int .i64 UA)).setCell ⟨b6,2,none⟩ (.int .i64 WZ)=w6 at*
 (repeat(quiet_step (fail)));refine wpQuiet_nil ?_
 refine NoPanic.normal ?_;obtain⟨t0,t1,t2,u0,u1,u2,tl⟩:=vW.out.tri;go_wp2_with fail;refine(CI _).out.mono ?_;rintro e w7 ⟨rfl,hk⟩;have vW:=zh (vW.out.keep hk);have fC:=zh (fC.out.keep hk);have K7:=zh (K6.out.both hk);clear t0 t1 t2 u0 u1 u2 tl hk CI;have ka:Keep au w7 (w7.alloc (.cells #[.bool pb,.string pS,.bool pc,.string pU,.bool false,.string ⟨#[]⟩,.bool false,.string ⟨#[]⟩] 147)):=(Keep.refl _ _).alloc _;have nu:Hid (aL (w7.alloc (.cells #[.bool pb,.string pS,.bool pc,.string pU,.bool false,.string ⟨#[]⟩,.bool false,.string ⟨#[]⟩] 147)) w7.heap.size #[.bool pb,.string pS,.bool pc,.string pU,.bool false,.string ⟨#[]⟩,.bool false,.string ⟨#[]⟩]):=zh (aN _ _ rfl);have vW:=zh (vW.out.keep ka);have h47:b4<w7.heap.size:=fC.out.lt;have fC:=zh (fC.out.keep ka);have Fw:Hid (w.heap.size≤w7.heap.size):=zh K7.out.size;have K8:=zh (K7.out.both ka);go_upto_region 5 with fail;clear ka;generalize w7.alloc (.cells #[.bool pb,.string pS,.bool pc,.string pU,.bool false,.string ⟨#[]⟩,.bool false,.string ⟨#[]⟩] 147)=w8 at *;generalize w7.heap.size=b7 at *;have n47:¬b4=b7:=om;have h47':b4≠b7:=n47;obtain⟨t0,t1,t2,u0,u1,u2,tl⟩:=vW.out.tri;by_cases h2:UA=2
 case neg=>
  have e2':(UA==2)=false:=by rw [beq_eq_false_iff_ne];exact h2
  obtain⟨s0,s1,s2,s3,s4,s5,s6,s7,sl⟩:=nu.out.eight;obtain⟨f0,f1,f2,f3,f4,f5,f6,f7⟩:=fC.out.eightF;obtain⟨v0,v1,v2,v3,v4,v5,v6,v7,vl⟩:=fC.out.eight;have zeP:Hid (sm=0):=zh (by have:=AV.out;rw [if_neg h2]at this;exact this.symm);clear h2 AV;have rR:=zh (fC.out.set8 (.bool pb) (.string pS) (.bool pc) (.string pU) (.bool false) (.string ⟨#[]⟩) (.bool false) (.string ⟨#[]⟩));have K9:=zh (gI K8.out EG.out (.bool pb) (.string pS) (.bool pc) (.string pU) (.bool false) (.string ⟨#[]⟩) (.bool false) (.string ⟨#[]⟩));go_upto_region 7 with fail;go_simp
  repeat go_step
  obtain⟨q0,q1,q2,q3,q4,q5,q6,q7,ql⟩:=rR.out.eight;refine bodyPost_ret (by simp [results,Tryz.results69,go_sem,q0,q1,q2,q3,q4,q5,q6,q7,ql];rfl) rfl ?_;exact⟨⟨⟨pb,pS,pc,pU⟩,nv0⟩,rfl,⟨HP.out.1,by rw [zeP.out];exact rJ⟩,K9.out⟩
 subst h2;have zeQ:Hid (sm=((-1:Int):Rat)):=zh (by have:=AV.out;rw [if_pos rfl]at this;exact this.symm);clear AV;go_wp2_with fail;refine(CM _).out.mono ?_;rintro e w9 ⟨rfl,hk⟩;have nu:=zh (nu.out.keep hk);have fC:=zh (fC.out.keep hk);have K9:=zh (K8.out.both hk);clear hk CM;obtain⟨s0,s1,s2,s3,s4,s5,s6,s7,sl⟩:=nu.out.eight;obtain⟨g0,g1,g2,g3,g4,g5,g6,g7⟩:=nu.out.eightF;go_upto_region 7 with fail;have nu:=zh (nu.out.set4hi (.bool qb) (.string qS) (.bool qc) (.string qU));have fC:=zh (fC.out.otherN (o:=4) h47' (.bool qb) (.string qS) (.bool qc) (.string qU));have ZH:=zh (Ra (o:=4) K9.out Fw.out (.bool qb) (.string qS) (.bool qc) (.string qU));clear s0 s1 s2 s3 s4 s5 s6 s7 sl g0 g1 g2 g3 g4 g5 g6 g7;generalize (((w9.setCell ⟨b7,4,none⟩ (.bool qb)).setCell ⟨b7,5,none⟩ (.string qS)).setCell ⟨b7,6,none⟩ (.bool qc)).setCell ⟨b7,7,none⟩ (.string qU)=w10 at *;obtain⟨s0,s1,s2,s3,s4,s5,s6,s7,sl⟩:=nu.out.eight;obtain⟨f0,f1,f2,f3,f4,f5,f6,f7⟩:=fC.out.eightF;obtain⟨v0,v1,v2,v3,v4,v5,v6,v7,vl⟩:=fC.out.eight;have rR:=zh (fC.out.set8 (.bool pb) (.string pS) (.bool pc) (.string pU) (.bool qb) (.string qS) (.bool qc) (.string qU));have K11:=zh (gI ZH.out EG.out (.bool pb) (.string pS) (.bool pc) (.string pU) (.bool qb) (.string qS) (.bool qc) (.string qU));go_simp
 repeat go_step
 obtain⟨q0,q1,q2,q3,q4,q5,q6,q7,ql⟩:=rR.out.eight;refine bodyPost_ret (by simp [results,Tryz.results69,go_sem,q0,q1,q2,q3,q4,q5,q6,q7,ql];rfl) rfl ?_;exact⟨⟨⟨pb,pS,pc,pU⟩,⟨qb,qS,qc,qU⟩⟩,rfl,⟨HP.out.1,by rw [zeQ.out];exact HP.out.2⟩,K11.out⟩
theorem Aa (w:World)(bT n:Nat)(vr vb vm vc vv vg:Value)(rows:List Rw)(v:Nat)(h:vZ w bT n vr vb vm vc vv vg)(hr:iH w vr rows)(hn:n≤12)(h40:rows.length≤64)(hv:v<n+rows.length):
  Calls Tryz.prog 70 #[.pointer (some ⟨bT,0,none⟩),.int .i64 (v:Int)] w fun e w'=>∃z:PV,e= .returned (.tuple #[z.v,.bool (hasLo n rows v)])∧z.is (Fa n rows v)∧Keep au w w':=by
 unfold hasLo Fa;have HT:=zh h;have HR:=zh hr;have hvI:(v:Int)<1000:=om;obtain⟨oa,ca,rfl,_,_⟩:=hr.len;unfold vZ at HT h;obtain⟨c0,c1,_,_,_,_,_,cl⟩:=h.seven;clear h hr;have W4:Hid (Keep au w (w.alloc (.cells #[.bool false,.string ⟨#[]⟩,.bool false,.string ⟨#[]⟩,.bool false,.string ⟨#[]⟩,.bool false,.string ⟨#[]⟩] 147))):=zh ((Keep.refl _ _).alloc _);have fC:Hid (aL (w.alloc (.cells #[.bool false,.string ⟨#[]⟩,.bool false,.string ⟨#[]⟩,.bool false,.string ⟨#[]⟩,.bool false,.string ⟨#[]⟩] 147)) w.heap.size #[.bool false,.string ⟨#[]⟩,.bool false,.string ⟨#[]⟩,.bool false,.string ⟨#[]⟩,.bool false,.string ⟨#[]⟩]):=zh (aN _ _ rfl);by_cases WY:v<n
 case pos=>
  have hlt:(v:Int)<(n:Int):=om;rw [if_pos (.inl WY),decide_eq_false om];clear WY;go_enter Tryz.func70,Tryz.ntmps70;go_upto_region 1 with fail;have d0:=(W4.out.cell om).trans c0;have hcl0:bT<(w.alloc (.cells #[.bool false,.string ⟨#[]⟩,.bool false,.string ⟨#[]⟩,.bool false,.string ⟨#[]⟩,.bool false,.string ⟨#[]⟩] 147)).heap.size:=bJ om W4.out.size;generalize w.alloc (.cells #[.bool false,.string ⟨#[]⟩,.bool false,.string ⟨#[]⟩,.bool false,.string ⟨#[]⟩,.bool false,.string ⟨#[]⟩] 147)=w0 at *;generalize hb4:w.heap.size=b4 at *;refine aD (fun w'=>Keep au w0 w') [] [] [0,1,2,3,4,5,6,7,8,9,10,11,12,13,14,15,16,17,18,19,20,21] kr kr kp ?_;intro X W hne hF hcl;have x0:=fun x=>((hF x).cell hcl0).trans d0;clear hF hcl;simp only [aW,aJ,zl0,zl1,zl2,aX,Bool.false_eq_true,if_false]
  (repeat(go_big_quiet_step (fail)));refine wpQuiet_nil ?_
  refine NoPanic.normal ?_;have fC:=zh (fC.out.keep (Keep.refl au w0).drew);have W4:=zh (W4.out.drew);clear x0 d0 hcl0 c0 c1 cl;generalize w0.drew=w0 at *;obtain⟨s0,s1,s2,s3,s4,s5,s6,s7,sl⟩:=fC.out.eight;obtain⟨f0,f1,f2,f3,f4,f5,f6,f7⟩:=fC.out.eightF;go_upto_region 2 with fail;go_simp
  repeat go_step
  refine bodyPost_ret (by simp [results,Tryz.results70,go_sem,s0,s1,s2,s3,s4,s5,s6,s7,sl];rfl) rfl ?_;exact⟨pv0,rfl,Ol,gI W4.out om _ _ _ _ _ _ _ _⟩
 have hlt:¬(v:Int)<(n:Int):=om;obtain⟨i,WC⟩:∃i,v-n=i:=⟨_,rfl⟩;have hi:i<rows.length:=om;have hiI:(i:Int)<(rows.length:Int):=om;have hge:n≤v:=om;rw [WC,Ck hi];obtain⟨b,o,rfl,hb,hrow⟩:=HR.out.at hi;obtain⟨os,cs,r0,r1,r2,hrw⟩:=hrow.row;obtain⟨_,_,_,hk64,ht64,_⟩:=hrw;have e1:(v:Int)-(n:Int)=(i:Int):=om;have e2:¬(i:Int)<0:=om;have e3:IntKind.i64.wrap (i:Int)=(i:Int):=Go.IntWalk.i64_in _ om;generalize rows[i]=r at *;obtain⟨rof,UA,WZ⟩:=r;simp only at r0 r1 r2 hk64 ht64 ⊢;unfold dA at hk64 ht64;obtain⟨hl,hhl⟩:∃hl:Bool,decide (n≤v∧UA=3)=hl:=⟨_,rfl⟩;obtain⟨lp,hlp⟩:∃lp:Pr,(if v<n∨UA≠3 then pr0 else⟨(WZ:Rat),0⟩)=lp:=⟨_,rfl⟩;rw [hhl,hlp];have HHL:=zh (And.intro hhl hlp);clear hhl hlp;have CI:=fun w=>zh (iF w WZ ht64.1 ht64.2);obtain⟨⟨pb,pS,pc,pU⟩,hp,hpn⟩:=uQ WZ;rw [hp]at CI;unfold NV.v at CI;simp only at CI;have HP:=zh hpn;clear WC hv hk64 ht64 hp hpn hrow;have W4':=W4;go_enter Tryz.func70,Tryz.ntmps70;go_upto_region 1 with fail;have hcl0:bT<(w.alloc (.cells #[.bool false,.string ⟨#[]⟩,.bool false,.string ⟨#[]⟩,.bool false,.string ⟨#[]⟩,.bool false,.string ⟨#[]⟩] 147)).heap.size:=bJ om W4.out.size;have hbl0:b<(w.alloc (.cells #[.bool false,.string ⟨#[]⟩,.bool false,.string ⟨#[]⟩,.bool false,.string ⟨#[]⟩,.bool false,.string ⟨#[]⟩] 147)).heap.size:=bJ om W4.out.size;have d0:=(W4.out.cell om).trans c0;have d1:=(W4.out.cell om).trans c1;have g1:=(W4.out.cell om).trans r1;have g2:=(W4.out.cell om).trans r2;generalize w.alloc (.cells #[.bool false,.string ⟨#[]⟩,.bool false,.string ⟨#[]⟩,.bool false,.string ⟨#[]⟩,.bool false,.string ⟨#[]⟩] 147)=w0 at *;generalize hb4:w.heap.size=b4 at *;have EG:Hid (w.heap.size≤b4):=zh om;clear hb4 W4' c0 c1 cl r0 r1 r2 hb;refine aD (fun w'=>Keep au w0 w') [] [] [0,1,2,3,4,5,6,7,8,9,10,11,12,13,14,15,16,17,18,19,20,21] kr kr kp ?_;intro X W hne hF hcl;have x0:=fun x=>((hF x).cell hcl0).trans d0;have x1:=fun x=>((hF x).cell hcl0).trans d1;have y1:=fun x=>((hF x).cell hbl0).trans g1;clear hF hcl;by_cases h3:UA=3
 case neg=>
  have e4:(UA != 3)=true:=by rw [bne_iff_ne];exact h3
  have HH:Hid (hl=false∧lp=pr0):=zh (by
   obtain⟨h1,h2⟩:=HHL.out;rw [decide_eq_false (fun h=>h3 h.2)]at h1;rw [if_pos (.inr h3)]at h2;exact⟨h1.symm,h2.symm⟩)
  clear h3 HHL;simp only [aW,aJ,zl0,zl1,zl2,aX,Bool.false_eq_true,if_false]
  (repeat(go_big_quiet_step (fail)));refine wpQuiet_nil ?_
  refine NoPanic.normal ?_;have fC:=zh (fC.out.keep (Keep.refl au w0).drew);have W4:=zh (W4.out.drew);clear x0 x1 y1 d0 d1 g1 g2 hcl0 hbl0;generalize w0.drew=w0 at *;obtain⟨s0,s1,s2,s3,s4,s5,s6,s7,sl⟩:=fC.out.eight;obtain⟨f0,f1,f2,f3,f4,f5,f6,f7⟩:=fC.out.eightF;go_upto_region 2 with fail;go_simp
  repeat go_step
  refine bodyPost_ret (by simp [results,Tryz.results70,go_sem,s0,s1,s2,s3,s4,s5,s6,s7,sl];rfl) rfl ?_;exact⟨pv0,by rw [HH.out.1];rfl,by rw [HH.out.2];exact Ol,gI W4.out EG.out _ _ _ _ _ _ _ _⟩
 subst h3;have HH:Hid (hl=true∧lp=⟨(WZ:Rat),0⟩):=zh (by
  obtain⟨h1,h2⟩:=HHL.out;rw [decide_eq_true ⟨hge,rfl⟩]at h1;rw [if_neg om]at h2;exact⟨h1.symm,h2.symm⟩)
 clear HHL;simp only [aW,aJ,zl0,zl1,zl2,aX,Bool.false_eq_true,if_false]
 (repeat(go_big_quiet_step (fail)));refine wpQuiet_nil ?_
 refine NoPanic.normal ?_;have fC:=zh (fC.out.keep (Keep.refl au w0).drew);have W4:=zh (W4.out.drew);have d0:=((Keep.refl au w0).drew.cell hcl0).trans d0;have d1:=((Keep.refl au w0).drew.cell hcl0).trans d1;have g2:=((Keep.refl au w0).drew.cell hbl0).trans g2;have hcl0:=bJ hcl0 (Keep.refl au w0).drew.size;have hbl0:=bJ hbl0 (Keep.refl au w0).drew.size;clear x0 x1 y1 g1;generalize w0.drew=w0 at *;go_upto_region 3 with fail;refine aD (fun w'=>Keep au w0 w') [15,16] [([0,1,2,3,4,5,6,7,8,9,10,11,12],13),([14],15)] [16] kr kr kp ?_;intro X W hne hF hcl;have aY:=zh hcl;have x0:=fun x=>((hF x).cell hcl0).trans d0;have x1:=fun x=>((hF x).cell hcl0).trans d1;have y2:=fun x=>((hF x).cell hbl0).trans g2;clear hF hcl d0 d1 g2;simp only [aW,aJ,zl0,zl1,zl2,aX,Bool.false_eq_true,if_false]
 (repeat(go_big_quiet_step (fail)));refine wpQuiet_nil ?_
 refine ay rfl rfl fun K hK=> ?_;go_simp;refine(CI _).out.mono ?_;rintro e w1 ⟨rfl,hk⟩;have k1:Keep au w0 w1:=Keep.trans kp hk fun _ _ _ h=>h;refine hK _ _ ⟨fun _=>aY.out _ k1,?_⟩;clear hK K hk CI;have fC:=zh (fC.out.keep k1);have K1:=zh (W4.out.both k1);clear k1;obtain⟨v0,v1,v2,v3,v4,v5,v6,v7,vl⟩:=fC.out.eight;obtain⟨f0,f1,f2,f3,f4,f5,f6,f7⟩:=fC.out.eightF
 (repeat(go_big_quiet_step (fail)));refine wpQuiet_nil ?_
 refine ay rfl rfl fun K hK=> ?_;go_simp;refine hK _ _ ⟨fun h=>(by simp at h),?_⟩;clear hK K x0 x1 y2;have rR:=zh (fC.out.set8 (.bool pb) (.string pS) (.bool pc) (.string pU) (.bool false) (.string ⟨#[]⟩) (.bool false) (.string ⟨#[]⟩));have K2:=zh (gI K1.out EG.out (.bool pb) (.string pS) (.bool pc) (.string pU) (.bool false) (.string ⟨#[]⟩) (.bool false) (.string ⟨#[]⟩));clear v0 v1 v2 v3 v4 v5 v6 v7 vl f0 f1 f2 f3 f4 f5 f6 f7;generalize (((((((w1.setCell ⟨b4,0,none⟩ (.bool pb)).setCell ⟨b4,1,none⟩ (.string pS)).setCell ⟨b4,2,none⟩ (.bool pc)).setCell ⟨b4,3,none⟩ (.string pU)).setCell ⟨b4,4,none⟩ (.bool false)).setCell ⟨b4,5,none⟩ (.string ⟨#[]⟩)).setCell ⟨b4,6,none⟩ (.bool false)).setCell ⟨b4,7,none⟩ (.string ⟨#[]⟩)=w2 at*
 (repeat(go_big_quiet_step (fail)));refine wpQuiet_nil ?_
 refine NoPanic.normal ?_;obtain⟨q0,q1,q2,q3,q4,q5,q6,q7,ql⟩:=rR.out.eight;go_simp
 repeat go_step
 refine bodyPost_ret (by simp [results,Tryz.results70,go_sem,q0,q1,q2,q3,q4,q5,q6,q7,ql];rfl) rfl ?_;exact⟨⟨⟨pb,pS,pc,pU⟩,nv0⟩,by rw [HH.out.1];rfl,by rw [HH.out.2];exact⟨HP.out,rJ⟩,K2.out⟩
open Go.ChangeShapes Go.WideShapes Go.RowKit Go.Maps
structure TS where
 n:Nat
 rows:List Rw
 basic:List Nat
 cells:List (List Rat)
 vals:List Pr
def TS.m (S:TS):Nat:=S.rows.length
def TS.K (S:TS):Nat:=S.n+S.rows.length
structure TS.wf (S:TS):Prop where
 n12:S.n≤12
 r40:S.rows.length≤64
 rok:∀r∈S.rows,iA r S.n
 bl:S.basic.length=S.rows.length
 cl:S.cells.length=S.rows.length
 cr:∀l∈S.cells,l.length=S.n+S.rows.length
 vl:S.vals.length=S.n+S.rows.length
 nd:S.basic.Nodup
 bb:∀b∈S.basic,b<S.n+S.rows.length
def gJ (l:List Pr):List Rat:=l.flatMap fun p=> [p.n,p.s]
theorem FZ (l:List Pr):(gJ l).length=2*l.length:=by
 induction l with
 | nil=>rfl
 | cons p r ih=>
  have:gJ (p::r)=p.n::p.s::gJ r:=rfl;rw [this];simp only [List.length_cons,ih];omega
theorem F5:∀ {l:List Pr} {v:Nat} (h:v<l.length),(gJ l)[2*v]? =some l[v].n∧(gJ l)[2*v+1]? =some l[v].s
 | [],v,h=>by simp at h
 | p::r,0,h=>⟨rfl,rfl⟩
 | p::r,v+1,h=>by
  have ih:=F5 (l:=r) (v:=v) (by simpa using h);have e:gJ (p::r)=p.n::p.s::gJ r:=rfl;rw [e,show 2*(v+1)=2*v+1+1 from om,show 2*v+1+1+1=(2*v+1)+1+1 from om];simpa using ih
theorem F9:∀(l:List Pr) (v:Nat) (p:Pr),gJ (l.set v p)=((gJ l).set (2*v) p.n).set (2*v+1) p.s
 | [],v,p=>by simp [gJ]
 | q::r,0,p=>rfl
 | q::r,v+1,p=>by
  have ih:=F9 r v p;have e:∀x y,gJ (x::y)=x.n::x.s::gJ y:=fun _ _=>rfl;rw [List.set_cons_succ,e,e,ih,show 2*(v+1)=2*v+1+1 from om,show 2*v+1+1+1=(2*v+1)+1+1 from om];simp
theorem sI {w:World}{g:Nat}{l:List Pr}(h:bD w g (gJ l)){v:Nat}(hv:v<l.length):
  ∃p:PV,p.is l[v]∧w.cell? ⟨g,v*8,none⟩=some (.bool p.x.nb)∧w.cell? ⟨g,v*8+1,none⟩=some (.string p.x.nS)∧w.cell? ⟨g,v*8+2,none⟩=some (.bool p.x.db)∧w.cell? ⟨g,v*8+3,none⟩=some (.string p.x.dS)∧
   w.cell? ⟨g,v*8+4,none⟩=some (.bool p.y.nb)∧w.cell? ⟨g,v*8+5,none⟩=some (.string p.y.nS)∧w.cell? ⟨g,v*8+6,none⟩=some (.bool p.y.db)∧w.cell? ⟨g,v*8+7,none⟩=some (.string p.y.dS):=by
 have h0:2*v<(gJ l).length:=by rw [FZ];omega
 have h1:2*v+1<(gJ l).length:=by rw [FZ];omega
 obtain⟨g0,g1⟩:=F5 hv;obtain⟨a,b,c,d,c0,c1,c2,c3,hn,_⟩:=h.at h0;obtain⟨a',b',c',d',d0,d1,d2,d3,hs,_⟩:=h.at h1;have e0:(gJ l)[2*v]=l[v].n:=by rw [eD h0]at g0;exact Option.some.inj g0
 have e1:(gJ l)[2*v+1]=l[v].s:=by rw [eD h1]at g1;exact Option.some.inj g1
 rw [e0]at hn;rw [e1]at hs;refine⟨⟨⟨a,b,c,d⟩,⟨a',b',c',d'⟩⟩,⟨hn,hs⟩,?_⟩;rw [show 2*v*4=v*8 from om]at c0 c1 c2 c3;rw [show(2*v+1)*4=v*8+4 from om]at d0 d1 d2 d3;exact⟨c0,c1,c2,c3,d0,by rw [show v*8+5=v*8+4+1 from om];exact d1,by rw [show v*8+6=v*8+4+2 from om];exact d2,by rw [show v*8+7=v*8+4+3 from om];exact d3⟩
def zY (w:World)(g:Nat)(l:List Nat):Prop:=∃A,aL w g A∧∀i (h:i<l.length),A[i]? =some (.int .i64 (l[i]:Int))
theorem zY.lt {w:World}{g:Nat}{l:List Nat}(h:zY w g l):g<w.heap.size:=by obtain⟨A,h,_⟩:=h;exact h.lt
theorem zY.keep {w w':World}{g:Nat}{l:List Nat}(h:zY w g l)(k:Keep au w w'):zY w' g l:=by
 obtain⟨A,h,h'⟩:=h;exact⟨A,h.keep k,h'⟩
theorem zY.at {w:World}{g:Nat}{l:List Nat}(h:zY w g l){i:Nat}(hi:i<l.length):w.cell? ⟨g,i,none⟩=some (.int .i64 (l[i]:Int))∧w.frozen? ⟨g,i,none⟩=false:=by
 obtain⟨A,h,h'⟩:=h;exact⟨by rw [h.cell];exact h' i hi,h.free _⟩
def zZ (w:World)(g:Nat)(l:List (List Rat))(gs cs:Nat→Nat):Prop:=∃A,aL w g A∧∀i (h:i<l.length),A[i]? =some (.slice (some ⟨gs i,0,none⟩) l[i].length (cs i))
theorem zZ.lt {w:World}{g:Nat}{l:List (List Rat)}{gs cs:Nat→Nat}(h:zZ w g l gs cs):g<w.heap.size:=by obtain⟨A,h,_⟩:=h;exact h.lt
theorem zZ.keep {w w':World}{g:Nat}{l:List (List Rat)}{gs cs:Nat→Nat}(h:zZ w g l gs cs)(k:Keep au w w'):zZ w' g l gs cs:=by
 obtain⟨A,h,h'⟩:=h;exact⟨A,h.keep k,h'⟩
theorem zZ.at {w:World}{g:Nat}{l:List (List Rat)}{gs cs:Nat→Nat}(h:zZ w g l gs cs){i:Nat}(hi:i<l.length):w.cell? ⟨g,i,none⟩=some (.slice (some ⟨gs i,0,none⟩) l[i].length (cs i))∧w.frozen? ⟨g,i,none⟩=false:=by
 obtain⟨A,h,h'⟩:=h;exact⟨by rw [h.cell];exact h' i hi,h.free _⟩
def zX (w:World)(g:Nat)(n:Nat)(basic:List Nat):Prop:=∃D:DataW Unit,w.ownsMap Tryz.prog 3 (plainElem Tryz.prog 3) g n D∧∀i (h:i<basic.length),D.atKey (.int .i64 (basic[i]:Int)) (.lit (.int .i64 0))= .lit (.int .i64 (i:Int))
theorem zX.lt {w:World}{g n:Nat}{l:List Nat}(h:zX w g n l):g<w.heap.size:=by obtain⟨D,h,_⟩:=h;exact h.lt
theorem zX.keep {w w':World}{g n:Nat}{l:List Nat}(h:zX w g n l)(k:Keep au w w'):zX w' g n l:=by
 have hlt:=h.lt;obtain⟨D,⟨es,clock,hb,F,hs,hD⟩,h'⟩:=h;exact⟨D,⟨es,clock,(k.block g hlt fun _ h=>h).trans hb,F,hs,hD⟩,h'⟩
structure Lay where
 gb:Nat
 gc:Nat
 gv:Nat
 gm:Nat
 gs:Nat→Nat
 ob:Option Addr
 oc:Option Addr
 cb:Nat
 cc:Nat
 cv:Nat
 cs:Nat→Nat
 vr:Value
structure Lay.apart (L:Lay)(bT m:Nat):Prop where
 tb:bT≠L.gb
 tc:bT≠L.gc
 tv:bT≠L.gv
 tm:bT≠L.gm
 bc:L.gb≠L.gc
 bv:L.gb≠L.gv
 bm:L.gb≠L.gm
 cv:L.gc≠L.gv
 cm:L.gc≠L.gm
 vm:L.gv≠L.gm
 st:∀i,i<m→L.gs i≠bT
 sb:∀i,i<m→L.gs i≠L.gb
 sc:∀i,i<m→L.gs i≠L.gc
 sv:∀i,i<m→L.gs i≠L.gv
 sm:∀i,i<m→L.gs i≠L.gm
 ss:∀i j,i<m→j<m→i≠j→L.gs i≠L.gs j
structure LT (w0 w:World)(bT nm:Nat)(S:TS)(L:Lay):Prop where
 k:Keep au w0 w
 t:vZ w bT S.n L.vr (.slice L.ob S.basic.length L.cb) (.map (some L.gm)) (.slice L.oc S.cells.length L.cc) (.slice (some ⟨L.gv,0,none⟩) S.vals.length L.cv) (.slice none 0 0)
 rows:iH w0 L.vr S.rows
 b:S.basic≠ []→L.ob=some ⟨L.gb,0,none⟩∧zY w L.gb S.basic
 c:S.cells≠ []→L.oc=some ⟨L.gc,0,none⟩∧zZ w L.gc S.cells L.gs L.cs
 r:∀i (h:i<S.cells.length),bD w (L.gs i) S.cells[i]∧S.cells[i].length≤L.cs i∧L.cs i≤maxLen
 v:bD w L.gv (gJ S.vals)
 cb:S.basic.length≤L.cb∧L.cb≤maxLen
 cc:S.cells.length≤L.cc∧L.cc≤maxLen
 cv:S.vals.length≤L.cv∧L.cv≤maxLen
 mp:zX w L.gm nm S.basic
 own:w0.heap.size≤bT∧w0.heap.size≤L.gb∧w0.heap.size≤L.gc∧w0.heap.size≤L.gv∧w0.heap.size≤L.gm∧∀i,i<S.cells.length→w0.heap.size≤L.gs i
 ap:L.apart bT S.cells.length
theorem vZ.keep {w w':World}{bT n:Nat}{vr vb vm vc vv vg:Value}(h:vZ w bT n vr vb vm vc vv vg)(k:Keep au w w'):vZ w' bT n vr vb vm vc vv vg:=aL.keep h k
theorem LT.keep {w0 w w':World}{bT nm:Nat}{S:TS}{L:Lay}(h:LT w0 w bT nm S L)(k:Keep au w w'):LT w0 w' bT nm S L:=
 ⟨h.k.both k,h.t.keep k,h.rows,fun hb=>⟨(h.b hb).1,(h.b hb).2.keep k⟩,fun hc=>⟨(h.c hc).1,(h.c hc).2.keep k⟩,fun i hi=>⟨(h.r i hi).1.keep k,(h.r i hi).2⟩,h.v.keep k,h.cb,h.cc,h.cv,h.mp.keep k,h.own,h.ap⟩
def EW (w0 w:World)(bT nm:Nat)(S:TS):Prop:=∃L,LT w0 w bT nm S L
theorem EW.keep {w0 w w':World}{bT nm:Nat}{S:TS}(h:EW w0 w bT nm S)(k:Keep au w w'):EW w0 w' bT nm S:=by
 obtain⟨L,h⟩:=h;exact⟨L,h.keep k⟩
def TS.val (S:TS)(v:Nat):Pr:=S.vals.getD v pr0
def TS.cell (S:TS)(i v:Nat):Rat:=(S.cells.getD i []).getD v 0
def TS.canB (S:TS)(v:Nat)(way:Int):Bool:=if 0<way then !jd S.n v || decide ((S.val v).cmp (jC S.n S.rows v)<0)else !hasLo S.n S.rows v || decide (0<(S.val v).cmp (Fa S.n S.rows v))
structure TS.nb (S:TS)(k:Nat):Prop where
 v:∀p∈S.vals,p.ok k
 c:∀l∈S.cells,∀q∈l,NB k q
theorem Xa {S:TS}(h:S.wf)(v:Nat):fO (S.rows.getD (v-S.n) bZ).to:=by
 by_cases hv:v-S.n<S.rows.length
 ·rw [Ck hv];obtain⟨_,_,_,_,_,h6⟩:=h.rok _ (List.getElem_mem hv)
  first | exact h6 | exact h6.1 | exact h6.2
 rw [U7 om];exact U8
theorem kL {S:TS}{v:Nat}(h:v<S.vals.length):S.val v=S.vals[v]:=by
 unfold TS.val;rw [dV,eD h];rfl
theorem KU {S:TS}(h:S.wf)(v:Nat):(jC S.n S.rows v).ok 1:=by
 unfold jC;split
 ·exact ⟨kW,kW⟩
 refine⟨PD (Xa h v),?_⟩;simp only;split
 ·exact jg (x:= -1) dc
 exact kW
theorem za8 {S:TS}(h:S.wf)(v:Nat):(Fa S.n S.rows v).ok 1:=by
 unfold Fa;split
 ·exact ⟨kW,kW⟩
 exact⟨PD (Xa h v),kW⟩
theorem Pr.ok.mono {j k:Nat}{a:Pr}(h:a.ok j)(hk:j≤k):a.ok k:=⟨h.1.mono hk,h.2.mono hk⟩
theorem zal (w0 w:World)(bT nm:Nat)(S:TS)(h:EW w0 w bT nm S)(hw:S.wf)(hn:S.nb 900)(v:Nat)(hv:v<S.n+S.rows.length)(way:Int)(Xb:dA way):
  Calls Tryz.prog 67 #[.pointer (some ⟨bT,0,none⟩),.int .i64 (v:Int),.int .i64 way] w fun e w'=>e= .returned (.bool (S.canB v way))∧Keep au w w':=by
 obtain⟨L,h⟩:=h;have hvl:v<S.vals.length:=by rw [hw.vl];exact hv
 obtain⟨px,hpx,c0,c1,c2,c3,c4,c5,c6,c7⟩:=sI h.v hvl;obtain⟨_,_,_,_,_,t5,_,fJ⟩:=h.t.seven;have jW:=h.v.lt;have CU:=fun w' (k:Keep au w w')=>zh (vO w' bT S.n _ _ _ _ _ _ S.rows v (h.t.keep k) (h.rows.keep (h.k.both k)) hw.n12 hw.r40 hv);have CL:=fun w' (k:Keep au w w')=>zh (Aa w' bT S.n _ _ _ _ _ _ S.rows v (h.t.keep k) (h.rows.keep (h.k.both k)) hw.n12 hw.r40 hv);have HCB:Hid (S.canB v way=if 0<way then !jd S.n v || decide ((S.vals[v]).cmp (jC S.n S.rows v)<0)else !hasLo S.n S.rows v || decide (0<(S.vals[v]).cmp (Fa S.n S.rows v))):=zh (by unfold TS.canB;rw [kL hvl]);have Rh:=KU hw v;have YT:=za8 hw v;have La:Hid ((S.vals[v]).ok 900):=zh (hn.v _ (List.getElem_mem hvl));have YU:=zh hpx;have xs:=h.cv.1;have xs':=h.cv.2;unfold maxLen at xs';have hvI:(v:Int)<(S.vals.length:Int):=om;obtain⟨⟨xb,xS,xc,xU⟩,⟨yb,yS,yc,yU⟩⟩:=px;simp only at c0 c1 c2 c3 c4 c5 c6 c7;generalize S.canB v way=cb at *;clear h hn hpx;by_cases hp:0<way
 case' pos=>
  rw [if_pos hp]at HCB;clear CL YT;generalize jC S.n S.rows v=Pq at *;generalize jd S.n v=hu at *;have HN9:=Rh;clear Rh;go_enter Tryz.func67,Tryz.ntmps67;go_wp2_with fail;refine(CU _ kp).out.mono ?_;rintro e w1 ⟨⟨⟨pb,pS,pc,pU⟩,⟨qb,qS,qc,qU⟩⟩,rfl,hz,hk⟩;have K1:Hid (Keep au w w1):=zh (Keep.trans kp hk fun _ _ _ h=>h);have HZ:=zh hz;clear hk hz CU;have HB:Hid (aL (w1.alloc (.cells #[.bool pb,.string pS,.bool pc,.string pU,.bool qb,.string qS,.bool qc,.string qU] 147)) w1.heap.size #[.bool pb,.string pS,.bool pc,.string pU,.bool qb,.string qS,.bool qc,.string qU]):=zh (aN _ _ rfl);have K2:Hid (Keep au w (w1.alloc (.cells #[.bool pb,.string pS,.bool pc,.string pU,.bool qb,.string qS,.bool qc,.string qU] 147))):=zh (K1.out.alloc _);unfold PV.v;go_upto_region 3 with fail
 case' neg=>
  rw [if_neg hp]at HCB;clear CU Rh;generalize Fa S.n S.rows v=Pq at *;generalize hasLo S.n S.rows v=hu at *;have HN9:=YT;clear YT;go_enter Tryz.func67,Tryz.ntmps67;go_wp2_with fail;refine(CL _ kp).out.mono ?_;rintro e w1 ⟨⟨⟨pb,pS,pc,pU⟩,⟨qb,qS,qc,qU⟩⟩,rfl,hz,hk⟩;have K1:Hid (Keep au w w1):=zh (Keep.trans kp hk fun _ _ _ h=>h);have HZ:=zh hz;clear hk hz CL;have HB:Hid (aL (w1.alloc (.cells #[.bool pb,.string pS,.bool pc,.string pU,.bool qb,.string qS,.bool qc,.string qU] 147)) w1.heap.size #[.bool pb,.string pS,.bool pc,.string pU,.bool qb,.string qS,.bool qc,.string qU]):=zh (aN _ _ rfl);have K2:Hid (Keep au w (w1.alloc (.cells #[.bool pb,.string pS,.bool pc,.string pU,.bool qb,.string qS,.bool qc,.string qU] 147))):=zh (K1.out.alloc _);unfold PV.v;go_upto_region 5 with fail
 all_goals
  generalize w1.alloc (.cells #[.bool pb,.string pS,.bool pc,.string pU,.bool qb,.string qS,.bool qc,.string qU] 147)=w2 at *;generalize w1.heap.size=b7 at *;refine aD (fun w'=>Keep au w2 w') [] [([0,1,2,3,4,5,6,7,8,9,10],11)] [12,13,14] kr kr kp ?_;intro X W hne hF hcl;have aY:=zh hcl;have hlt2:=bJ fJ K2.out.size;have hlv2:=bJ jW K2.out.size;have x0:=fun x=>((hF x).cell hlt2).trans ((K2.out.cell fJ).trans t5);have y0:=fun x=>((hF x).cell hlv2).trans ((K2.out.cell jW).trans c0);have y1:=fun x=>((hF x).cell hlv2).trans ((K2.out.cell jW).trans c1);have y2:=fun x=>((hF x).cell hlv2).trans ((K2.out.cell jW).trans c2);have y3:=fun x=>((hF x).cell hlv2).trans ((K2.out.cell jW).trans c3);have y4:=fun x=>((hF x).cell hlv2).trans ((K2.out.cell jW).trans c4);have y5:=fun x=>((hF x).cell hlv2).trans ((K2.out.cell jW).trans c5);have y6:=fun x=>((hF x).cell hlv2).trans ((K2.out.cell jW).trans c6);have y7:=fun x=>((hF x).cell hlv2).trans ((K2.out.cell jW).trans c7);have z0:=fun x=>(HB.out.keep (hF x)).eight;clear hF hcl;have CC:=fun w=>zh (Du w _ _ YU.out (La.out.mono om) _ _ HZ.out (HN9.mono om));unfold PV.v at CC;simp only at CC;generalize hcm:(S.vals[v]).cmp Pq=cm at *;clear hcm;cases hu
  case false=>
   simp only [aW,aJ,zl0,zl1,zl2,aX,Bool.false_eq_true,if_false]
   (repeat(go_big_quiet_step (fail)));refine wpQuiet_nil ?_
   refine fE (by simp only [zl0,zl1,zl2];rfl) (by rfl) ?_;simp only [Act.put,List.setIfInBounds_toArray,List.set_cons_zero,List.set_cons_succ];refine⟨fun _=>aY.out _ (Keep.refl au w2).drew,?_⟩
   (repeat(go_big_quiet_step (fail)));refine wpQuiet_nil ?_
   refine NoPanic.normal ?_;have K9:=zh (K2.out.drew);go_simp
   repeat go_step
   refine bodyPost_ret (by simp [results,Tryz.results67,go_sem];rfl) rfl ?_;exact⟨by rw [HCB.out];rfl,K9.out⟩
  simp only [aW,aJ,zl0,zl1,zl2,aX,Bool.false_eq_true,if_false]
  (repeat(go_big_quiet_step (fail)));refine wpQuiet_nil ?_
  refine E9 rfl rfl fun K hK=> ?_;go_simp;refine(CC _).out.mono ?_;rintro e w3 ⟨rfl,hk3⟩;have k3:Keep au w2 w3:=Keep.trans kp hk3 fun _ _ _ h=>h;refine hK _ _ ⟨fun _=>aY.out _ k3,?_⟩;have K2:=zh (K2.out.both k3);clear hK K hk3 CC k3 x0 y0 y1 y2 y3 y4 y5 y6 y7 z0
  (repeat(go_big_quiet_step (fail)));refine wpQuiet_nil ?_
  refine NoPanic.normal ?_;have K9:=K2;go_simp
  repeat go_step
  refine bodyPost_ret (by simp [results,Tryz.results67,go_sem];rfl) rfl ?_;exact⟨by rw [HCB.out];rfl,K9.out⟩
def TS.brkStep (S:TS)(st:Int × Int)(b:Nat):Int × Int:=
 if 0≤st.1∧st.1<(b:Int)then st
 else if hasLo S.n S.rows b=true∧(S.val b).cmp (Fa S.n S.rows b)<0 then((b:Int),1)
 else if jd S.n b=true∧0<(S.val b).cmp (jC S.n S.rows b)then((b:Int),-1)else st
def TS.broken (S:TS):Int × Int:=S.basic.foldl S.brkStep (-1,0)
theorem SB {α β:Type}{f:β→α→β}{b:β}{l:List α}{k:Nat}(h:k<l.length):(l.take (k+1)).foldl f b=f ((l.take k).foldl f b) l[k]:=by
 rw [List.take_succ_eq_append_getElem h,List.foldl_append];rfl
theorem OB (w0 w:World)(bT nm:Nat)(S:TS)(h:EW w0 w bT nm S)(hw:S.wf)(hn:S.nb 900):
  Calls Tryz.prog 66 #[.pointer (some ⟨bT,0,none⟩)] w fun e w'=>e= .returned (.tuple #[.int .i64 S.broken.1,.int .i64 S.broken.2])∧Keep au w w':=by
 obtain⟨L,h⟩:=h;have nJ:=zh h;have HW:=zh hw;have HN:=zh hn;obtain⟨_,_,t2,_,_,t5,_,fJ⟩:=h.t.seven;have HT5:=zh t5;have jW:=h.v.lt;have xs:=h.cv.1;have xs':=h.cv.2;have ys:=h.cb.1;have ys':=h.cb.2;have hvl:=hw.vl;have hbl:=hw.bl;have h40:=hw.r40;have h12:=hw.n12;unfold maxLen at xs' ys';clear h hw hn t5;go_enter Tryz.func66,Tryz.ntmps66;go_wp2;clear t2;go_loopw [4,5,17] (fun s4 s5 s17 wr=>∃(k:Nat) (b wy:Int),k≤S.basic.length∧s17= .int .i64 k∧s4= .int .i64 b∧s5= .int .i64 wy∧(S.basic.take k).foldl S.brkStep (-1,0)=(b,wy)∧ -1≤b∧b<1000∧ -1≤wy∧Keep au w wr) (fun _ _ s _=>(S.basic.length-intOf s).toNat)
 case atStart=>exact⟨0,-1,0,om,rfl,rfl,rfl,rfl,om,om,om,Keep.refl _ _⟩
 obtain⟨k,b,wy,hk,rfl,rfl,rfl,hf,hb1,hb2,hw1,hkr⟩:=hrel;have HF:=zh hf;have dH:=zh hkr;clear hf hkr;by_cases hkl:k<S.basic.length
 case neg=>
  have hlt:¬(k:Int)<(S.basic.length:Int):=om;obtain rfl:k=S.basic.length:=om;have HB:Hid (S.broken=(b,wy)):=zh (by unfold TS.broken;rw [← HF.out,List.take_length]);go_wp2;go_ret2;exact⟨by rw [HB.out];rfl,dH.out⟩
 have hlt:(k:Int)<(S.basic.length:Int):=om;have G7:Hid ((S.basic.take (k+1)).foldl S.brkStep (-1,0)=S.brkStep (b,wy) S.basic[k]):=zh (by rw [SB hkl,HF.out]);obtain⟨Io,hib⟩:=nJ.out.b (by intro h0;rw [h0]at hkl;simp at hkl);obtain⟨c0,_⟩:=hib.at hkl;have hgl:=hib.lt;rw [Io];have c0:=(dH.out.cell hgl).trans c0;have zeR:=bJ hgl dH.out.size;have hxk:=HW.out.bb _ (List.getElem_mem hkl);have hxv:S.basic[k]<S.vals.length:=om;have Rh:=zh (KU HW.out S.basic[k]);have YT:=zh (za8 HW.out S.basic[k]);have La:Hid ((S.val S.basic[k]).ok 900):=zh (by rw [kL hxv];exact HN.out.v _ (List.getElem_mem hxv));obtain⟨px,hpx,e0,e1,e2,e3,e4,e5,e6,e7⟩:=sI nJ.out.v hxv;rw [← kL hxv]at hpx;have YU:=zh hpx;obtain⟨⟨xb,xS,xc,xU⟩,⟨yb,yS,yc,yU⟩⟩:=px;simp only at e0 e1 e2 e3 e4 e5 e6 e7;have HC:=zh (And.intro e0 (And.intro e1 (And.intro e2 (And.intro e3 (And.intro e4 (And.intro e5 (And.intro e6 e7)))))));have CU:=fun w' (k':Keep au w w')=>zh (vO w' bT S.n _ _ _ _ _ _ S.rows S.basic[k] (nJ.out.t.keep k') (nJ.out.rows.keep (nJ.out.k.both k')) HW.out.n12 HW.out.r40 hxk);have CL:=fun w' (k':Keep au w w')=>zh (Aa w' bT S.n _ _ _ _ _ _ S.rows S.basic[k] (nJ.out.t.keep k') (nJ.out.rows.keep (nJ.out.k.both k')) HW.out.n12 HW.out.r40 hxk);have hxI:(S.basic[k]:Int)<(S.vals.length:Int):=om;have hxI2:(S.basic[k]:Int)<1000:=om;clear e0 e1 e2 e3 e4 e5 e6 e7 hpx hib Io hgl;by_cases h0:0≤b
 case' neg=>
  have hb0:¬(0:Int)≤b:=h0;have HS:Hid (¬ (0≤b∧b<(S.basic[k]:Int))):=zh om;clear h0;go_upto_region 6 with fail
 case' pos=>
  by_cases hbx:b<(S.basic[k]:Int)
  case pos=>
   have HS:Hid (0≤b∧b<(S.basic[k]:Int)):=zh ⟨h0,hbx⟩;go_wp2_with fail;go_roundw
   case rel=>exact⟨k+1,b,wy,om,gn,rfl,rfl,by rw [G7.out];simp [TS.brkStep,HS.out],om,om,om,dH.out⟩
   simp [intOf];omega
  have HS:Hid (¬ (0≤b∧b<(S.basic[k]:Int))):=zh om;go_upto_region 6 with fail
 all_goals
  clear c0 zeR;go_wp2_with fail;refine(CU _ dH.out).out.mono ?_;rintro e wA1 ⟨⟨⟨pb,pS,pc,pU⟩,⟨qb,qS,qc,qU⟩⟩,rfl,hz,hk⟩;have KA1:=zh (dH.out.both hk);have HZ1:=zh hz;clear hk hz CU;have HB1:Hid (aL (wA1.alloc (.cells #[.bool pb,.string pS,.bool pc,.string pU,.bool qb,.string qS,.bool qc,.string qU] 147)) wA1.heap.size #[.bool pb,.string pS,.bool pc,.string pU,.bool qb,.string qS,.bool qc,.string qU]):=zh (aN _ _ rfl);have Qo:Hid (Keep au w (wA1.alloc (.cells #[.bool pb,.string pS,.bool pc,.string pU,.bool qb,.string qS,.bool qc,.string qU] 147))):=zh (KA1.out.alloc _);unfold PV.v;go_upto_region 7 with fail;generalize wA1.alloc (.cells #[.bool pb,.string pS,.bool pc,.string pU,.bool qb,.string qS,.bool qc,.string qU] 147)=wB1 at *;generalize wA1.heap.size=b71 at *;refine aD (fun w'=>Keep au wB1 w') [] [([0,1,2,3,4,5,6,7,8,9],10)] [11,12] kr kr kp ?_;intro X W hne hF hcl;have aY:=zh hcl;have hlt2:=bJ fJ Qo.out.size;have hlv2:=bJ jW Qo.out.size;have x0:=fun x=>((hF x).cell hlt2).trans ((Qo.out.cell fJ).trans HT5.out);have y0:=fun x=>((hF x).cell hlv2).trans ((Qo.out.cell jW).trans HC.out.1);have y1:=fun x=>((hF x).cell hlv2).trans ((Qo.out.cell jW).trans HC.out.2.1);have y2:=fun x=>((hF x).cell hlv2).trans ((Qo.out.cell jW).trans HC.out.2.2.1);have y3:=fun x=>((hF x).cell hlv2).trans ((Qo.out.cell jW).trans HC.out.2.2.2.1);have y4:=fun x=>((hF x).cell hlv2).trans ((Qo.out.cell jW).trans HC.out.2.2.2.2.1);have y5:=fun x=>((hF x).cell hlv2).trans ((Qo.out.cell jW).trans HC.out.2.2.2.2.2.1);have y6:=fun x=>((hF x).cell hlv2).trans ((Qo.out.cell jW).trans HC.out.2.2.2.2.2.2.1);have y7:=fun x=>((hF x).cell hlv2).trans ((Qo.out.cell jW).trans HC.out.2.2.2.2.2.2.2);have z0:=fun x=>(HB1.out.keep (hF x)).eight;clear hF hcl;have CC:=fun w=>zh (Du w _ _ YU.out (La.out.mono om) _ _ HZ1.out (Rh.out.mono om));unfold PV.v at CC;simp only at CC;generalize YV:jd S.n S.basic[k]=hu at *;generalize hcm1:(S.val S.basic[k]).cmp (jC S.n S.rows S.basic[k])=cm1 at*;cases hu
  case' false=>
   have HQU:Hid (¬ (jd S.n S.basic[k]=true∧0<(S.val S.basic[k]).cmp (jC S.n S.rows S.basic[k]))):=zh (fun h=>by rw [YV]at h;cases h.1);clear YV hcm1;simp only [aW,aJ,zl0,zl1,zl2,aX,Bool.false_eq_true,if_false]
   (repeat(go_big_quiet_step (fail)));refine wpQuiet_nil ?_
   refine fE (by simp only [zl0,zl1,zl2];rfl) (by rfl) ?_;simp only [Act.put,List.setIfInBounds_toArray,List.set_cons_zero,List.set_cons_succ];refine⟨fun _=>aY.out _ (Keep.refl au wB1).drew,?_⟩
   (repeat(go_big_quiet_step (fail)));refine wpQuiet_nil ?_
   refine NoPanic.normal ?_;have KD1:=zh (Qo.out.drew);clear x0 y0 y1 y2 y3 y4 y5 y6 y7 z0 CC aY;generalize wB1.drew=wD1 at*
  case' true=>
   by_cases hc1:0<cm1
   case' pos=>
    have HQU:Hid (jd S.n S.basic[k]=true∧0<(S.val S.basic[k]).cmp (jC S.n S.rows S.basic[k])):=zh ⟨YV,by rw [hcm1];exact hc1⟩;clear YV hcm1;simp only [aW,aJ,zl0,zl1,zl2,aX,Bool.false_eq_true,if_false]
    (repeat(go_big_quiet_step (fail)));refine wpQuiet_nil ?_
    refine E9 rfl rfl fun K hK=> ?_;go_simp;refine(CC _).out.mono ?_;rintro e wD1 ⟨rfl,hk3⟩;have k3:Keep au wB1 wD1:=Keep.trans kp hk3 fun _ _ _ h=>h;refine hK _ _ ⟨fun _=>aY.out _ k3,?_⟩;have KD1:=zh (Qo.out.both k3);clear hK K hk3 CC k3 x0 y0 y1 y2 y3 y4 y5 y6 y7 z0 aY
    (repeat(go_big_quiet_step (fail)));refine wpQuiet_nil ?_
    refine NoPanic.normal ?_
   case' neg=>
    have HQU:Hid (¬ (jd S.n S.basic[k]=true∧0<(S.val S.basic[k]).cmp (jC S.n S.rows S.basic[k]))):=zh (fun h=>hc1 (by rw [← hcm1];exact h.2));clear YV hcm1;simp only [aW,aJ,zl0,zl1,zl2,aX,Bool.false_eq_true,if_false]
    (repeat(go_big_quiet_step (fail)));refine wpQuiet_nil ?_
    refine E9 rfl rfl fun K hK=> ?_;go_simp;refine(CC _).out.mono ?_;rintro e wD1 ⟨rfl,hk3⟩;have k3:Keep au wB1 wD1:=Keep.trans kp hk3 fun _ _ _ h=>h;refine hK _ _ ⟨fun _=>aY.out _ k3,?_⟩;have KD1:=zh (Qo.out.both k3);clear hK K hk3 CC k3 x0 y0 y1 y2 y3 y4 y5 y6 y7 z0 aY
    (repeat(go_big_quiet_step (fail)));refine wpQuiet_nil ?_
    refine NoPanic.normal ?_
  all_goals
   go_wp2_with fail;refine(CL _ KD1.out).out.mono ?_;rintro e wA2 ⟨⟨⟨pb,pS,pc,pU⟩,⟨qb,qS,qc,qU⟩⟩,rfl,hz,hk⟩;have KA2:=zh (KD1.out.both hk);have HZ2:=zh hz;clear hk hz CL;have HB2:Hid (aL (wA2.alloc (.cells #[.bool pb,.string pS,.bool pc,.string pU,.bool qb,.string qS,.bool qc,.string qU] 147)) wA2.heap.size #[.bool pb,.string pS,.bool pc,.string pU,.bool qb,.string qS,.bool qc,.string qU]):=zh (aN _ _ rfl);have Qp:Hid (Keep au w (wA2.alloc (.cells #[.bool pb,.string pS,.bool pc,.string pU,.bool qb,.string qS,.bool qc,.string qU] 147))):=zh (KA2.out.alloc _);unfold PV.v;go_upto_region 10 with fail;generalize wA2.alloc (.cells #[.bool pb,.string pS,.bool pc,.string pU,.bool qb,.string qS,.bool qc,.string qU] 147)=wB2 at *;generalize wA2.heap.size=b72 at *;refine aD (fun w'=>Keep au wB2 w') [] [([0,1,2,3,4,5,6,7,8,9],10)] [11,12] kr kr kp ?_;intro X W hne hF hcl;have aY:=zh hcl;have hlt2:=bJ fJ Qp.out.size;have hlv2:=bJ jW Qp.out.size;have x0:=fun x=>((hF x).cell hlt2).trans ((Qp.out.cell fJ).trans HT5.out);have y0:=fun x=>((hF x).cell hlv2).trans ((Qp.out.cell jW).trans HC.out.1);have y1:=fun x=>((hF x).cell hlv2).trans ((Qp.out.cell jW).trans HC.out.2.1);have y2:=fun x=>((hF x).cell hlv2).trans ((Qp.out.cell jW).trans HC.out.2.2.1);have y3:=fun x=>((hF x).cell hlv2).trans ((Qp.out.cell jW).trans HC.out.2.2.2.1);have y4:=fun x=>((hF x).cell hlv2).trans ((Qp.out.cell jW).trans HC.out.2.2.2.2.1);have y5:=fun x=>((hF x).cell hlv2).trans ((Qp.out.cell jW).trans HC.out.2.2.2.2.2.1);have y6:=fun x=>((hF x).cell hlv2).trans ((Qp.out.cell jW).trans HC.out.2.2.2.2.2.2.1);have y7:=fun x=>((hF x).cell hlv2).trans ((Qp.out.cell jW).trans HC.out.2.2.2.2.2.2.2);have z0:=fun x=>(HB2.out.keep (hF x)).eight;clear hF hcl;have CC:=fun w=>zh (Du w _ _ YU.out (La.out.mono om) _ _ HZ2.out (YT.out.mono om));unfold PV.v at CC;simp only at CC;generalize hhl:hasLo S.n S.rows S.basic[k]=hl at *;generalize hcm2:(S.val S.basic[k]).cmp (Fa S.n S.rows S.basic[k])=cm2 at*;cases hl
   case' false=>
    have HQL:Hid (¬ (hasLo S.n S.rows S.basic[k]=true∧(S.val S.basic[k]).cmp (Fa S.n S.rows S.basic[k])<0)):=zh (fun h=>by rw [hhl]at h;cases h.1);clear hhl hcm2;simp only [aW,aJ,zl0,zl1,zl2,aX,Bool.false_eq_true,if_false]
    (repeat(go_big_quiet_step (fail)));refine wpQuiet_nil ?_
    refine fE (by simp only [zl0,zl1,zl2];rfl) (by rfl) ?_;simp only [Act.put,List.setIfInBounds_toArray,List.set_cons_zero,List.set_cons_succ];refine⟨fun _=>aY.out _ (Keep.refl au wB2).drew,?_⟩
    (repeat(go_big_quiet_step (fail)));refine wpQuiet_nil ?_
    refine NoPanic.normal ?_;have KD2:=zh (Qp.out.drew);clear x0 y0 y1 y2 y3 y4 y5 y6 y7 z0 CC aY;generalize wB2.drew=wD2 at*
   case' true=>
    by_cases hc2:cm2<0
    case' pos=>
     have HQL:Hid (hasLo S.n S.rows S.basic[k]=true∧(S.val S.basic[k]).cmp (Fa S.n S.rows S.basic[k])<0):=zh ⟨hhl,by rw [hcm2];exact hc2⟩;clear hhl hcm2;simp only [aW,aJ,zl0,zl1,zl2,aX,Bool.false_eq_true,if_false]
     (repeat(go_big_quiet_step (fail)));refine wpQuiet_nil ?_
     refine E9 rfl rfl fun K hK=> ?_;go_simp;refine(CC _).out.mono ?_;rintro e wD2 ⟨rfl,hk3⟩;have k3:Keep au wB2 wD2:=Keep.trans kp hk3 fun _ _ _ h=>h;refine hK _ _ ⟨fun _=>aY.out _ k3,?_⟩;have KD2:=zh (Qp.out.both k3);clear hK K hk3 CC k3 x0 y0 y1 y2 y3 y4 y5 y6 y7 z0 aY
     (repeat(go_big_quiet_step (fail)));refine wpQuiet_nil ?_
     refine NoPanic.normal ?_
    case' neg=>
     have HQL:Hid (¬ (hasLo S.n S.rows S.basic[k]=true∧(S.val S.basic[k]).cmp (Fa S.n S.rows S.basic[k])<0)):=zh (fun h=>hc2 (by rw [← hcm2];exact h.2));clear hhl hcm2;simp only [aW,aJ,zl0,zl1,zl2,aX,Bool.false_eq_true,if_false]
     (repeat(go_big_quiet_step (fail)));refine wpQuiet_nil ?_
     refine E9 rfl rfl fun K hK=> ?_;go_simp;refine(CC _).out.mono ?_;rintro e wD2 ⟨rfl,hk3⟩;have k3:Keep au wB2 wD2:=Keep.trans kp hk3 fun _ _ _ h=>h;refine hK _ _ ⟨fun _=>aY.out _ k3,?_⟩;have KD2:=zh (Qp.out.both k3);clear hK K hk3 CC k3 x0 y0 y1 y2 y3 y4 y5 y6 y7 z0 aY
     (repeat(go_big_quiet_step (fail)));refine wpQuiet_nil ?_
     refine NoPanic.normal ?_
   all_goals
    go_wp2_with fail;go_roundw
    case rel=>first | exact⟨k+1,b,wy,om,gn,rfl,rfl,by rw [G7.out];unfold TS.brkStep;rw [if_neg HS.out,if_neg HQL.out,if_neg HQU.out],om,om,om,KD2.out⟩ | exact⟨k+1,(S.basic[k]:Int),1,om,gn,rfl,rfl,by rw [G7.out];unfold TS.brkStep;rw [if_neg HS.out,if_pos HQL.out],om,om,om,KD2.out⟩ | exact⟨k+1,(S.basic[k]:Int),(-1),om,gn,rfl,rfl,by rw [G7.out];unfold TS.brkStep;rw [if_neg HS.out,if_neg HQL.out,if_pos HQU.out],om,om,om,KD2.out⟩
    simp [intOf];omega
end Go.Proofs.YtmepglhdcphffaaGreat
