/- Package tableau's bounds: upper, lower. Package tableau's T as it lies. Package tableau's can. -/
import Derived.Test.YtaiffmebphhdaaaGreatTbA
import Derived.Test.YtaiffmebphhdaaaGreatPtAA
import Derived.Test.YtaiffmebphhdaaaGreatFkAA
import Derived.Test.YtaiffmebphhdaaaGreatBaseA
import Derived.Maps.OwnSet
namespace Go.Proofs.YtaiffmebphhdaaaGreat
set_option maxRecDepth 100000
set_option maxHeartbeats 8000000
set_option linter.unusedSimpArgs false
set_option linter.unusedVariables false
open Go.ChangeShapes Go.WideShapes Go.RowKit
def jH (n:Nat)(rows:List Rw)(v:Nat):Pr:=if v<n then pr0 else⟨((rows.getD (v-n) bG).to:Rat),if(rows.getD (v-n) bG).kind=2 then -1 else 0⟩
def jw (n v:Nat):Bool:=decide (n≤v)
def uD (n:Nat)(rows:List Rw)(v:Nat):Pr:=if v<n∨(rows.getD (v-n) bG).kind≠3 then pr0 else⟨((rows.getD (v-n) bG).to:Rat),0⟩
def hasLo (n:Nat)(rows:List Rw)(v:Nat):Bool:=decide (n≤v∧(rows.getD (v-n) bG).kind=3)
theorem qQ (x:Int):∃y:NV,Aq x 1=y.v∧bO y.v (x:Rat):=by
 rw [← UD];exact fF _
theorem aL.tri {w:World}{k:Nat}{x y z:Value}(h:aL w k #[x,y,z]):
  w.cell? ⟨k,0,none⟩=some x∧w.cell? ⟨k,1,none⟩=some y∧w.cell? ⟨k,2,none⟩=some z∧w.frozen? ⟨k,0,none⟩=false∧w.frozen? ⟨k,1,none⟩=false∧w.frozen? ⟨k,2,none⟩=false∧k<w.heap.size:=
 ⟨h.cell 0,h.cell 1,h.cell 2,h.free 0,h.free 1,h.free 2,h.lt⟩
theorem QY {w0 w:World}{b:Nat}(h:Keep au w0 w)(hb:w0.heap.size≤b)(u v x:Value):Keep au w0 (((w.setCell ⟨b,0,none⟩ u).setCell ⟨b,1,none⟩ v).setCell ⟨b,2,none⟩ x):=
 ((h.setCell _ fun hh=>absurd hh om).setCell _ fun hh=>absurd hh om).setCell _ fun hh=>absurd hh om
theorem aL.set3 {w:World}{b:Nat}{x y z:Value}(h:aL w b #[x,y,z])(p q r:Value):aL (((w.setCell ⟨b,0,none⟩ p).setCell ⟨b,1,none⟩ q).setCell ⟨b,2,none⟩ r) b #[p,q,r]:=by
 obtain⟨t,h⟩:=h;exact⟨t,heap_setCell_same 2 r (heap_setCell_same 1 q (heap_setCell_same 0 p h))⟩
theorem aL.other3 {w:World}{b b':Nat}{A:Array Value}(h:aL w b A)(hne:b≠b')(p q r:Value):aL (((w.setCell ⟨b',0,none⟩ p).setCell ⟨b',1,none⟩ q).setCell ⟨b',2,none⟩ r) b A:=by
 obtain⟨t,h⟩:=h;exact⟨t,by rw [heap_setCell_other _ _ _ _ hne,heap_setCell_other _ _ _ _ hne,heap_setCell_other _ _ _ _ hne];exact h⟩
theorem aL.set4hi {w:World}{b:Nat}{a0 a1 a2 a3 a4 a5 a6 a7:Value}(h:aL w b #[a0,a1,a2,a3,a4,a5,a6,a7])(c4 c5 c6 c7:Value):aL ((((w.setCell ⟨b,4,none⟩ c4).setCell ⟨b,5,none⟩ c5).setCell ⟨b,6,none⟩ c6).setCell ⟨b,7,none⟩ c7) b #[a0,a1,a2,a3,c4,c5,c6,c7]:=by
 obtain⟨t,h⟩:=h;exact⟨t,heap_setCell_same 7 c7 (heap_setCell_same 6 c6 (heap_setCell_same 5 c5 (heap_setCell_same 4 c4 h)))⟩
def wS (w:World)(bT:Nat)(n:Nat)(vr vb vm vc vv vg:Value):Prop:=aL w bT #[.int .i64 n,vr,vb,vm,vc,vv,vg]
theorem aL.seven {w:World}{k:Nat}{a0 a1 a2 a3 a4 a5 a6:Value}(h:aL w k #[a0,a1,a2,a3,a4,a5,a6]):
  w.cell? ⟨k,0,none⟩=some a0∧w.cell? ⟨k,1,none⟩=some a1∧w.cell? ⟨k,2,none⟩=some a2∧w.cell? ⟨k,3,none⟩=some a3∧w.cell? ⟨k,4,none⟩=some a4∧w.cell? ⟨k,5,none⟩=some a5∧w.cell? ⟨k,6,none⟩=some a6∧k<w.heap.size:=
 ⟨h.cell 0,h.cell 1,h.cell 2,h.cell 3,h.cell 4,h.cell 5,h.cell 6,h.lt⟩
theorem wu (w:World)(bT n:Nat)(vr vb vm vc vv vg:Value)(rows:List Rw)(v:Nat)(h:wS w bT n vr vb vm vc vv vg)(hr:dD w vr rows)(hn:n≤12)(h40:rows.length≤64)(hv:v<n+rows.length):
  Calls Tryz.prog 46 #[.pointer (some ⟨bT,0,none⟩),.int .i64 (v:Int)] w fun e w'=>∃z:PV,e= .returned (.tuple #[z.v,.bool (jw n v)])∧z.is (jH n rows v)∧Keep au w w':=by
 unfold jw jH;have HT:=zh h;have HR:=zh hr;have hvI:(v:Int)<1000:=om;obtain⟨oa,ca,rfl,_,_⟩:=hr.len;unfold wS at HT h;obtain⟨c0,c1,_,_,_,_,_,cl⟩:=h.seven;clear h hr;have W4:Hid (Keep au w (w.alloc (.cells #[.bool false,.string ⟨#[]⟩,.bool false,.string ⟨#[]⟩,.bool false,.string ⟨#[]⟩,.bool false,.string ⟨#[]⟩] 101))):=zh ((Keep.refl _ _).alloc _);have fH:Hid (aL (w.alloc (.cells #[.bool false,.string ⟨#[]⟩,.bool false,.string ⟨#[]⟩,.bool false,.string ⟨#[]⟩,.bool false,.string ⟨#[]⟩] 101)) w.heap.size #[.bool false,.string ⟨#[]⟩,.bool false,.string ⟨#[]⟩,.bool false,.string ⟨#[]⟩,.bool false,.string ⟨#[]⟩]):=zh (aP _ _ rfl);by_cases UE:v<n
 case pos=>
  have hlt:(v:Int)<(n:Int):=om;rw [if_pos UE,decide_eq_false om];clear UE;go_enter Tryz.func46,Tryz.ntmps46;go_upto_region 2 with fail;generalize w.alloc (.cells #[.bool false,.string ⟨#[]⟩,.bool false,.string ⟨#[]⟩,.bool false,.string ⟨#[]⟩,.bool false,.string ⟨#[]⟩] 101)=w0 at *;generalize hb4:w.heap.size=b4 at *;obtain⟨s0,s1,s2,s3,s4,s5,s6,s7,sl⟩:=fH.out.eight;obtain⟨f0,f1,f2,f3,f4,f5,f6,f7⟩:=fH.out.eightF;clear c0 c1 cl;go_simp
  repeat go_step
  refine bodyPost_ret (by simp [results,Tryz.results46,go_sem,s0,s1,s2,s3,s4,s5,s6,s7,sl];rfl) rfl ?_;exact⟨pv0,rfl,Ny,iw W4.out om _ _ _ _ _ _ _ _⟩
 have hlt:¬(v:Int)<(n:Int):=om;rw [if_neg UE,decide_eq_true om];obtain⟨i,hvi⟩:∃i,v-n=i:=⟨_,rfl⟩;have hi:i<rows.length:=om;have hiI:(i:Int)<(rows.length:Int):=om;rw [hvi,mV hi];obtain⟨b,o,rfl,hb,hrow⟩:=HR.out.at hi;obtain⟨os,cs,r0,r1,r2,hrw⟩:=hrow.row;obtain⟨_,_,_,hk64,ht64,_⟩:=hrw;have e1:(v:Int)-(n:Int)=(i:Int):=om;have e2:¬(i:Int)<0:=om;have e3:IntKind.i64.wrap (i:Int)=(i:Int):=Go.IntWalk.i64_in _ om;clear hvi hv;generalize rows[i]=r at *;obtain⟨oN,Gq,QZ⟩:=r;simp only at r0 r1 r2 hk64 ht64 ⊢;obtain⟨sm,hsm⟩:∃sm:Rat,(if Gq=2 then(-1:Rat)else 0)=sm:=⟨_,rfl⟩;rw [hsm];have uE:=zh hsm;clear hsm;unfold fT at hk64 ht64;have CI:=fun w=>zh (jI w QZ ht64.1 ht64.2);have CM:=fun w=>zh (jI w (-1) om om);obtain⟨⟨pb,pS,pc,pU⟩,hp,hpn⟩:=qQ QZ;obtain⟨⟨qb,qS,qc,qU⟩,hq,FR⟩:=qQ (-1);rw [hp]at CI;rw [hq]at CM;unfold NV.v at CI CM;simp only at CI CM;have HP:=zh (And.intro hpn FR);clear UE hk64 ht64 hp hq hpn FR hrow;go_enter Tryz.func46,Tryz.ntmps46;go_upto_region 3 with fail;have hb40:=fH.out.lt;generalize w.alloc (.cells #[.bool false,.string ⟨#[]⟩,.bool false,.string ⟨#[]⟩,.bool false,.string ⟨#[]⟩,.bool false,.string ⟨#[]⟩] 101)=w0 at *;generalize hb4:w.heap.size=b4 at *;have Cx:Hid (w.heap.size≤b4):=zh om;have hcl0:bT<w0.heap.size:=dJ om W4.out.size;have hbl0:b<w0.heap.size:=dJ om W4.out.size;have d0:=(W4.out.cell om).trans c0;have d1:=(W4.out.cell om).trans c1;have g0:=(W4.out.cell om).trans r0;have g1:=(W4.out.cell om).trans r1;have g2:=(W4.out.cell om).trans r2;clear c0 c1 cl r0 r1 r2 hb;refine aD (fun w'=>Keep au w0 w') [13] [([0,1,2,3,4,5,6,7,8,9,10,11],12),([],13)] [] kr kr kp ?_;intro X W hne hF hcl;have aQ:=zh hcl;have x0:=fun x=>((hF x).cell hcl0).trans d0;have x1:=fun x=>((hF x).cell hcl0).trans d1;have y0:=fun x=>((hF x).cell hbl0).trans g0;have y1:=fun x=>((hF x).cell hbl0).trans g1;have y2:=fun x=>((hF x).cell hbl0).trans g2;clear hF hcl d0 d1 g0 g1 g2;simp only [aO,aJ,zl0,zl1,zl2,aR,Bool.false_eq_true,if_false]
 (repeat(quiet_step (fail)));refine wpQuiet_nil ?_
 refine ay rfl rfl fun K hK=> ?_;go_simp;have k5:Keep au w0 (w0.alloc (.cells #[.slice none 0 0,.int .i64 0,.int .i64 0] 40)).drew:=((Keep.refl au w0).alloc _).drew;refine hK _ _ ⟨fun _=>aQ.out _ k5,?_⟩;clear hK K;have B6:Hid (aL (w0.alloc (.cells #[.slice none 0 0,.int .i64 0,.int .i64 0] 40)).drew w0.heap.size #[.slice none 0 0,.int .i64 0,.int .i64 0]):=zh ((aP _ _ rfl).keep (Keep.refl au _).drew);have fH:=zh (fH.out.keep k5);have K5:=zh (W4.out.both k5);have HS6:Hid (w.heap.size≤w0.heap.size):=zh W4.out.size;have h46:b4≠w0.heap.size:=Nat.ne_of_lt hb40;generalize (w0.alloc (.cells #[.slice none 0 0,.int .i64 0,.int .i64 0] 40)).drew=w5 at *;generalize w0.heap.size=b6 at *;obtain⟨t0,t1,t2,u0,u1,u2,tl⟩:=B6.out.tri
 (repeat(quiet_step (fail)));refine wpQuiet_nil ?_
 refine ay rfl rfl fun K hK=> ?_;go_simp;refine hK _ _ ⟨fun h=>(by simp at h),?_⟩;clear hK K x0 x1 y0 y1 y2;have JO:=zh (B6.out.set3 (.slice os oN.length cs) (.int .i64 Gq) (.int .i64 QZ));have fH:=zh (fH.out.other3 h46 (.slice os oN.length cs) (.int .i64 Gq) (.int .i64 QZ));have K6:=zh (QY K5.out HS6.out (.slice os oN.length cs) (.int .i64 Gq) (.int .i64 QZ));clear t0 t1 t2 u0 u1 u2 tl B6;generalize ((w5.setCell ⟨b6,0,none⟩ (.slice os oN.length cs)).setCell ⟨b6,1,none⟩ (.int .i64 Gq)).setCell ⟨b6,2,none⟩ (.int .i64 QZ)=w6 at*
 (repeat(quiet_step (fail)));refine wpQuiet_nil ?_
 refine NoPanic.normal ?_;obtain⟨t0,t1,t2,u0,u1,u2,tl⟩:=JO.out.tri;go_wp2_with fail;refine(CI _).out.mono ?_;rintro e w7 ⟨rfl,hk⟩;have JO:=zh (JO.out.keep hk);have fH:=zh (fH.out.keep hk);have K7:=zh (K6.out.both hk);clear t0 t1 t2 u0 u1 u2 tl hk CI;have ka:Keep au w7 (w7.alloc (.cells #[.bool pb,.string pS,.bool pc,.string pU,.bool false,.string ⟨#[]⟩,.bool false,.string ⟨#[]⟩] 101)):=(Keep.refl _ _).alloc _;have mO:Hid (aL (w7.alloc (.cells #[.bool pb,.string pS,.bool pc,.string pU,.bool false,.string ⟨#[]⟩,.bool false,.string ⟨#[]⟩] 101)) w7.heap.size #[.bool pb,.string pS,.bool pc,.string pU,.bool false,.string ⟨#[]⟩,.bool false,.string ⟨#[]⟩]):=zh (aP _ _ rfl);have JO:=zh (JO.out.keep ka);have h47:b4<w7.heap.size:=fH.out.lt;have fH:=zh (fH.out.keep ka);have Nv:Hid (w.heap.size≤w7.heap.size):=zh K7.out.size;have K8:=zh (K7.out.both ka);go_upto_region 5 with fail;clear ka;generalize w7.alloc (.cells #[.bool pb,.string pS,.bool pc,.string pU,.bool false,.string ⟨#[]⟩,.bool false,.string ⟨#[]⟩] 101)=w8 at *;generalize w7.heap.size=b7 at *;have n47:¬b4=b7:=om;have h47':b4≠b7:=n47;obtain⟨t0,t1,t2,u0,u1,u2,tl⟩:=JO.out.tri;by_cases h2:Gq=2
 case neg=>
  have e2':(Gq==2)=false:=by rw [beq_eq_false_iff_ne];exact h2
  obtain⟨s0,s1,s2,s3,s4,s5,s6,s7,sl⟩:=mO.out.eight;obtain⟨f0,f1,f2,f3,f4,f5,f6,f7⟩:=fH.out.eightF;obtain⟨v0,v1,v2,v3,v4,v5,v6,v7,vl⟩:=fH.out.eight;have zcL:Hid (sm=0):=zh (by have:=uE.out;rw [if_neg h2]at this;exact this.symm);clear h2 uE;have gQ:=zh (fH.out.set8 (.bool pb) (.string pS) (.bool pc) (.string pU) (.bool false) (.string ⟨#[]⟩) (.bool false) (.string ⟨#[]⟩));have K9:=zh (iw K8.out Cx.out (.bool pb) (.string pS) (.bool pc) (.string pU) (.bool false) (.string ⟨#[]⟩) (.bool false) (.string ⟨#[]⟩));go_upto_region 7 with fail;go_simp
  repeat go_step
  obtain⟨q0,q1,q2,q3,q4,q5,q6,q7,ql⟩:=gQ.out.eight;refine bodyPost_ret (by simp [results,Tryz.results46,go_sem,q0,q1,q2,q3,q4,q5,q6,q7,ql];rfl) rfl ?_;exact⟨⟨⟨pb,pS,pc,pU⟩,nv0⟩,rfl,⟨HP.out.1,by rw [zcL.out];exact sH⟩,K9.out⟩
 subst h2;have zcM:Hid (sm=((-1:Int):Rat)):=zh (by have:=uE.out;rw [if_pos rfl]at this;exact this.symm);clear uE;go_wp2_with fail;refine(CM _).out.mono ?_;rintro e w9 ⟨rfl,hk⟩;have mO:=zh (mO.out.keep hk);have fH:=zh (fH.out.keep hk);have K9:=zh (K8.out.both hk);clear hk CM;obtain⟨s0,s1,s2,s3,s4,s5,s6,s7,sl⟩:=mO.out.eight;obtain⟨g0,g1,g2,g3,g4,g5,g6,g7⟩:=mO.out.eightF;go_upto_region 7 with fail;have mO:=zh (mO.out.set4hi (.bool qb) (.string qS) (.bool qc) (.string qU));have fH:=zh (fH.out.otherN (o:=4) h47' (.bool qb) (.string qS) (.bool qc) (.string qU));have K10:=zh (Q0 (o:=4) K9.out Nv.out (.bool qb) (.string qS) (.bool qc) (.string qU));clear s0 s1 s2 s3 s4 s5 s6 s7 sl g0 g1 g2 g3 g4 g5 g6 g7;generalize (((w9.setCell ⟨b7,4,none⟩ (.bool qb)).setCell ⟨b7,5,none⟩ (.string qS)).setCell ⟨b7,6,none⟩ (.bool qc)).setCell ⟨b7,7,none⟩ (.string qU)=w10 at *;obtain⟨s0,s1,s2,s3,s4,s5,s6,s7,sl⟩:=mO.out.eight;obtain⟨f0,f1,f2,f3,f4,f5,f6,f7⟩:=fH.out.eightF;obtain⟨v0,v1,v2,v3,v4,v5,v6,v7,vl⟩:=fH.out.eight;have gQ:=zh (fH.out.set8 (.bool pb) (.string pS) (.bool pc) (.string pU) (.bool qb) (.string qS) (.bool qc) (.string qU));have K11:=zh (iw K10.out Cx.out (.bool pb) (.string pS) (.bool pc) (.string pU) (.bool qb) (.string qS) (.bool qc) (.string qU));go_simp
 repeat go_step
 obtain⟨q0,q1,q2,q3,q4,q5,q6,q7,ql⟩:=gQ.out.eight;refine bodyPost_ret (by simp [results,Tryz.results46,go_sem,q0,q1,q2,q3,q4,q5,q6,q7,ql];rfl) rfl ?_;exact⟨⟨⟨pb,pS,pc,pU⟩,⟨qb,qS,qc,qU⟩⟩,rfl,⟨HP.out.1,by rw [zcM.out];exact HP.out.2⟩,K11.out⟩
theorem Ah (w:World)(bT n:Nat)(vr vb vm vc vv vg:Value)(rows:List Rw)(v:Nat)(h:wS w bT n vr vb vm vc vv vg)(hr:dD w vr rows)(hn:n≤12)(h40:rows.length≤64)(hv:v<n+rows.length):
  Calls Tryz.prog 47 #[.pointer (some ⟨bT,0,none⟩),.int .i64 (v:Int)] w fun e w'=>∃z:PV,e= .returned (.tuple #[z.v,.bool (hasLo n rows v)])∧z.is (uD n rows v)∧Keep au w w':=by
 unfold hasLo uD;have HT:=zh h;have HR:=zh hr;have hvI:(v:Int)<1000:=om;obtain⟨oa,ca,rfl,_,_⟩:=hr.len;unfold wS at HT h;obtain⟨c0,c1,_,_,_,_,_,cl⟩:=h.seven;clear h hr;have W4:Hid (Keep au w (w.alloc (.cells #[.bool false,.string ⟨#[]⟩,.bool false,.string ⟨#[]⟩,.bool false,.string ⟨#[]⟩,.bool false,.string ⟨#[]⟩] 101))):=zh ((Keep.refl _ _).alloc _);have fH:Hid (aL (w.alloc (.cells #[.bool false,.string ⟨#[]⟩,.bool false,.string ⟨#[]⟩,.bool false,.string ⟨#[]⟩,.bool false,.string ⟨#[]⟩] 101)) w.heap.size #[.bool false,.string ⟨#[]⟩,.bool false,.string ⟨#[]⟩,.bool false,.string ⟨#[]⟩,.bool false,.string ⟨#[]⟩]):=zh (aP _ _ rfl);by_cases UE:v<n
 case pos=>
  have hlt:(v:Int)<(n:Int):=om;rw [if_pos (.inl UE),decide_eq_false om];clear UE;go_enter Tryz.func47,Tryz.ntmps47;go_upto_region 1 with fail;have d0:=(W4.out.cell om).trans c0;have hcl0:bT<(w.alloc (.cells #[.bool false,.string ⟨#[]⟩,.bool false,.string ⟨#[]⟩,.bool false,.string ⟨#[]⟩,.bool false,.string ⟨#[]⟩] 101)).heap.size:=dJ om W4.out.size;generalize w.alloc (.cells #[.bool false,.string ⟨#[]⟩,.bool false,.string ⟨#[]⟩,.bool false,.string ⟨#[]⟩,.bool false,.string ⟨#[]⟩] 101)=w0 at *;generalize hb4:w.heap.size=b4 at *;refine aD (fun w'=>Keep au w0 w') [] [] [0,1,2,3,4,5,6,7,8,9,10,11,12,13,14,15,16,17,18,19,20,21] kr kr kp ?_;intro X W hne hF hcl;have x0:=fun x=>((hF x).cell hcl0).trans d0;clear hF hcl;simp only [aO,aJ,zl0,zl1,zl2,aR,Bool.false_eq_true,if_false]
  (repeat(go_big_quiet_step (fail)));refine wpQuiet_nil ?_
  refine NoPanic.normal ?_;have fH:=zh (fH.out.keep (Keep.refl au w0).drew);have W4:=zh (W4.out.drew);clear x0 d0 hcl0 c0 c1 cl;generalize w0.drew=w0 at *;obtain⟨s0,s1,s2,s3,s4,s5,s6,s7,sl⟩:=fH.out.eight;obtain⟨f0,f1,f2,f3,f4,f5,f6,f7⟩:=fH.out.eightF;go_upto_region 2 with fail;go_simp
  repeat go_step
  refine bodyPost_ret (by simp [results,Tryz.results47,go_sem,s0,s1,s2,s3,s4,s5,s6,s7,sl];rfl) rfl ?_;exact⟨pv0,rfl,Ny,iw W4.out om _ _ _ _ _ _ _ _⟩
 have hlt:¬(v:Int)<(n:Int):=om;obtain⟨i,hvi⟩:∃i,v-n=i:=⟨_,rfl⟩;have hi:i<rows.length:=om;have hiI:(i:Int)<(rows.length:Int):=om;have hge:n≤v:=om;rw [hvi,mV hi];obtain⟨b,o,rfl,hb,hrow⟩:=HR.out.at hi;obtain⟨os,cs,r0,r1,r2,hrw⟩:=hrow.row;obtain⟨_,_,_,hk64,ht64,_⟩:=hrw;have e1:(v:Int)-(n:Int)=(i:Int):=om;have e2:¬(i:Int)<0:=om;have e3:IntKind.i64.wrap (i:Int)=(i:Int):=Go.IntWalk.i64_in _ om;generalize rows[i]=r at *;obtain⟨oN,Gq,QZ⟩:=r;simp only at r0 r1 r2 hk64 ht64 ⊢;unfold fT at hk64 ht64;obtain⟨hl,sI⟩:∃hl:Bool,decide (n≤v∧Gq=3)=hl:=⟨_,rfl⟩;obtain⟨lp,hlp⟩:∃lp:Pr,(if v<n∨Gq≠3 then pr0 else⟨(QZ:Rat),0⟩)=lp:=⟨_,rfl⟩;rw [sI,hlp];have HHL:=zh (And.intro sI hlp);clear sI hlp;have CI:=fun w=>zh (jI w QZ ht64.1 ht64.2);obtain⟨⟨pb,pS,pc,pU⟩,hp,hpn⟩:=qQ QZ;rw [hp]at CI;unfold NV.v at CI;simp only at CI;have HP:=zh hpn;clear hvi hv hk64 ht64 hp hpn hrow;have W4':=W4;go_enter Tryz.func47,Tryz.ntmps47;go_upto_region 1 with fail;have hcl0:bT<(w.alloc (.cells #[.bool false,.string ⟨#[]⟩,.bool false,.string ⟨#[]⟩,.bool false,.string ⟨#[]⟩,.bool false,.string ⟨#[]⟩] 101)).heap.size:=dJ om W4.out.size;have hbl0:b<(w.alloc (.cells #[.bool false,.string ⟨#[]⟩,.bool false,.string ⟨#[]⟩,.bool false,.string ⟨#[]⟩,.bool false,.string ⟨#[]⟩] 101)).heap.size:=dJ om W4.out.size;have d0:=(W4.out.cell om).trans c0;have d1:=(W4.out.cell om).trans c1;have g1:=(W4.out.cell om).trans r1;have g2:=(W4.out.cell om).trans r2;generalize w.alloc (.cells #[.bool false,.string ⟨#[]⟩,.bool false,.string ⟨#[]⟩,.bool false,.string ⟨#[]⟩,.bool false,.string ⟨#[]⟩] 101)=w0 at *;generalize hb4:w.heap.size=b4 at *;have Cx:Hid (w.heap.size≤b4):=zh om;clear hb4 W4' c0 c1 cl r0 r1 r2 hb;refine aD (fun w'=>Keep au w0 w') [] [] [0,1,2,3,4,5,6,7,8,9,10,11,12,13,14,15,16,17,18,19,20,21] kr kr kp ?_;intro X W hne hF hcl;have x0:=fun x=>((hF x).cell hcl0).trans d0;have x1:=fun x=>((hF x).cell hcl0).trans d1;have y1:=fun x=>((hF x).cell hbl0).trans g1;clear hF hcl;by_cases h3:Gq=3
 case neg=>
  have e4:(Gq != 3)=true:=by rw [bne_iff_ne];exact h3
  have HH:Hid (hl=false∧lp=pr0):=zh (by
   obtain⟨h1,h2⟩:=HHL.out;rw [decide_eq_false (fun h=>h3 h.2)]at h1;rw [if_pos (.inr h3)]at h2;exact⟨h1.symm,h2.symm⟩)
  clear h3 HHL;simp only [aO,aJ,zl0,zl1,zl2,aR,Bool.false_eq_true,if_false]
  (repeat(go_big_quiet_step (fail)));refine wpQuiet_nil ?_
  refine NoPanic.normal ?_;have fH:=zh (fH.out.keep (Keep.refl au w0).drew);have W4:=zh (W4.out.drew);clear x0 x1 y1 d0 d1 g1 g2 hcl0 hbl0;generalize w0.drew=w0 at *;obtain⟨s0,s1,s2,s3,s4,s5,s6,s7,sl⟩:=fH.out.eight;obtain⟨f0,f1,f2,f3,f4,f5,f6,f7⟩:=fH.out.eightF;go_upto_region 2 with fail;go_simp
  repeat go_step
  refine bodyPost_ret (by simp [results,Tryz.results47,go_sem,s0,s1,s2,s3,s4,s5,s6,s7,sl];rfl) rfl ?_;exact⟨pv0,by rw [HH.out.1];rfl,by rw [HH.out.2];exact Ny,iw W4.out Cx.out _ _ _ _ _ _ _ _⟩
 subst h3;have HH:Hid (hl=true∧lp=⟨(QZ:Rat),0⟩):=zh (by
  obtain⟨h1,h2⟩:=HHL.out;rw [decide_eq_true ⟨hge,rfl⟩]at h1;rw [if_neg om]at h2;exact⟨h1.symm,h2.symm⟩)
 clear HHL;simp only [aO,aJ,zl0,zl1,zl2,aR,Bool.false_eq_true,if_false]
 (repeat(go_big_quiet_step (fail)));refine wpQuiet_nil ?_
 refine NoPanic.normal ?_;have fH:=zh (fH.out.keep (Keep.refl au w0).drew);have W4:=zh (W4.out.drew);have d0:=((Keep.refl au w0).drew.cell hcl0).trans d0;have d1:=((Keep.refl au w0).drew.cell hcl0).trans d1;have g2:=((Keep.refl au w0).drew.cell hbl0).trans g2;have hcl0:=dJ hcl0 (Keep.refl au w0).drew.size;have hbl0:=dJ hbl0 (Keep.refl au w0).drew.size;clear x0 x1 y1 g1;generalize w0.drew=w0 at *;go_upto_region 3 with fail;refine aD (fun w'=>Keep au w0 w') [15,16] [([0,1,2,3,4,5,6,7,8,9,10,11,12],13),([14],15)] [16] kr kr kp ?_;intro X W hne hF hcl;have aQ:=zh hcl;have x0:=fun x=>((hF x).cell hcl0).trans d0;have x1:=fun x=>((hF x).cell hcl0).trans d1;have y2:=fun x=>((hF x).cell hbl0).trans g2;clear hF hcl d0 d1 g2;simp only [aO,aJ,zl0,zl1,zl2,aR,Bool.false_eq_true,if_false]
 (repeat(go_big_quiet_step (fail)));refine wpQuiet_nil ?_
 refine ay rfl rfl fun K hK=> ?_;go_simp;refine(CI _).out.mono ?_;rintro e w1 ⟨rfl,hk⟩;have k1:Keep au w0 w1:=Keep.trans kp hk fun _ _ _ h=>h;refine hK _ _ ⟨fun _=>aQ.out _ k1,?_⟩;clear hK K hk CI;have fH:=zh (fH.out.keep k1);have K1:=zh (W4.out.both k1);clear k1;obtain⟨v0,v1,v2,v3,v4,v5,v6,v7,vl⟩:=fH.out.eight;obtain⟨f0,f1,f2,f3,f4,f5,f6,f7⟩:=fH.out.eightF
 (repeat(go_big_quiet_step (fail)));refine wpQuiet_nil ?_
 refine ay rfl rfl fun K hK=> ?_;go_simp;refine hK _ _ ⟨fun h=>(by simp at h),?_⟩;clear hK K x0 x1 y2;have gQ:=zh (fH.out.set8 (.bool pb) (.string pS) (.bool pc) (.string pU) (.bool false) (.string ⟨#[]⟩) (.bool false) (.string ⟨#[]⟩));have K2:=zh (iw K1.out Cx.out (.bool pb) (.string pS) (.bool pc) (.string pU) (.bool false) (.string ⟨#[]⟩) (.bool false) (.string ⟨#[]⟩));clear v0 v1 v2 v3 v4 v5 v6 v7 vl f0 f1 f2 f3 f4 f5 f6 f7;generalize (((((((w1.setCell ⟨b4,0,none⟩ (.bool pb)).setCell ⟨b4,1,none⟩ (.string pS)).setCell ⟨b4,2,none⟩ (.bool pc)).setCell ⟨b4,3,none⟩ (.string pU)).setCell ⟨b4,4,none⟩ (.bool false)).setCell ⟨b4,5,none⟩ (.string ⟨#[]⟩)).setCell ⟨b4,6,none⟩ (.bool false)).setCell ⟨b4,7,none⟩ (.string ⟨#[]⟩)=w2 at*
 (repeat(go_big_quiet_step (fail)));refine wpQuiet_nil ?_
 refine NoPanic.normal ?_;obtain⟨q0,q1,q2,q3,q4,q5,q6,q7,ql⟩:=gQ.out.eight;go_simp
 repeat go_step
 refine bodyPost_ret (by simp [results,Tryz.results47,go_sem,q0,q1,q2,q3,q4,q5,q6,q7,ql];rfl) rfl ?_;exact⟨⟨⟨pb,pS,pc,pU⟩,nv0⟩,by rw [HH.out.1];rfl,by rw [HH.out.2];exact⟨HP.out,sH⟩,K2.out⟩
open Go.ChangeShapes Go.WideShapes Go.RowKit Go.Maps
structure TS where
 n:Nat
 rows:List Rw
 basic:List Nat
 cells:List (List Rat)
 vals:List Pr
def TS.m (S:TS):Nat:=S.rows.length
def TS.K (S:TS):Nat:=S.n+S.rows.length
structure TS.wf (S:TS):Prop where
 n12:S.n≤12
 r40:S.rows.length≤64
 rok:∀r∈S.rows,eD r S.n
 bl:S.basic.length=S.rows.length
 cl:S.cells.length=S.rows.length
 cr:∀l∈S.cells,l.length=S.n+S.rows.length
 vl:S.vals.length=S.n+S.rows.length
 nd:S.basic.Nodup
 bb:∀b∈S.basic,b<S.n+S.rows.length
def iJ (l:List Pr):List Rat:=l.flatMap fun p=> [p.n,p.s]
theorem Gs (l:List Pr):(iJ l).length=2*l.length:=by
 induction l with
 | nil=>rfl
 | cons p r ih=>
  have:iJ (p::r)=p.n::p.s::iJ r:=rfl;rw [this];simp only [List.length_cons,ih];omega
theorem Gt:∀ {l:List Pr} {v:Nat} (h:v<l.length),(iJ l)[2*v]? =some l[v].n∧(iJ l)[2*v+1]? =some l[v].s
 | [],v,h=>by simp at h
 | p::r,0,h=>⟨rfl,rfl⟩
 | p::r,v+1,h=>by
  have ih:=Gt (l:=r) (v:=v) (by simpa using h);have e:iJ (p::r)=p.n::p.s::iJ r:=rfl;rw [e,show 2*(v+1)=2*v+1+1 from om,show 2*v+1+1+1=(2*v+1)+1+1 from om];simpa using ih
theorem Gu:∀(l:List Pr) (v:Nat) (p:Pr),iJ (l.set v p)=((iJ l).set (2*v) p.n).set (2*v+1) p.s
 | [],v,p=>by simp [iJ]
 | q::r,0,p=>rfl
 | q::r,v+1,p=>by
  have ih:=Gu r v p;have e:∀x y,iJ (x::y)=x.n::x.s::iJ y:=fun _ _=>rfl;rw [List.set_cons_succ,e,e,ih,show 2*(v+1)=2*v+1+1 from om,show 2*v+1+1+1=(2*v+1)+1+1 from om];simp
theorem qP {w:World}{g:Nat}{l:List Pr}(h:bE w g (iJ l)){v:Nat}(hv:v<l.length):
  ∃p:PV,p.is l[v]∧w.cell? ⟨g,v*8,none⟩=some (.bool p.x.nb)∧w.cell? ⟨g,v*8+1,none⟩=some (.string p.x.nS)∧w.cell? ⟨g,v*8+2,none⟩=some (.bool p.x.db)∧w.cell? ⟨g,v*8+3,none⟩=some (.string p.x.dS)∧
   w.cell? ⟨g,v*8+4,none⟩=some (.bool p.y.nb)∧w.cell? ⟨g,v*8+5,none⟩=some (.string p.y.nS)∧w.cell? ⟨g,v*8+6,none⟩=some (.bool p.y.db)∧w.cell? ⟨g,v*8+7,none⟩=some (.string p.y.dS):=by
 have h0:2*v<(iJ l).length:=by rw [Gs];omega
 have h1:2*v+1<(iJ l).length:=by rw [Gs];omega
 obtain⟨g0,g1⟩:=Gt hv;obtain⟨a,b,c,d,c0,c1,c2,c3,hn,_⟩:=h.at h0;obtain⟨a',b',c',d',d0,d1,d2,d3,hs,_⟩:=h.at h1;have e0:(iJ l)[2*v]=l[v].n:=by rw [fG h0]at g0;exact Option.some.inj g0
 have e1:(iJ l)[2*v+1]=l[v].s:=by rw [fG h1]at g1;exact Option.some.inj g1
 rw [e0]at hn;rw [e1]at hs;refine⟨⟨⟨a,b,c,d⟩,⟨a',b',c',d'⟩⟩,⟨hn,hs⟩,?_⟩;rw [show 2*v*4=v*8 from om]at c0 c1 c2 c3;rw [show(2*v+1)*4=v*8+4 from om]at d0 d1 d2 d3;exact⟨c0,c1,c2,c3,d0,by rw [show v*8+5=v*8+4+1 from om];exact d1,by rw [show v*8+6=v*8+4+2 from om];exact d2,by rw [show v*8+7=v*8+4+3 from om];exact d3⟩
def Ar (w:World)(g:Nat)(l:List Nat):Prop:=∃A,aL w g A∧∀i (h:i<l.length),A[i]? =some (.int .i64 (l[i]:Int))
theorem Ar.lt {w:World}{g:Nat}{l:List Nat}(h:Ar w g l):g<w.heap.size:=by obtain⟨A,h,_⟩:=h;exact h.lt
theorem Ar.keep {w w':World}{g:Nat}{l:List Nat}(h:Ar w g l)(k:Keep au w w'):Ar w' g l:=by
 obtain⟨A,h,h'⟩:=h;exact⟨A,h.keep k,h'⟩
theorem Ar.at {w:World}{g:Nat}{l:List Nat}(h:Ar w g l){i:Nat}(hi:i<l.length):w.cell? ⟨g,i,none⟩=some (.int .i64 (l[i]:Int))∧w.frozen? ⟨g,i,none⟩=false:=by
 obtain⟨A,h,h'⟩:=h;exact⟨by rw [h.cell];exact h' i hi,h.free _⟩
def Au (w:World)(g:Nat)(l:List (List Rat))(gs cs:Nat→Nat):Prop:=∃A,aL w g A∧∀i (h:i<l.length),A[i]? =some (.slice (some ⟨gs i,0,none⟩) l[i].length (cs i))
theorem Au.lt {w:World}{g:Nat}{l:List (List Rat)}{gs cs:Nat→Nat}(h:Au w g l gs cs):g<w.heap.size:=by obtain⟨A,h,_⟩:=h;exact h.lt
theorem Au.keep {w w':World}{g:Nat}{l:List (List Rat)}{gs cs:Nat→Nat}(h:Au w g l gs cs)(k:Keep au w w'):Au w' g l gs cs:=by
 obtain⟨A,h,h'⟩:=h;exact⟨A,h.keep k,h'⟩
theorem Au.at {w:World}{g:Nat}{l:List (List Rat)}{gs cs:Nat→Nat}(h:Au w g l gs cs){i:Nat}(hi:i<l.length):w.cell? ⟨g,i,none⟩=some (.slice (some ⟨gs i,0,none⟩) l[i].length (cs i))∧w.frozen? ⟨g,i,none⟩=false:=by
 obtain⟨A,h,h'⟩:=h;exact⟨by rw [h.cell];exact h' i hi,h.free _⟩
def Am (w:World)(g:Nat)(n:Nat)(basic:List Nat):Prop:=∃D:DataW Unit,w.ownsMap Tryz.prog 3 (plainElem Tryz.prog 3) g n D∧∀i (h:i<basic.length),D.atKey (.int .i64 (basic[i]:Int)) (.lit (.int .i64 0))= .lit (.int .i64 (i:Int))
theorem Am.lt {w:World}{g n:Nat}{l:List Nat}(h:Am w g n l):g<w.heap.size:=by obtain⟨D,h,_⟩:=h;exact h.lt
theorem Am.keep {w w':World}{g n:Nat}{l:List Nat}(h:Am w g n l)(k:Keep au w w'):Am w' g n l:=by
 have hlt:=h.lt;obtain⟨D,⟨es,clock,hb,F,hs,hD⟩,h'⟩:=h;exact⟨D,⟨es,clock,(k.block g hlt fun _ h=>h).trans hb,F,hs,hD⟩,h'⟩
structure Lay where
 gb:Nat
 gc:Nat
 gv:Nat
 gm:Nat
 gs:Nat→Nat
 ob:Option Addr
 oc:Option Addr
 cb:Nat
 cc:Nat
 cv:Nat
 cs:Nat→Nat
 vr:Value
structure Lay.apart (L:Lay)(bT m:Nat):Prop where
 tb:bT≠L.gb
 tc:bT≠L.gc
 tv:bT≠L.gv
 tm:bT≠L.gm
 bc:L.gb≠L.gc
 bv:L.gb≠L.gv
 bm:L.gb≠L.gm
 cv:L.gc≠L.gv
 cm:L.gc≠L.gm
 vm:L.gv≠L.gm
 st:∀i,i<m→L.gs i≠bT
 sb:∀i,i<m→L.gs i≠L.gb
 sc:∀i,i<m→L.gs i≠L.gc
 sv:∀i,i<m→L.gs i≠L.gv
 sm:∀i,i<m→L.gs i≠L.gm
 ss:∀i j,i<m→j<m→i≠j→L.gs i≠L.gs j
structure LT (w0 w:World)(bT nm:Nat)(S:TS)(L:Lay):Prop where
 k:Keep au w0 w
 t:wS w bT S.n L.vr (.slice L.ob S.basic.length L.cb) (.map (some L.gm)) (.slice L.oc S.cells.length L.cc) (.slice (some ⟨L.gv,0,none⟩) S.vals.length L.cv) (.slice none 0 0)
 rows:dD w0 L.vr S.rows
 b:S.basic≠ []→L.ob=some ⟨L.gb,0,none⟩∧Ar w L.gb S.basic
 c:S.cells≠ []→L.oc=some ⟨L.gc,0,none⟩∧Au w L.gc S.cells L.gs L.cs
 r:∀i (h:i<S.cells.length),bE w (L.gs i) S.cells[i]∧S.cells[i].length≤L.cs i∧L.cs i≤maxLen
 v:bE w L.gv (iJ S.vals)
 cb:S.basic.length≤L.cb∧L.cb≤maxLen
 cc:S.cells.length≤L.cc∧L.cc≤maxLen
 cv:S.vals.length≤L.cv∧L.cv≤maxLen
 mp:Am w L.gm nm S.basic
 own:w0.heap.size≤bT∧w0.heap.size≤L.gb∧w0.heap.size≤L.gc∧w0.heap.size≤L.gv∧w0.heap.size≤L.gm∧∀i,i<S.cells.length→w0.heap.size≤L.gs i
 ap:L.apart bT S.cells.length
theorem wS.keep {w w':World}{bT n:Nat}{vr vb vm vc vv vg:Value}(h:wS w bT n vr vb vm vc vv vg)(k:Keep au w w'):wS w' bT n vr vb vm vc vv vg:=aL.keep h k
theorem LT.keep {w0 w w':World}{bT nm:Nat}{S:TS}{L:Lay}(h:LT w0 w bT nm S L)(k:Keep au w w'):LT w0 w' bT nm S L:=
 ⟨h.k.both k,h.t.keep k,h.rows,fun hb=>⟨(h.b hb).1,(h.b hb).2.keep k⟩,fun hc=>⟨(h.c hc).1,(h.c hc).2.keep k⟩,fun i hi=>⟨(h.r i hi).1.keep k,(h.r i hi).2⟩,h.v.keep k,h.cb,h.cc,h.cv,h.mp.keep k,h.own,h.ap⟩
def DX (w0 w:World)(bT nm:Nat)(S:TS):Prop:=∃L,LT w0 w bT nm S L
theorem DX.keep {w0 w w':World}{bT nm:Nat}{S:TS}(h:DX w0 w bT nm S)(k:Keep au w w'):DX w0 w' bT nm S:=by
 obtain⟨L,h⟩:=h;exact⟨L,h.keep k⟩
def TS.val (S:TS)(v:Nat):Pr:=S.vals.getD v pr0
def TS.cell (S:TS)(i v:Nat):Rat:=(S.cells.getD i []).getD v 0
def TS.canB (S:TS)(v:Nat)(way:Int):Bool:=if 0<way then !jw S.n v || decide ((S.val v).cmp (jH S.n S.rows v)<0)else !hasLo S.n S.rows v || decide (0<(S.val v).cmp (uD S.n S.rows v))
structure TS.nb (S:TS)(k:Nat):Prop where
 v:∀p∈S.vals,p.ok k
 c:∀l∈S.cells,∀q∈l,NB k q
theorem UF {S:TS}(h:S.wf)(v:Nat):bZ (S.rows.getD (v-S.n) bG).to:=by
 by_cases hv:v-S.n<S.rows.length
 ·rw [mV hv];obtain⟨_,_,_,_,_,h6⟩:=h.rok _ (List.getElem_mem hv)
  first | exact h6 | exact h6.1 | exact h6.2
 rw [JZ om];exact yK
theorem kg {S:TS}{v:Nat}(h:v<S.vals.length):S.val v=S.vals[v]:=by
 unfold TS.val;rw [dX,fG h];rfl
theorem Gl {S:TS}(h:S.wf)(v:Nat):(jH S.n S.rows v).ok 1:=by
 unfold jH;split
 ·exact ⟨jJ,jJ⟩
 refine⟨wC (UF h v),?_⟩;simp only;split
 ·exact jv (x:= -1) dc
 exact jJ
theorem ZM {S:TS}(h:S.wf)(v:Nat):(uD S.n S.rows v).ok 1:=by
 unfold uD;split
 ·exact ⟨jJ,jJ⟩
 exact⟨wC (UF h v),jJ⟩
theorem Pr.ok.mono {j k:Nat}{a:Pr}(h:a.ok j)(hk:j≤k):a.ok k:=⟨h.1.mono hk,h.2.mono hk⟩
theorem X3 (w0 w:World)(bT nm:Nat)(S:TS)(h:DX w0 w bT nm S)(hw:S.wf)(hn:S.nb 900)(v:Nat)(hv:v<S.n+S.rows.length)(way:Int)(Ur:fT way):
  Calls Tryz.prog 44 #[.pointer (some ⟨bT,0,none⟩),.int .i64 (v:Int),.int .i64 way] w fun e w'=>e= .returned (.bool (S.canB v way))∧Keep au w w':=by
 obtain⟨L,h⟩:=h;have hvl:v<S.vals.length:=by rw [hw.vl];exact hv
 obtain⟨px,hpx,c0,c1,c2,c3,c4,c5,c6,c7⟩:=qP h.v hvl;obtain⟨_,_,_,_,_,t5,_,eT⟩:=h.t.seven;have bP:=h.v.lt;have CU:=fun w' (k:Keep au w w')=>zh (wu w' bT S.n _ _ _ _ _ _ S.rows v (h.t.keep k) (h.rows.keep (h.k.both k)) hw.n12 hw.r40 hv);have CL:=fun w' (k:Keep au w w')=>zh (Ah w' bT S.n _ _ _ _ _ _ S.rows v (h.t.keep k) (h.rows.keep (h.k.both k)) hw.n12 hw.r40 hv);have HCB:Hid (S.canB v way=if 0<way then !jw S.n v || decide ((S.vals[v]).cmp (jH S.n S.rows v)<0)else !hasLo S.n S.rows v || decide (0<(S.vals[v]).cmp (uD S.n S.rows v))):=zh (by unfold TS.canB;rw [kg hvl]);have XH:=Gl hw v;have Yc:=ZM hw v;have Aa:Hid ((S.vals[v]).ok 900):=zh (hn.v _ (List.getElem_mem hvl));have J2:=zh hpx;have xs:=h.cv.1;have xs':=h.cv.2;unfold maxLen at xs';have hvI:(v:Int)<(S.vals.length:Int):=om;obtain⟨⟨xb,xS,xc,xU⟩,⟨yb,yS,yc,yU⟩⟩:=px;simp only at c0 c1 c2 c3 c4 c5 c6 c7;generalize S.canB v way=cb at *;clear h hn hpx;by_cases hp:0<way
 case pos=>
  rw [if_pos hp]at HCB;clear CL Yc;go_enter Tryz.func44,Tryz.ntmps44;go_wp2_with fail;refine(CU _ kp).out.mono ?_;rintro e w1 ⟨⟨⟨pb,pS,pc,pU⟩,⟨qb,qS,qc,qU⟩⟩,rfl,hz,hk⟩;have K1:Hid (Keep au w w1):=zh (Keep.trans kp hk fun _ _ _ h=>h);have HZ:=zh hz;clear hk hz CU;have HB:Hid (aL (w1.alloc (.cells #[.bool pb,.string pS,.bool pc,.string pU,.bool qb,.string qS,.bool qc,.string qU] 101)) w1.heap.size #[.bool pb,.string pS,.bool pc,.string pU,.bool qb,.string qS,.bool qc,.string qU]):=zh (aP _ _ rfl);have K2:Hid (Keep au w (w1.alloc (.cells #[.bool pb,.string pS,.bool pc,.string pU,.bool qb,.string qS,.bool qc,.string qU] 101))):=zh (K1.out.alloc _);unfold PV.v;go_upto_region 3 with fail;generalize w1.alloc (.cells #[.bool pb,.string pS,.bool pc,.string pU,.bool qb,.string qS,.bool qc,.string qU] 101)=w2 at *;generalize w1.heap.size=b7 at *;refine aD (fun w'=>Keep au w2 w') [] [([0,1,2,3,4,5,6,7,8,9,10],11)] [12,13,14] kr kr kp ?_;intro X W hne hF hcl;have aQ:=zh hcl;have hlt2:=dJ eT K2.out.size;have hlv2:=dJ bP K2.out.size;have x0:=fun x=>((hF x).cell hlt2).trans ((K2.out.cell eT).trans t5);have y0:=fun x=>((hF x).cell hlv2).trans ((K2.out.cell bP).trans c0);have y1:=fun x=>((hF x).cell hlv2).trans ((K2.out.cell bP).trans c1);have y2:=fun x=>((hF x).cell hlv2).trans ((K2.out.cell bP).trans c2);have y3:=fun x=>((hF x).cell hlv2).trans ((K2.out.cell bP).trans c3);have y4:=fun x=>((hF x).cell hlv2).trans ((K2.out.cell bP).trans c4);have y5:=fun x=>((hF x).cell hlv2).trans ((K2.out.cell bP).trans c5);have y6:=fun x=>((hF x).cell hlv2).trans ((K2.out.cell bP).trans c6);have y7:=fun x=>((hF x).cell hlv2).trans ((K2.out.cell bP).trans c7);have z0:=fun x=>(HB.out.keep (hF x)).eight;clear hF hcl;have CC:=fun w=>zh (jW w _ _ J2.out (Aa.out.mono om) _ _ HZ.out (XH.mono om));unfold PV.v at CC;simp only at CC;generalize hcm:(S.vals[v]).cmp (jH S.n S.rows v)=cm at *;generalize Gv:jw S.n v=hu at *;clear hcm Gv;cases hu
  case false=>
   simp only [aO,aJ,zl0,zl1,zl2,aR,Bool.false_eq_true,if_false]
   (repeat(go_big_quiet_step (fail)));refine wpQuiet_nil ?_
   refine bR (by simp only [zl0,zl1,zl2];rfl) (by rfl) ?_;simp only [Act.put,List.setIfInBounds_toArray,List.set_cons_zero,List.set_cons_succ];refine⟨fun _=>aQ.out _ (Keep.refl au w2).drew,?_⟩
   (repeat(go_big_quiet_step (fail)));refine wpQuiet_nil ?_
   refine NoPanic.normal ?_;have K9:=zh (K2.out.drew);go_simp
   repeat go_step
   refine bodyPost_ret (by simp [results,Tryz.results44,go_sem];rfl) rfl ?_;exact⟨by rw [HCB.out];rfl,K9.out⟩
  simp only [aO,aJ,zl0,zl1,zl2,aR,Bool.false_eq_true,if_false]
  (repeat(go_big_quiet_step (fail)));refine wpQuiet_nil ?_
  refine qw rfl rfl fun K hK=> ?_;go_simp;refine(CC _).out.mono ?_;rintro e w3 ⟨rfl,hk3⟩;have k3:Keep au w2 w3:=Keep.trans kp hk3 fun _ _ _ h=>h;refine hK _ _ ⟨fun _=>aQ.out _ k3,?_⟩;have K2:=zh (K2.out.both k3);clear hK K hk3 CC k3 x0 y0 y1 y2 y3 y4 y5 y6 y7 z0
  (repeat(go_big_quiet_step (fail)));refine wpQuiet_nil ?_
  refine NoPanic.normal ?_;have K9:=K2;go_simp
  repeat go_step
  refine bodyPost_ret (by simp [results,Tryz.results44,go_sem];rfl) rfl ?_;exact⟨by rw [HCB.out];rfl,K9.out⟩
 rw [if_neg hp]at HCB;clear CU XH;go_enter Tryz.func44,Tryz.ntmps44;go_wp2_with fail;refine(CL _ kp).out.mono ?_;rintro e w1 ⟨⟨⟨pb,pS,pc,pU⟩,⟨qb,qS,qc,qU⟩⟩,rfl,hz,hk⟩;have K1:Hid (Keep au w w1):=zh (Keep.trans kp hk fun _ _ _ h=>h);have HZ:=zh hz;clear hk hz CL;have HB:Hid (aL (w1.alloc (.cells #[.bool pb,.string pS,.bool pc,.string pU,.bool qb,.string qS,.bool qc,.string qU] 101)) w1.heap.size #[.bool pb,.string pS,.bool pc,.string pU,.bool qb,.string qS,.bool qc,.string qU]):=zh (aP _ _ rfl);have K2:Hid (Keep au w (w1.alloc (.cells #[.bool pb,.string pS,.bool pc,.string pU,.bool qb,.string qS,.bool qc,.string qU] 101))):=zh (K1.out.alloc _);unfold PV.v;go_upto_region 5 with fail;generalize w1.alloc (.cells #[.bool pb,.string pS,.bool pc,.string pU,.bool qb,.string qS,.bool qc,.string qU] 101)=w2 at *;generalize w1.heap.size=b7 at *;refine aD (fun w'=>Keep au w2 w') [] [([0,1,2,3,4,5,6,7,8,9,10],11)] [12,13,14] kr kr kp ?_;intro X W hne hF hcl;have aQ:=zh hcl;have hlt2:=dJ eT K2.out.size;have hlv2:=dJ bP K2.out.size;have x0:=fun x=>((hF x).cell hlt2).trans ((K2.out.cell eT).trans t5);have y0:=fun x=>((hF x).cell hlv2).trans ((K2.out.cell bP).trans c0);have y1:=fun x=>((hF x).cell hlv2).trans ((K2.out.cell bP).trans c1);have y2:=fun x=>((hF x).cell hlv2).trans ((K2.out.cell bP).trans c2);have y3:=fun x=>((hF x).cell hlv2).trans ((K2.out.cell bP).trans c3);have y4:=fun x=>((hF x).cell hlv2).trans ((K2.out.cell bP).trans c4);have y5:=fun x=>((hF x).cell hlv2).trans ((K2.out.cell bP).trans c5);have y6:=fun x=>((hF x).cell hlv2).trans ((K2.out.cell bP).trans c6);have y7:=fun x=>((hF x).cell hlv2).trans ((K2.out.cell bP).trans c7);have z0:=fun x=>(HB.out.keep (hF x)).eight;clear hF hcl;have CC:=fun w=>zh (jW w _ _ J2.out (Aa.out.mono om) _ _ HZ.out (Yc.mono om));unfold PV.v at CC;simp only at CC;generalize hcm:(S.vals[v]).cmp (uD S.n S.rows v)=cm at *;generalize Gv:hasLo S.n S.rows v=hu at *;clear hcm Gv;cases hu
 case false=>
  simp only [aO,aJ,zl0,zl1,zl2,aR,Bool.false_eq_true,if_false]
  (repeat(go_big_quiet_step (fail)));refine wpQuiet_nil ?_
  refine bR (by simp only [zl0,zl1,zl2];rfl) (by rfl) ?_;simp only [Act.put,List.setIfInBounds_toArray,List.set_cons_zero,List.set_cons_succ];refine⟨fun _=>aQ.out _ (Keep.refl au w2).drew,?_⟩
  (repeat(go_big_quiet_step (fail)));refine wpQuiet_nil ?_
  refine NoPanic.normal ?_;have K9:=zh (K2.out.drew);go_simp
  repeat go_step
  refine bodyPost_ret (by simp [results,Tryz.results44,go_sem];rfl) rfl ?_;exact⟨by rw [HCB.out];rfl,K9.out⟩
 simp only [aO,aJ,zl0,zl1,zl2,aR,Bool.false_eq_true,if_false]
 (repeat(go_big_quiet_step (fail)));refine wpQuiet_nil ?_
 refine qw rfl rfl fun K hK=> ?_;go_simp;refine(CC _).out.mono ?_;rintro e w3 ⟨rfl,hk3⟩;have k3:Keep au w2 w3:=Keep.trans kp hk3 fun _ _ _ h=>h;refine hK _ _ ⟨fun _=>aQ.out _ k3,?_⟩;have K2:=zh (K2.out.both k3);clear hK K hk3 CC k3 x0 y0 y1 y2 y3 y4 y5 y6 y7 z0
 (repeat(go_big_quiet_step (fail)));refine wpQuiet_nil ?_
 refine NoPanic.normal ?_;have K9:=K2;go_simp
 repeat go_step
 refine bodyPost_ret (by simp [results,Tryz.results44,go_sem];rfl) rfl ?_;exact⟨by rw [HCB.out];rfl,K9.out⟩
end Go.Proofs.YtaiffmebphhdaaaGreat
