/- Package tableau's values: a number and a multiple of a small one. -/
import Derived.Test.YtaiffmebphhdaaaGreatFkAA
import Derived.Test.YtaiffmebphhdaaaGreatFkAA
namespace Go.Proofs.YtaiffmebphhdaaaGreat
set_option maxRecDepth 100000
set_option maxHeartbeats 8000000
set_option linter.unusedSimpArgs false
set_option linter.unusedVariables false
open Go.ChangeShapes Go.WideShapes Go.RowKit
structure PV where
 x:NV
 y:NV
def PV.v (p:PV):Value:= .agg #[.bool p.x.nb,.string p.x.nS,.bool p.x.db,.string p.x.dS,.bool p.y.nb,.string p.y.nS,.bool p.y.db,.string p.y.dS]
structure Pr where
 n:Rat
 s:Rat
def PV.is (p:PV)(a:Pr):Prop:=bM p.x.v a.n∧bM p.y.v a.s
def Pr.ok (k:Nat)(a:Pr):Prop:=NB k a.n∧NB k a.s
def Pr.add (a b:Pr):Pr:=⟨a.n+b.n,a.s+b.s⟩
def Pr.sub (a b:Pr):Pr:=⟨a.n-b.n,a.s-b.s⟩
def Pr.mul (a:Pr)(k:Rat):Pr:=⟨a.n*k,a.s*k⟩
def qM (a b:Rat):Int:=(a.num*b.den-b.num*a.den).sign
def Pr.cmp (a b:Pr):Int:=if qM a.n b.n≠0 then qM a.n b.n else qM a.s b.s
def pv0:PV:=⟨nv0,nv0⟩
def pr0:Pr:=⟨0,0⟩
theorem MO:pv0.is pr0:=⟨rW,rW⟩
theorem Ye {v:Value}{q:Rat}(h:bM v q):∃b S c U,v= .agg #[.bool b,.string S,.bool c,.string U]:=by
 obtain⟨x,rfl⟩:=Fj h;exact⟨_,_,_,_,rfl⟩
theorem aL.eight {w:World}{k:Nat}{a0 a1 a2 a3 a4 a5 a6 a7:Value}(h:aL w k #[a0,a1,a2,a3,a4,a5,a6,a7]):
  w.cell? ⟨k,0,none⟩=some a0∧w.cell? ⟨k,1,none⟩=some a1∧w.cell? ⟨k,2,none⟩=some a2∧w.cell? ⟨k,3,none⟩=some a3∧w.cell? ⟨k,4,none⟩=some a4∧w.cell? ⟨k,5,none⟩=some a5∧w.cell? ⟨k,6,none⟩=some a6∧w.cell? ⟨k,7,none⟩=some a7∧k<w.heap.size:=
 ⟨h.cell 0,h.cell 1,h.cell 2,h.cell 3,h.cell 4,h.cell 5,h.cell 6,h.cell 7,h.lt⟩
theorem aL.eightF {w:World}{k:Nat}{a0 a1 a2 a3 a4 a5 a6 a7:Value}(h:aL w k #[a0,a1,a2,a3,a4,a5,a6,a7]):
  w.frozen? ⟨k,0,none⟩=false∧w.frozen? ⟨k,1,none⟩=false∧w.frozen? ⟨k,2,none⟩=false∧w.frozen? ⟨k,3,none⟩=false∧w.frozen? ⟨k,4,none⟩=false∧w.frozen? ⟨k,5,none⟩=false∧w.frozen? ⟨k,6,none⟩=false∧w.frozen? ⟨k,7,none⟩=false:=
 ⟨h.free 0,h.free 1,h.free 2,h.free 3,h.free 4,h.free 5,h.free 6,h.free 7⟩
def World.set8 (w:World)(b o:Nat)(a0 a1 a2 a3 a4 a5 a6 a7:Value):World:=(((((((w.setCell ⟨b,o,none⟩ a0).setCell ⟨b,o+1,none⟩ a1).setCell ⟨b,o+2,none⟩ a2).setCell ⟨b,o+3,none⟩ a3).setCell ⟨b,o+4,none⟩ a4).setCell ⟨b,o+5,none⟩ a5).setCell ⟨b,o+6,none⟩ a6).setCell ⟨b,o+7,none⟩ a7
theorem iB {w0 w:World}{b:Nat}(h:Keep au w0 w)(hb:w0.heap.size≤b)(a0 a1 a2 a3 a4 a5 a6 a7:Value):Keep au w0 ((((((((w.setCell ⟨b,0,none⟩ a0).setCell ⟨b,1,none⟩ a1).setCell ⟨b,2,none⟩ a2).setCell ⟨b,3,none⟩ a3).setCell ⟨b,4,none⟩ a4).setCell ⟨b,5,none⟩ a5).setCell ⟨b,6,none⟩ a6).setCell ⟨b,7,none⟩ a7):=
 ((((((((h.setCell _ fun hh=>absurd hh (by omega)).setCell _ fun hh=>absurd hh (by omega)).setCell _ fun hh=>absurd hh (by omega)).setCell _ fun hh=>absurd hh (by omega)).setCell _ fun hh=>absurd hh (by omega)).setCell _ fun hh=>absurd hh (by omega)).setCell _ fun hh=>absurd hh (by omega)).setCell _ fun hh=>absurd hh (by omega))
theorem aL.set8 {w:World}{b:Nat}{a0 a1 a2 a3 a4 a5 a6 a7:Value}(h:aL w b #[a0,a1,a2,a3,a4,a5,a6,a7])(c0 c1 c2 c3 c4 c5 c6 c7:Value):aL ((((((((w.setCell ⟨b,0,none⟩ c0).setCell ⟨b,1,none⟩ c1).setCell ⟨b,2,none⟩ c2).setCell ⟨b,3,none⟩ c3).setCell ⟨b,4,none⟩ c4).setCell ⟨b,5,none⟩ c5).setCell ⟨b,6,none⟩ c6).setCell ⟨b,7,none⟩ c7) b #[c0,c1,c2,c3,c4,c5,c6,c7]:=by
 have h0:aL (w.setCell ⟨b,0,none⟩ c0) b #[c0,a1,a2,a3,a4,a5,a6,a7]:=by have:=h.set 0 c0;simpa using this
 have h1:aL ((w.setCell ⟨b,0,none⟩ c0).setCell ⟨b,1,none⟩ c1) b #[c0,c1,a2,a3,a4,a5,a6,a7]:=by have:=h0.set 1 c1;simpa using this
 have h2:aL (((w.setCell ⟨b,0,none⟩ c0).setCell ⟨b,1,none⟩ c1).setCell ⟨b,2,none⟩ c2) b #[c0,c1,c2,a3,a4,a5,a6,a7]:=by have:=h1.set 2 c2;simpa using this
 have h3:aL ((((w.setCell ⟨b,0,none⟩ c0).setCell ⟨b,1,none⟩ c1).setCell ⟨b,2,none⟩ c2).setCell ⟨b,3,none⟩ c3) b #[c0,c1,c2,c3,a4,a5,a6,a7]:=by have:=h2.set 3 c3;simpa using this
 have h4:aL (((((w.setCell ⟨b,0,none⟩ c0).setCell ⟨b,1,none⟩ c1).setCell ⟨b,2,none⟩ c2).setCell ⟨b,3,none⟩ c3).setCell ⟨b,4,none⟩ c4) b #[c0,c1,c2,c3,c4,a5,a6,a7]:=by have:=h3.set 4 c4;simpa using this
 have h5:aL ((((((w.setCell ⟨b,0,none⟩ c0).setCell ⟨b,1,none⟩ c1).setCell ⟨b,2,none⟩ c2).setCell ⟨b,3,none⟩ c3).setCell ⟨b,4,none⟩ c4).setCell ⟨b,5,none⟩ c5) b #[c0,c1,c2,c3,c4,c5,a6,a7]:=by have:=h4.set 5 c5;simpa using this
 have h6:aL (((((((w.setCell ⟨b,0,none⟩ c0).setCell ⟨b,1,none⟩ c1).setCell ⟨b,2,none⟩ c2).setCell ⟨b,3,none⟩ c3).setCell ⟨b,4,none⟩ c4).setCell ⟨b,5,none⟩ c5).setCell ⟨b,6,none⟩ c6) b #[c0,c1,c2,c3,c4,c5,c6,a7]:=by have:=h5.set 6 c6;simpa using this
 have h7:aL ((((((((w.setCell ⟨b,0,none⟩ c0).setCell ⟨b,1,none⟩ c1).setCell ⟨b,2,none⟩ c2).setCell ⟨b,3,none⟩ c3).setCell ⟨b,4,none⟩ c4).setCell ⟨b,5,none⟩ c5).setCell ⟨b,6,none⟩ c6).setCell ⟨b,7,none⟩ c7) b #[c0,c1,c2,c3,c4,c5,c6,c7]:=by have:=h6.set 7 c7;simpa using this
 exact h7
theorem Ho (w:World)(x:PV)(a:Pr)(hx:x.is a)(na:a.ok 1000)(y:PV)(b:Pr)(hy:y.is b)(nb:b.ok 1000):
  Calls Tryz.prog 83 #[x.v,y.v] w fun e w'=>∃z:PV,e= .returned z.v∧z.is (a.add b)∧Keep au w w':=by
 obtain⟨⟨ab,aS,ac,aU⟩,⟨cb,cS,cc,cU⟩⟩:=x;obtain⟨⟨bb,bS,bc,bU⟩,⟨db,dS,dc,dU⟩⟩:=y;have C0:=fun w=>zh (sD w _ a.n hx.1 na.1 _ b.n hy.1 nb.1)
 have C1:=fun w=>zh (sD w _ a.s hx.2 na.2 _ b.s hy.2 nb.2)
 obtain⟨⟨pb,pS,pc,pU⟩,hp,hpn⟩:=fE (a.n+b.n);obtain⟨⟨qb,qS,qc,qU⟩,hq,FQ⟩:=fE (a.s+b.s);rw [hp]at C0;rw [hq]at C1;have HR:=zh (And.intro hpn FQ);unfold NV.v at C0 C1;unfold PV.v;simp only at C0 C1 ⊢;clear hx na hy nb hp hq hpn FQ;go_enter Tryz.func83,Tryz.ntmps83;go_wp2;have B0:aL (((w.alloc (.cells #[.bool ab,.string aS,.bool ac,.string aU,.bool cb,.string cS,.bool cc,.string cU] 101)).alloc (.cells #[.bool bb,.string bS,.bool bc,.string bU,.bool db,.string dS,.bool dc,.string dU] 101)).alloc (.cells #[.bool false,.string ⟨#[]⟩,.bool false,.string ⟨#[]⟩,.bool false,.string ⟨#[]⟩,.bool false,.string ⟨#[]⟩] 101)) w.heap.size #[.bool ab,.string aS,.bool ac,.string aU,.bool cb,.string cS,.bool cc,.string cU]:=kc;have B1:aL (((w.alloc (.cells #[.bool ab,.string aS,.bool ac,.string aU,.bool cb,.string cS,.bool cc,.string cU] 101)).alloc (.cells #[.bool bb,.string bS,.bool bc,.string bU,.bool db,.string dS,.bool dc,.string dU] 101)).alloc (.cells #[.bool false,.string ⟨#[]⟩,.bool false,.string ⟨#[]⟩,.bool false,.string ⟨#[]⟩,.bool false,.string ⟨#[]⟩] 101)) (w.heap.size+1) #[.bool bb,.string bS,.bool bc,.string bU,.bool db,.string dS,.bool dc,.string dU]:=kc;have B2:aL (((w.alloc (.cells #[.bool ab,.string aS,.bool ac,.string aU,.bool cb,.string cS,.bool cc,.string cU] 101)).alloc (.cells #[.bool bb,.string bS,.bool bc,.string bU,.bool db,.string dS,.bool dc,.string dU] 101)).alloc (.cells #[.bool false,.string ⟨#[]⟩,.bool false,.string ⟨#[]⟩,.bool false,.string ⟨#[]⟩,.bool false,.string ⟨#[]⟩] 101)) (w.heap.size+1+1) #[.bool false,.string ⟨#[]⟩,.bool false,.string ⟨#[]⟩,.bool false,.string ⟨#[]⟩,.bool false,.string ⟨#[]⟩]:=kc;have K0:Hid (Keep au w (((w.alloc (.cells #[.bool ab,.string aS,.bool ac,.string aU,.bool cb,.string cS,.bool cc,.string cU] 101)).alloc (.cells #[.bool bb,.string bS,.bool bc,.string bU,.bool db,.string dS,.bool dc,.string dU] 101)).alloc (.cells #[.bool false,.string ⟨#[]⟩,.bool false,.string ⟨#[]⟩,.bool false,.string ⟨#[]⟩,.bool false,.string ⟨#[]⟩] 101))):=zh kp;generalize ((w.alloc (.cells #[.bool ab,.string aS,.bool ac,.string aU,.bool cb,.string cS,.bool cc,.string cU] 101)).alloc (.cells #[.bool bb,.string bS,.bool bc,.string bU,.bool db,.string dS,.bool dc,.string dU] 101)).alloc (.cells #[.bool false,.string ⟨#[]⟩,.bool false,.string ⟨#[]⟩,.bool false,.string ⟨#[]⟩,.bool false,.string ⟨#[]⟩] 101)=w0 at *;have HB0:=zh B0;have HB1:=zh B1;have HB2:=zh B2;clear B0 B1 B2;have FP:Hid (w.heap.size≤w.heap.size+1+1):=zh (by omega)
 generalize w.heap.size+1+1=br at *;refine aD (fun w'=>Keep au w0 w') [11] [([0,1,2,3,5,6,7,8],4),([],9),([10],11)] [] (by kernel_rfl) (by kernel_rfl) kp ?_
 intro X W hne hF hcl;have aQ:=zh hcl;have hx0:=fun x=>(HB0.out.keep (hF x)).eight
 have hx1:=fun x=>(HB1.out.keep (hF x)).eight
 clear hF hcl;simp only [aO,aJ,zl0,zl1,zl2,aV,Bool.false_eq_true,if_false]
 (repeat(quiet_step (fail)));refine wpQuiet_nil ?_
 refine ay rfl rfl fun K hK=> ?_
 go_simp;refine(C0 _).out.mono ?_;rintro e w1 ⟨rfl,hk⟩;have k1:Keep au w0 w1:=Keep.trans kp hk fun _ _ _ h=>h
 refine hK _ _ ⟨fun _=>aQ.out _ k1,?_⟩
 clear hK K hk
 (repeat(quiet_step (fail)));refine wpQuiet_nil ?_
 refine ay rfl rfl fun K hK=> ?_
 go_simp;refine(C1 _).out.mono ?_;rintro e w2 ⟨rfl,hk⟩;have k2:Keep au w0 w2:=k1.both hk;refine hK _ _ ⟨fun _=>aQ.out _ k2,?_⟩
 clear hK K hk;have wN:=zh (HB2.out.keep k2);have K2:=zh (K0.out.both k2);clear hx0 hx1 k1 k2 HB2;obtain⟨s0,s1,s2,s3,s4,s5,s6,s7,sl⟩:=wN.out.eight;obtain⟨f0,f1,f2,f3,f4,f5,f6,f7⟩:=wN.out.eightF
 (repeat(quiet_step (fail)));refine wpQuiet_nil ?_
 refine ay rfl rfl fun K hK=> ?_
 go_simp;refine hK _ _ ⟨fun h=>(by simp at h),?_⟩
 clear hK K;have Y3:=zh (wN.out.set8 (.bool pb) (.string pS) (.bool pc) (.string pU) (.bool qb) (.string qS) (.bool qc) (.string qU));have K3:=zh (iB K2.out FP.out (.bool pb) (.string pS) (.bool pc) (.string pU) (.bool qb) (.string qS) (.bool qc) (.string qU));clear s0 s1 s2 s3 s4 s5 s6 s7 sl f0 f1 f2 f3 f4 f5 f6 f7;generalize (((((((w2.setCell ⟨br,0,none⟩ (.bool pb)).setCell ⟨br,1,none⟩ (.string pS)).setCell ⟨br,2,none⟩ (.bool pc)).setCell ⟨br,3,none⟩ (.string pU)).setCell ⟨br,4,none⟩ (.bool qb)).setCell ⟨br,5,none⟩ (.string qS)).setCell ⟨br,6,none⟩ (.bool qc)).setCell ⟨br,7,none⟩ (.string qU)=w3 at*
 (repeat(quiet_step (fail)));refine wpQuiet_nil ?_
 refine NoPanic.normal ?_;obtain⟨s0,s1,s2,s3,s4,s5,s6,s7,sl⟩:=Y3.out.eight;go_simp
 repeat go_step
 refine bodyPost_ret (by simp [results,Tryz.results83,go_sem,s0,s1,s2,s3,s4,s5,s6,s7,sl];rfl) rfl ?_
 exact⟨⟨⟨pb,pS,pc,pU⟩,⟨qb,qS,qc,qU⟩⟩,rfl,HR.out,K3.out⟩
theorem DN (w:World)(x:PV)(a:Pr)(hx:x.is a)(na:a.ok 1000)(y:PV)(b:Pr)(hy:y.is b)(nb:b.ok 1000):
  Calls Tryz.prog 48 #[x.v,y.v] w fun e w'=>∃z:PV,e= .returned z.v∧z.is (a.sub b)∧Keep au w w':=by
 obtain⟨⟨ab,aS,ac,aU⟩,⟨cb,cS,cc,cU⟩⟩:=x;obtain⟨⟨bb,bS,bc,bU⟩,⟨db,dS,dc,dU⟩⟩:=y;have C0:=fun w=>zh (qF w _ a.n hx.1 na.1 _ b.n hy.1 nb.1)
 have C1:=fun w=>zh (qF w _ a.s hx.2 na.2 _ b.s hy.2 nb.2)
 obtain⟨⟨pb,pS,pc,pU⟩,hp,hpn⟩:=fE (a.n-b.n);obtain⟨⟨qb,qS,qc,qU⟩,hq,FQ⟩:=fE (a.s-b.s);rw [hp]at C0;rw [hq]at C1;have HR:=zh (And.intro hpn FQ);unfold NV.v at C0 C1;unfold PV.v;simp only at C0 C1 ⊢;clear hx na hy nb hp hq hpn FQ;go_enter Tryz.func48,Tryz.ntmps48;go_wp2;have B0:aL (((w.alloc (.cells #[.bool ab,.string aS,.bool ac,.string aU,.bool cb,.string cS,.bool cc,.string cU] 101)).alloc (.cells #[.bool bb,.string bS,.bool bc,.string bU,.bool db,.string dS,.bool dc,.string dU] 101)).alloc (.cells #[.bool false,.string ⟨#[]⟩,.bool false,.string ⟨#[]⟩,.bool false,.string ⟨#[]⟩,.bool false,.string ⟨#[]⟩] 101)) w.heap.size #[.bool ab,.string aS,.bool ac,.string aU,.bool cb,.string cS,.bool cc,.string cU]:=kc;have B1:aL (((w.alloc (.cells #[.bool ab,.string aS,.bool ac,.string aU,.bool cb,.string cS,.bool cc,.string cU] 101)).alloc (.cells #[.bool bb,.string bS,.bool bc,.string bU,.bool db,.string dS,.bool dc,.string dU] 101)).alloc (.cells #[.bool false,.string ⟨#[]⟩,.bool false,.string ⟨#[]⟩,.bool false,.string ⟨#[]⟩,.bool false,.string ⟨#[]⟩] 101)) (w.heap.size+1) #[.bool bb,.string bS,.bool bc,.string bU,.bool db,.string dS,.bool dc,.string dU]:=kc;have B2:aL (((w.alloc (.cells #[.bool ab,.string aS,.bool ac,.string aU,.bool cb,.string cS,.bool cc,.string cU] 101)).alloc (.cells #[.bool bb,.string bS,.bool bc,.string bU,.bool db,.string dS,.bool dc,.string dU] 101)).alloc (.cells #[.bool false,.string ⟨#[]⟩,.bool false,.string ⟨#[]⟩,.bool false,.string ⟨#[]⟩,.bool false,.string ⟨#[]⟩] 101)) (w.heap.size+1+1) #[.bool false,.string ⟨#[]⟩,.bool false,.string ⟨#[]⟩,.bool false,.string ⟨#[]⟩,.bool false,.string ⟨#[]⟩]:=kc;have K0:Hid (Keep au w (((w.alloc (.cells #[.bool ab,.string aS,.bool ac,.string aU,.bool cb,.string cS,.bool cc,.string cU] 101)).alloc (.cells #[.bool bb,.string bS,.bool bc,.string bU,.bool db,.string dS,.bool dc,.string dU] 101)).alloc (.cells #[.bool false,.string ⟨#[]⟩,.bool false,.string ⟨#[]⟩,.bool false,.string ⟨#[]⟩,.bool false,.string ⟨#[]⟩] 101))):=zh kp;generalize ((w.alloc (.cells #[.bool ab,.string aS,.bool ac,.string aU,.bool cb,.string cS,.bool cc,.string cU] 101)).alloc (.cells #[.bool bb,.string bS,.bool bc,.string bU,.bool db,.string dS,.bool dc,.string dU] 101)).alloc (.cells #[.bool false,.string ⟨#[]⟩,.bool false,.string ⟨#[]⟩,.bool false,.string ⟨#[]⟩,.bool false,.string ⟨#[]⟩] 101)=w0 at *;have HB0:=zh B0;have HB1:=zh B1;have HB2:=zh B2;clear B0 B1 B2;have FP:Hid (w.heap.size≤w.heap.size+1+1):=zh (by omega)
 generalize w.heap.size+1+1=br at *;refine aD (fun w'=>Keep au w0 w') [11] [([0,1,2,3,5,6,7,8],4),([],9),([10],11)] [] (by kernel_rfl) (by kernel_rfl) kp ?_
 intro X W hne hF hcl;have aQ:=zh hcl;have hx0:=fun x=>(HB0.out.keep (hF x)).eight
 have hx1:=fun x=>(HB1.out.keep (hF x)).eight
 clear hF hcl;simp only [aO,aJ,zl0,zl1,zl2,aV,Bool.false_eq_true,if_false]
 (repeat(quiet_step (fail)));refine wpQuiet_nil ?_
 refine ay rfl rfl fun K hK=> ?_
 go_simp;refine(C0 _).out.mono ?_;rintro e w1 ⟨rfl,hk⟩;have k1:Keep au w0 w1:=Keep.trans kp hk fun _ _ _ h=>h
 refine hK _ _ ⟨fun _=>aQ.out _ k1,?_⟩
 clear hK K hk
 (repeat(quiet_step (fail)));refine wpQuiet_nil ?_
 refine ay rfl rfl fun K hK=> ?_
 go_simp;refine(C1 _).out.mono ?_;rintro e w2 ⟨rfl,hk⟩;have k2:Keep au w0 w2:=k1.both hk;refine hK _ _ ⟨fun _=>aQ.out _ k2,?_⟩
 clear hK K hk;have wN:=zh (HB2.out.keep k2);have K2:=zh (K0.out.both k2);clear hx0 hx1 k1 k2 HB2;obtain⟨s0,s1,s2,s3,s4,s5,s6,s7,sl⟩:=wN.out.eight;obtain⟨f0,f1,f2,f3,f4,f5,f6,f7⟩:=wN.out.eightF
 (repeat(quiet_step (fail)));refine wpQuiet_nil ?_
 refine ay rfl rfl fun K hK=> ?_
 go_simp;refine hK _ _ ⟨fun h=>(by simp at h),?_⟩
 clear hK K;have Y3:=zh (wN.out.set8 (.bool pb) (.string pS) (.bool pc) (.string pU) (.bool qb) (.string qS) (.bool qc) (.string qU));have K3:=zh (iB K2.out FP.out (.bool pb) (.string pS) (.bool pc) (.string pU) (.bool qb) (.string qS) (.bool qc) (.string qU));clear s0 s1 s2 s3 s4 s5 s6 s7 sl f0 f1 f2 f3 f4 f5 f6 f7;generalize (((((((w2.setCell ⟨br,0,none⟩ (.bool pb)).setCell ⟨br,1,none⟩ (.string pS)).setCell ⟨br,2,none⟩ (.bool pc)).setCell ⟨br,3,none⟩ (.string pU)).setCell ⟨br,4,none⟩ (.bool qb)).setCell ⟨br,5,none⟩ (.string qS)).setCell ⟨br,6,none⟩ (.bool qc)).setCell ⟨br,7,none⟩ (.string qU)=w3 at*
 (repeat(quiet_step (fail)));refine wpQuiet_nil ?_
 refine NoPanic.normal ?_;obtain⟨s0,s1,s2,s3,s4,s5,s6,s7,sl⟩:=Y3.out.eight;go_simp
 repeat go_step
 refine bodyPost_ret (by simp [results,Tryz.results48,go_sem,s0,s1,s2,s3,s4,s5,s6,s7,sl];rfl) rfl ?_
 exact⟨⟨⟨pb,pS,pc,pU⟩,⟨qb,qS,qc,qU⟩⟩,rfl,HR.out,K3.out⟩
theorem wZ (w:World)(x:PV)(a:Pr)(hx:x.is a)(na:a.ok 1000)(vk:Value)(k:Rat)(hk:bM vk k)(nk:NB 1000 k):
  Calls Tryz.prog 49 #[x.v,vk] w fun e w'=>∃z:PV,e= .returned z.v∧z.is (a.mul k)∧Keep au w w':=by
 obtain⟨⟨ab,aS,ac,aU⟩,⟨cb,cS,cc,cU⟩⟩:=x;obtain⟨bb,bS,bc,bU,rfl⟩:=Ye hk;have C0:=fun w=>zh (mV w _ a.n hx.1 na.1 _ k hk nk)
 have C1:=fun w=>zh (mV w _ a.s hx.2 na.2 _ k hk nk)
 obtain⟨⟨pb,pS,pc,pU⟩,hp,hpn⟩:=fE (a.n*k);obtain⟨⟨qb,qS,qc,qU⟩,hq,FQ⟩:=fE (a.s*k);rw [hp]at C0;rw [hq]at C1;have HR:=zh (And.intro hpn FQ);unfold NV.v at C0 C1;unfold PV.v;simp only at C0 C1 ⊢;clear hx na hk nk hp hq hpn FQ;go_enter Tryz.func49,Tryz.ntmps49;go_wp2;have B0:aL (((w.alloc (.cells #[.bool ab,.string aS,.bool ac,.string aU,.bool cb,.string cS,.bool cc,.string cU] 101)).alloc (.cells #[.bool bb,.string bS,.bool bc,.string bU] 93)).alloc (.cells #[.bool false,.string ⟨#[]⟩,.bool false,.string ⟨#[]⟩,.bool false,.string ⟨#[]⟩,.bool false,.string ⟨#[]⟩] 101)) w.heap.size #[.bool ab,.string aS,.bool ac,.string aU,.bool cb,.string cS,.bool cc,.string cU]:=kc;have B1:aL (((w.alloc (.cells #[.bool ab,.string aS,.bool ac,.string aU,.bool cb,.string cS,.bool cc,.string cU] 101)).alloc (.cells #[.bool bb,.string bS,.bool bc,.string bU] 93)).alloc (.cells #[.bool false,.string ⟨#[]⟩,.bool false,.string ⟨#[]⟩,.bool false,.string ⟨#[]⟩,.bool false,.string ⟨#[]⟩] 101)) (w.heap.size+1) #[.bool bb,.string bS,.bool bc,.string bU]:=kc;have B2:aL (((w.alloc (.cells #[.bool ab,.string aS,.bool ac,.string aU,.bool cb,.string cS,.bool cc,.string cU] 101)).alloc (.cells #[.bool bb,.string bS,.bool bc,.string bU] 93)).alloc (.cells #[.bool false,.string ⟨#[]⟩,.bool false,.string ⟨#[]⟩,.bool false,.string ⟨#[]⟩,.bool false,.string ⟨#[]⟩] 101)) (w.heap.size+1+1) #[.bool false,.string ⟨#[]⟩,.bool false,.string ⟨#[]⟩,.bool false,.string ⟨#[]⟩,.bool false,.string ⟨#[]⟩]:=kc;have K0:Hid (Keep au w (((w.alloc (.cells #[.bool ab,.string aS,.bool ac,.string aU,.bool cb,.string cS,.bool cc,.string cU] 101)).alloc (.cells #[.bool bb,.string bS,.bool bc,.string bU] 93)).alloc (.cells #[.bool false,.string ⟨#[]⟩,.bool false,.string ⟨#[]⟩,.bool false,.string ⟨#[]⟩,.bool false,.string ⟨#[]⟩] 101))):=zh kp;generalize ((w.alloc (.cells #[.bool ab,.string aS,.bool ac,.string aU,.bool cb,.string cS,.bool cc,.string cU] 101)).alloc (.cells #[.bool bb,.string bS,.bool bc,.string bU] 93)).alloc (.cells #[.bool false,.string ⟨#[]⟩,.bool false,.string ⟨#[]⟩,.bool false,.string ⟨#[]⟩,.bool false,.string ⟨#[]⟩] 101)=w0 at *;have HB0:=zh B0;have HB1:=zh B1;have HB2:=zh B2;clear B0 B1 B2;have FP:Hid (w.heap.size≤w.heap.size+1+1):=zh (by omega)
 generalize w.heap.size+1+1=br at *;refine aD (fun w'=>Keep au w0 w') [9] [([0,1,2,4,5,6],3),([],7),([8],9)] [] (by kernel_rfl) (by kernel_rfl) kp ?_
 intro X W hne hF hcl;have aQ:=zh hcl;have hx0:=fun x=>(HB0.out.keep (hF x)).eight
 have hx1:=fun x=>(HB1.out.keep (hF x)).four
 clear hF hcl;simp only [aO,aJ,zl0,zl1,zl2,aV,Bool.false_eq_true,if_false]
 (repeat(quiet_step (fail)));refine wpQuiet_nil ?_
 refine ay rfl rfl fun K hK=> ?_
 go_simp;refine(C0 _).out.mono ?_;rintro e w1 ⟨rfl,hk⟩;have k1:Keep au w0 w1:=Keep.trans kp hk fun _ _ _ h=>h
 refine hK _ _ ⟨fun _=>aQ.out _ k1,?_⟩
 clear hK K hk
 (repeat(quiet_step (fail)));refine wpQuiet_nil ?_
 refine ay rfl rfl fun K hK=> ?_
 go_simp;refine(C1 _).out.mono ?_;rintro e w2 ⟨rfl,hk⟩;have k2:Keep au w0 w2:=k1.both hk;refine hK _ _ ⟨fun _=>aQ.out _ k2,?_⟩
 clear hK K hk;have wN:=zh (HB2.out.keep k2);have K2:=zh (K0.out.both k2);clear hx0 hx1 k1 k2 HB2;obtain⟨s0,s1,s2,s3,s4,s5,s6,s7,sl⟩:=wN.out.eight;obtain⟨f0,f1,f2,f3,f4,f5,f6,f7⟩:=wN.out.eightF
 (repeat(quiet_step (fail)));refine wpQuiet_nil ?_
 refine ay rfl rfl fun K hK=> ?_
 go_simp;refine hK _ _ ⟨fun h=>(by simp at h),?_⟩
 clear hK K;have Y3:=zh (wN.out.set8 (.bool pb) (.string pS) (.bool pc) (.string pU) (.bool qb) (.string qS) (.bool qc) (.string qU));have K3:=zh (iB K2.out FP.out (.bool pb) (.string pS) (.bool pc) (.string pU) (.bool qb) (.string qS) (.bool qc) (.string qU));clear s0 s1 s2 s3 s4 s5 s6 s7 sl f0 f1 f2 f3 f4 f5 f6 f7;generalize (((((((w2.setCell ⟨br,0,none⟩ (.bool pb)).setCell ⟨br,1,none⟩ (.string pS)).setCell ⟨br,2,none⟩ (.bool pc)).setCell ⟨br,3,none⟩ (.string pU)).setCell ⟨br,4,none⟩ (.bool qb)).setCell ⟨br,5,none⟩ (.string qS)).setCell ⟨br,6,none⟩ (.bool qc)).setCell ⟨br,7,none⟩ (.string qU)=w3 at*
 (repeat(quiet_step (fail)));refine wpQuiet_nil ?_
 refine NoPanic.normal ?_;obtain⟨s0,s1,s2,s3,s4,s5,s6,s7,sl⟩:=Y3.out.eight;go_simp
 repeat go_step
 refine bodyPost_ret (by simp [results,Tryz.results49,go_sem,s0,s1,s2,s3,s4,s5,s6,s7,sl];rfl) rfl ?_
 exact⟨⟨⟨pb,pS,pc,pU⟩,⟨qb,qS,qc,qU⟩⟩,rfl,HR.out,K3.out⟩
theorem jT (w:World)(x:PV)(a:Pr)(hx:x.is a)(na:a.ok 1000)(y:PV)(b:Pr)(hy:y.is b)(nb:b.ok 1000):
  Calls Tryz.prog 76 #[x.v,y.v] w fun e w'=>e= .returned (.int .i64 (a.cmp b))∧Keep au w w':=by
 obtain⟨⟨ab,aS,ac,aU⟩,⟨cb,cS,cc,cU⟩⟩:=x;obtain⟨⟨bb,bS,bc,bU⟩,⟨db,dS,dc,dU⟩⟩:=y;have C0:=fun w=>zh (AP w _ a.n hx.1 na.1 _ b.n hy.1 nb.1)
 have C1:=fun w=>zh (AP w _ a.s hx.2 na.2 _ b.s hy.2 nb.2)
 have HR:Hid (a.cmp b=if qM a.n b.n≠0 then qM a.n b.n else qM a.s b.s):=zh rfl
 generalize a.cmp b=r at *;unfold qM at HR;generalize (a.n.num*b.n.den-b.n.num*a.n.den).sign=r1 at *;generalize (a.s.num*b.s.den-b.s.num*a.s.den).sign=r2 at *;unfold NV.v at C0 C1;unfold PV.v;simp only at C0 C1 ⊢;clear hx na hy nb;go_enter Tryz.func76,Tryz.ntmps76;go_wp2_with fail;refine(C0 _).out.mono ?_;rintro e w1 ⟨rfl,hk⟩;have K1:Hid (Keep au w w1):=zh (Keep.trans kp hk fun _ _ _ h=>h)
 have B0:aL w1 w.heap.size #[.bool ab,.string aS,.bool ac,.string aU,.bool cb,.string cS,.bool cc,.string cU]:=aL.keep kb hk;have B1:aL w1 (w.heap.size+1) #[.bool bb,.string bS,.bool bc,.string bU,.bool db,.string dS,.bool dc,.string dU]:=aL.keep kb hk;clear hk C0
 by_cases h:r1=0
 case neg=>
  have e1:(r1 != 0)=true:=by rw [bne_iff_ne];exact h
  obtain rfl:r=r1:=by rw [HR.out,if_pos h]
  clear HR h;go_wp2;go_ret;exact⟨rfl,K1.out⟩
 case pos=>
  subst h;obtain rfl:r=r2:=by rw [HR.out,if_neg (by simp)]
  clear HR;obtain⟨_,_,_,_,s4,s5,s6,s7,sl⟩:=B0.eight;obtain⟨_,_,_,_,t4,t5,t6,t7,tl⟩:=B1.eight;clear B0 B1;go_wp2_with fail;refine(C1 _).out.mono ?_;rintro e w2 ⟨rfl,hk⟩;have K2:=zh (K1.out.both hk);clear hk C1;go_wp2;go_ret;exact⟨rfl,K2.out⟩
end Go.Proofs.YtaiffmebphhdaaaGreat
