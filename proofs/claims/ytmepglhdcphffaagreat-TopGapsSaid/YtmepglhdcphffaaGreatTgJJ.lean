/- Package judge: atoms of rows; zero, atom, all. For TopGaps. Package judge: add, sum.take: weak contracts (some answer). For TopGaps. Package judge: sum.take: a weak contract. For TopGaps. Package judge: formed; fractions of a sum. For TopGaps. Package judge: rows: a weak contract. For TopGaps. -/
import Derived.Test.YtmepglhdcphffaaGreatTuEE
import Derived.Test.YtmepglhdcphffaaGreatFrAA
import Derived.Test.YtmepglhdcphffaaGreatRegVV
namespace Go.Proofs.YtmepglhdcphffaaGreat
set_option maxRecDepth 100000
set_option maxHeartbeats 16000000
set_option linter.unusedSimpArgs false
set_option linter.unusedVariables false
open Go.ChangeShapes Go.WideShapes Go.RowKit Go.Maps
abbrev TSj:TypeId:=116
@[go_sem] theorem zcz (a b c d e:Int) (o:Option Addr) (n k:Nat) (w:World):(Instr.field 36 (.agg #[.int .i64 a,.int .i64 b,.int .i64 c,.slice o n k,.int .i64 d,.int .i64 e]) 0).run Tryz.prog w= .ok (.int .i64 a) w:=kr
@[go_sem] theorem zcA (a b c d e:Int) (o:Option Addr) (n k:Nat) (w:World):(Instr.field 36 (.agg #[.int .i64 a,.int .i64 b,.int .i64 c,.slice o n k,.int .i64 d,.int .i64 e]) 3).run Tryz.prog w= .ok (.agg #[.slice o n k,.int .i64 d,.int .i64 e]) w:=kr
theorem Ud (w:World):Calls Tryz.prog 156 #[.agg #[.int .i64 0,.int .i64 0,.int .i64 0,.slice none 0 0,.int .i64 0,.int .i64 0]] w fun e w'=>e= .returned (.bool true)∧Keep au w w':=by
 go_enter Tryz.func156,Tryz.ntmps156;go_wp2;go_ret;exact⟨rfl,kp⟩
def kV (atoms:List GA)(l:Int):GA:=atoms.getD (l.natAbs-1) ⟨0,none,0,⟨[],0,0⟩⟩
theorem zcv {w0 w:World}{b:Nat}(h:Keep au w0 w)(hb:w0.heap.size≤b)(p q r s t u:Value):Keep au w0 ((((((w.setCell ⟨b,0,none⟩ p).setCell ⟨b,1,none⟩ q).setCell ⟨b,2,none⟩ r).setCell ⟨b,3,none⟩ s).setCell ⟨b,4,none⟩ t).setCell ⟨b,5,none⟩ u):=
 (((((h.setCell _ fun hh=>absurd hh om).setCell _ fun hh=>absurd hh om).setCell _ fun hh=>absurd hh om).setCell _ fun hh=>absurd hh om).setCell _ fun hh=>absurd hh om).setCell _ fun hh=>absurd hh om
theorem Gy (w:World)(b:Nat)(oa:Option Addr)(ca:Nat)(atoms:List GA)(l:Int)(hb:w.cell? ⟨b,2,none⟩=some (.slice oa atoms.length ca))(hl:b<w.heap.size)(ha:lN w (.slice oa atoms.length ca) atoms)(h0:l≠0)(hn:l.natAbs≤atoms.length)(hm:atoms.length≤1000):
  Calls Tryz.prog 160 #[.pointer (some ⟨b,0,none⟩),.int .i64 l] w fun e w'=>e= .returned (gaV (kV atoms l))∧Keep au w w':=by
 obtain⟨k,hk⟩:∃k:Nat,l.natAbs=k+1:=⟨l.natAbs-1,om⟩;have hkl:k<atoms.length:=om;have CV:=fun w=>zh (xV w l (by unfold dA;omega) (by unfold dA;omega));have e1:kV atoms l=atoms[k]:=by
  unfold kV;rw [hk,Nat.add_sub_cancel,dV,eD hkl];rfl
 rw [e1];obtain⟨g,o,hg,gl,c0,c1,c2,c3,c4,c5⟩:=ha.at hkl;subst hg;rw [show((l.natAbs:Nat):Int)=(k:Int)+1 from om]at CV;generalize atoms[k]=a at *;generalize atoms.length=n at *;obtain⟨ak,ao,ac,of,kd,tt⟩:=a;have hs:IntKind.i64.wrap (k:Int)=(k:Int):=by rw [IntKind.wrap_i64];omega
 have i1:(k:Int)<(n:Int):=om;have i2:¬(k:Int)<0:=om;have B0:Hid (aL (w.alloc (.cells #[.int .i64 0,.int .i64 0,.int .i64 0,.slice none 0 0,.int .i64 0,.int .i64 0] rD)) w.heap.size #[.int .i64 0,.int .i64 0,.int .i64 0,.slice none 0 0,.int .i64 0,.int .i64 0]):=zh (aN _ _ rfl);clear ha e1 hk hm h0 hn;unfold gaV;simp only at c0 c1 c2 c3 c4 c5 ⊢;generalize of.length=al at *;go_enter Tryz.func160,Tryz.ntmps160;go_upto_region 1 with fail;have K0:Keep au w (w.alloc (.cells #[.int .i64 0,.int .i64 0,.int .i64 0,.slice none 0 0,.int .i64 0,.int .i64 0] rD)):=(Keep.refl _ _).alloc _;have x2:=(K0.cell hl).trans hb;have xl:=bJ hl K0.size;have d0:=(K0.cell gl).trans c0;have d1:=(K0.cell gl).trans c1;have d2:=(K0.cell gl).trans c2;have d3:=(K0.cell gl).trans c3;have d4:=(K0.cell gl).trans c4;have d5:=(K0.cell gl).trans c5;have dl:=bJ gl K0.size;have Bf:=zh K0;have HBL:=zh (Nat.le_refl w.heap.size);clear K0 c0 c1 c2 c3 c4 c5 hb;generalize hw0:w.alloc (.cells #[.int .i64 0,.int .i64 0,.int .i64 0,.slice none 0 0,.int .i64 0,.int .i64 0] rD)=w1 at *;have hbb:∃bb,bb=w.heap.size:=⟨_,rfl⟩;obtain⟨bb,hbb⟩:=hbb;rw [← hbb]at B0 ⊢;have HBB:=zh hbb;clear hw0 hbb gl hl HBL;refine aD (fun w'=>Keep au w1 w') [10] [([0,1,2,3,4,5],6),([7,8,9],10)] [] kr kr kp ?_;intro X W hne hF hcl;have aY:=zh hcl;have y2:=fun x=>((hF x).cell xl).trans x2;have yl:=fun x=>bJ xl (hF x).size;have z0:=fun x=>((hF x).cell dl).trans d0;have z1:=fun x=>((hF x).cell dl).trans d1;have z2:=fun x=>((hF x).cell dl).trans d2;have z3:=fun x=>((hF x).cell dl).trans d3;have z4:=fun x=>((hF x).cell dl).trans d4;have z5:=fun x=>((hF x).cell dl).trans d5;have zl:=fun x=>bJ dl (hF x).size;clear hF hcl;simp only [aW,aJ,zl0,zl1,zl2,aX,Bool.false_eq_true,if_false]
 (repeat(quiet_step (fail)));refine wpQuiet_nil ?_
 refine ay rfl rfl fun K hK=> ?_;go_simp;refine(CV _).out.mono ?_;rintro e w2 ⟨rfl,rfl⟩;have k2:Keep au w1 w1.drew:=(Keep.refl _ _).drew;refine hK _ _ ⟨fun _=>aY.out _ k2,?_⟩;clear hK K;have f0:=B0.out.free 0;have f1:=B0.out.free 1;have f2:=B0.out.free 2;have f3:=B0.out.free 3;have f4:=B0.out.free 4;have f5:=B0.out.free 5;have r0:=B0.out.cell 0;have r1:=B0.out.cell 1;have r2:=B0.out.cell 2;have r3:=B0.out.cell 3;have r4:=B0.out.cell 4;have r5:=B0.out.cell 5;simp at r0 r1 r2 r3 r4 r5;have rl:=B0.out.lt;clear k2
 (repeat(quiet_step (fail)));refine wpQuiet_nil ?_
 refine ay rfl rfl fun K hK=> ?_;go_simp;refine hK _ _ ⟨fun h=>(by simp at h),?_⟩;clear hK K
 (repeat(quiet_step (fail)));refine wpQuiet_nil ?_
 refine NoPanic.normal ?_;go_wp2;refine bodyPost_ret (by simp [results,Tryz.results160,go_sem,r0,r1,r2,r3,r4,r5,rl];rfl) rfl ?_;exact⟨rfl,(zcv Bf.out (by have:=HBB.out;omega) _ _ _ _ _ _).drew⟩
theorem cfa1 (a:Array Value)(w:World):Sem.run Tryz.prog (callFunc 209 a) w= .ok (.enter 209 a) w:=kr
theorem Ue (w:World)(b1 b2 b:Nat)(oa:Option Addr)(ca:Nat)(atoms:List GA)(kind l:Int)(h1:w.cell? ⟨b1,0,none⟩=some (.pointer (some ⟨b,0,none⟩)))(l1:b1<w.heap.size)(h2:w.cell? ⟨b2,0,none⟩=some (.int .i64 kind))(l2:b2<w.heap.size)(hb:w.cell? ⟨b,2,none⟩=some (.slice oa atoms.length ca))(hl:b<w.heap.size)(ha:lN w (.slice oa atoms.length ca) atoms)(h0:l≠0)(hn:l.natAbs≤atoms.length)(hm:atoms.length≤1000):
  Calls Tryz.prog 209 #[.int .i64 l,.pointer (some ⟨b1,0,none⟩),.pointer (some ⟨b2,0,none⟩)] w fun e w'=>e= .returned (.bool (decide ((kV atoms l).k≠kind)))∧Keep au w w':=by
 have CA:=zh (fun w' (k:Keep au w w')=>Gy w' b oa ca atoms l ((k.cell hl).trans hb) (bJ hl k.size) (ha.keep k) h0 hn hm);generalize kV atoms l=a at *;obtain⟨ak,ao,ac,of,kd,tt⟩:=a;unfold gaV at CA;simp only at CA ⊢;generalize of.length=al at *;clear ha hb hl h0 hn hm;go_enter Tryz.func209,Tryz.ntmps209;go_upto_region 1 with fail;refine aD (fun w'=>Keep au w w') [] [([0,1,4],2)] [3,5,6] kr kr kp ?_;intro X W hne hF hcl;have aY:=zh hcl;have y1:=fun x=>((hF x).cell l1).trans h1;have y2:=fun x=>((hF x).cell l2).trans h2;have z1:=fun x=>bJ l1 (hF x).size;have z2:=fun x=>bJ l2 (hF x).size;clear hF hcl;simp only [aW,aJ,zl0,zl1,zl2,aX,Bool.false_eq_true,if_false]
 (repeat(quiet_step (fail)));refine wpQuiet_nil ?_
 refine ay rfl rfl fun K hK=> ?_;go_simp;refine(CA.out _ kp).mono ?_;rintro e w2 ⟨rfl,hk⟩;have k2:Keep au w w2:=Keep.both kp hk;refine hK _ _ ⟨fun _=>aY.out _ k2,?_⟩;clear hK K hk
 (repeat(quiet_step (fail)));refine wpQuiet_nil ?_
 refine NoPanic.normal ?_;go_wp2;go_ret;exact⟨congrArg (fun b:Bool=>Ending.returned (.bool b)) (by rw [Bool.eq_iff_iff];simp),k2⟩
def zcw (n:Nat)(lits:List Int):Prop:=∀l∈lits,l≠0∧l.natAbs≤n
theorem Yl (w:World)(b:Nat)(oa:Option Addr)(ca:Nat)(atoms:List GA)(kind:Int)(v:Value)(lits:List Int)(hb:w.cell? ⟨b,2,none⟩=some (.slice oa atoms.length ca))(hl:b<w.heap.size)(ha:lN w (.slice oa atoms.length ca) atoms)(hv:aR w v lits)(hn:zcw atoms.length lits)(hm:atoms.length≤1000):
  Calls Tryz.prog 159 #[.pointer (some ⟨b,0,none⟩),v,.int .i64 kind] w fun e w'=>e= .returned (.bool (lits.all fun l=>decide ((kV atoms l).k=kind)))∧Keep au w w':=by
 obtain⟨w2,hw2⟩:∃w2:World,w2=(w.alloc (.cells #[.pointer (some ⟨b,0,none⟩)] 113)).alloc (.cells #[.int .i64 kind] TI):=⟨_,rfl⟩;have K2:Keep au w w2:=by rw [hw2];exact((Keep.refl _ _).alloc _).alloc _
 have B1:aL w2 w.heap.size #[.pointer (some ⟨b,0,none⟩)]:=by rw [hw2];exact aL.old (aN _ _ rfl) _
 have B2:aL w2 (w.heap.size+1) #[.int .i64 kind]:=by rw [hw2];exact aN _ _ sm
 have CC:=zh (rE 209 #[.pointer (some ⟨w.heap.size,0,none⟩),.pointer (some ⟨w.heap.size+1,0,none⟩)] cfa1 (fun l=>decide ((kV atoms l).k≠kind)) w2 v lits (hv.keep K2) fun w' k l hx=>
  Ue w' w.heap.size (w.heap.size+1) b oa ca atoms kind l ((B1.keep k).cell 0) (B1.keep k).lt ((B2.keep k).cell 0) (B2.keep k).lt (((K2.both k).cell hl).trans hb) (bJ hl (K2.both k).size) (ha.keep (K2.both k)) (hn l hx).1 (hn l hx).2 hm)
 have e1:(lits.all fun l=>decide ((kV atoms l).k=kind))= !(lits.any fun l=>decide ((kV atoms l).k≠kind)):=by
  rw [List.not_any_eq_all_not];congr;funext l;simp
 rw [e1];have Ay:=zh K2;obtain⟨ol,cl,rfl,_⟩:=hv.len;generalize (lits.any fun l=>decide ((kV atoms l).k≠kind))=r at*;generalize lits.length=n at *;clear ha hv hn hm hb K2 B1 B2 e1;go_enter Tryz.func159,Tryz.ntmps159;go_upto_region 1 with fail;rw [← hw2];clear hw2;generalize w.heap.size=g at *;go_wp2_with fail;refine CC.out.mono ?_;rintro e w3 ⟨rfl,hk⟩;have k3:=Ay.out.both hk;cases r<;>go_wp2<;>go_ret<;>exact⟨rfl,k3⟩
def MC (e:Ending):Prop:=∃r:Bool,e= .returned (.bool r)
def At2 (b o:Nat):Nat→Nat→Prop:=fun k i=>k=b∧(i=o∨i=o+1)
theorem QX (n1 d1 n2 d2 x y:Int):∃N D C A,NK n1 d1 n2 d2 x y= .tuple #[.agg #[.int .i64 N,.int .i64 D],.agg #[.int .i64 C,.int .i64 A]]:=by
 unfold NK;split
 ·exact ⟨_,_,_,_,rfl⟩
 exact⟨_,_,_,_,rfl⟩
structure ME (b o:Nat)(w w':World):Prop where
 k:Keep (At2 b o) w w'
 c:∃N D:Int,w'.cell? ⟨b,o,none⟩=some (.int .i64 N)∧w'.cell? ⟨b,o+1,none⟩=some (.int .i64 D)
theorem MF (w:World)(b o:Nat)(an ad x n d:Int)(h0:w.cell? ⟨b,o,none⟩=some (.int .i64 an))(h1:w.cell? ⟨b,o+1,none⟩=some (.int .i64 ad))(hl:b<w.heap.size)(hf:∀i,w.frozen? ⟨b,i,none⟩=false):
  Calls Tryz.prog 210 #[.pointer (some ⟨b,o,none⟩),.int .i64 x,.agg #[.int .i64 n,.int .i64 d]] w fun e w'=>MC e∧ME b o w w':=by
 obtain⟨tN,tD,tC,tA,hm⟩:=QX x 1 n d (x*n) (1*d);obtain⟨uN,uD,uC,uA,hm2⟩:=QX an ad tN tD (an*tD+tN*ad) (ad*tD);have CT:=fun w=>zh (VU x 1 n d w);have CA:=fun w=>zh (zbC an ad tN tD w);simp only [hm]at CT;simp only [hm2]at CA;have H0:=zh h0;have H1:=zh h1;have HF0:=zh (hf o);have HF1:=zh (hf (o+1));clear hm hm2 h0 h1 hf;have KA:Hid (Keep au w (w.alloc (.cells #[.int .i64 n,.int .i64 d] TF))):=zh ((Keep.refl _ _).alloc _);by_cases hc:tC=0
 case neg=>
  have e1:(tC != 0)=true:=by rw [bne_iff_ne];exact hc
  clear hc CA;go_enter Tryz.func210,Tryz.ntmps210;go_wp2_with fail;refine(CT _).out.mono ?_;rintro e w3 ⟨rfl,hk3⟩;have K3:=zh (KA.out.both hk3);clear hk3 CT;go_wp2;go_ret;refine⟨⟨_,rfl⟩,?_,?_⟩
  ·exact ((K3.out.alloc _).alloc _).mono fun _ _ _ h=>h.elim
  have k:=(K3.out.alloc (.cells #[.int .i64 tN,.int .i64 tD] TF)).alloc (.cells #[.int .i64 tC,.int .i64 tA] iZ);exact⟨an,ad,(k.cell hl).trans H0.out,(k.cell hl).trans H1.out⟩
 subst hc;go_enter Tryz.func210,Tryz.ntmps210;go_wp2_with fail;refine(CT _).out.mono ?_;rintro e w3 ⟨rfl,hk3⟩;have K3:=zh (KA.out.both hk3);clear hk3 CT;have k5:=(K3.out.alloc (.cells #[.int .i64 tN,.int .i64 tD] TF)).alloc (.cells #[.int .i64 0,.int .i64 tA] iZ);have HB1:Hid (aL ((w3.alloc (.cells #[.int .i64 tN,.int .i64 tD] TF)).alloc (.cells #[.int .i64 0,.int .i64 tA] iZ)) w3.heap.size #[.int .i64 tN,.int .i64 tD]):=zh (aL.old (aN _ _ rfl) _);have HB2:Hid (aL ((w3.alloc (.cells #[.int .i64 tN,.int .i64 tD] TF)).alloc (.cells #[.int .i64 0,.int .i64 tA] iZ)) (w3.heap.size+1) #[.int .i64 0,.int .i64 tA]):=zh (aN _ _ sm);have K5:=zh k5;have HW3:=zh K3.out.size;clear k5;go_upto_region 4 with fail;generalize (w3.alloc (.cells #[.int .i64 tN,.int .i64 tD] TF)).alloc (.cells #[.int .i64 0,.int .i64 tA] iZ)=w5 at *;generalize w3.heap.size=g at *;have x0:=(K5.out.cell hl).trans H0.out;have x1:=(K5.out.cell hl).trans H1.out;have xl:=bJ hl K5.out.size;have y0:w5.cell? ⟨g,0,none⟩=some (.int .i64 tN):=HB1.out.cell 0;have y1:w5.cell? ⟨g,1,none⟩=some (.int .i64 tD):=HB1.out.cell 1;have yl:=HB1.out.lt;refine wN (fun w'=>Keep au w5 w') [0,7,8,10,11] [([0,1,2,3,4],5),([6,7,8,9],10),([],11)] [] kr kr (Keep.refl _ _).drew ?_;intro X W hne hF hcl;have aY:=zh hcl;have z0:=fun x=>((hF x).cell xl).trans x0;have z1:=fun x=>((hF x).cell xl).trans x1;have zl:=fun x=>bJ xl (hF x).size;have u0:=fun x=>((hF x).cell yl).trans y0;have u1:=fun x=>((hF x).cell yl).trans y1;have ul:=fun x=>bJ yl (hF x).size;clear hF hcl;simp only [aW,aJ,zl0,zl1,zl2,aX,Bool.false_eq_true,if_false]
 (repeat(quiet_step (fail)));refine wpQuiet_nil ?_
 refine ay rfl rfl fun K hK=> ?_;go_simp;refine(CA _).out.mono ?_;rintro e w6 ⟨rfl,hk6⟩;have k6:Keep au w5 w6:=Keep.both (Keep.refl _ _).drew hk6;refine hK _ _ ⟨fun _=>aY.out _ k6,?_⟩;clear hK hk6 x0 x1 y0 y1 yl z0 z1 zl u0 u1 ul
 (repeat(quiet_step (fail)));refine wpQuiet_nil ?_
 have K6:=zh (K5.out.both k6);have vW:=zh (HB2.out.keep k6);have f0:=(K6.out.frozen hl).trans HF0.out;have f1:=(K6.out.frozen hl).trans HF1.out;have bl:=bJ hl K6.out.size;have c0:=(K6.out.cell hl).trans H0.out;have c1:=(K6.out.cell hl).trans H1.out;refine ay rfl rfl fun K hK=> ?_;go_simp;refine hK _ _ ⟨fun h=>(by simp at h),?_⟩;clear hK
 (repeat(quiet_step (fail)));refine wpQuiet_nil ?_
 have hne:g+1≠b:=by have:=HW3.out;omega
 have hne':¬b=g+1:=fun e=>hne e.symm;have nu:Hid (aL ((w6.setCell ⟨b,o,none⟩ (.int .i64 uN)).setCell ⟨b,o+1,none⟩ (.int .i64 uD)) (g+1) #[.int .i64 0,.int .i64 tA]):=zh ((vW.out.setOther o _ hne).setOther (o+1) _ hne);have HC0:Hid (((w6.setCell ⟨b,o,none⟩ (.int .i64 uN)).setCell ⟨b,o+1,none⟩ (.int .i64 uD)).cell? ⟨b,o,none⟩=some (.int .i64 uN)):=zh (by simp [go_sem,c0,c1,bl,f0,f1]);have Rp:Hid (((w6.setCell ⟨b,o,none⟩ (.int .i64 uN)).setCell ⟨b,o+1,none⟩ (.int .i64 uD)).cell? ⟨b,o+1,none⟩=some (.int .i64 uD)):=zh (by simp [go_sem,c0,c1,bl,f0,f1]);have HK7:Hid (Keep (At2 b o) w ((w6.setCell ⟨b,o,none⟩ (.int .i64 uN)).setCell ⟨b,o+1,none⟩ (.int .i64 uD))):=zh (((K6.out.mono (S':=At2 b o) fun _ _ _ h=>h.elim).setCell _ fun _=>⟨rfl,.inl rfl⟩).setCell _ fun _=>⟨rfl,.inr rfl⟩);have HBL:Hid (b<((w6.setCell ⟨b,o,none⟩ (.int .i64 uN)).setCell ⟨b,o+1,none⟩ (.int .i64 uD)).heap.size):=zh (by simpa using bl);have XI:Hid (w.heap.size≤g+1):=zh (by have:=HW3.out;omega);clear c0 c1 f0 f1 bl k6 aY;generalize (w6.setCell ⟨b,o,none⟩ (.int .i64 uN)).setCell ⟨b,o+1,none⟩ (.int .i64 uD)=w7 at *;obtain⟨p0,p1,q0,q1,pl⟩:=nu.out.two;refine ay rfl rfl fun K hK=> ?_;go_simp;refine hK _ _ ⟨fun h=>(by simp at h),?_⟩;clear hK
 (repeat(quiet_step (fail)));refine wpQuiet_nil ?_
 refine NoPanic.normal ?_;have jN:=zh ((nu.out.set 0 (.int .i64 uC)).set 1 (.int .i64 uA));have HC8:Hid (ME b o w ((w7.setCell ⟨g+1,0,none⟩ (.int .i64 uC)).setCell ⟨g+1,1,none⟩ (.int .i64 uA))):=zh ⟨(HK7.out.setCell _ fun h=>absurd h (by have:=XI.out;omega)).setCell _ fun h=>absurd h (by have:=XI.out;omega),uN,uD,by
  rw [World.cell?_of_block (heap_setCell_other _ _ _ _ hne'),World.cell?_of_block (heap_setCell_other _ _ _ _ hne')];exact HC0.out,by
  rw [World.cell?_of_block (heap_setCell_other _ _ _ _ hne'),World.cell?_of_block (heap_setCell_other _ _ _ _ hne')];exact Rp.out⟩
 clear p0 p1 q0 q1 pl;generalize (w7.setCell ⟨g+1,0,none⟩ (.int .i64 uC)).setCell ⟨g+1,1,none⟩ (.int .i64 uA)=w8 at *;have p0:w8.cell? ⟨g+1,0,none⟩=some (.int .i64 uC):=jN.out.cell 0;have pl:=jN.out.lt;go_wp2;go_ret;exact⟨⟨_,rfl⟩,HC8.out⟩
abbrev TSm:TypeId:=247
structure oG (w:World)(bS bO n:Nat):Prop where
 s:∃(t0 t1:Int) (less:Bool),w.heap[bS]? =some (.cells #[.slice (some ⟨bO,0,none⟩) n n,.int .i64 t0,.int .i64 t1,.bool less] TSm (0,0))
 o:∃A:Array Value,w.heap[bO]? =some (.cells A TF (0,0))∧A.size=n*2∧∀i,i<n*2→∃z:Int,A[i]? =some (.int .i64 z)
theorem oG.ne {w:World}{bS bO n:Nat}(h:oG w bS bO n):bS≠bO:=by
 rintro rfl;obtain⟨t0,t1,less,h1⟩:=h.s;obtain⟨A,h2,_⟩:=h.o;rw [h1]at h2;injection h2 with h2;injection h2 with _ h2;exact absurd h2 dc
theorem oG.keep {w w':World}{bS bO n:Nat}(h:oG w bS bO n)(k:Keep au w w'):oG w' bS bO n:=by
 obtain⟨⟨t0,t1,less,h1⟩,⟨A,h2,h3⟩⟩:=h;exact⟨⟨t0,t1,less,(k.block bS (lt_of_heap h1) fun _ h=>h).trans h1⟩,A,(k.block bO (lt_of_heap h2) fun _ h=>h).trans h2,h3⟩
theorem oG.cellO {w:World}{bS bO n:Nat}(h:oG w bS bO n){i:Nat}(hi:i<n*2):∃z:Int,w.cell? ⟨bO,i,none⟩=some (.int .i64 z):=by
 obtain⟨A,h2,h3,h4⟩:=h.o;obtain⟨z,hz⟩:=h4 i hi;exact⟨z,cell_of_heap h2 hz⟩
theorem ME.ints {w w':World}{b o:Nat}(a:ME b o w w'){A:Array Value}{t:TypeId}(h:w.heap[b]? =some (.cells A t (0,0))):∃A',w'.heap[b]? =some (.cells A' t (0,0))∧A'.size=A.size∧(∀i,i≠o→i≠o+1→A'[i]? =A[i]?)∧(∃z:Int,A'[o]? =some (.int .i64 z))∧∃z:Int,A'[o+1]? =some (.int .i64 z):=by
 obtain⟨A',h1,h2,h3⟩:=a.k.cells b A t (0,0) h;obtain⟨N,D,c0,c1⟩:=a.c;refine⟨A',h1,h2,fun i p q=>h3 i fun⟨_,hh⟩=>hh.elim p q,⟨N,?_⟩,D,?_⟩
 ·have:=c0;unfold World.cell? at this;simp only [h1]at this;simpa using this
 have:=c1;unfold World.cell? at this;simp only [h1]at this;simpa using this
theorem oG.addO {w w':World}{bS bO n k:Nat}(h:oG w bS bO n)(hk:k<n)(a:ME bO (k*2) w w'):oG w' bS bO n:=by
 have hne:=h.ne;obtain⟨⟨t0,t1,less,h1⟩,⟨A,h2,h3,h4⟩⟩:=h;refine⟨⟨t0,t1,less,(a.k.block bS (lt_of_heap h1) fun _ h=>hne h.1).trans h1⟩,?_⟩;obtain⟨A',q1,q2,q3,q4,q5⟩:=a.ints h2;refine⟨A',q1,by rw [q2,h3],fun i hi=> ?_⟩;by_cases e1:i=k*2
 ·subst e1;exact q4
 by_cases e2:i=k*2+1
 ·subst e2;exact q5
 rw [q3 i e1 e2];exact h4 i hi
theorem oG.addT {w w':World}{bS bO n:Nat}(h:oG w bS bO n)(a:ME bS 1 w w'):oG w' bS bO n:=by
 have hne:=h.ne;obtain⟨⟨t0,t1,less,h1⟩,⟨A,h2,h3⟩⟩:=h;obtain⟨A',q1,q2,q3,⟨z1,q4⟩,z2,q5⟩:=a.ints h1;refine⟨⟨z1,z2,less,?_⟩,A,(a.k.block bO (lt_of_heap h2) fun _ h=>hne h.1.symm).trans h2,h3⟩;rw [q1];congr 2;apply Array.ext_getElem?;intro i;by_cases e1:i=1
 ·subst e1;rw [q4];rfl
 by_cases e2:i=2
 ·subst e2;rw [q5];rfl
 rw [q3 i e1 e2]
 match i,e1,e2 with
 | 0,_,_=>rfl
 | 3,_,_=>rfl
 | j+4,_,_=>simp
theorem ME.keep {w0 w w':World}{b o:Nat}(a:ME b o w w')(k:Keep au w0 w)(hb:w0.heap.size≤b):Keep au w0 w':=k.trans a.k fun n i hn h=>absurd h.1 om
theorem Pm (w0 w:World)(bS bO n:Nat)(sv:Value)(of:List Int)(tt tn td:Int)(hk:Keep au w0 w)(h1:w0.heap.size≤bS)(h2:w0.heap.size≤bO)(hS:oG w bS bO n)(hi:aR w0 sv of)(hlen:of.length=n)(hfit:∀x∈of,fO x)(hto:fO tt)(hn:n≤12):
  Calls Tryz.prog 162 #[.pointer (some ⟨bS,0,none⟩),.agg #[sv,.int .i64 1,.int .i64 tt],.bool false,.agg #[.int .i64 tn,.int .i64 td]] w fun e w'=>MC e∧Keep au w0 w'∧oG w' bS bO n∧Keep (MU bO bS) w w':=by
 obtain⟨oo,co,rfl,_⟩:=hi.len;have HI:=zh hi;have HL:=zh hlen;have XU:=zh hfit;have HTO:=zh hto;have H1:=zh h1;have H2:=zh h2;obtain⟨w2,hw2⟩:∃w2:World,w2=(w.alloc (.cells #[.slice oo of.length co,.int .i64 1,.int .i64 tt] PL)).alloc (.cells #[.int .i64 tn,.int .i64 td] TF):=⟨_,rfl⟩;have k2:Keep au w w2:=by rw [hw2];exact((Keep.refl _ _).alloc _).alloc _
 have HB1:Hid (aL w2 w.heap.size #[.slice oo n co,.int .i64 1,.int .i64 tt]):=zh (by rw [hw2,hlen];exact aL.old (aN _ _ rfl) _);have HB2:Hid (aL w2 (w.heap.size+1) #[.int .i64 tn,.int .i64 td]):=zh (by rw [hw2];exact aN _ _ sm);have HS2:=zh (hS.keep k2);have kZ:Hid (w.heap.size≠bO∧w.heap.size+1≠bO∧w.heap.size≠bS∧w.heap.size+1≠bS):=zh (by
  obtain⟨_,_,_,q1⟩:=hS.s;obtain⟨_,q2,_⟩:=hS.o;have:=lt_of_heap q1;have:=lt_of_heap q2;omega)
 have K2:=zh (hk.both k2);have KW2:Hid (Keep (MU bO bS) w w2):=zh (k2.mono fun _ _ _ h=>h.elim);rw [hlen]at HI hw2 ⊢;clear hi hlen hfit hto h1 h2 hS k2 hk;go_enter Tryz.func162,Tryz.ntmps162;go_upto_region 1 with fail;rw [← hw2];clear hw2;generalize w.heap.size=b1 at *;have x0:w2.cell? ⟨b1,0,none⟩=some (.slice oo n co):=HB1.out.cell 0;have x1:w2.cell? ⟨b1,1,none⟩=some (.int .i64 1):=HB1.out.cell 1;have x2:w2.cell? ⟨b1,2,none⟩=some (.int .i64 tt):=HB1.out.cell 2;have xl:=HB1.out.lt;have y0:w2.cell? ⟨b1+1,0,none⟩=some (.int .i64 tn):=HB2.out.cell 0;have y1:w2.cell? ⟨b1+1,1,none⟩=some (.int .i64 td):=HB2.out.cell 1;have yl:=HB2.out.lt;go_quiet (fail);have kq:Keep au w2 (w2.drewN nq):=Keep.drewN (Keep.refl _ _) _;have HB1:=zh (HB1.out.keep kq);have HB2:=zh (HB2.out.keep kq);have HS2:=zh (HS2.out.keep kq);have K2:=zh (K2.out.both kq);have KW2:Hid (Keep (MU bO bS) w (w2.drewN nq)):=zh (KW2.out.trans kq fun _ _ _ h=>h.elim);clear kq x0 x1 x2 xl y0 y1 yl;generalize w2.drewN nq=w3 at *;have x0:w3.cell? ⟨b1,0,none⟩=some (.slice oo n co):=HB1.out.cell 0;have x1:w3.cell? ⟨b1,1,none⟩=some (.int .i64 1):=HB1.out.cell 1;have xl:=HB1.out.lt;have y0:w3.cell? ⟨b1+1,0,none⟩=some (.int .i64 tn):=HB2.out.cell 0;have yl:=HB2.out.lt;by_cases ht:tn<0
 case pos=>
  go_wp2;go_ret;exact⟨⟨_,rfl⟩,K2.out,HS2.out,KW2.out⟩
 go_wp2;clear x0 x1 y0 xl yl;go_loopw [34] (fun s wr=>∃k:Nat,k≤n∧s= .int .i64 k∧Keep au w0 wr∧oG wr bS bO n∧Keep (MU bO bS) w wr∧aL wr b1 #[.slice oo n co,.int .i64 1,.int .i64 tt]∧aL wr (b1+1) #[.int .i64 tn,.int .i64 td]) (fun s _=>(n-intOf s).toNat)
 case atStart=>exact⟨0,om,rfl,K2.out,HS2.out,KW2.out,HB1.out,HB2.out⟩
 obtain⟨k,hk,rfl,hk0,hs,yB,hb1,hb2⟩:=hrel;have KW:=zh yB;have K0:=zh hk0;have HS:=zh hs;have HB1:=zh hb1;have HB2:=zh hb2;clear hk0 hs yB hb1 hb2;by_cases hkl:k<n
 case pos=>
  have hlt:(k:Int)<(n:Int):=om;have ZY:k<of.length:=by rw [HL.out];exact hkl
  have YQ:=HI.out.keep K0.out;rw [← HL.out]at YQ;obtain⟨bi,fi,ci,WC,hbi,p0⟩:=YQ.at ZY;injection WC with q1 q2 q3;subst q1;have hx:=XU.out _ (List.getElem_mem ZY);generalize of[k]=x at *;unfold fO at hx;obtain⟨hx1,hx2⟩:=hx;clear YQ q2 q3;go_upto_region 11 with fail;obtain⟨t0,t1,less,hs0⟩:=HS.out.s;have x0:wr.cell? ⟨bS,0,none⟩=some (.slice (some ⟨bO,0,none⟩) n n):=cell_of_heap hs0 rfl;have xl:=lt_of_heap hs0;have y0:wr.cell? ⟨b1+1,0,none⟩=some (.int .i64 tn):=HB2.out.cell 0;have y1:wr.cell? ⟨b1+1,1,none⟩=some (.int .i64 td):=HB2.out.cell 1;have yl:=HB2.out.lt;clear p0 hbi;obtain⟨z0,hz0⟩:=HS.out.cellO (i:=k*2) om;obtain⟨z1,hz1⟩:=HS.out.cellO (i:=k*2+1) om;obtain⟨AO,Ym,_⟩:=HS.out.o;have CA:=zh (fun w' (q:Keep au wr w')=>MF w' bO (k*2) z0 z1 (IntKind.i64.wrap x) tn td ((q.cell (lt_of_heap Ym)).trans hz0) ((q.cell (lt_of_heap Ym)).trans hz1) (bJ (lt_of_heap Ym) q.size) fun i=>(q.frozen (lt_of_heap Ym)).trans (bE Ym));clear hs0 hz0 hz1 Ym;refine aD (fun w'=>Keep au wr w') [10,11] [([0,1,2,3,4,5,6,7,8,9],10)] [11] kr kr (Keep.refl _ _).drew ?_;intro X W hne hF hcl;have aY:=zh hcl;have u0:=fun x=>((hF x).cell xl).trans x0;have ul:=fun x=>bJ xl (hF x).size;have v0:=fun x=>((hF x).cell yl).trans y0;have v1:=fun x=>((hF x).cell yl).trans y1;have vl:=fun x=>bJ yl (hF x).size;clear hF hcl;simp only [aW,aJ,zl0,zl1,zl2,aX,Bool.false_eq_true,if_false]
  (repeat(quiet_step (fail)));refine wpQuiet_nil ?_
  refine ay rfl rfl fun K hK=> ?_;go_simp;refine(CA.out _ (Keep.refl _ _).drew).mono ?_;rintro e w5 ⟨⟨r,rfl⟩,ha⟩;refine hK _ _ ⟨fun h=>(by simp at h),?_⟩;clear hK aY
  (repeat(quiet_step (fail)));refine wpQuiet_nil ?_
  refine NoPanic.normal ?_;have kd:Keep au wr wr.drew:=(Keep.refl _ _).drew;have K5:=zh (ha.keep (K0.out.both kd) H2.out);have G5:=zh ((HS.out.keep kd).addO hkl ha);have KW5:Hid (Keep (MU bO bS) w w5):=zh ((KW.out.trans kd fun _ _ _ h=>h.elim).trans ha.k fun _ _ _ h=> .inl h.1);have hne1:b1≠bO:=kZ.out.1;have hne2:b1+1≠bO:=kZ.out.2.1;have LG:Hid (aL w5 b1 #[.slice (some ⟨bi,fi,none⟩) n co,.int .i64 1,.int .i64 tt]):=zh (by
   obtain⟨t,ht⟩:=HB1.out.keep kd;exact⟨t,(ha.k.block b1 (lt_of_heap ht) fun _ h=>hne1 h.1).trans ht⟩)
  have zfy:Hid (aL w5 (b1+1) #[.int .i64 tn,.int .i64 td]):=zh (by
   obtain⟨t,ht⟩:=HB2.out.keep kd;exact⟨t,(ha.k.block (b1+1) (lt_of_heap ht) fun _ h=>hne2 h.1).trans ht⟩)
  clear ha kd hne1 hne2 x0 xl y0 y1 yl u0 ul v0 v1 vl CA;cases r
  case false=>
   go_wp2;go_ret;exact⟨⟨_,rfl⟩,K5.out,G5.out,KW5.out⟩
  go_wp2;go_roundw
  case rel=>exact⟨k+1,om,by go_num,K5.out,G5.out,KW5.out,LG.out,zfy.out⟩
  simp [intOf];omega
 have hlt:¬(k:Int)<(n:Int):=om;obtain⟨t0,t1,less,hs0⟩:=HS.out.s;have x3:wr.cell? ⟨bS,3,none⟩=some (.bool less):=cell_of_heap hs0 rfl;have f3:wr.frozen? ⟨bS,3,none⟩=false:=bE hs0;have xl:=lt_of_heap hs0;have y0:wr.cell? ⟨b1+1,0,none⟩=some (.int .i64 tn):=HB2.out.cell 0;have yl:=HB2.out.lt;have HN3:=kZ.out;have hT:∀v:Bool,Hid (Keep au w0 (wr.setCell ⟨bS,3,none⟩ (.bool v))∧Keep (MU bO bS) w (wr.setCell ⟨bS,3,none⟩ (.bool v))∧oG (wr.setCell ⟨bS,3,none⟩ (.bool v)) bS bO n∧aL (wr.setCell ⟨bS,3,none⟩ (.bool v)) b1 #[.slice oo n co,.int .i64 1,.int .i64 tt]∧aL (wr.setCell ⟨bS,3,none⟩ (.bool v)) (b1+1) #[.int .i64 tn,.int .i64 td]):=fun v=>zh (by
  have hne:=HS.out.ne;refine⟨aQ K0.out _ H1.out,KW.out.setCell _ fun _=> .inr rfl,⟨⟨t0,t1,v,?_⟩,?_⟩,HB1.out.setOther 3 _ HN3.2.2.1,HB2.out.setOther 3 _ HN3.2.2.2⟩
  ·rw [Go.Joins.block_setCell hs0 _];simp
  obtain⟨A,h2,h3⟩:=HS.out.o;exact⟨A,(heap_setCell_other _ _ _ _ hne.symm).trans h2,h3⟩)
 clear hs0;have HTF:=hT false;have HTT:=hT true;clear hT;obtain⟨w6,hw6⟩:∃w6,w6=(if less=true then wr.setCell ⟨bS,3,none⟩ (.bool true)else wr.setCell ⟨bS,3,none⟩ (.bool false)):=⟨_,rfl⟩;have VL:Hid (Keep au w0 w6∧Keep (MU bO bS) w w6∧oG w6 bS bO n∧aL w6 b1 #[.slice oo n co,.int .i64 1,.int .i64 tt]∧aL w6 (b1+1) #[.int .i64 tn,.int .i64 td]):=zh (by rw [hw6];cases less;exact HTF.out;exact HTT.out);clear HTF HTT;cases less
 all_goals
  simp only [if_true,if_false,Bool.false_eq_true]at hw6;go_upto_region 15 with fail;rw [← hw6];clear hw6 x3 f3 xl y0 yl;obtain⟨k6,kw6,hs6,hb1,hb2⟩:=VL.out;have KW6:=zh kw6;have K6:=zh k6;have HS6:=zh hs6;obtain⟨t0,t1,less,hs0⟩:=hs6.s;have x2:w6.cell? ⟨b1,2,none⟩=some (.int .i64 tt):=hb1.cell 2;have xl:=hb1.lt;have y0:w6.cell? ⟨b1+1,0,none⟩=some (.int .i64 tn):=hb2.cell 0;have y1:w6.cell? ⟨b1+1,1,none⟩=some (.int .i64 td):=hb2.cell 1;have yl:=hb2.lt;have sl:=lt_of_heap hs0;have CA:=zh (fun w' (q:Keep au w6 w')=>MF w' bS 1 t0 t1 (IntKind.i64.wrap tt) tn td ((q.cell (lt_of_heap hs0)).trans (cell_of_heap (o:=1) hs0 rfl)) ((q.cell (lt_of_heap hs0)).trans (cell_of_heap (o:=2) hs0 rfl)) (bJ (lt_of_heap hs0) q.size) fun i=>(q.frozen (lt_of_heap hs0)).trans (bE hs0));clear k6 kw6 hs6 hb1 hb2 hs0 VL;refine aD (fun w'=>Keep au w6 w') [8,9] [([0,1,2,3,4,5,6,7],8)] [9] kr kr (Keep.refl _ _).drew ?_;intro X W hne hF hcl;have aY:=zh hcl;have u2:=fun x=>((hF x).cell xl).trans x2;have ul:=fun x=>bJ xl (hF x).size;have v0:=fun x=>((hF x).cell yl).trans y0;have v1:=fun x=>((hF x).cell yl).trans y1;have vl:=fun x=>bJ yl (hF x).size;have ql:=fun x=>bJ sl (hF x).size;clear hF hcl;simp only [aW,aJ,zl0,zl1,zl2,aX,Bool.false_eq_true,if_false]
  (repeat(quiet_step (fail)));refine wpQuiet_nil ?_
  refine ay rfl rfl fun K hK=> ?_;go_simp;refine(CA.out _ (Keep.refl _ _).drew).mono ?_;rintro e w7 ⟨⟨r,rfl⟩,ha⟩;refine hK _ _ ⟨fun h=>(by simp at h),?_⟩;clear hK aY
  (repeat(quiet_step (fail)));refine wpQuiet_nil ?_
  refine NoPanic.normal ?_;have kd:Keep au w6 w6.drew:=(Keep.refl _ _).drew;have K7:=zh (ha.keep (K6.out.both kd) H1.out);have Fw:=zh ((HS6.out.keep kd).addT ha);have KW7:Hid (Keep (MU bO bS) w w7):=zh ((KW6.out.trans kd fun _ _ _ h=>h.elim).trans ha.k fun _ _ _ h=> .inr h.1);clear ha kd x2 xl y0 y1 yl u2 ul v0 v1 vl sl ql CA;go_wp2;go_ret;refine⟨?_,K7.out,Fw.out,KW7.out⟩;exact⟨r,rfl⟩
def jsV (k:Int)(o:Option Addr)(n c:Nat)(on:Option Addr)(nn cn:Nat):Value:= .agg #[.int .i64 k,.slice o n c,.slice on nn cn,.int .i64 0,.int .i64 0,.int .i64 0,.slice none 0 0,.int .i64 0,.int .i64 0]
def EL (k:Int)(o:Option Addr)(n c:Nat)(on:Option Addr)(nn cn:Nat):Array Value:= #[.int .i64 k,.slice o n c,.slice on nn cn,.int .i64 0,.int .i64 0,.int .i64 0,.slice none 0 0,.int .i64 0,.int .i64 0]
theorem iT {w:World}{b:Nat}{k:Int}{o:Option Addr}{n c:Nat}{on:Option Addr}{nn cn:Nat}(h:aL w b (EL k o n c on nn cn)):w.cell? ⟨b,0,none⟩=some (.int .i64 k)∧w.cell? ⟨b,1,none⟩=some (.slice o n c)∧w.cell? ⟨b,2,none⟩=some (.slice on nn cn)∧w.cell? ⟨b,3,none⟩=some (.int .i64 0)∧w.cell? ⟨b,4,none⟩=some (.int .i64 0)∧w.cell? ⟨b,5,none⟩=some (.int .i64 0)∧w.cell? ⟨b,6,none⟩=some (.slice none 0 0)∧w.cell? ⟨b,7,none⟩=some (.int .i64 0)∧w.cell? ⟨b,8,none⟩=some (.int .i64 0)∧b<w.heap.size:=
 ⟨h.cell 0,h.cell 1,h.cell 2,h.cell 3,h.cell 4,h.cell 5,h.cell 6,h.cell 7,h.cell 8,h.lt⟩
theorem Ku (w:World)(b:Nat)(oa:Option Addr)(na ca:Nat)(k:Int)(o:Option Addr)(c:Nat)(on:Option Addr)(nn cn:Nat)(lits:List Int)(hk:k=1∧nn=0∨k=4)(hb:w.cell? ⟨b,2,none⟩=some (.slice oa na ca))(hl:b<w.heap.size)(hv:aR w (.slice o lits.length c) lits)(hc:lits.length≤c)(hok:lZ na lits)(hm:na≤1000):
  Calls Tryz.prog 95 #[.pointer (some ⟨b,0,none⟩),jsV k o lits.length c on nn cn] w fun e w'=>e= .returned (.bool true)∧Keep au w w':=by
 have CZ:=fun w'=>zh (Ud w');have CB:=zh (fun w' (k:Keep au w w')=>GQ na w' o c lits (hv.keep k) hc hok hm);have e9:=hk;obtain⟨w2,hw2⟩:∃w2:World,w2=w.alloc (.cells (EL k o lits.length c on nn cn) jc):=⟨_,rfl⟩;have K2:Keep au w w2:=by rw [hw2];exact(Keep.refl _ _).alloc _
 have B1:aL w2 w.heap.size (EL k o lits.length c on nn cn):=by rw [hw2];exact aN _ _ rfl
 obtain⟨x0,x1,x2,x3,x4,x5,x6,x7,x8,xl⟩:=iT B1;have y2:=(K2.cell (i:=2) hl).trans hb;have yl:=bJ hl K2.size;have Ay:=zh K2;unfold EL at hw2;generalize lits.length=n at *;clear K2 B1 hb hv hc hok hm hl hk;unfold jsV;have h9:(nn:Int)=nn:=rfl;rcases e9 with⟨rfl,rfl⟩ | rfl
 all_goals
  go_enter Tryz.func95,Tryz.ntmps95;go_upto_region 1 with fail;rw [← hw2];clear hw2;generalize w.heap.size=g at *;go_wp2_with fail;refine(CZ _).out.mono ?_;rintro e w3 ⟨rfl,hk3⟩;have K3:=zh (Ay.out.both hk3);have x1:=(hk3.cell xl).trans x1;have x0:=(hk3.cell xl).trans x0;have y2:=(hk3.cell yl).trans y2;have xl:=bJ xl hk3.size;have yl:=bJ yl hk3.size;clear hk3 CZ x2;go_upto_region 5 with fail;refine aD (fun w'=>Keep au w3 w') [] [([0,1,2,3,4,5,6,7],8)] [9,10,11,12,13] kr kr (Keep.refl _ _).drew ?_;intro X W hne hF hcl;have aY:=zh hcl;have z1:=fun x=>((hF x).cell xl).trans x1;have z2:=fun x=>((hF x).cell yl).trans y2;have zl:=fun x=>bJ xl (hF x).size;have zm:=fun x=>bJ yl (hF x).size;clear hF hcl;simp only [aW,aJ,zl0,zl1,zl2,aX,Bool.false_eq_true,if_false]
  (repeat(quiet_step (fail)));refine wpQuiet_nil ?_
  refine ay rfl rfl fun K hK=> ?_;go_simp;refine(CB.out _ (Keep.both K3.out kp)).mono ?_;rintro e w4 ⟨rfl,hk⟩;have k4:Keep au w3 w4:=Keep.both (Keep.refl _ _).drew hk;refine hK _ _ ⟨fun _=>aY.out _ k4,?_⟩;clear hK K hk
  (repeat(quiet_step (fail)));refine wpQuiet_nil ?_
  refine NoPanic.normal ?_;go_wp2;go_ret;exact⟨rfl,K3.out.both k4⟩
theorem MG (w:World)(n:Nat)(hn:n≤1000):∃w',(Instr.makeSlice 41 (.int .i64 (n:Int)) (.int .i64 (n:Int))).run Tryz.prog w= .ok (.slice (some ⟨w.heap.size,0,none⟩) n n) w'∧(∃A:Array Value,w'.heap[w.heap.size]? =some (.cells A TF (0,0))∧A.size=n*2∧∀i,i<n*2→∃z:Int,A[i]? =some (.int .i64 z))∧Keep au w w':=by
 obtain⟨i0,hi0,hz0,hz1,hz2⟩:=info_parts PK;obtain⟨w',hr,ho,hg⟩:=run_make_full (P:=Tryz.prog) w w.heap.size 41 TF i0 (.agg #[.int .i64 0,.int .i64 0]) 2 Tryz.underlying41 hi0 hz0 hz1 .i64 .i64 n (by rw [hz2];omega) (by unfold maxLen;omega) (Nat.le_refl _);refine⟨w',hr,?_,Keep.of_below (dB hg w.heap.size (Nat.le_refl _) sm) (Nat.le_refl _)⟩;obtain⟨hl,h | ⟨g,cap,cur,hv,hb,hgg,hl',hm,hs,ht⟩⟩:=ho
 ·cases h.1
 cases hv;refine⟨cur,hgg,hs,fun i hi=> ?_⟩;have e2:cur.toList.take (n*2)=cur.toList:=List.take_of_length_le (by rw [Array.length_toList,hs];omega);rw [e2]at ht;have:cur[i]? =(madeCells (Value.agg #[Value.int .i64 0,Value.int .i64 0]).cells (n*2)).toList[i]? :=by rw [← ht,Array.getElem?_toList]
 rw [this];refine⟨0,?_⟩;have hm2:i%2=0∨i%2=1:=om;rcases hm2 with h2 | h2<;>simp [madeCells,Value.cells,hi,h2]
structure oH (w:World)(bO n:Nat):Prop where
 o:∃A:Array Value,w.heap[bO]? =some (.cells A TF (0,0))∧A.size=n*2∧∀i,i<n*2→∃z:Int,A[i]? =some (.int .i64 z)
theorem oH.cell {w:World}{bO n:Nat}(h:oH w bO n){i:Nat}(hi:i<n*2):(∃z:Int,w.cell? ⟨bO,i,none⟩=some (.int .i64 z))∧bO<w.heap.size:=by
 obtain⟨A,h2,h3,h4⟩:=h.o;obtain⟨z,hz⟩:=h4 i hi;exact⟨⟨z,cell_of_heap h2 hz⟩,lt_of_heap h2⟩
theorem oH.keep {w w':World}{bO n:Nat}(h:oH w bO n)(k:Keep au w w'):oH w' bO n:=by
 obtain⟨A,h2,h3⟩:=h.o;exact⟨A,(k.block bO (lt_of_heap h2) fun _ h=>h).trans h2,h3⟩
theorem Pn (w:World)(n d:Int):Calls Tryz.prog 164 #[.agg #[.int .i64 n,.int .i64 d]] w fun e w'=>MC e∧Keep au w w':=by
 go_enter Tryz.func164,Tryz.ntmps164;go_wp2;go_ret;exact⟨⟨_,rfl⟩,kp⟩
def zea (n:Nat)(e:Ending):Prop:=∃z:Int,e= .returned (.int .i64 z)
theorem MH (w:World)(bO n:Nat)(h:oH w bO n)(hn:n≤1000):Calls Tryz.prog 91 #[.slice (some ⟨bO,0,none⟩) n n,.func (.func 164) #[] #[]] w fun e w'=>zea n e∧Keep au w w':=by
 have HN:=zh h;have e2:=fun a w=>(show Sem.run Tryz.prog (callFunc 164 a) w= .ok (.enter 164 a) w from kr);have CC:=fun w a b=>zh (Pn w a b);clear h;go_enter Tryz.func91,Tryz.ntmps91;go_wp2;go_loopw [8] (fun s wr=>∃k:Nat,k≤n∧s= .int .i64 k∧Keep au w wr) (fun s _=>(n-intOf s).toNat)
 case atStart=>exact⟨0,om,rfl,Keep.refl _ _⟩
 obtain⟨k,hk,rfl,hkr⟩:=hrel;have dH:=zh hkr;clear hkr;by_cases hkl:k<n
 ·have hlt:(k:Int)<(n:Int):=om;obtain⟨⟨gn,p0⟩,hbl⟩:=(HN.out.keep dH.out).cell (i:=k*2) om;obtain⟨⟨gd,p1⟩,_⟩:=(HN.out.keep dH.out).cell (i:=k*2+1) om;go_wp2_with fail;refine(CC _ _ _).out.mono ?_;rintro e w4 ⟨⟨r,rfl⟩,hk4⟩;have K4:=zh (dH.out.both hk4);clear hk4 p0 p1;cases r
  ·go_wp2;go_roundw
   case rel=>exact⟨k+1,om,by go_num,K4.out⟩
   simp [intOf];omega
  go_wp2;go_ret;exact⟨⟨_,rfl⟩,K4.out⟩
 have hlt:¬(k:Int)<(n:Int):=om;go_wp2;go_ret;exact⟨⟨_,rfl⟩,dH.out⟩
theorem Uf (w:World)(bO n:Nat)(h:oH w bO n)(hn:n≤1000):Calls Tryz.prog 163 #[.slice (some ⟨bO,0,none⟩) n n,.func (.func 164) #[] #[]] w fun e w'=>MC e∧Keep au w w':=by
 have CC:=zh (MH w bO n h hn);clear h;go_enter Tryz.func163,Tryz.ntmps163;go_wp2_with fail;refine CC.out.mono ?_;rintro e w4 ⟨⟨z,rfl⟩,hk4⟩;have K4:=zh hk4;clear hk4;go_wp2;go_ret;exact⟨⟨_,rfl⟩,K4.out⟩
theorem MI {atoms:List GA}{l:Int}(h0:l≠0)(hn:l.natAbs≤atoms.length):kV atoms l∈atoms:=by
 unfold kV;have hk:l.natAbs-1<atoms.length:=om;rw [dV,eD hk];exact List.getElem_mem hk
theorem oH.set {w:World}{bO n i:Nat}(h:oH w bO n)(z:Int):oH (w.setCell ⟨bO,i,none⟩ (.int .i64 z)) bO n:=by
 obtain⟨A,h2,h3,h4⟩:=h.o;refine⟨A.setIfInBounds i (.int .i64 z),by rw [Go.Joins.block_setCell h2 _],by simpa using h3,fun j hj=> ?_⟩;by_cases e:i=j
 ·subst e;exact⟨z,by rw [Array.getElem?_setIfInBounds_self_of_lt om]⟩
 rw [Array.getElem?_setIfInBounds_ne e];exact h4 j hj
theorem RV (w:World)(b:Nat)(L:jZ)(f:GF)(vc:Value)(o:Option Addr)(c:Nat)(on:Option Addr)(cn m:Nat)(lits:List Int)(nums:List Fq)(hb:aL w b #[.slice none 0 0,.slice L.oi f.n L.ci,.slice L.oa f.atoms.length L.ca,.slice L.oc f.cls.length L.cc,vc])(hF:qm w L f)(hok:rQ f)(h3:∀a∈f.atoms,a.k=3)(hv:aR w (.slice o m c) lits)(hvl:lits.length=m)(hn:dM w (.slice on m cn) nums)(hnl:nums.length=m)(hfo:∀g∈nums,bF g.N g.D)(KG:∀l∈lits,l<0∧l.natAbs≤f.atoms.length)(hm:m≤1000):
  Calls Tryz.prog 98 #[.pointer (some ⟨b,0,none⟩),jsV 4 o m c on m cn] w fun e w'=>MC e∧Keep au w w':=by
 have hn20:=hok.n;have CL:=zh (fun w' (k:Keep au w w')=>Yl w' b L.oa L.ca f.atoms 3 (.slice o m c) lits ((k.cell hb.lt).trans (hb.cell 2)) (bJ hb.lt k.size) (hF.a.keep k) (hv.keep k) (fun l hl=>by have:=KG l hl;omega) om);have hall:(lits.all fun l=>decide ((kV f.atoms l).k=3))=true:=List.all_eq_true.2 fun l hl=>decide_eq_true (h3 _ (MI (by have:=(KG l hl).1;omega) (KG l hl).2));rw [hall]at CL;have CT:=zh (fun w' (k:Keep au w w') l (hl:l∈lits)=>Gy w' b L.oa L.ca f.atoms l ((k.cell hb.lt).trans (hb.cell 2)) (bJ hb.lt k.size) (hF.a.keep k) (by have:=KG l hl;omega) (KG l hl).2 om);have zeb:=zh (fun l (hl:l∈lits)=>(show Uy w (kV f.atoms l)∧(kV f.atoms l).r.of.length=f.n∧(kV f.atoms l).r.kind=1∧iA (kV f.atoms l).r (f.n:Int)from by
  have hm:=MI (atoms:=f.atoms) (l:=l) (by have:=(KG l hl).1;omega) (KG l hl).2;refine⟨hF.a.mem _ hm,?_⟩;rcases hok.a _ hm with⟨h,_⟩ | ⟨h,h1,h2,_,h4⟩
  ·have:=h3 _ hm;omega
  exact⟨h2,h1,h4⟩))
 have HV:=zh hv;have HN:=zh hn;have HFO:=zh hfo;have HLI:=zh (fun l hl=>(KG l hl).1);have hn12:=hok.n12;have HB:=zh hb;have HVL:=zh hvl;have YT:=zh hnl;obtain⟨w2,hw2⟩:∃w2:World,w2=w.alloc (.cells (EL 4 o m c on m cn) jc):=⟨_,rfl⟩;have K2:Hid (Keep au w w2):=zh (by rw [hw2];exact(Keep.refl _ _).alloc _);have B1:Hid (aL w2 w.heap.size (EL 4 o m c on m cn)):=zh (by rw [hw2];exact aN _ _ rfl);have XI:=zh (Nat.le_refl w.heap.size);unfold jsV;unfold EL at hw2;obtain⟨n,hn'⟩:∃n,f.n=n:=⟨_,rfl⟩;rw [hn']at zeb hn12 HB;clear hb hF hok h3 hv hvl hn hnl hfo KG hall hn' hn20;go_enter Tryz.func98,Tryz.ntmps98;go_upto_region 1 with fail;rw [← hw2];clear hw2;generalize hg:w.heap.size=g at *;have HG:=zh hg;clear hg;obtain⟨x0,x1,x2,x3,x4,x5,x6,x7,x8,xl⟩:=iT B1.out;have CL:=zh (CL.out w2 K2.out);go_wp2_with fail;refine CL.out.mono ?_;rintro e w3 ⟨rfl,hk3⟩;have K3:=zh (K2.out.both hk3);have B3:=zh (B1.out.keep hk3);clear hk3 CL x0 x1 x2 x3 x4 x5 x6 x7 x8 xl;obtain⟨x0,x1,x2,x3,x4,x5,x6,x7,x8,xl⟩:=iT B3.out;have bI:w3.cell? ⟨b,1,none⟩=some (.slice L.oi n L.ci):=(HB.out.keep K3.out).cell 1;have bl:=(HB.out.keep K3.out).lt;obtain⟨w4,hr4,hA4,hk4⟩:=MG w3 n om;have kS:Keep au w4 (w4.alloc (.cells #[.slice (some ⟨w3.heap.size,0,none⟩) n n,.int .i64 0,.int .i64 1,.bool false] TSm)):=(Keep.refl _ _).alloc _;have G5:Hid (oG (w4.alloc (.cells #[.slice (some ⟨w3.heap.size,0,none⟩) n n,.int .i64 0,.int .i64 1,.bool false] TSm)) w4.heap.size w3.heap.size n):=zh ⟨⟨0,1,false,aK _ _ _ rfl⟩,by
  obtain⟨A,h1,h2⟩:=hA4;exact⟨A,(kS.block _ (lt_of_heap h1) fun _ h=>h).trans h1,h2⟩⟩
 have K5:=zh ((K3.out.both hk4).both kS);have B5:=zh ((B3.out.keep hk4).keep kS);have Jq:=zh (K3.out.size);have HS2:=zh (K3.out.both hk4).size;clear hk4 kS hA4;go_upto_region 4 with fail;have HSO:Hid (w3.heap.size<w4.heap.size):=zh (by have:=G5.out.ne;obtain⟨A,h,_⟩:=G5.out.o;have:=lt_of_heap h;simp at this;omega);have EO:Hid (g≠w3.heap.size∧g≠w4.heap.size):=zh (by have h1:=B3.out.lt;have h2:=HSO.out;omega);generalize w4.alloc (.cells #[.slice (some ⟨w3.heap.size,0,none⟩) n n,.int .i64 0,.int .i64 1,.bool false] TSm)=w5 at *;generalize w3.heap.size=bO at *;generalize w4.heap.size=bS at *;clear x0 x1 x2 x3 x4 x5 x6 x7 x8 xl bI bl hr4;obtain⟨t0,t1,less,hs0⟩:=G5.out.s;have y0:w5.cell? ⟨bS,0,none⟩=some (.slice (some ⟨bO,0,none⟩) n n):=cell_of_heap hs0 rfl;have yl:=lt_of_heap hs0;clear hs0;go_wp2;clear y0 yl;go_loopw [38] (fun s wr=>∃k:Nat,k≤n∧s= .int .i64 k∧Keep au w wr∧oG wr bS bO n∧aL wr g (EL 4 o m c on m cn)) (fun s _=>(n-intOf s).toNat)
 case atStart=>exact⟨0,om,rfl,K5.out,G5.out,B5.out⟩
 obtain⟨k,hk,rfl,hk0,hs,hb1⟩:=hrel;have KR:=zh hk0;have qJ:=zh hs;have BR:=zh hb1;clear hk0 hs hb1;by_cases hkl:k<n
 case pos=>
  have hlt:(k:Int)<(n:Int):=om;obtain⟨t0,t1,less,hs0⟩:=qJ.out.s;have y0:wr.cell? ⟨bS,0,none⟩=some (.slice (some ⟨bO,0,none⟩) n n):=cell_of_heap hs0 rfl;have yl:=lt_of_heap hs0;obtain⟨AO,Ym,hA2⟩:=qJ.out.o;have ol:=lt_of_heap Ym;have of1:wr.frozen? ⟨bO,k*2+1,none⟩=false:=bE Ym;obtain⟨z1,hz1⟩:=qJ.out.cellO (i:=k*2+1) om;have HSN:Hid (oG (wr.setCell ⟨bO,k*2+1,none⟩ (.int .i64 1)) bS bO n):=zh ⟨⟨t0,t1,less,(heap_setCell_other _ _ _ _ qJ.out.ne).trans hs0⟩,(oH.set ⟨AO,Ym,hA2⟩ 1).o⟩;have KN:Hid (Keep au w (wr.setCell ⟨bO,k*2+1,none⟩ (.int .i64 1))):=zh (aQ KR.out _ Jq.out);have BN:Hid (aL (wr.setCell ⟨bO,k*2+1,none⟩ (.int .i64 1)) g (EL 4 o m c on m cn)):=zh (BR.out.setOther _ _ EO.out.1);clear hs0 Ym hA2;go_wp2;go_roundw
  case rel=>exact⟨k+1,om,by go_num,KN.out,HSN.out,BN.out⟩
  simp [intOf];omega
 have hlt:¬(k:Int)<(n:Int):=om;obtain⟨w6,hw6⟩:∃W:World,W=wr:=⟨_,rfl⟩;subst hw6;have x1:w6.cell? ⟨g,1,none⟩=some (.slice o m c):=BR.out.cell 1;have xl:=BR.out.lt;go_wp2;clear x1 xl;go_loopw [52] (fun s wr=>∃k:Nat,k≤m∧s= .int .i64 k∧Keep au w wr∧oG wr bS bO n∧aL wr g (EL 4 o m c on m cn)) (fun s _=>(m-intOf s).toNat)
 case atStart=>exact⟨0,om,rfl,KR.out,qJ.out,BR.out⟩
 obtain⟨k,hk,rfl,hk0,hs,hb1⟩:=hrel;have KR:=zh hk0;have qJ:=zh hs;have BR:=zh hb1;clear hk0 hs hb1;by_cases hkl:k<m
 case pos=>
  have hlt:(k:Int)<(m:Int):=om;have ZY:k<lits.length:=by rw [HVL.out];exact hkl
  have hkN:k<nums.length:=by rw [YT.out];exact hkl
  have YQ:=HV.out.keep KR.out;rw [← HVL.out]at YQ;obtain⟨bi,fi,ci,WC,hbi,p0⟩:=YQ.at ZY;injection WC with q1 q2 q3;obtain⟨bn,fn,hon,hbn,n0,n1⟩:=(HN.out.keep KR.out).at hkN;have hfx:=HFO.out _ (List.getElem_mem hkN);have hlm:=List.getElem_mem ZY;subst q1 hon;generalize lits[k]=l at *;generalize nums[k]=gq at *;clear YQ q2 q3;go_upto_region 12 with fail;have x1:wr.cell? ⟨g,1,none⟩=some (.slice _ m c):=BR.out.cell 1;have x2:wr.cell? ⟨g,2,none⟩=some (.slice (some ⟨bn,fn,none⟩) m cn):=BR.out.cell 2;have xl:=BR.out.lt;have CK:=fun w=>zh (mR gq.N gq.D w hfx);have hl0:=HLI.out l hlm;have e0:decide (0<l)=false:=bQ om;obtain⟨r1,r2,r3,r4⟩:=zeb.out l hlm;have CA:=zh (fun w' (k:Keep au w w')=>CT.out w' k l hlm);have CS:=zh (fun w' (k0:Keep au w w') (hS:oG w' bS bO n)=>Pm w w' bS bO n (.slice (kV f.atoms l).o (kV f.atoms l).r.of.length (kV f.atoms l).c) (kV f.atoms l).r.of (kV f.atoms l).r.to gq.N gq.D k0 HS2.out Jq.out hS r1.1 r2 r4.fit r4.fto hn12);unfold gaV at CA;rw [r3]at CA;clear p0 hbi hfx hlm r1 r2 r3 r4 CT;generalize (kV f.atoms l).r.of.length=al at *;generalize (kV f.atoms l).r.to=att at *;generalize (kV f.atoms l).o=ao at *;generalize (kV f.atoms l).c=ac at *;generalize (kV f.atoms l).k=akk at *;generalize gq.N=qN at *;generalize gq.D=qD at *;refine wN (fun w'=>Keep au wr w') [21,22,23] [([0,1,2,3,4],5),([6,7,8,9,10,11,14,15,16,17,18,19,20],12),([13],21)] [22,23] kr kr (Keep.refl _ _).drew ?_;intro X W hne hF hcl;have aY:=zh hcl;have u1:=fun x=>((hF x).cell xl).trans x1;have u2:=fun x=>((hF x).cell xl).trans x2;have ul:=fun x=>bJ xl (hF x).size;have v0:=fun x=>((hF x).cell hbn).trans n0;have v1:=fun x=>((hF x).cell hbn).trans n1;have vl:=fun x=>bJ hbn (hF x).size;clear hF hcl;simp only [aW,aJ,zl0,zl1,zl2,aX,Bool.false_eq_true,if_false]
  (repeat(quiet_step (fail)));refine wpQuiet_nil ?_
  refine ay rfl rfl fun K hK=> ?_;go_simp;refine(CK _).out.mono ?_;rintro e w7 ⟨rfl,hb7⟩;have k7:Keep au wr w7:=Keep.both (Keep.refl _ _).drew (Keep.of_below hb7 (Nat.le_refl _));refine hK _ _ ⟨fun _=>aY.out _ k7,?_⟩;clear hK hb7
  (repeat(quiet_step (fail)));refine wpQuiet_nil ?_
  refine E9 rfl rfl fun K hK=> ?_;go_simp;refine(CA.out _ (KR.out.both k7)).mono ?_;rintro e w8 ⟨rfl,hk8⟩;have k8:Keep au wr w8:=k7.both hk8;refine hK _ _ ⟨fun _=>aY.out _ k8,?_⟩;clear hK hk8 k7
  (repeat(quiet_step (fail)));refine wpQuiet_nil ?_
  refine E9 rfl rfl fun K hK=> ?_;go_simp;refine(CS.out _ (KR.out.both k8) (qJ.out.keep k8)).mono ?_;rintro e w9 ⟨⟨r,rfl⟩,hk9,hs9,hw9⟩;refine hK _ _ ⟨fun h=>(by simp at h),?_⟩;clear hK aY
  (repeat(quiet_step (fail)));refine wpQuiet_nil ?_
  refine NoPanic.normal ?_;have K9:=zh hk9;have MR:=zh hs9;have B9:Hid (aL w9 g (EL 4 _ m c _ m cn)):=zh ((BR.out.keep k8).keep2 hw9 EO.out.1 EO.out.2);clear hk9 hs9 hw9 k8 CK CA CS u1 u2 ul v0 v1 vl x1 x2 xl n0 n1 hbn;cases r
  case false=>
   go_wp2;go_ret;exact⟨⟨_,rfl⟩,K9.out⟩
  go_wp2;go_roundw
  case rel=>exact⟨k+1,om,by go_num,K9.out,MR.out,B9.out⟩
  simp [intOf];omega
 have hlt:¬(k:Int)<(m:Int):=om;obtain⟨t0,t1,less,hs0⟩:=qJ.out.s;have y0:wr.cell? ⟨bS,0,none⟩=some (.slice (some ⟨bO,0,none⟩) n n):=cell_of_heap hs0 rfl;have yl:=lt_of_heap hs0;have CA:=zh (Uf wr bO n ⟨qJ.out.o⟩ om);go_wp2_with fail;refine CA.out.mono ?_;rintro e w7 ⟨⟨r,rfl⟩,hk7⟩;have K7:=zh (KR.out.both hk7);have z1:w7.cell? ⟨bS,1,none⟩=some (.int .i64 t0):=(hk7.cell yl).trans (cell_of_heap hs0 rfl);have z3:w7.cell? ⟨bS,3,none⟩=some (.bool less):=(hk7.cell yl).trans (cell_of_heap hs0 rfl);have zl:=bJ yl hk7.size;clear hk7 hs0 y0 yl CA;cases r
 case true=>
  go_wp2;go_ret;exact⟨⟨_,rfl⟩,K7.out⟩
 by_cases h1:t0<0
 ·go_wp2;go_ret;exact⟨⟨_,rfl⟩,K7.out⟩
 by_cases h2:t0=0
 ·subst h2;cases less
  ·go_wp2;go_ret;exact⟨⟨_,rfl⟩,K7.out⟩
  go_wp2;go_ret;exact⟨⟨_,rfl⟩,K7.out⟩
 have e2:(t0==0)=false:=by rw [beq_eq_false_iff_ne];exact h2
 go_wp2;go_ret;exact⟨⟨_,rfl⟩,K7.out⟩
end Go.Proofs.YtmepglhdcphffaaGreat
