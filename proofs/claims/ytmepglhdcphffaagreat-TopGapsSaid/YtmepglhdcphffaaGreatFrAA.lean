/- Contract of frac.Make. Contracts of package frac's operations: checked, apply, Add, Sub, Times, Over, Less, Floor. Contracts of frac.apply at its four operations. -/
import Derived.Test.YtmepglhdcphffaaGreatBaseA
namespace Go.Proofs.YtmepglhdcphffaaGreat
set_option maxHeartbeats 16000000
set_option maxRecDepth 100000
set_option linter.unusedSimpArgs false
set_option linter.unusedVariables false
open Go.ChangeShapes Go.WideShapes Go.RowKit
theorem VQ (num den:Int)(w:World)(h1: -9223372036854775808≤num)(h2:num≤9223372036854775807)(h3: -9223372036854775808≤den)(h4:den≤9223372036854775807):
  Calls Tryz.prog 279 #[.int .i64 num,.int .i64 den] w fun e w'=>e= .returned (nE num den)∧Below w.heap.size w w':=by
 by_cases h0:den=0
 ·subst h0;have hv:nE num 0= .tuple #[.agg #[.int .i64 0,.int .i64 0],.agg #[.int .i64 6,.int .i64 0]]:=by simp [nE,mN,mD,mC,wM,dN]
  rw [hv];clear hv;go_enter Tryz.func279,Tryz.ntmps279;go_wp2;go_returns;exact⟨rfl,by(repeat' (first | (with_reducible exact Below.refl _ _) | (with_reducible assumption) | (with_reducible refine Below.alloc ?_ ?_ _) | (with_reducible refine Below.setCell ?_ ?_ _) | (with_reducible refine below_drewN ?_ _) | (with_reducible refine Below.drew ?_) | go_size))⟩
 have e0:(den==0)=false:=by simpa using h0
 have hgp:0<Nat.gcd num.natAbs den.natAbs:=Nat.gcd_pos_of_pos_right _ om;have HA:Hid (IntKind.u64.wrap ((num.natAbs:Int)/((Nat.gcd num.natAbs den.natAbs:Nat):Int))=(mA num den:Nat)):=zh (yD _ _ om);have HB:Hid (IntKind.u64.wrap ((den.natAbs:Int)/((Nat.gcd num.natAbs den.natAbs:Nat):Int))=(mB num den:Nat)):=zh (yD _ _ om);have hg0:((Nat.gcd num.natAbs den.natAbs:Nat):Int)≠0:=om;by_cases hf:PY num den
 focus
  have hf':=hf;obtain⟨f1,f2⟩:=hf';have c1:decide (1073741824<(mA num den:Int))=false:=bQ om;have c2:decide (1073741824<(mB num den:Int))=false:=bQ om;have hC:mC num den=0:=by unfold mC;rw [if_neg h0,if_pos hf]
  by_cases sn:num<0<;>by_cases sd:den<0
  focus
   have b1:=cZ sn;have b2:=cZ sd;have HV:Hid (nE num den= .tuple #[.agg #[.int .i64 (mA num den),.int .i64 (mB num den)],.agg #[.int .i64 0,.int .i64 0]]):=zh (by simp [nE,mN,mD,hC,wM,dN,sn,sd])
  rotate_left
  focus
   have b1:=cZ sn;have b2:=bQ sd;have HV:Hid (nE num den= .tuple #[.agg #[.int .i64 (-(mA num den:Int)),.int .i64 (mB num den)],.agg #[.int .i64 0,.int .i64 0]]):=zh (by simp [nE,mN,mD,hC,wM,dN,sn];omega)
  rotate_left
  focus
   have b1:=bQ sn;have b2:=cZ sd;have HV:Hid (nE num den= .tuple #[.agg #[.int .i64 (-(mA num den:Int)),.int .i64 (mB num den)],.agg #[.int .i64 0,.int .i64 0]]):=zh (by simp [nE,mN,mD,hC,wM,dN,sd];omega)
  rotate_left
  focus
   have b1:=bQ sn;have b2:=bQ sd;have HV:Hid (nE num den= .tuple #[.agg #[.int .i64 (mA num den),.int .i64 (mB num den)],.agg #[.int .i64 0,.int .i64 0]]):=zh (by simp [nE,mN,mD,hC,wM,dN,sn,sd])
  rotate_left
  all_goals
   clear hf hC sn sd
 rotate_left 4
 focus
  have hC:mC num den=10:=by unfold mC;rw [if_neg h0,if_neg hf]
  have HV:Hid (nE num den= .tuple #[.agg #[.int .i64 0,.int .i64 0],.agg #[.int .i64 10,.int .i64 0]]):=zh (by simp [nE,mN,mD,hC,wM,dN]);clear hC;by_cases f1:mA num den≤1073741824
  focus
   have c1:decide (1073741824<(mA num den:Int))=false:=bQ om;have c2:decide (1073741824<(mB num den:Int))=true:=cZ (by have:¬mB num den≤1073741824:=fun h=>hf ⟨f1,h⟩;omega)
  rotate_left
  focus
   have c1:decide (1073741824<(mA num den:Int))=true:=cZ om
  rotate_left
  all_goals
   clear hf
 rotate_left 2
 all_goals
  go_enter Tryz.func279,Tryz.ntmps279;go_wp2_with (first | (go_at_call 151;refine(Cy _ _ om om).mono ?_;rintro e w' ⟨rfl,rfl⟩) | (go_at_call 150;refine(Ih _ _ _ om om).mono ?_;rintro e w' ⟨rfl,nq,rfl⟩));go_quiet (fail);rw [HA.out,HB.out];go_wp2;go_returns;exact⟨by rw [HV.out],by(repeat' (first | (with_reducible exact Below.refl _ _) | (with_reducible assumption) | (with_reducible refine Below.alloc ?_ ?_ _) | (with_reducible refine Below.setCell ?_ ?_ _) | (with_reducible refine below_drewN ?_ _) | (with_reducible refine Below.drew ?_) | go_size))⟩
theorem Aw (w:World)(g:Nat)(n1 d1 n2 d2:Int)(c0:w.cell? ⟨g,0,none⟩=some (.int .i64 n1))(c1:w.cell? ⟨g,1,none⟩=some (.int .i64 d1))(c2:w.cell? ⟨g,2,none⟩=some (.int .i64 n2))(c3:w.cell? ⟨g,3,none⟩=some (.int .i64 d2)):
  Calls Tryz.prog 278 #[.slice (some ⟨g,0,none⟩) 2 2] w fun e w'=>e= .returned (dN (NJ n1 d1 n2 d2) (PZ n1 d1 n2 d2))∧Keep au w w':=by
 have hg:g<w.heap.size:=World.block_lt_of_cell? w _ c0;by_cases h1:bF n1 d1
 ·by_cases h2:bF n2 d2
  focus
   have E:Hid (dN (NJ n1 d1 n2 d2) (PZ n1 d1 n2 d2)=dN 0 0):=zh (by simp [NJ,PZ,h1,h2]);have H1:=zh h1;have H2:=zh h2;clear h1 h2;go_enter Tryz.func278,Tryz.ntmps278;go_wp2_with fail;refine wp_loop_rounds 3 ?_;rw [rounds_succ];go_wp2_with fail;refine(mR n1 d1 _ H1.out).mono ?_;rintro e w1 ⟨rfl,hb1⟩;obtain⟨hsz,b1,b2,f1,f2,hk⟩:=blocks2 (Below.keep hb1);have c2':=(hk.cell hg).trans c2;have c3':=(hk.cell hg).trans c3;have r0:=b1 0;have r1:=b1 1;have g0:=f1 0;have g1:=f1 1;simp at r0 r1;have hs1:w.heap.size<w1.heap.size:=om;have hg1:g<w1.heap.size:=om;have n1':¬w1.heap.size=w.heap.size:=om;have HK:=zh hk;clear b1 b2 f1 f2 hb1 hk c0 c1 c2 c3;go_wp2_with fail;rw [rounds_succ];go_wp2_with fail;refine(mR n2 d2 _ H2.out).mono ?_;rintro e w2 ⟨rfl,hb2⟩;have k2:Keep au w1 w2:=((Keep.refl au w1).alloc _).trans (Below.keep hb2) fun _ _ _ h=>h;have r0':=(k2.cell hs1).trans r0;have r1':=(k2.cell hs1).trans r1;have g0':=(k2.frozen hs1).trans g0;have g1':=(k2.frozen hs1).trans g1;have Ay:=zh (HK.out.trans k2 fun _ _ _ h=>h);clear HK hb2 k2 r0 r1 g0 g1;go_wp2_with fail;rw [rounds_succ]
  rotate_left
  focus
   have E:Hid (dN (NJ n1 d1 n2 d2) (PZ n1 d1 n2 d2)=dN 3 1):=zh (by simp [NJ,PZ,h1,h2]);have H1:=zh h1;have H2:=zh h2;clear h1 h2;go_enter Tryz.func278,Tryz.ntmps278;go_wp2_with fail;refine wp_loop_rounds 3 ?_;rw [rounds_succ];go_wp2_with fail;refine(mR n1 d1 _ H1.out).mono ?_;rintro e w1 ⟨rfl,hb1⟩;obtain⟨hsz,b1,b2,f1,f2,hk⟩:=blocks2 (Below.keep hb1);have c2':=(hk.cell hg).trans c2;have c3':=(hk.cell hg).trans c3;have r0:=b1 0;have r1:=b1 1;have g0:=f1 0;have g1:=f1 1;simp at r0 r1;have hs1:w.heap.size<w1.heap.size:=om;have hg1:g<w1.heap.size:=om;have n1':¬w1.heap.size=w.heap.size:=om;have HK:=zh hk;clear b1 b2 f1 f2 hb1 hk c0 c1 c2 c3;go_wp2_with fail;rw [rounds_succ];go_wp2_with fail;refine(xZ n2 d2 _ H2.out).mono ?_;rintro e w2 ⟨rfl,hb2⟩;have k2:Keep au w1 w2:=((Keep.refl au w1).alloc _).trans (Below.keep hb2) fun _ _ _ h=>h;have r0':=(k2.cell hs1).trans r0;have r1':=(k2.cell hs1).trans r1;have g0':=(k2.frozen hs1).trans g0;have g1':=(k2.frozen hs1).trans g1;have Ay:=zh (HK.out.trans k2 fun _ _ _ h=>h);clear HK hb2 k2 r0 r1 g0 g1
  rotate_left
  all_goals
   go_wp2;rw [E.out];refine bodyPost_ret (by simp [results,Tryz.results278,go_sem,r0',r1',hs1,n1'];rfl) rfl ?_;exact⟨rfl,by have HK:=Ay;exact kp⟩
 have E:Hid (dN (NJ n1 d1 n2 d2) (PZ n1 d1 n2 d2)=dN 3 0):=zh (by simp [NJ,PZ,h1]);have H1:=zh h1;clear h1;go_enter Tryz.func278,Tryz.ntmps278;go_wp2_with fail;refine wp_loop_rounds 3 ?_;rw [rounds_succ];go_wp2_with fail;refine(xZ n1 d1 _ H1.out).mono ?_;rintro e w1 ⟨rfl,hb1⟩;obtain⟨hsz,b1,b2,f1,f2,hk⟩:=blocks2 (Below.keep hb1);have c2':=(hk.cell hg).trans c2;have c3':=(hk.cell hg).trans c3;have r0:=b1 0;have r1:=b1 1;have g0:=f1 0;have g1:=f1 1;simp at r0 r1;have hs1:w.heap.size<w1.heap.size:=om;have hg1:g<w1.heap.size:=om;have n1':¬w1.heap.size=w.heap.size:=om;have HK:=zh hk;clear b1 b2 f1 f2 hb1 hk c0 c1 c2 c3;go_wp2;rw [E.out];refine bodyPost_ret (by simp [results,Tryz.results278,go_sem,r0,r1,hs1,n1'];rfl) rfl ?_;exact⟨rfl,kp⟩
theorem zbA (n1 d1 n2 d2:Int)(h1:bF n1 d1)(h2:bF n2 d2):dA (n1*d2+n2*d1)∧dA (d1*d2):=by
 obtain⟨a1,a2,a3,a4,_⟩:=h1;obtain⟨b1,b2,b3,b4,_⟩:=h2;have m1:=gH n1 d2 ⟨a3,a4⟩ ⟨om,b2⟩;have m2:=gH n2 d1 ⟨b3,b4⟩ ⟨om,a2⟩;have m3:=gH d1 d2 ⟨om,a2⟩ ⟨om,b2⟩;have m4:=gH n1 n2 ⟨a3,a4⟩ ⟨b3,b4⟩;have m5:=gH d1 n2 ⟨om,a2⟩ ⟨b3,b4⟩;unfold dA;constructor<;>constructor<;>omega
theorem zbB (n1 d1 n2 d2:Int)(h1:bF n1 d1)(h2:bF n2 d2)(w:World):
  Calls Tryz.prog 259 #[.agg #[.int .i64 n1,.int .i64 d1],.agg #[.int .i64 n2,.int .i64 d2]] w fun e w'=>e= .returned (.tuple #[.int .i64 (n1*d2+n2*d1),.int .i64 (d1*d2)])∧Keep au w w':=by
 obtain⟨a1,a2,a3,a4,_⟩:=h1;obtain⟨b1,b2,b3,b4,_⟩:=h2;have m1:=gH n1 d2 ⟨a3,a4⟩ ⟨om,b2⟩;have m2:=gH n2 d1 ⟨b3,b4⟩ ⟨om,a2⟩;have m3:=gH d1 d2 ⟨om,a2⟩ ⟨om,b2⟩;have m4:=gH n1 n2 ⟨a3,a4⟩ ⟨b3,b4⟩;have m5:=gH d1 n2 ⟨om,a2⟩ ⟨b3,b4⟩;obtain⟨m11,m12⟩:=m1;obtain⟨m21,m22⟩:=m2;obtain⟨m31,m32⟩:=m3;obtain⟨m41,m42⟩:=m4;obtain⟨m51,m52⟩:=m5;go_enter Tryz.func259,Tryz.ntmps259;go_wp2;go_quiet (fail);go_wp2;go_returns;refine⟨Cz ?_ ?_,kp⟩
 ·first | rfl | (unfold wrap64;omega)
 first | rfl | (unfold wrap64;omega)
theorem VR (n1 d1 n2 d2:Int)(h1:bF n1 d1)(h2:bF n2 d2):dA (n1*n2)∧dA (d1*d2):=by
 obtain⟨a1,a2,a3,a4,_⟩:=h1;obtain⟨b1,b2,b3,b4,_⟩:=h2;have m1:=gH n1 d2 ⟨a3,a4⟩ ⟨om,b2⟩;have m2:=gH n2 d1 ⟨b3,b4⟩ ⟨om,a2⟩;have m3:=gH d1 d2 ⟨om,a2⟩ ⟨om,b2⟩;have m4:=gH n1 n2 ⟨a3,a4⟩ ⟨b3,b4⟩;have m5:=gH d1 n2 ⟨om,a2⟩ ⟨b3,b4⟩;unfold dA;constructor<;>constructor<;>omega
theorem VT (n1 d1 n2 d2:Int)(h1:bF n1 d1)(h2:bF n2 d2)(w:World):
  Calls Tryz.prog 267 #[.agg #[.int .i64 n1,.int .i64 d1],.agg #[.int .i64 n2,.int .i64 d2]] w fun e w'=>e= .returned (.tuple #[.int .i64 (n1*n2),.int .i64 (d1*d2)])∧Keep au w w':=by
 obtain⟨a1,a2,a3,a4,_⟩:=h1;obtain⟨b1,b2,b3,b4,_⟩:=h2;have m1:=gH n1 d2 ⟨a3,a4⟩ ⟨om,b2⟩;have m2:=gH n2 d1 ⟨b3,b4⟩ ⟨om,a2⟩;have m3:=gH d1 d2 ⟨om,a2⟩ ⟨om,b2⟩;have m4:=gH n1 n2 ⟨a3,a4⟩ ⟨b3,b4⟩;have m5:=gH d1 n2 ⟨om,a2⟩ ⟨b3,b4⟩;obtain⟨m11,m12⟩:=m1;obtain⟨m21,m22⟩:=m2;obtain⟨m31,m32⟩:=m3;obtain⟨m41,m42⟩:=m4;obtain⟨m51,m52⟩:=m5;go_enter Tryz.func267,Tryz.ntmps267;go_wp2;go_quiet (fail);go_wp2;go_returns;refine⟨Cz ?_ ?_,kp⟩
 ·first | rfl | (unfold wrap64;omega)
 first | rfl | (unfold wrap64;omega)
theorem J9 (g:Nat)(hg:g=259∨g=267)(a b n1 d1 n2 d2:Int)(hb:bF n1 d1→bF n2 d2→dA a∧dA b)(hd:bF n1 d1→bF n2 d2→∀w,Calls Tryz.prog g #[.agg #[.int .i64 n1,.int .i64 d1],.agg #[.int .i64 n2,.int .i64 d2]] w fun e w'=>e= .returned (.tuple #[.int .i64 a,.int .i64 b])∧Keep au w w')(w:World):
  Calls Tryz.prog 258 #[.agg #[.int .i64 n1,.int .i64 d1],.agg #[.int .i64 n2,.int .i64 d2],.func (.func g) #[] #[]] w fun e w'=>e= .returned (NK n1 d1 n2 d2 a b)∧Keep au w w':=by
 rcases hg with rfl | rfl
 all_goals
  have HD:=zh hd;clear hd;by_cases hk:bF n1 d1∧bF n2 d2
  ·obtain ⟨hc,ha⟩:=zcP hk.1 hk.2;have HV:Hid (dN (NJ n1 d1 n2 d2) (PZ n1 d1 n2 d2)= .agg #[.int .i64 0,.int .i64 0]):=zh (by rw [hc,ha];rfl);obtain⟨mN,mD,mC,hm⟩:∃N D C,nE a b= .tuple #[.agg #[.int .i64 N,.int .i64 D],.agg #[.int .i64 C,.int .i64 0]]:=⟨_,_,_,rfl⟩;have HE:Hid (NK n1 d1 n2 d2 a b= .tuple #[.agg #[.int .i64 mN,.int .i64 mD],.agg #[.int .i64 mC,.int .i64 0]]):=zh (by unfold NK;rw [if_pos hc,hm]);have HM:=zh hm;have Bf:=zh hk;have HBd:=zh (hb hk.1 hk.2);clear hk hc ha hm;go_enter Tryz.func258,Tryz.ntmps258;go_wp2_with fail;have k0:Keep au w (((((w.alloc (.cells #[.int .i64 n1,.int .i64 d1] 95)).alloc (.cells #[.int .i64 n2,.int .i64 d2] 95)).alloc (.cells #[.int .i64 0,.int .i64 0] 95)).alloc (.cells #[.int .i64 0,.int .i64 0] 38)).alloc (.cells #[.int .i64 n1,.int .i64 d1,.int .i64 n2,.int .i64 d2] 95)):=kp;refine(Aw _ (w.heap.size+1+1+1+1) n1 d1 n2 d2 (by simp [go_sem]) (by simp [go_sem]) (by simp [go_sem]) (by simp [go_sem])).mono ?_;rintro e w1 ⟨rfl,hk1⟩;have B0:=(show aL _ w.heap.size #[.int .i64 n1,.int .i64 d1] by exact kc).keep hk1;have B1:=(show aL _ (w.heap.size+1) #[.int .i64 n2,.int .i64 d2] by exact kc).keep hk1;have B2:=(show aL _ (w.heap.size+1+1) #[.int .i64 0,.int .i64 0] by exact kc).keep hk1;have B3:=(show aL _ (w.heap.size+1+1+1) #[.int .i64 0,.int .i64 0] by exact kc).keep hk1;have hs':w.heap.size+5≤w1.heap.size:=by have:=hk1.size;simpa using this
   have HK:=zh (k0.trans hk1 fun _ _ _ h=>h);obtain⟨a0,a1,_,_,_⟩:=B0.two;obtain⟨b0,b1,_,_,_⟩:=B1.two;obtain⟨r0,r1,r2,r3,_⟩:=B2.two;obtain⟨s0,s1,s2,s3,_⟩:=B3.two;have HB2:=zh B2;have HB3:=zh B3;have m0:¬w1.heap.size=w.heap.size:=om;have m1:¬w1.heap.size=w.heap.size+1:=om;have m2:¬w1.heap.size=w.heap.size+1+1:=om;have m3:¬w1.heap.size=w.heap.size+1+1+1:=om;have l0:w.heap.size<w1.heap.size:=om;have l1:w.heap.size+1<w1.heap.size:=om;have l2:w.heap.size+1+1<w1.heap.size:=om;have l3:w.heap.size+1+1+1<w1.heap.size:=om;clear B0 B1 B2 B3 hk1 k0;rw [HV.out];go_wp2_with fail;refine(HD.out Bf.out.1 Bf.out.2 _).mono ?_;rintro e w2 ⟨rfl,hk2⟩;have k2:Keep au w1 w2:=((Keep.refl au w1).alloc _).trans hk2 fun _ _ _ h=>h;have Ay:=zh (HK.out.trans k2 fun _ _ _ h=>h);have Hl2:=zh k2.size;have NM:=zh (HB2.out.keep k2);have ES:=zh (HB3.out.keep k2);clear hk2 k2 a0 a1 b0 b1 r0 r1 r2 r3 s0 s1 s2 s3 m0 m1 m2 m3;go_wp2_with fail;refine(VQ _ _ _ HBd.out.1.1 HBd.out.1.2 HBd.out.2.1 HBd.out.2.2).mono ?_;rintro e w3 ⟨rfl,hb3⟩;have k3:=Below.keep hb3;have HK:=zh (Ay.out.trans k3 fun _ _ _ h=>h);obtain⟨r0,r1,r2,r3,_⟩:=(NM.out.keep k3).two;obtain⟨s0,s1,s2,s3,_⟩:=(ES.out.keep k3).two;clear hb3 k3;rw [HM.out];go_wp2;rw [HE.out];refine bodyPost_ret (by simp [results,Tryz.results258,go_sem,r0,r1,s0,s1];rfl) rfl ?_;exact⟨rfl,kp⟩
  have hc:=zcQ hk;have HE:Hid (NK n1 d1 n2 d2 a b= .tuple #[.agg #[.int .i64 0,.int .i64 0],.agg #[.int .i64 3,.int .i64 (PZ n1 d1 n2 d2)]]):=zh (by unfold NK;rw [if_neg (by rw [hc];omega),hc];rfl);have HV:Hid (dN (NJ n1 d1 n2 d2) (PZ n1 d1 n2 d2)= .agg #[.int .i64 3,.int .i64 (PZ n1 d1 n2 d2)]):=zh (by rw [hc];rfl);clear hk hc;go_enter Tryz.func258,Tryz.ntmps258;go_wp2_with fail;have k0:Keep au w (((((w.alloc (.cells #[.int .i64 n1,.int .i64 d1] 95)).alloc (.cells #[.int .i64 n2,.int .i64 d2] 95)).alloc (.cells #[.int .i64 0,.int .i64 0] 95)).alloc (.cells #[.int .i64 0,.int .i64 0] 38)).alloc (.cells #[.int .i64 n1,.int .i64 d1,.int .i64 n2,.int .i64 d2] 95)):=kp;refine(Aw _ (w.heap.size+1+1+1+1) n1 d1 n2 d2 (by simp [go_sem]) (by simp [go_sem]) (by simp [go_sem]) (by simp [go_sem])).mono ?_;rintro e w1 ⟨rfl,hk1⟩;have B0:=(show aL _ w.heap.size #[.int .i64 n1,.int .i64 d1] by exact kc).keep hk1;have B1:=(show aL _ (w.heap.size+1) #[.int .i64 n2,.int .i64 d2] by exact kc).keep hk1;have B2:=(show aL _ (w.heap.size+1+1) #[.int .i64 0,.int .i64 0] by exact kc).keep hk1;have B3:=(show aL _ (w.heap.size+1+1+1) #[.int .i64 0,.int .i64 0] by exact kc).keep hk1;have hs':w.heap.size+5≤w1.heap.size:=by have:=hk1.size;simpa using this
  have HK:=zh (k0.trans hk1 fun _ _ _ h=>h);obtain⟨a0,a1,_,_,_⟩:=B0.two;obtain⟨b0,b1,_,_,_⟩:=B1.two;obtain⟨r0,r1,r2,r3,_⟩:=B2.two;obtain⟨s0,s1,s2,s3,_⟩:=B3.two;have HB2:=zh B2;have HB3:=zh B3;have m0:¬w1.heap.size=w.heap.size:=om;have m1:¬w1.heap.size=w.heap.size+1:=om;have m2:¬w1.heap.size=w.heap.size+1+1:=om;have m3:¬w1.heap.size=w.heap.size+1+1+1:=om;have l0:w.heap.size<w1.heap.size:=om;have l1:w.heap.size+1<w1.heap.size:=om;have l2:w.heap.size+1+1<w1.heap.size:=om;have l3:w.heap.size+1+1+1<w1.heap.size:=om;clear B0 B1 B2 B3 hk1 k0;rw [HV.out];go_wp2_with fail;go_region;go_wp2;rw [HE.out];refine bodyPost_ret (by simp [results,Tryz.results258,go_sem,r0,r1,s0,s1,l0,l1,l2,l3,m0,m1,m2,m3];rfl) rfl ?_;exact⟨rfl,kp⟩
theorem Rz (n1 d1 n2 d2:Int)(w:World):
  Calls Tryz.prog 258 #[.agg #[.int .i64 n1,.int .i64 d1],.agg #[.int .i64 n2,.int .i64 d2],.func (.func 259) #[] #[]] w fun e w'=>e= .returned (NK n1 d1 n2 d2 (n1*d2+n2*d1) (d1*d2))∧Keep au w w':=
 J9 _ (.inl rfl) _ _ n1 d1 n2 d2 (zbA _ _ _ _) (zbB _ _ _ _) w
theorem zbC (n1 d1 n2 d2:Int)(w:World):
  Calls Tryz.prog 223 #[.agg #[.int .i64 n1,.int .i64 d1],.agg #[.int .i64 n2,.int .i64 d2]] w fun e w'=>e= .returned (NK n1 d1 n2 d2 (n1*d2+n2*d1) (d1*d2))∧Keep au w w':=by
 obtain⟨mN,mD,mC,mA,hm⟩:∃N D C A,NK n1 d1 n2 d2 (n1*d2+n2*d1) (d1*d2)= .tuple #[.agg #[.int .i64 N,.int .i64 D],.agg #[.int .i64 C,.int .i64 A]]:=by
  unfold NK;split
  ·exact ⟨_,_,_,_,rfl⟩
  exact⟨_,_,_,_,rfl⟩
 have HM:=zh hm;clear hm;go_enter Tryz.func223,Tryz.ntmps223;go_wp2_with fail;have k0:Keep au w ((((w.alloc (.cells #[.int .i64 n1,.int .i64 d1] 95)).alloc (.cells #[.int .i64 n2,.int .i64 d2] 95)).alloc (.cells #[.int .i64 0,.int .i64 0] 95)).alloc (.cells #[.int .i64 0,.int .i64 0] 38)):=kp;refine(Rz n1 d1 n2 d2 _).mono ?_;rintro e w1 ⟨rfl,hk1⟩;have B2:=(show aL _ (w.heap.size+1+1) #[.int .i64 0,.int .i64 0] by exact kc).keep hk1;have B3:=(show aL _ (w.heap.size+1+1+1) #[.int .i64 0,.int .i64 0] by exact kc).keep hk1;obtain⟨r0,r1,r2,r3,_⟩:=B2.two;obtain⟨s0,s1,s2,s3,_⟩:=B3.two;have HK:=zh (k0.trans hk1 fun _ _ _ h=>h);clear B2 B3 hk1 k0;rw [HM.out];go_wp2;rw [HM.out];refine bodyPost_ret (by simp [results,Tryz.results223,go_sem,r0,r1,s0,s1];rfl) rfl ?_;exact⟨rfl,kp⟩
theorem Kc (n1 d1 n2 d2:Int)(w:World):
  Calls Tryz.prog 258 #[.agg #[.int .i64 n1,.int .i64 d1],.agg #[.int .i64 n2,.int .i64 d2],.func (.func 267) #[] #[]] w fun e w'=>e= .returned (NK n1 d1 n2 d2 (n1*n2) (d1*d2))∧Keep au w w':=
 J9 _ (.inr rfl) _ _ n1 d1 n2 d2 (VR _ _ _ _) (VT _ _ _ _) w
theorem VU (n1 d1 n2 d2:Int)(w:World):
  Calls Tryz.prog 230 #[.agg #[.int .i64 n1,.int .i64 d1],.agg #[.int .i64 n2,.int .i64 d2]] w fun e w'=>e= .returned (NK n1 d1 n2 d2 (n1*n2) (d1*d2))∧Keep au w w':=by
 obtain⟨mN,mD,mC,mA,hm⟩:∃N D C A,NK n1 d1 n2 d2 (n1*n2) (d1*d2)= .tuple #[.agg #[.int .i64 N,.int .i64 D],.agg #[.int .i64 C,.int .i64 A]]:=by
  unfold NK;split
  ·exact ⟨_,_,_,_,rfl⟩
  exact⟨_,_,_,_,rfl⟩
 have HM:=zh hm;clear hm;go_enter Tryz.func230,Tryz.ntmps230;go_wp2_with fail;have k0:Keep au w ((((w.alloc (.cells #[.int .i64 n1,.int .i64 d1] 95)).alloc (.cells #[.int .i64 n2,.int .i64 d2] 95)).alloc (.cells #[.int .i64 0,.int .i64 0] 95)).alloc (.cells #[.int .i64 0,.int .i64 0] 38)):=kp;refine(Kc n1 d1 n2 d2 _).mono ?_;rintro e w1 ⟨rfl,hk1⟩;have B2:=(show aL _ (w.heap.size+1+1) #[.int .i64 0,.int .i64 0] by exact kc).keep hk1;have B3:=(show aL _ (w.heap.size+1+1+1) #[.int .i64 0,.int .i64 0] by exact kc).keep hk1;obtain⟨r0,r1,r2,r3,_⟩:=B2.two;obtain⟨s0,s1,s2,s3,_⟩:=B3.two;have HK:=zh (k0.trans hk1 fun _ _ _ h=>h);clear B2 B3 hk1 k0;rw [HM.out];go_wp2;rw [HM.out];refine bodyPost_ret (by simp [results,Tryz.results230,go_sem,r0,r1,s0,s1];rfl) rfl ?_;exact⟨rfl,kp⟩
end Go.Proofs.YtmepglhdcphffaaGreat
