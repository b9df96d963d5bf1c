/- Package cut: what a search within bounds leaves. Package cut: the plan of branch. Package cut: branch. -/
import Derived.Test.YtaiffmebphhdaaaGreatCuAA
import Derived.Test.YtaiffmebphhdaaaGreatCuI
import Derived.Test.YtaiffmebphhdaaaGreatCuSS
import Derived.Test.YtaiffmebphhdaaaGreatLcAA
namespace Go.Proofs.YtaiffmebphhdaaaGreat
set_option maxRecDepth 100000
set_option maxHeartbeats 32000000
set_option linter.unusedSimpArgs false
set_option linter.unusedVariables false
open Go.ChangeShapes Go.WideShapes Go.RowKit
structure Sr (w0:World)(vr vi:Value)(rows:List Rw)(ints:List Bool):Prop where
 hr:dD w0 vr rows
 hi:gJ w0 vi ints
 n12:ints.length≤12
 m40:rows.length≤40
 ok:∀r∈rows,eD r (ints.length:Int)
def qJ (s:jh):Prop:=max s.steps.length 3000+2*s.fuel≤7001
def uM (n:Nat):List Rw→LP:=Z4 n 1048576
def yA (P:Nat→Prop)(w0:World)(bS:Nat)(vr vi:Value)(w:World)(r:mI)(e:Ending)(w':World):Prop:=∃c,e= .returned (.tuple #[.int .i64 r.st,c])∧bD w' w0.heap.size c r.c∧BO P w0 w' bS vr vi r.s∧KT P w w'
def AtC (w0:World)(bS:Nat)(vr vi:Value)(rows:List Rw)(ints:List Bool)(d:Nat):Prop:=∀(P:Nat→Prop) (w:World) (s:jh) (B:jZ) (g:Nat),BO P w0 w bS vr vi s→VZ w w0.heap.size g B→kC rows.length ints.length s.atoms→gZ rows.length ints.length s.atoms B→s.fuel<d→qJ s→
 Calls Tryz.prog 33 #[.pointer (some ⟨bS,0,none⟩),.map (some g)] w (yA P w0 bS vr vi w (uL (uM ints.length) rows ints d s B))
variable {P:Nat→Prop}
def Qc (sB:jh)(a b:Int):jh:= {sB with steps:=sB.steps++ [⟨6,[min a b,max a b],[],wU⟩]}
def YO (s:jh)(out:List Int):mI:=⟨2,out,{s with steps:=s.steps++ [⟨1,out,[],wU⟩]}⟩
def YK (r:mI)(a:Int):Prop:=r.st≠2∨r.s.much=true∨ -a∉r.c
structure BrS (rows:List Rw)(ints:List Bool)(s sA sB:jh)(B:jZ)(k:Nat)(z a b:Int):Prop where
 hA:eO rows.length s (aK k 1 z)=(a,sA)
 hB:eO rows.length sA (aK k (-1) (-z-1))=(b,sB)
 limA:lW ints.length (aK k 1 z) k 1 z
 limB:lW ints.length (aK k (-1) (-z-1)) k (-1) (-z-1)
 ar:1≤a∧a≤120
 br:1≤b∧b≤120
 okA:kC rows.length ints.length sA.atoms
 okB:kC rows.length ints.length sB.atoms
 fB:sB.fuel=s.fuel
 lA:sA.steps.length≤2993
 lB:sB.steps.length≤2994
 b1:gZ rows.length ints.length sB.atoms (fK B (k:Int) 1 ⟨aK k 1 z,a⟩)
 b2:∀q,gZ rows.length ints.length (sB.atoms++q) (fK B (k:Int) (-1) ⟨aK k (-1) (-z-1),b⟩)
theorem LJ {rows:List Rw}{ints:List Bool}{s:jh}{B:jZ}{k:Nat}{z:Int}(ha:kC rows.length ints.length s.atoms)(hb:gZ rows.length ints.length s.atoms B)(hk:k<ints.length)(hbad:¬(z< -1000000∨1000000≤z∨3000<s.steps.length+8∨120<rows.length+s.atoms.length+2)):
  ∃sA sB a b,BrS rows ints s sA sB B k z a b:=by
 have hz1:bZ z:=by unfold bZ;omega
 have hz2:bZ (-z-1):=by unfold bZ;omega
 have hlo:lW ints.length (aK k 1 z) k 1 z:=⟨hk,.inl rfl,rfl,hz1⟩;have hhi:lW ints.length (aK k (-1) (-z-1)) k (-1) (-z-1):=⟨hk,.inr rfl,rfl,hz2⟩;obtain⟨i,a1,a2,⟨ta,a3,a3'⟩,a4,a5,_⟩:=jD hlo ha om;obtain⟨j,b1,b2,⟨tb,b3,b3'⟩,b4,b5,_⟩:=jD hhi a4 (by rw [a3,List.length_append];omega);have l1:=wK rows.length s (aK k 1 z);have l2:=wK rows.length (eO rows.length s (aK k 1 z)).2 (aK k (-1) (-z-1));have li:=(List.getElem?_eq_some_iff.1 a2).1;have lj:=(List.getElem?_eq_some_iff.1 b2).1;have ca:=a4.cap;have cb:=b4.cap;have hm:(eO rows.length (eO rows.length s (aK k 1 z)).2 (aK k (-1) (-z-1))).2.atoms=s.atoms++(ta++tb):=by rw [b3,a3,List.append_assoc]
 refine⟨(eO rows.length s (aK k 1 z)).2,(eO rows.length (eO rows.length s (aK k 1 z)).2 (aK k (-1) (-z-1))).2,(eO rows.length s (aK k 1 z)).1,(eO rows.length (eO rows.length s (aK k 1 z)).2 (aK k (-1) (-z-1))).1,rfl,rfl,hlo,hhi,om,om,a4,b4,b5.trans a5,om,om,?_,fun q=> ?_⟩
 ·have:(s.atoms++(ta++tb))[i]? =some (aK k 1 z):=by
   rw [← hm,b3,List.getElem?_append_left li];exact a2
  rw [hm,a1];exact mZ hb hlo this
 have:(s.atoms++(ta++tb++q))[j]? =some (aK k (-1) (-z-1)):=by
  rw [← List.append_assoc,←hm,List.getElem?_append_left lj];exact b2
 rw [hm,List.append_assoc,b1];exact mZ hb hhi this
theorem V4 {rows:List Rw}{ints:List Bool}{rc:jh→jZ→mI}{s sA sB:jh}{B:jZ}{k:Nat}{z a b:Int}(h:BrS rows ints s sA sB B k z a b)(hbad:¬(z< -1000000∨1000000≤z∨3000<s.steps.length+8∨120<rows.length+s.atoms.length+2)){r:mI}(hr:rc (Qc sB a b) (fK B (k:Int) 1 ⟨aK k 1 z,a⟩)=r):
  (YK r a→gI rows.length rc s B k z=r)∧(¬YK r a→∀t,rc r.s (fK B (k:Int) (-1) ⟨aK k (-1) (-z-1),b⟩)=t→(YK t b→gI rows.length rc s B k z=t)∧(¬YK t b→gI rows.length rc s B k z=YO t.s (gL (ku a b (r.c++t.c) [])))):=by
 unfold gI;rw [if_neg hbad];simp only [h.hA,h.hB];unfold Qc at hr;simp only [hr];unfold YK;refine⟨fun h1=>by rw [if_pos h1],fun h1 t ht=> ?_⟩;rw [if_neg h1,ht];exact⟨fun h2=>by rw [if_pos h2],fun h2=>by rw [if_neg h2];rfl⟩
theorem zaT {rows:List Rw}{ints:List Bool}{s t:jh}{B:jZ}{out:List Int}(h:KO rows ints s B (YO t out))(hm:t.much=false):out≠ []:=fun e=>by
 subst e;exact h.no rfl hm (fun _=>0) (fun k _ _=>⟨0,rfl⟩) fun l hl=>by cases hl
theorem G6 (a b:Int):∀(l:List Int) (k:Nat) (hk:k<l.length) (o:List Int),ku a b (l.take (k+1)) o=(if l[k]≠ -a∧l[k]≠ -b∧l[k]∉ku a b (l.take k) o then ku a b (l.take k) o++ [l[k]]else ku a b (l.take k) o)
 | [],_,hk,_=>by simp at hk
 | x::l,0,_,o=>by simp [ku]
 | x::l,k+1,hk,o=>by
  simp only [List.take_succ_cons,ku,List.getElem_cons_succ];exact G6 a b l k (by simpa using hk) _
theorem Du {n k:Nat}{sg z:Int}{r:Rw}(h:lW n r k sg z):WY r:=by
 obtain⟨_,hs,rfl,hz⟩:=h;refine⟨fun x hx=> ?_,by show fT 1;unfold fT;decide,?_⟩
 ·rcases List.mem_append.1 (show x∈List.replicate k (0:Int)++ [sg]from hx)with hx | hx
  ·have:=List.eq_of_mem_replicate hx;unfold fT;omega
  have:=List.mem_singleton.1 hx;unfold fT;omega
 show fT z;unfold bZ at hz;unfold fT;omega
theorem kC.fit {m n:Nat}{atoms:List Rw}(h:kC m n atoms):∀x∈atoms,WY x:=fun x hx=>by
 obtain⟨k,sg,z,hl⟩:=h.lim x hx;exact Du hl
theorem BO.weak {P':Nat→Prop}{w0 w:World}{bS:Nat}{vr vi:Value}{s:jh}(h:BO P' w0 w bS vr vi s)(hp:∀c,P c→P' c):BO P w0 w bS vr vi s:=by
 obtain⟨va,vt,vp,xs,ys,h⟩:=h;exact⟨va,vt,vp,xs,ys,h.weak hp⟩
variable {P:Nat→Prop}
theorem qo {m:Nat}{rc:jh→jZ→mI}{s:jh}{B:jZ}{k:Nat}{z:Int}(h:z< -1000000∨1000000≤z∨3000<s.steps.length+8∨120<m+s.atoms.length+2):gI m rc s B k z=⟨2,[],{s with much:=true}⟩:=by
 unfold gI;rw [if_pos h]
theorem SH (w0 w:World)(bS:Nat)(lD:Option Addr)(cr:Nat)(oi:Option Addr)(ci:Nat)(rows:List Rw)(ints:List Bool)(hx:Sr w0 (.slice lD rows.length cr) (.slice oi ints.length ci) rows ints)(d:Nat)(hA:AtC w0 bS (.slice lD rows.length cr) (.slice oi ints.length ci) rows ints d)
  (s:jh) (B:jZ) (g k:Nat) (z:Int) (xb:Bool) (xS:ByteArray) (xc:Bool) (xU:ByteArray) (h:BO P w0 w bS (.slice lD rows.length cr) (.slice oi ints.length ci) s) (hB:VZ w w0.heap.size g B) (ha:kC rows.length ints.length s.atoms) (hb:gZ rows.length ints.length s.atoms B) (hk:k<ints.length)
  (hz:bO (.agg #[.bool xb,.string xS,.bool xc,.string xU]) (z:Rat)) (hzn:NB 4000 (z:Rat)) (hf:s.fuel<d) (Sv:qJ s) (hsl:s.steps.length≤7001) (hbad:z< -1000000∨1000000≤z∨3000<s.steps.length+8∨120<rows.length+s.atoms.length+2):
  Calls Tryz.prog 62 #[.pointer (some ⟨bS,0,none⟩),.map (some g),.int .i64 (k:Int),.agg #[.bool xb,.string xS,.bool xc,.string xU]] w (yA P w0 bS (.slice lD rows.length cr) (.slice oi ints.length ci) w (gI rows.length (uL (uM ints.length) rows ints d) s B k z)):=by
 obtain⟨va,vt,vp,xs,ys,hc⟩:=h;obtain⟨⟨oa,ca,rfl⟩,⟨ot,ct,rfl⟩,op,cp,rfl⟩:=hc.forms;have HC:=zh hc;have HX:=zh hx;have HAC:=zh hA;have HB:=zh hB;have I9:=zh ha;have FK:=zh hb;have HF:=zh hf;have YF:=zh Sv;have hal:rows.length+s.atoms.length≤120:=ha.cap;have hm40:rows.length≤40:=hx.m40;have hk12:k<12:=by have:=hx.n12;omega
 have CL:=fun w=>zh (Ce w _ _ hz hzn);have e0:vT ((z:Int):Rat)= .tuple #[.int .i64 (if is64 z then z else 0),.bool (decide (is64 z))]:=by
  unfold vT;simp [Rat.num_intCast,Rat.den_intCast];exact⟨rfl,rfl⟩
 rw [e0]at CL;clear hc hx hA hB ha hb hf Sv e0 hz;unfold yA;go_enter Tryz.func62,Tryz.ntmps62;go_upto_region 1 with fail;have k1:Keep au w (w.alloc (.cells #[.bool xb,.string xS,.bool xc,.string xU] 93)):=(Keep.refl _ _).alloc _;have mO:Hid (aL (w.alloc (.cells #[.bool xb,.string xS,.bool xc,.string xU] 93)) w.heap.size #[.bool xb,.string xS,.bool xc,.string xU]):=zh (aP _ _ rfl);have K1:=zh k1;clear k1;generalize w.alloc (.cells #[.bool xb,.string xS,.bool xc,.string xU] 93)=w1 at *;obtain⟨b7,hb7⟩:∃b7,w.heap.size=b7:=⟨_,rfl⟩;rw [hb7]at mO ⊢;clear hb7;obtain⟨y0,y1,y2,y3,_,_,_,_,yl⟩:=mO.out.four;go_wp2_with fail;refine(CL _).out.mono ?_;rintro e w2 ⟨rfl,hk2⟩;have K2:=zh (K1.out.both hk2);clear hk2 y0 y1 y2 y3 yl mO K1 CL;have ND:=zh (HC.out.keep K2.out);obtain⟨t0,t1,t2,t3,t4,t5,t6,lS⟩:=lQ ND.out.blk;have t6f:=ND.out.blk.free 6;have CL:=();by_cases h64:is64 z
 case neg=>
  rw [if_neg h64,decide_eq_false h64];have hzb:z< -1000000∨1000000≤z:=by
   unfold is64 at h64;omega
  clear h64;have Af:=zh (qo (rc:=uL (uM ints.length) rows ints d) (B:=B) (k:=k) om);have DU:=zh (ND.out.keep (Keep.refl au w2).drew);go_upto_region 2 with fail;refine aD (fun w'=>Keep au w2 w') [] [] [0,1,2,3,4,5,6,7,8,9,10,11,12,13,14,15,16,17,18,19,20,21,22,23,24,25,26,27,28,29,30,31,32,33] kr kr kp ?_;intro X W hne hF hcl;have z0:=fun x=>((hF x).cell lS).trans t0;have z3:=fun x=>((hF x).cell lS).trans t3;have z4:=fun x=>((hF x).cell lS).trans t4;clear hF hcl;simp only [aO,aJ,zl0,zl1,zl2,aR,Bool.false_eq_true,if_false]
  (repeat(go_big_quiet_step (fail)));refine wpQuiet_nil ?_
  refine NoPanic.normal ?_;clear z0 z3 z4;go_simp
  repeat go_step
  refine bodyPost_ret (by simp [results,Tryz.results62,go_sem];rfl) rfl ?_;rw [Af.out];exact⟨_,rfl,bD.nil _ _,⟨_,_,_,_,_,DU.out.set (s':= {s with much:=true}) 6 (.bool true) sm rfl rfl (DU.out.p)⟩,(KT.of (K2.out.both (Keep.refl au w2).drew)).trans (KT.set (P:=P) DU.out.b (.inr (.inr rfl)) (fun hp=>(DU.out.av bS hp).2.1 rfl) (i:=6) (.bool true))⟩
 rw [if_pos h64,decide_eq_true h64];clear h64;by_cases c1:z< -1000000
 ·have dc1:decide (z< -1000000)=true:=bL om;have Af:=zh (qo (rc:=uL (uM ints.length) rows ints d) (B:=B) (k:=k) om);have DU:=zh (ND.out.keep (Keep.refl au w2).drew);go_upto_region 2 with fail;refine aD (fun w'=>Keep au w2 w') [] [] [0,1,2,3,4,5,6,7,8,9,10,11,12,13,14,15,16,17,18,19,20,21,22,23,24,25,26,27,28,29,30,31,32,33] kr kr kp ?_;intro X W hne hF hcl;have z0:=fun x=>((hF x).cell lS).trans t0;have z3:=fun x=>((hF x).cell lS).trans t3;have z4:=fun x=>((hF x).cell lS).trans t4;clear hF hcl;simp only [aO,aJ,zl0,zl1,zl2,aR,Bool.false_eq_true,if_false]
  (repeat(go_big_quiet_step (fail)));refine wpQuiet_nil ?_
  refine NoPanic.normal ?_;clear z0 z3 z4;go_simp
  repeat go_step
  refine bodyPost_ret (by simp [results,Tryz.results62,go_sem];rfl) rfl ?_;rw [Af.out];exact⟨_,rfl,bD.nil _ _,⟨_,_,_,_,_,DU.out.set (s':= {s with much:=true}) 6 (.bool true) sm rfl rfl (DU.out.p)⟩,(KT.of (K2.out.both (Keep.refl au w2).drew)).trans (KT.set (P:=P) DU.out.b (.inr (.inr rfl)) (fun hp=>(DU.out.av bS hp).2.1 rfl) (i:=6) (.bool true))⟩
 have dc1:decide (z< -1000000)=false:=aZ om;by_cases c2:1000000≤z
 ·have dc2:decide (1000000≤z)=true:=bL om;have Af:=zh (qo (rc:=uL (uM ints.length) rows ints d) (B:=B) (k:=k) om);have DU:=zh (ND.out.keep (Keep.refl au w2).drew);go_upto_region 2 with fail;refine aD (fun w'=>Keep au w2 w') [] [] [0,1,2,3,4,5,6,7,8,9,10,11,12,13,14,15,16,17,18,19,20,21,22,23,24,25,26,27,28,29,30,31,32,33] kr kr kp ?_;intro X W hne hF hcl;have z0:=fun x=>((hF x).cell lS).trans t0;have z3:=fun x=>((hF x).cell lS).trans t3;have z4:=fun x=>((hF x).cell lS).trans t4;clear hF hcl;simp only [aO,aJ,zl0,zl1,zl2,aR,Bool.false_eq_true,if_false]
  (repeat(go_big_quiet_step (fail)));refine wpQuiet_nil ?_
  refine NoPanic.normal ?_;clear z0 z3 z4;go_simp
  repeat go_step
  refine bodyPost_ret (by simp [results,Tryz.results62,go_sem];rfl) rfl ?_;rw [Af.out];exact⟨_,rfl,bD.nil _ _,⟨_,_,_,_,_,DU.out.set (s':= {s with much:=true}) 6 (.bool true) sm rfl rfl (DU.out.p)⟩,(KT.of (K2.out.both (Keep.refl au w2).drew)).trans (KT.set (P:=P) DU.out.b (.inr (.inr rfl)) (fun hp=>(DU.out.av bS hp).2.1 rfl) (i:=6) (.bool true))⟩
 have dc2:decide (1000000≤z)=false:=aZ om;by_cases c3:3000<s.steps.length+8
 ·have dc3:decide ((3000:Int)<(s.steps.length:Int)+8)=true:=bL om;have Af:=zh (qo (rc:=uL (uM ints.length) rows ints d) (B:=B) (k:=k) om);have DU:=zh (ND.out.keep (Keep.refl au w2).drew);go_upto_region 2 with fail;refine aD (fun w'=>Keep au w2 w') [] [] [0,1,2,3,4,5,6,7,8,9,10,11,12,13,14,15,16,17,18,19,20,21,22,23,24,25,26,27,28,29,30,31,32,33] kr kr kp ?_;intro X W hne hF hcl;have z0:=fun x=>((hF x).cell lS).trans t0;have z3:=fun x=>((hF x).cell lS).trans t3;have z4:=fun x=>((hF x).cell lS).trans t4;clear hF hcl;simp only [aO,aJ,zl0,zl1,zl2,aR,Bool.false_eq_true,if_false]
  (repeat(go_big_quiet_step (fail)));refine wpQuiet_nil ?_
  refine NoPanic.normal ?_;clear z0 z3 z4;go_simp
  repeat go_step
  refine bodyPost_ret (by simp [results,Tryz.results62,go_sem];rfl) rfl ?_;rw [Af.out];exact⟨_,rfl,bD.nil _ _,⟨_,_,_,_,_,DU.out.set (s':= {s with much:=true}) 6 (.bool true) sm rfl rfl (DU.out.p)⟩,(KT.of (K2.out.both (Keep.refl au w2).drew)).trans (KT.set (P:=P) DU.out.b (.inr (.inr rfl)) (fun hp=>(DU.out.av bS hp).2.1 rfl) (i:=6) (.bool true))⟩
 have dc3:decide ((3000:Int)<(s.steps.length:Int)+8)=false:=aZ om;by_cases c4:120<rows.length+s.atoms.length+2
 ·have dc4:decide ((120:Int)<(rows.length:Int)+(s.atoms.length:Int)+2)=true:=bL om;have Af:=zh (qo (rc:=uL (uM ints.length) rows ints d) (B:=B) (k:=k) om);have DU:=zh (ND.out.keep (Keep.refl au w2).drew);go_upto_region 2 with fail;refine aD (fun w'=>Keep au w2 w') [] [] [0,1,2,3,4,5,6,7,8,9,10,11,12,13,14,15,16,17,18,19,20,21,22,23,24,25,26,27,28,29,30,31,32,33] kr kr kp ?_;intro X W hne hF hcl;have z0:=fun x=>((hF x).cell lS).trans t0;have z3:=fun x=>((hF x).cell lS).trans t3;have z4:=fun x=>((hF x).cell lS).trans t4;clear hF hcl;simp only [aO,aJ,zl0,zl1,zl2,aR,Bool.false_eq_true,if_false]
  (repeat(go_big_quiet_step (fail)));refine wpQuiet_nil ?_
  refine NoPanic.normal ?_;clear z0 z3 z4;go_simp
  repeat go_step
  refine bodyPost_ret (by simp [results,Tryz.results62,go_sem];rfl) rfl ?_;rw [Af.out];exact⟨_,rfl,bD.nil _ _,⟨_,_,_,_,_,DU.out.set (s':= {s with much:=true}) 6 (.bool true) sm rfl rfl (DU.out.p)⟩,(KT.of (K2.out.both (Keep.refl au w2).drew)).trans (KT.set (P:=P) DU.out.b (.inr (.inr rfl)) (fun hp=>(DU.out.av bS hp).2.1 rfl) (i:=6) (.bool true))⟩
 have dc4:decide ((120:Int)<(rows.length:Int)+(s.atoms.length:Int)+2)=false:=aZ om;omega
end Go.Proofs.YtaiffmebphhdaaaGreat
