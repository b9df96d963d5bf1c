/- Package cut: what a search within bounds leaves. Package cut: the plan of branch. Package cut: branch. -/
import Derived.Test.YtaiffmebphhdaaaGreatCuAA
import Derived.Test.YtaiffmebphhdaaaGreatCuI
import Derived.Test.YtaiffmebphhdaaaGreatCuSS
import Derived.Test.YtaiffmebphhdaaaGreatLcAA
namespace Go.Proofs.YtaiffmebphhdaaaGreat
set_option maxRecDepth 100000
set_option maxHeartbeats 32000000
set_option linter.unusedSimpArgs false
set_option linter.unusedVariables false
open Go.ChangeShapes Go.WideShapes Go.RowKit
structure Q5 (w0:World)(vr vi:Value)(rows:List Rw)(ints:List Bool):Prop where
 hr:bW w0 vr rows
 hi:gI w0 vi ints
 n12:ints.length≤12
 m40:rows.length≤40
 ok:∀r∈rows,gN r (ints.length:Int)
def qE (s:jm):Prop:=max s.steps.length 3000+2*s.fuel≤7001
def uy (n:Nat):List Rw→LP:=Xk n 1048576
def xV (P:Nat→Prop)(w0:World)(bS:Nat)(vr vi:Value)(w:World)(r:mY)(e:Ending)(w':World):Prop:=∃c,e= .returned (.tuple #[.int .i64 r.st,c])∧bD w' w0.heap.size c r.c∧BI P w0 w' bS vr vi r.s∧KT P w w'
def AtC (w0:World)(bS:Nat)(vr vi:Value)(rows:List Rw)(ints:List Bool)(d:Nat):Prop:=∀(P:Nat→Prop) (w:World) (s:jm) (B:jo) (g:Nat),BI P w0 w bS vr vi s→UH w w0.heap.size g B→jV rows.length ints.length s.atoms→iA rows.length ints.length s.atoms B→s.fuel<d→qE s→
 Calls Tryz.prog 33 #[.pointer (some ⟨bS,0,none⟩),.map (some g)] w (xV P w0 bS vr vi w (uw (uy ints.length) rows ints d s B))
variable {P:Nat→Prop}
def OZ (sB:jm)(a b:Int):jm:= {sB with steps:=sB.steps++ [⟨6,[min a b,max a b],[],xK⟩]}
def Xz (s:jm)(out:List Int):mY:=⟨2,out,{s with steps:=s.steps++ [⟨1,out,[],xK⟩]}⟩
def Xv (r:mY)(a:Int):Prop:=r.st≠2∨r.s.much=true∨ -a∉r.c
structure BrS (rows:List Rw)(ints:List Bool)(s sA sB:jm)(B:jo)(k:Nat)(z a b:Int):Prop where
 hA:eH rows.length s (aK k 1 z)=(a,sA)
 hB:eH rows.length sA (aK k (-1) (-z-1))=(b,sB)
 limA:mX ints.length (aK k 1 z) k 1 z
 limB:mX ints.length (aK k (-1) (-z-1)) k (-1) (-z-1)
 ar:1≤a∧a≤120
 br:1≤b∧b≤120
 okA:jV rows.length ints.length sA.atoms
 okB:jV rows.length ints.length sB.atoms
 fB:sB.fuel=s.fuel
 lA:sA.steps.length≤2993
 lB:sB.steps.length≤2994
 b1:iA rows.length ints.length sB.atoms (dn B (k:Int) 1 ⟨aK k 1 z,a⟩)
 b2:∀q,iA rows.length ints.length (sB.atoms++q) (dn B (k:Int) (-1) ⟨aK k (-1) (-z-1),b⟩)
theorem Lb {rows:List Rw}{ints:List Bool}{s:jm}{B:jo}{k:Nat}{z:Int}(ha:jV rows.length ints.length s.atoms)(hb:iA rows.length ints.length s.atoms B)(hk:k<ints.length)(hbad:¬(z< -1000000∨1000000≤z∨3000<s.steps.length+8∨120<rows.length+s.atoms.length+2)):
  ∃sA sB a b,BrS rows ints s sA sB B k z a b:=by
 have hz1:dA z:=by unfold dA;omega
 have hz2:dA (-z-1):=by unfold dA;omega
 have hlo:mX ints.length (aK k 1 z) k 1 z:=⟨hk,.inl rfl,rfl,hz1⟩;have hhi:mX ints.length (aK k (-1) (-z-1)) k (-1) (-z-1):=⟨hk,.inr rfl,rfl,hz2⟩;obtain⟨i,a1,a2,⟨ta,a3,a3'⟩,a4,a5,_⟩:=jE hlo ha (by omega)
 obtain⟨j,b1,b2,⟨tb,b3,b3'⟩,b4,b5,_⟩:=jE hhi a4 (by rw [a3,List.length_append];omega)
 have l1:=vX rows.length s (aK k 1 z);have l2:=vX rows.length (eH rows.length s (aK k 1 z)).2 (aK k (-1) (-z-1));have li:=(List.getElem?_eq_some_iff.1 a2).1;have lj:=(List.getElem?_eq_some_iff.1 b2).1;have ca:=a4.cap;have cb:=b4.cap;have hm:(eH rows.length (eH rows.length s (aK k 1 z)).2 (aK k (-1) (-z-1))).2.atoms=s.atoms++(ta++tb):=by rw [b3,a3,List.append_assoc]
 refine⟨(eH rows.length s (aK k 1 z)).2,(eH rows.length (eH rows.length s (aK k 1 z)).2 (aK k (-1) (-z-1))).2,(eH rows.length s (aK k 1 z)).1,(eH rows.length (eH rows.length s (aK k 1 z)).2 (aK k (-1) (-z-1))).1,rfl,rfl,hlo,hhi,by omega,by omega,a4,b4,b5.trans a5,by omega,by omega,?_,fun q=> ?_⟩
 ·have:(s.atoms++(ta++tb))[i]? =some (aK k 1 z):=by
   rw [← hm,b3,List.getElem?_append_left li];exact a2
  rw [hm,a1];exact mZ hb hlo this
 ·have:(s.atoms++(ta++tb++q))[j]? =some (aK k (-1) (-z-1)):=by
   rw [← List.append_assoc,←hm,List.getElem?_append_left lj];exact b2
  rw [hm,List.append_assoc,b1];exact mZ hb hhi this
theorem UJ {rows:List Rw}{ints:List Bool}{rc:jm→jo→mY}{s sA sB:jm}{B:jo}{k:Nat}{z a b:Int}(h:BrS rows ints s sA sB B k z a b)(hbad:¬(z< -1000000∨1000000≤z∨3000<s.steps.length+8∨120<rows.length+s.atoms.length+2)){r:mY}(hr:rc (OZ sB a b) (dn B (k:Int) 1 ⟨aK k 1 z,a⟩)=r):
  (Xv r a→gH rows.length rc s B k z=r)∧(¬Xv r a→∀t,rc r.s (dn B (k:Int) (-1) ⟨aK k (-1) (-z-1),b⟩)=t→(Xv t b→gH rows.length rc s B k z=t)∧(¬Xv t b→gH rows.length rc s B k z=Xz t.s (iH (mI a b (r.c++t.c) [])))):=by
 unfold gH;rw [if_neg hbad];simp only [h.hA,h.hB];unfold OZ at hr;simp only [hr];unfold Xv;refine⟨fun h1=>by rw [if_pos h1],fun h1 t ht=> ?_⟩
 rw [if_neg h1,ht];exact⟨fun h2=>by rw [if_pos h2],fun h2=>by rw [if_neg h2];rfl⟩
theorem zal {rows:List Rw}{ints:List Bool}{s t:jm}{B:jo}{out:List Int}(h:MG rows ints s B (Xz t out))(hm:t.much=false):out≠ []:=fun e=>by
 subst e;exact h.no rfl hm (fun _=>0) (fun k _ _=>⟨0,rfl⟩) fun l hl=>by cases hl
theorem GU (a b:Int):∀(l:List Int) (k:Nat) (hk:k<l.length) (o:List Int),mI a b (l.take (k+1)) o=(if l[k]≠ -a∧l[k]≠ -b∧l[k]∉mI a b (l.take k) o then mI a b (l.take k) o++ [l[k]]else mI a b (l.take k) o)
 | [],_,hk,_=>by simp at hk
 | x::l,0,_,o=>by simp [mI]
 | x::l,k+1,hk,o=>by
  simp only [List.take_succ_cons,mI,List.getElem_cons_succ];exact GU a b l k (by simpa using hk) _
theorem Dj {n k:Nat}{sg z:Int}{r:Rw}(h:mX n r k sg z):Vz r:=by
 obtain⟨_,hs,rfl,hz⟩:=h;refine⟨fun x hx=> ?_,by show fK 1;unfold fK;decide,?_⟩
 ·rcases List.mem_append.1 (show x∈List.replicate k (0:Int)++ [sg]from hx)with hx | hx
  ·have:=List.eq_of_mem_replicate hx
   unfold fK;omega
  ·have:=List.mem_singleton.1 hx
   unfold fK;omega
 ·show fK z
  unfold dA at hz;unfold fK;omega
theorem jV.fit {m n:Nat}{atoms:List Rw}(h:jV m n atoms):∀x∈atoms,Vz x:=fun x hx=>by
 obtain⟨k,sg,z,hl⟩:=h.lim x hx;exact Dj hl
theorem BI.weak {P':Nat→Prop}{w0 w:World}{bS:Nat}{vr vi:Value}{s:jm}(h:BI P' w0 w bS vr vi s)(hp:∀c,P c→P' c):BI P w0 w bS vr vi s:=by
 obtain⟨va,vt,vp,xs,ys,h⟩:=h;exact⟨va,vt,vp,xs,ys,h.weak hp⟩
variable {P:Nat→Prop}
theorem qo {m:Nat}{rc:jm→jo→mY}{s:jm}{B:jo}{k:Nat}{z:Int}(h:z< -1000000∨1000000≤z∨3000<s.steps.length+8∨120<m+s.atoms.length+2):gH m rc s B k z=⟨2,[],{s with much:=true}⟩:=by
 unfold gH;rw [if_pos h]
theorem Rj (w0 w:World)(bS:Nat)(lU:Option Addr)(cr:Nat)(oi:Option Addr)(ci:Nat)(rows:List Rw)(ints:List Bool)(hx:Q5 w0 (.slice lU rows.length cr) (.slice oi ints.length ci) rows ints)(d:Nat)(hA:AtC w0 bS (.slice lU rows.length cr) (.slice oi ints.length ci) rows ints d)
  (s:jm) (B:jo) (g k:Nat) (z:Int) (xb:Bool) (xS:ByteArray) (xc:Bool) (xU:ByteArray) (h:BI P w0 w bS (.slice lU rows.length cr) (.slice oi ints.length ci) s) (hB:UH w w0.heap.size g B) (ha:jV rows.length ints.length s.atoms) (hb:iA rows.length ints.length s.atoms B) (hk:k<ints.length)
  (hz:bM (.agg #[.bool xb,.string xS,.bool xc,.string xU]) (z:Rat)) (hzn:NB 4000 (z:Rat)) (hf:s.fuel<d) (Q6:qE s) (hsl:s.steps.length≤7001) (hbad:z< -1000000∨1000000≤z∨3000<s.steps.length+8∨120<rows.length+s.atoms.length+2):
  Calls Tryz.prog 62 #[.pointer (some ⟨bS,0,none⟩),.map (some g),.int .i64 (k:Int),.agg #[.bool xb,.string xS,.bool xc,.string xU]] w (xV P w0 bS (.slice lU rows.length cr) (.slice oi ints.length ci) w (gH rows.length (uw (uy ints.length) rows ints d) s B k z)):=by
 obtain⟨va,vt,vp,xs,ys,hc⟩:=h;obtain⟨⟨oa,ca,rfl⟩,⟨ot,ct,rfl⟩,op,cp,rfl⟩:=hc.forms;have HC:=zh hc;have HX:=zh hx;have HAC:=zh hA;have HB:=zh hB;have IZ:=zh ha;have J2:=zh hb;have HF:=zh hf;have Xp:=zh Q6;have hal:rows.length+s.atoms.length≤120:=ha.cap;have hm40:rows.length≤40:=hx.m40;have hk12:k<12:=by have:=hx.n12;omega
 have CL:=fun w=>zh (BU w _ _ hz hzn)
 have e0:vH ((z:Int):Rat)= .tuple #[.int .i64 (if is64 z then z else 0),.bool (decide (is64 z))]:=by
  unfold vH;simp [Rat.num_intCast,Rat.den_intCast];exact⟨rfl,rfl⟩
 rw [e0]at CL;clear hc hx hA hB ha hb hf Q6 e0 hz;unfold xV;go_enter Tryz.func62,Tryz.ntmps62;go_upto_region 1 with fail
 have k1:Keep au w (w.alloc (.cells #[.bool xb,.string xS,.bool xc,.string xU] 93)):=(Keep.refl _ _).alloc _;have nE:Hid (aL (w.alloc (.cells #[.bool xb,.string xS,.bool xc,.string xU] 93)) w.heap.size #[.bool xb,.string xS,.bool xc,.string xU]):=zh (aR _ _ rfl);have K1:=zh k1;clear k1;generalize w.alloc (.cells #[.bool xb,.string xS,.bool xc,.string xU] 93)=w1 at *;obtain⟨b7,hb7⟩:∃b7,w.heap.size=b7:=⟨_,rfl⟩;rw [hb7]at nE ⊢;clear hb7;obtain⟨y0,y1,y2,y3,_,_,_,_,yl⟩:=nE.out.four;go_wp2_with fail;refine(CL _).out.mono ?_;rintro e w2 ⟨rfl,hk2⟩;have K2:=zh (K1.out.both hk2);clear hk2 y0 y1 y2 y3 yl nE K1 CL;have Gm:=zh (HC.out.keep K2.out);obtain⟨t0,t1,t2,t3,t4,t5,t6,lS⟩:=lM Gm.out.blk;have t6f:=Gm.out.blk.free 6;have CL:=()
 by_cases h64:is64 z
 case neg=>
  rw [if_neg h64,decide_eq_false h64];have hzb:z< -1000000∨1000000≤z:=by
   unfold is64 at h64;omega
  clear h64;have wN:=zh (qo (rc:=uw (uy ints.length) rows ints d) (B:=B) (k:=k) (by omega))
  have Dv:=zh (Gm.out.keep (Keep.refl au w2).drew);go_upto_region 2 with fail
  refine aD (fun w'=>Keep au w2 w') [] [] [0,1,2,3,4,5,6,7,8,9,10,11,12,13,14,15,16,17,18,19,20,21,22,23,24,25,26,27,28,29,30,31,32,33] (by kernel_rfl) (by kernel_rfl) kp ?_
  intro X W hne hF hcl;have z0:=fun x=>((hF x).cell lS).trans t0
  have z3:=fun x=>((hF x).cell lS).trans t3
  have z4:=fun x=>((hF x).cell lS).trans t4
  clear hF hcl;simp only [aO,aJ,zl0,zl1,zl2,aV,Bool.false_eq_true,if_false]
  (repeat(go_big_quiet_step (fail)));refine wpQuiet_nil ?_
  refine NoPanic.normal ?_;clear z0 z3 z4;go_simp
  repeat go_step
  refine bodyPost_ret (by simp [results,Tryz.results62,go_sem];rfl) rfl ?_
  rw [wN.out];exact⟨_,rfl,bD.nil _ _,⟨_,_,_,_,_,Dv.out.set (s':= {s with much:=true}) 6 (.bool true) (by simp) rfl rfl (Dv.out.p)⟩,(KT.of (K2.out.both (Keep.refl au w2).drew)).trans (KT.set (P:=P) Dv.out.b (.inr (.inr rfl)) (fun hp=>(Dv.out.av bS hp).2.1 rfl) (i:=6) (.bool true))⟩
 case pos=>
  rw [if_pos h64,decide_eq_true h64];clear h64
  by_cases c1:z< -1000000
  ·have dc1:decide (z< -1000000)=true:=bI (by omega)
   have wN:=zh (qo (rc:=uw (uy ints.length) rows ints d) (B:=B) (k:=k) (by omega))
   have Dv:=zh (Gm.out.keep (Keep.refl au w2).drew);go_upto_region 2 with fail
   refine aD (fun w'=>Keep au w2 w') [] [] [0,1,2,3,4,5,6,7,8,9,10,11,12,13,14,15,16,17,18,19,20,21,22,23,24,25,26,27,28,29,30,31,32,33] (by kernel_rfl) (by kernel_rfl) kp ?_
   intro X W hne hF hcl;have z0:=fun x=>((hF x).cell lS).trans t0
   have z3:=fun x=>((hF x).cell lS).trans t3
   have z4:=fun x=>((hF x).cell lS).trans t4
   clear hF hcl;simp only [aO,aJ,zl0,zl1,zl2,aV,Bool.false_eq_true,if_false]
   (repeat(go_big_quiet_step (fail)));refine wpQuiet_nil ?_
   refine NoPanic.normal ?_;clear z0 z3 z4;go_simp
   repeat go_step
   refine bodyPost_ret (by simp [results,Tryz.results62,go_sem];rfl) rfl ?_
   rw [wN.out];exact⟨_,rfl,bD.nil _ _,⟨_,_,_,_,_,Dv.out.set (s':= {s with much:=true}) 6 (.bool true) (by simp) rfl rfl (Dv.out.p)⟩,(KT.of (K2.out.both (Keep.refl au w2).drew)).trans (KT.set (P:=P) Dv.out.b (.inr (.inr rfl)) (fun hp=>(Dv.out.av bS hp).2.1 rfl) (i:=6) (.bool true))⟩
  have dc1:decide (z< -1000000)=false:=aW (by omega)
  by_cases c2:1000000≤z
  ·have dc2:decide (1000000≤z)=true:=bI (by omega)
   have wN:=zh (qo (rc:=uw (uy ints.length) rows ints d) (B:=B) (k:=k) (by omega))
   have Dv:=zh (Gm.out.keep (Keep.refl au w2).drew);go_upto_region 2 with fail
   refine aD (fun w'=>Keep au w2 w') [] [] [0,1,2,3,4,5,6,7,8,9,10,11,12,13,14,15,16,17,18,19,20,21,22,23,24,25,26,27,28,29,30,31,32,33] (by kernel_rfl) (by kernel_rfl) kp ?_
   intro X W hne hF hcl;have z0:=fun x=>((hF x).cell lS).trans t0
   have z3:=fun x=>((hF x).cell lS).trans t3
   have z4:=fun x=>((hF x).cell lS).trans t4
   clear hF hcl;simp only [aO,aJ,zl0,zl1,zl2,aV,Bool.false_eq_true,if_false]
   (repeat(go_big_quiet_step (fail)));refine wpQuiet_nil ?_
   refine NoPanic.normal ?_;clear z0 z3 z4;go_simp
   repeat go_step
   refine bodyPost_ret (by simp [results,Tryz.results62,go_sem];rfl) rfl ?_
   rw [wN.out];exact⟨_,rfl,bD.nil _ _,⟨_,_,_,_,_,Dv.out.set (s':= {s with much:=true}) 6 (.bool true) (by simp) rfl rfl (Dv.out.p)⟩,(KT.of (K2.out.both (Keep.refl au w2).drew)).trans (KT.set (P:=P) Dv.out.b (.inr (.inr rfl)) (fun hp=>(Dv.out.av bS hp).2.1 rfl) (i:=6) (.bool true))⟩
  have dc2:decide (1000000≤z)=false:=aW (by omega)
  by_cases c3:3000<s.steps.length+8
  ·have dc3:decide ((3000:Int)<(s.steps.length:Int)+8)=true:=bI (by omega)
   have wN:=zh (qo (rc:=uw (uy ints.length) rows ints d) (B:=B) (k:=k) (by omega))
   have Dv:=zh (Gm.out.keep (Keep.refl au w2).drew);go_upto_region 2 with fail
   refine aD (fun w'=>Keep au w2 w') [] [] [0,1,2,3,4,5,6,7,8,9,10,11,12,13,14,15,16,17,18,19,20,21,22,23,24,25,26,27,28,29,30,31,32,33] (by kernel_rfl) (by kernel_rfl) kp ?_
   intro X W hne hF hcl;have z0:=fun x=>((hF x).cell lS).trans t0
   have z3:=fun x=>((hF x).cell lS).trans t3
   have z4:=fun x=>((hF x).cell lS).trans t4
   clear hF hcl;simp only [aO,aJ,zl0,zl1,zl2,aV,Bool.false_eq_true,if_false]
   (repeat(go_big_quiet_step (fail)));refine wpQuiet_nil ?_
   refine NoPanic.normal ?_;clear z0 z3 z4;go_simp
   repeat go_step
   refine bodyPost_ret (by simp [results,Tryz.results62,go_sem];rfl) rfl ?_
   rw [wN.out];exact⟨_,rfl,bD.nil _ _,⟨_,_,_,_,_,Dv.out.set (s':= {s with much:=true}) 6 (.bool true) (by simp) rfl rfl (Dv.out.p)⟩,(KT.of (K2.out.both (Keep.refl au w2).drew)).trans (KT.set (P:=P) Dv.out.b (.inr (.inr rfl)) (fun hp=>(Dv.out.av bS hp).2.1 rfl) (i:=6) (.bool true))⟩
  have dc3:decide ((3000:Int)<(s.steps.length:Int)+8)=false:=aW (by omega)
  by_cases c4:120<rows.length+s.atoms.length+2
  ·have dc4:decide ((120:Int)<(rows.length:Int)+(s.atoms.length:Int)+2)=true:=bI (by omega)
   have wN:=zh (qo (rc:=uw (uy ints.length) rows ints d) (B:=B) (k:=k) (by omega))
   have Dv:=zh (Gm.out.keep (Keep.refl au w2).drew);go_upto_region 2 with fail
   refine aD (fun w'=>Keep au w2 w') [] [] [0,1,2,3,4,5,6,7,8,9,10,11,12,13,14,15,16,17,18,19,20,21,22,23,24,25,26,27,28,29,30,31,32,33] (by kernel_rfl) (by kernel_rfl) kp ?_
   intro X W hne hF hcl;have z0:=fun x=>((hF x).cell lS).trans t0
   have z3:=fun x=>((hF x).cell lS).trans t3
   have z4:=fun x=>((hF x).cell lS).trans t4
   clear hF hcl;simp only [aO,aJ,zl0,zl1,zl2,aV,Bool.false_eq_true,if_false]
   (repeat(go_big_quiet_step (fail)));refine wpQuiet_nil ?_
   refine NoPanic.normal ?_;clear z0 z3 z4;go_simp
   repeat go_step
   refine bodyPost_ret (by simp [results,Tryz.results62,go_sem];rfl) rfl ?_
   rw [wN.out];exact⟨_,rfl,bD.nil _ _,⟨_,_,_,_,_,Dv.out.set (s':= {s with much:=true}) 6 (.bool true) (by simp) rfl rfl (Dv.out.p)⟩,(KT.of (K2.out.both (Keep.refl au w2).drew)).trans (KT.set (P:=P) Dv.out.b (.inr (.inr rfl)) (fun hp=>(Dv.out.av bS hp).2.1 rfl) (i:=6) (.bool true))⟩
  have dc4:decide ((120:Int)<(rows.length:Int)+(s.atoms.length:Int)+2)=false:=aW (by omega)
  omega
end Go.Proofs.YtaiffmebphhdaaaGreat
