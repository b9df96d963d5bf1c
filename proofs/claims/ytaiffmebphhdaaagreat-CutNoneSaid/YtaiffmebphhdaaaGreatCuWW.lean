/- Package cut: what a search within bounds leaves. Package cut: the plan of branch. Package cut: branch. -/
import Derived.Test.YtaiffmebphhdaaaGreatCuAA
import Derived.Test.YtaiffmebphhdaaaGreatCuI
import Derived.Test.YtaiffmebphhdaaaGreatCuSS
import Derived.Test.YtaiffmebphhdaaaGreatLcAA
namespace Go.Proofs.YtaiffmebphhdaaaGreat
set_option maxRecDepth 100000
set_option maxHeartbeats 32000000
set_option linter.unusedSimpArgs false
set_option linter.unusedVariables false
open Go.ChangeShapes Go.WideShapes Go.RowKit
structure CutX (w0:World)(vr vi:Value)(rows:List Rw)(ints:List Bool):Prop where
 hr:IsRows w0 vr rows
 hi:IsBools w0 vi ints
 n12:ints.length≤12
 m40:rows.length≤40
 ok:∀r∈rows,RowOK r (ints.length:Int)
def PhiOK (s:CSt):Prop:=max s.steps.length 3000+2*s.fuel≤7001
def lpN (n:Nat):List Rw→LP:=lpT n 1048576
def AtPost (P:Nat→Prop)(w0:World)(bS:Nat)(vr vi:Value)(w:World)(r:CRes)(e:Ending)(w':World):Prop:=∃c,e= .returned (.tuple #[.int .i64 r.st,c])∧OwnI w' w0.heap.size c r.c∧IsS P w0 w' bS vr vi r.s∧KT P w w'
def AtC (w0:World)(bS:Nat)(vr vi:Value)(rows:List Rw)(ints:List Bool)(d:Nat):Prop:=∀(P:Nat→Prop) (w:World) (s:CSt) (B:Bds) (g:Nat),IsS P w0 w bS vr vi s→IsB w w0.heap.size g B→AtOK rows.length ints.length s.atoms→BdOK rows.length ints.length s.atoms B→s.fuel<d→PhiOK s→
 Calls Tryz.prog 33 #[.pointer (some ⟨bS,0,none⟩),.map (some g)] w (AtPost P w0 bS vr vi w (atF (lpN ints.length) rows ints d s B))
variable {P:Nat→Prop}
def s3F (sB:CSt)(a b:Int):CSt:= {sB with steps:=sB.steps++ [⟨6,[min a b,max a b],[],noRw⟩]}
def endF (s:CSt)(out:List Int):CRes:=⟨2,out,{s with steps:=s.steps++ [⟨1,out,[],noRw⟩]}⟩
def BrC (r:CRes)(a:Int):Prop:=r.st≠2∨r.s.much=true∨ -a∉r.c
structure BrS (rows:List Rw)(ints:List Bool)(s sA sB:CSt)(B:Bds)(k:Nat)(z a b:Int):Prop where
 hA:atomF rows.length s (limitR k 1 z)=(a,sA)
 hB:atomF rows.length sA (limitR k (-1) (-z-1))=(b,sB)
 limA:IsLim ints.length (limitR k 1 z) k 1 z
 limB:IsLim ints.length (limitR k (-1) (-z-1)) k (-1) (-z-1)
 ar:1≤a∧a≤120
 br:1≤b∧b≤120
 okA:AtOK rows.length ints.length sA.atoms
 okB:AtOK rows.length ints.length sB.atoms
 fB:sB.fuel=s.fuel
 lA:sA.steps.length≤2993
 lB:sB.steps.length≤2994
 b1:BdOK rows.length ints.length sB.atoms (withB B (k:Int) 1 ⟨limitR k 1 z,a⟩)
 b2:∀q,BdOK rows.length ints.length (sB.atoms++q) (withB B (k:Int) (-1) ⟨limitR k (-1) (-z-1),b⟩)
theorem branch_plan {rows:List Rw}{ints:List Bool}{s:CSt}{B:Bds}{k:Nat}{z:Int}(ha:AtOK rows.length ints.length s.atoms)(hb:BdOK rows.length ints.length s.atoms B)(hk:k<ints.length)(hbad:¬(z< -1000000∨1000000≤z∨3000<s.steps.length+8∨120<rows.length+s.atoms.length+2)):
  ∃sA sB a b,BrS rows ints s sA sB B k z a b:=by
 have hz1:fitI z:=by unfold fitI;omega
 have hz2:fitI (-z-1):=by unfold fitI;omega
 have hlo:IsLim ints.length (limitR k 1 z) k 1 z:=⟨hk,.inl rfl,rfl,hz1⟩;have hhi:IsLim ints.length (limitR k (-1) (-z-1)) k (-1) (-z-1):=⟨hk,.inr rfl,rfl,hz2⟩;obtain⟨i,a1,a2,⟨ta,a3,a3'⟩,a4,a5,_⟩:=atomF_spec hlo ha (by omega)
 obtain⟨j,b1,b2,⟨tb,b3,b3'⟩,b4,b5,_⟩:=atomF_spec hhi a4 (by rw [a3,List.length_append];omega)
 have l1:=atomF_len rows.length s (limitR k 1 z);have l2:=atomF_len rows.length (atomF rows.length s (limitR k 1 z)).2 (limitR k (-1) (-z-1));have li:=(List.getElem?_eq_some_iff.1 a2).1;have lj:=(List.getElem?_eq_some_iff.1 b2).1;have ca:=a4.cap;have cb:=b4.cap;have hm:(atomF rows.length (atomF rows.length s (limitR k 1 z)).2 (limitR k (-1) (-z-1))).2.atoms=s.atoms++(ta++tb):=by rw [b3,a3,List.append_assoc]
 refine⟨(atomF rows.length s (limitR k 1 z)).2,(atomF rows.length (atomF rows.length s (limitR k 1 z)).2 (limitR k (-1) (-z-1))).2,(atomF rows.length s (limitR k 1 z)).1,(atomF rows.length (atomF rows.length s (limitR k 1 z)).2 (limitR k (-1) (-z-1))).1,rfl,rfl,hlo,hhi,by omega,by omega,a4,b4,b5.trans a5,by omega,by omega,?_,fun q=> ?_⟩
 ·have:(s.atoms++(ta++tb))[i]? =some (limitR k 1 z):=by
   rw [← hm,b3,List.getElem?_append_left li];exact a2
  rw [hm,a1];exact withB_ok hb hlo this
 ·have:(s.atoms++(ta++tb++q))[j]? =some (limitR k (-1) (-z-1)):=by
   rw [← List.append_assoc,←hm,List.getElem?_append_left lj];exact b2
  rw [hm,List.append_assoc,b1];exact withB_ok hb hhi this
theorem branch_r {rows:List Rw}{ints:List Bool}{rc:CSt→Bds→CRes}{s sA sB:CSt}{B:Bds}{k:Nat}{z a b:Int}(h:BrS rows ints s sA sB B k z a b)(hbad:¬(z< -1000000∨1000000≤z∨3000<s.steps.length+8∨120<rows.length+s.atoms.length+2)){r:CRes}(hr:rc (s3F sB a b) (withB B (k:Int) 1 ⟨limitR k 1 z,a⟩)=r):
  (BrC r a→branchF rows.length rc s B k z=r)∧(¬BrC r a→∀t,rc r.s (withB B (k:Int) (-1) ⟨limitR k (-1) (-z-1),b⟩)=t→(BrC t b→branchF rows.length rc s B k z=t)∧(¬BrC t b→branchF rows.length rc s B k z=endF t.s (sortD (outF a b (r.c++t.c) [])))):=by
 unfold branchF;rw [if_neg hbad];simp only [h.hA,h.hB];unfold s3F at hr;simp only [hr];unfold BrC;refine⟨fun h1=>by rw [if_pos h1],fun h1 t ht=> ?_⟩
 rw [if_neg h1,ht];exact⟨fun h2=>by rw [if_pos h2],fun h2=>by rw [if_neg h2];rfl⟩
theorem out_ne {rows:List Rw}{ints:List Bool}{s t:CSt}{B:Bds}{out:List Int}(h:Snd rows ints s B (endF t out))(hm:t.much=false):out≠ []:=fun e=>by
 subst e;exact h.no rfl hm (fun _=>0) (fun k _ _=>⟨0,rfl⟩) fun l hl=>by cases hl
theorem outF_succ (a b:Int):∀(l:List Int) (k:Nat) (hk:k<l.length) (o:List Int),outF a b (l.take (k+1)) o=(if l[k]≠ -a∧l[k]≠ -b∧l[k]∉outF a b (l.take k) o then outF a b (l.take k) o++ [l[k]]else outF a b (l.take k) o)
 | [],_,hk,_=>by simp at hk
 | x::l,0,_,o=>by simp [outF]
 | x::l,k+1,hk,o=>by
  simp only [List.take_succ_cons,outF,List.getElem_cons_succ];exact outF_succ a b l k (by simpa using hk) _
theorem lim_fit {n k:Nat}{sg z:Int}{r:Rw}(h:IsLim n r k sg z):FitR r:=by
 obtain⟨_,hs,rfl,hz⟩:=h;refine⟨fun x hx=> ?_,by show I64 1;unfold I64;decide,?_⟩
 ·rcases List.mem_append.1 (show x∈List.replicate k (0:Int)++ [sg]from hx)with hx | hx
  ·have:=List.eq_of_mem_replicate hx
   unfold I64;omega
  ·have:=List.mem_singleton.1 hx
   unfold I64;omega
 ·show I64 z
  unfold fitI at hz;unfold I64;omega
theorem AtOK.fit {m n:Nat}{atoms:List Rw}(h:AtOK m n atoms):∀x∈atoms,FitR x:=fun x hx=>by
 obtain⟨k,sg,z,hl⟩:=h.lim x hx;exact lim_fit hl
theorem IsS.weak {P':Nat→Prop}{w0 w:World}{bS:Nat}{vr vi:Value}{s:CSt}(h:IsS P' w0 w bS vr vi s)(hp:∀c,P c→P' c):IsS P w0 w bS vr vi s:=by
 obtain⟨va,vt,vp,xs,ys,h⟩:=h;exact⟨va,vt,vp,xs,ys,h.weak hp⟩
variable {P:Nat→Prop}
theorem branch_bad {m:Nat}{rc:CSt→Bds→CRes}{s:CSt}{B:Bds}{k:Nat}{z:Int}(h:z< -1000000∨1000000≤z∨3000<s.steps.length+8∨120<m+s.atoms.length+2):branchF m rc s B k z=⟨2,[],{s with much:=true}⟩:=by
 unfold branchF;rw [if_pos h]
theorem branch_no (w0 w:World)(bS:Nat)(orr:Option Addr)(cr:Nat)(oi:Option Addr)(ci:Nat)(rows:List Rw)(ints:List Bool)(hx:CutX w0 (.slice orr rows.length cr) (.slice oi ints.length ci) rows ints)(d:Nat)(hA:AtC w0 bS (.slice orr rows.length cr) (.slice oi ints.length ci) rows ints d)
  (s:CSt) (B:Bds) (g k:Nat) (z:Int) (xb:Bool) (xS:ByteArray) (xc:Bool) (xU:ByteArray) (h:IsS P w0 w bS (.slice orr rows.length cr) (.slice oi ints.length ci) s) (hB:IsB w w0.heap.size g B) (ha:AtOK rows.length ints.length s.atoms) (hb:BdOK rows.length ints.length s.atoms B) (hk:k<ints.length)
  (hz:IsNum (.agg #[.bool xb,.string xS,.bool xc,.string xU]) (z:Rat)) (hzn:NB 4000 (z:Rat)) (hf:s.fuel<d) (hph:PhiOK s) (hsl:s.steps.length≤7001) (hbad:z< -1000000∨1000000≤z∨3000<s.steps.length+8∨120<rows.length+s.atoms.length+2):
  Calls Tryz.prog 62 #[.pointer (some ⟨bS,0,none⟩),.map (some g),.int .i64 (k:Int),.agg #[.bool xb,.string xS,.bool xc,.string xU]] w (AtPost P w0 bS (.slice orr rows.length cr) (.slice oi ints.length ci) w (branchF rows.length (atF (lpN ints.length) rows ints d) s B k z)):=by
 obtain⟨va,vt,vp,xs,ys,hc⟩:=h;obtain⟨⟨oa,ca,rfl⟩,⟨ot,ct,rfl⟩,op,cp,rfl⟩:=hc.forms;have HC:=zh hc;have HX:=zh hx;have HAC:=zh hA;have HB:=zh hB;have HAO:=zh ha;have HBO:=zh hb;have HF:=zh hf;have HPH:=zh hph;have hal:rows.length+s.atoms.length≤120:=ha.cap;have hm40:rows.length≤40:=hx.m40;have hk12:k<12:=by have:=hx.n12;omega
 have CL:=fun w=>zh (exSmall_any w _ _ hz hzn)
 have e0:smallV ((z:Int):Rat)= .tuple #[.int .i64 (if is64 z then z else 0),.bool (decide (is64 z))]:=by
  unfold smallV;simp [Rat.num_intCast,Rat.den_intCast];exact⟨rfl,rfl⟩
 rw [e0]at CL;clear hc hx hA hB ha hb hf hph e0 hz;unfold AtPost;go_enter Tryz.func62,Tryz.ntmps62;go_upto_region 1 with fail
 have k1:Keep NoS w (w.alloc (.cells #[.bool xb,.string xS,.bool xc,.string xU] 93)):=(Keep.refl _ _).alloc _;have HB7:Hid (Blk (w.alloc (.cells #[.bool xb,.string xS,.bool xc,.string xU] 93)) w.heap.size #[.bool xb,.string xS,.bool xc,.string xU]):=zh (blk_at _ _ rfl);have K1:=zh k1;clear k1;generalize w.alloc (.cells #[.bool xb,.string xS,.bool xc,.string xU] 93)=w1 at *;obtain⟨b7,hb7⟩:∃b7,w.heap.size=b7:=⟨_,rfl⟩;rw [hb7]at HB7 ⊢;clear hb7;obtain⟨y0,y1,y2,y3,_,_,_,_,yl⟩:=HB7.out.four;go_wp2_with fail;refine(CL _).out.mono ?_;rintro e w2 ⟨rfl,hk2⟩;have K2:=zh (K1.out.both hk2);clear hk2 y0 y1 y2 y3 yl HB7 K1 CL;have HC2:=zh (HC.out.keep K2.out);obtain⟨t0,t1,t2,t3,t4,t5,t6,lS⟩:=blk7C HC2.out.blk;have t6f:=HC2.out.blk.free 6;have CL:=()
 by_cases h64:is64 z
 case neg=>
  rw [if_neg h64,decide_eq_false h64];have hzb:z< -1000000∨1000000≤z:=by
   unfold is64 at h64;omega
  clear h64;have HBR:=zh (branch_bad (rc:=atF (lpN ints.length) rows ints d) (B:=B) (k:=k) (by omega))
  have HCX:=zh (HC2.out.keep (Keep.refl NoS w2).drew);go_upto_region 2 with fail
  refine wp_region_by (fun w'=>Keep NoS w2 w') [] [] [0,1,2,3,4,5,6,7,8,9,10,11,12,13,14,15,16,17,18,19,20,21,22,23,24,25,26,27,28,29,30,31,32,33] (by kernel_rfl) (by kernel_rfl) kp ?_
  intro X W hne hF hcl;have z0:=fun x=>((hF x).cell lS).trans t0
  have z3:=fun x=>((hF x).cell lS).trans t3
  have z4:=fun x=>((hF x).cell lS).trans t4
  clear hF hcl;simp only [wpPlan,pickOps,zl0,zl1,zl2,clsOf,Bool.false_eq_true,if_false]
  (repeat(go_big_quiet_step (fail)));refine wpQuiet_nil ?_
  refine NoPanic.normal ?_;clear z0 z3 z4;go_simp
  repeat go_step
  refine bodyPost_ret (by simp [results,Tryz.results62,go_sem];rfl) rfl ?_
  rw [HBR.out];exact⟨_,rfl,OwnI.nil _ _,⟨_,_,_,_,_,HCX.out.set (s':= {s with much:=true}) 6 (.bool true) (by simp) rfl rfl (HCX.out.p)⟩,(KT.of (K2.out.both (Keep.refl NoS w2).drew)).trans (KT.set (P:=P) HCX.out.b (.inr (.inr rfl)) (fun hp=>(HCX.out.av bS hp).2.1 rfl) (i:=6) (.bool true))⟩
 case pos=>
  rw [if_pos h64,decide_eq_true h64];clear h64
  by_cases c1:z< -1000000
  ·have dc1:decide (z< -1000000)=true:=dec_t (by omega)
   have HBR:=zh (branch_bad (rc:=atF (lpN ints.length) rows ints d) (B:=B) (k:=k) (by omega))
   have HCX:=zh (HC2.out.keep (Keep.refl NoS w2).drew);go_upto_region 2 with fail
   refine wp_region_by (fun w'=>Keep NoS w2 w') [] [] [0,1,2,3,4,5,6,7,8,9,10,11,12,13,14,15,16,17,18,19,20,21,22,23,24,25,26,27,28,29,30,31,32,33] (by kernel_rfl) (by kernel_rfl) kp ?_
   intro X W hne hF hcl;have z0:=fun x=>((hF x).cell lS).trans t0
   have z3:=fun x=>((hF x).cell lS).trans t3
   have z4:=fun x=>((hF x).cell lS).trans t4
   clear hF hcl;simp only [wpPlan,pickOps,zl0,zl1,zl2,clsOf,Bool.false_eq_true,if_false]
   (repeat(go_big_quiet_step (fail)));refine wpQuiet_nil ?_
   refine NoPanic.normal ?_;clear z0 z3 z4;go_simp
   repeat go_step
   refine bodyPost_ret (by simp [results,Tryz.results62,go_sem];rfl) rfl ?_
   rw [HBR.out];exact⟨_,rfl,OwnI.nil _ _,⟨_,_,_,_,_,HCX.out.set (s':= {s with much:=true}) 6 (.bool true) (by simp) rfl rfl (HCX.out.p)⟩,(KT.of (K2.out.both (Keep.refl NoS w2).drew)).trans (KT.set (P:=P) HCX.out.b (.inr (.inr rfl)) (fun hp=>(HCX.out.av bS hp).2.1 rfl) (i:=6) (.bool true))⟩
  have dc1:decide (z< -1000000)=false:=dec_f (by omega)
  by_cases c2:1000000≤z
  ·have dc2:decide (1000000≤z)=true:=dec_t (by omega)
   have HBR:=zh (branch_bad (rc:=atF (lpN ints.length) rows ints d) (B:=B) (k:=k) (by omega))
   have HCX:=zh (HC2.out.keep (Keep.refl NoS w2).drew);go_upto_region 2 with fail
   refine wp_region_by (fun w'=>Keep NoS w2 w') [] [] [0,1,2,3,4,5,6,7,8,9,10,11,12,13,14,15,16,17,18,19,20,21,22,23,24,25,26,27,28,29,30,31,32,33] (by kernel_rfl) (by kernel_rfl) kp ?_
   intro X W hne hF hcl;have z0:=fun x=>((hF x).cell lS).trans t0
   have z3:=fun x=>((hF x).cell lS).trans t3
   have z4:=fun x=>((hF x).cell lS).trans t4
   clear hF hcl;simp only [wpPlan,pickOps,zl0,zl1,zl2,clsOf,Bool.false_eq_true,if_false]
   (repeat(go_big_quiet_step (fail)));refine wpQuiet_nil ?_
   refine NoPanic.normal ?_;clear z0 z3 z4;go_simp
   repeat go_step
   refine bodyPost_ret (by simp [results,Tryz.results62,go_sem];rfl) rfl ?_
   rw [HBR.out];exact⟨_,rfl,OwnI.nil _ _,⟨_,_,_,_,_,HCX.out.set (s':= {s with much:=true}) 6 (.bool true) (by simp) rfl rfl (HCX.out.p)⟩,(KT.of (K2.out.both (Keep.refl NoS w2).drew)).trans (KT.set (P:=P) HCX.out.b (.inr (.inr rfl)) (fun hp=>(HCX.out.av bS hp).2.1 rfl) (i:=6) (.bool true))⟩
  have dc2:decide (1000000≤z)=false:=dec_f (by omega)
  by_cases c3:3000<s.steps.length+8
  ·have dc3:decide ((3000:Int)<(s.steps.length:Int)+8)=true:=dec_t (by omega)
   have HBR:=zh (branch_bad (rc:=atF (lpN ints.length) rows ints d) (B:=B) (k:=k) (by omega))
   have HCX:=zh (HC2.out.keep (Keep.refl NoS w2).drew);go_upto_region 2 with fail
   refine wp_region_by (fun w'=>Keep NoS w2 w') [] [] [0,1,2,3,4,5,6,7,8,9,10,11,12,13,14,15,16,17,18,19,20,21,22,23,24,25,26,27,28,29,30,31,32,33] (by kernel_rfl) (by kernel_rfl) kp ?_
   intro X W hne hF hcl;have z0:=fun x=>((hF x).cell lS).trans t0
   have z3:=fun x=>((hF x).cell lS).trans t3
   have z4:=fun x=>((hF x).cell lS).trans t4
   clear hF hcl;simp only [wpPlan,pickOps,zl0,zl1,zl2,clsOf,Bool.false_eq_true,if_false]
   (repeat(go_big_quiet_step (fail)));refine wpQuiet_nil ?_
   refine NoPanic.normal ?_;clear z0 z3 z4;go_simp
   repeat go_step
   refine bodyPost_ret (by simp [results,Tryz.results62,go_sem];rfl) rfl ?_
   rw [HBR.out];exact⟨_,rfl,OwnI.nil _ _,⟨_,_,_,_,_,HCX.out.set (s':= {s with much:=true}) 6 (.bool true) (by simp) rfl rfl (HCX.out.p)⟩,(KT.of (K2.out.both (Keep.refl NoS w2).drew)).trans (KT.set (P:=P) HCX.out.b (.inr (.inr rfl)) (fun hp=>(HCX.out.av bS hp).2.1 rfl) (i:=6) (.bool true))⟩
  have dc3:decide ((3000:Int)<(s.steps.length:Int)+8)=false:=dec_f (by omega)
  by_cases c4:120<rows.length+s.atoms.length+2
  ·have dc4:decide ((120:Int)<(rows.length:Int)+(s.atoms.length:Int)+2)=true:=dec_t (by omega)
   have HBR:=zh (branch_bad (rc:=atF (lpN ints.length) rows ints d) (B:=B) (k:=k) (by omega))
   have HCX:=zh (HC2.out.keep (Keep.refl NoS w2).drew);go_upto_region 2 with fail
   refine wp_region_by (fun w'=>Keep NoS w2 w') [] [] [0,1,2,3,4,5,6,7,8,9,10,11,12,13,14,15,16,17,18,19,20,21,22,23,24,25,26,27,28,29,30,31,32,33] (by kernel_rfl) (by kernel_rfl) kp ?_
   intro X W hne hF hcl;have z0:=fun x=>((hF x).cell lS).trans t0
   have z3:=fun x=>((hF x).cell lS).trans t3
   have z4:=fun x=>((hF x).cell lS).trans t4
   clear hF hcl;simp only [wpPlan,pickOps,zl0,zl1,zl2,clsOf,Bool.false_eq_true,if_false]
   (repeat(go_big_quiet_step (fail)));refine wpQuiet_nil ?_
   refine NoPanic.normal ?_;clear z0 z3 z4;go_simp
   repeat go_step
   refine bodyPost_ret (by simp [results,Tryz.results62,go_sem];rfl) rfl ?_
   rw [HBR.out];exact⟨_,rfl,OwnI.nil _ _,⟨_,_,_,_,_,HCX.out.set (s':= {s with much:=true}) 6 (.bool true) (by simp) rfl rfl (HCX.out.p)⟩,(KT.of (K2.out.both (Keep.refl NoS w2).drew)).trans (KT.set (P:=P) HCX.out.b (.inr (.inr rfl)) (fun hp=>(HCX.out.av bS hp).2.1 rfl) (i:=6) (.bool true))⟩
  have dc4:decide ((120:Int)<(rows.length:Int)+(s.atoms.length:Int)+2)=false:=dec_f (by omega)
  omega
end Go.Proofs.YtaiffmebphhdaaaGreat
