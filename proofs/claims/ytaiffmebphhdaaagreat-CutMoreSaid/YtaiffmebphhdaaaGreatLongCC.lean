/- A region whose order is drawn, by a plan that parts where two or three operations are free. Wide whole numbers of any size: quotient and rest. Wide whole numbers of any size: the common divisor; so SetFrac is right for all that is allowed. Package long: quotient and rest of numbers, the rest not below 0. Package long: the greatest common divisor. -/
import Derived.Test.YtaiffmebphhdaaaGreatBaseA
import Derived.Test.YtaiffmebphhdaaaGreatBaseC
import Derived.Test.YtaiffmebphhdaaaGreatBaseB
import Derived.Test.YtaiffmebphhdaaaGreatLongBB
import Derived.Test.YtaiffmebphhdaaaGreatLongAA
namespace Go.Proofs.YtaiffmebphhdaaaGreat
set_option maxRecDepth 100000
set_option maxHeartbeats 8000000
set_option linter.unusedSimpArgs false
set_option linter.unusedVariables false
inductive PU where
 | fin (qs:List Nat)
 | one (qs:List Nat) (e:Nat) (p:PU)
 | two (qs:List Nat) (e1:Nat) (p1:PU) (e2:Nat) (p2:PU)
 | three (qs:List Nat) (e1:Nat) (p1:PU) (e2:Nat) (p2:PU) (e3:Nat) (p3:PU)
section
variable {P:Program} {ops:Array Oper} {Q:Exit→Act→World→Prop} {C:World→Prop} {md:Region.Mode}
def uh (md:Region.Mode)(ops:Array Oper):PU→Array Bool→Bool
 | .fin qs,listed=>takeB md ops (fun _=>false) false qs listed&&(Region.ready md ops (bR listed qs)).isEmpty
 | .one qs e p,listed=>takeB md ops (fun _=>false) false qs listed&&(Region.ready md ops (bR listed qs)== [e])&&uh md ops p ((bR listed qs).setIfInBounds e true)
 | .two qs e1 p1 e2 p2,listed=>takeB md ops (fun _=>false) false qs listed&&(Region.ready md ops (bR listed qs)== [e1,e2])&&(uh md ops p1 ((bR listed qs).setIfInBounds e1 true)&&uh md ops p2 ((bR listed qs).setIfInBounds e2 true))
 | .three qs e1 p1 e2 p2 e3 p3,listed=>takeB md ops (fun _=>false) false qs listed&&(Region.ready md ops (bR listed qs)== [e1,e2,e3])&&(uh md ops p1 ((bR listed qs).setIfInBounds e1 true)&&(uh md ops p2 ((bR listed qs).setIfInBounds e2 true)&&uh md ops p3 ((bR listed qs).setIfInBounds e3 true)))
def wH:PU→Nat
 | .fin qs=>qs.length
 | .one qs _ p=>wH p+1+qs.length
 | .two qs _ p1 _ _=>wH p1+1+qs.length
 | .three qs _ p1 _ _ _ _=>wH p1+1+qs.length
def wU:PU→Bool
 | .fin _=>true
 | .one _ _ p=>wU p
 | .two _ _ p1 _ p2=>wU p1&&wU p2&&wH p1==wH p2
 | .three _ _ p1 _ p2 _ p3=>wU p1&&wU p2&&wU p3&&(wH p1==wH p2&&wH p1==wH p3)
def oG (P:Program)(ops:Array Oper)(Q:Exit→Act→World→Prop)(C:World→Prop):PU→Act→World→Prop
 | .fin qs,a,w=>wpQuiet P ops (aV C false) (fun a'=>Q .normal a' w) (aJ ops qs) a
 | .one qs e p,a,w=>wpQuiet P ops (aV C false) (fun a'=>wpOp P ops Q e (fun a'' w''=>C w''∧oG P ops Q C p a'' w'') a' w) (aJ ops qs) a
 | .two qs e1 p1 e2 p2,a,w=>wpQuiet P ops (aV C false) (fun a'=>wpOp P ops Q e1 (fun a'' w''=>C w''∧oG P ops Q C p1 a'' w'') a' w∧wpOp P ops Q e2 (fun a'' w''=>C w''∧oG P ops Q C p2 a'' w'') a' w) (aJ ops qs) a
 | .three qs e1 p1 e2 p2 e3 p3,a,w=>wpQuiet P ops (aV C false) (fun a'=>wpOp P ops Q e1 (fun a'' w''=>C w''∧oG P ops Q C p1 a'' w'') a' w∧wpOp P ops Q e2 (fun a'' w''=>C w''∧oG P ops Q C p2 a'' w'') a' w∧wpOp P ops Q e3 (fun a'' w''=>C w''∧oG P ops Q C p3 a'' w'') a' w) (aJ ops qs) a
theorem iY (hs:Region.noSelect ops=true)(hQ:∀c (a:Act) w,¬Q (.panic c) a w):∀(p:PU) (listed:Array Bool) (a:Act) (w:World),DC md ops listed→
  uh md ops p listed=true→wU p=true→C w→oG P ops Q C p a w→wpAnyL P md ops Q C (fun _=>false) (wH p) listed a w
 | .fin qs,listed,a,w,hd,hB,_,hC,h=>by
  simp only [uh,Bool.and_eq_true]at hB;have:=gL (md:=md) (late:=fun _=>false) (C:=C) hs hQ (w:=w) (R:=fun a'=>Q .normal a' w) false 0 qs listed a hd hB.1 (fun _=>hC) (fun _ a' ha=>⟨by simpa using hB.2,ha⟩) h
  simpa [wH]using this
 | .one qs e p,listed,a,w,hd,hB,hE,hC,h=>by
  simp only [uh,Bool.and_eq_true]at hB;obtain⟨⟨h1,h2⟩,h4⟩:=hB;refine gL hs hQ false (wH p+1) qs listed a hd h1 (fun _=>hC) (fun hd' a' ha=> ?_) h
  have hre:Region.ready md ops (bR listed qs)= [e]:=by simpa using h2
  refine⟨fun h0=>(by rw [hre]at h0;cases h0),fun j hj=> ?_⟩
  rw [hre]at hj;obtain rfl:j=e:=by simpa using hj
  exact wpOp_mono (fun a'' w'' ⟨g1,g2⟩=>⟨fun _=>g1,iY hs hQ p _ a'' w'' (hd'.set (by rw [hre];exact List.mem_singleton.2 rfl)) h4 hE g1 g2⟩) ha
 | .two qs e1 p1 e2 p2,listed,a,w,hd,hB,hE,hC,h=>by
  simp only [uh,Bool.and_eq_true]at hB;simp only [wU,Bool.and_eq_true,beq_iff_eq]at hE;obtain⟨⟨h1,h2⟩,h4,h5⟩:=hB;obtain⟨⟨he1,he2⟩,hl⟩:=hE;refine gL hs hQ false (wH p1+1) qs listed a hd h1 (fun _=>hC) (fun hd' a' ha=> ?_) h
  have hre:Region.ready md ops (bR listed qs)= [e1,e2]:=by simpa using h2
  refine⟨fun h0=>(by rw [hre]at h0;cases h0),fun j hj=> ?_⟩
  have hj':=hj;rw [hre]at hj;have hj2:j=e1∨j=e2:=by simpa using hj
  rcases hj2 with e | e
  ·rw [e]at hj' ⊢
   exact wpOp_mono (fun a'' w'' ⟨g1,g2⟩=>⟨fun _=>g1,iY hs hQ p1 _ a'' w'' (hd'.set hj') h4 he1 g1 g2⟩) ha.1
  ·rw [e]at hj' ⊢
   exact wpOp_mono (fun a'' w'' ⟨g1,g2⟩=>⟨fun _=>g1,by rw [hl];exact iY hs hQ p2 _ a'' w'' (hd'.set hj') h5 he2 g1 g2⟩) ha.2
 | .three qs e1 p1 e2 p2 e3 p3,listed,a,w,hd,hB,hE,hC,h=>by
  simp only [uh,Bool.and_eq_true]at hB;simp only [wU,Bool.and_eq_true,beq_iff_eq]at hE;obtain⟨⟨h1,h2⟩,h4,h5,h6⟩:=hB;obtain⟨⟨⟨he1,he2⟩,he3⟩,hl,hl3⟩:=hE;refine gL hs hQ false (wH p1+1) qs listed a hd h1 (fun _=>hC) (fun hd' a' ha=> ?_) h
  have hre:Region.ready md ops (bR listed qs)= [e1,e2,e3]:=by simpa using h2
  refine⟨fun h0=>(by rw [hre]at h0;cases h0),fun j hj=> ?_⟩
  have hj':=hj;rw [hre]at hj;have hj2:j=e1∨j=e2∨j=e3:=by simpa using hj
  rcases hj2 with e | e | e
  ·rw [e]at hj' ⊢
   exact wpOp_mono (fun a'' w'' ⟨g1,g2⟩=>⟨fun _=>g1,iY hs hQ p1 _ a'' w'' (hd'.set hj') h4 he1 g1 g2⟩) ha.1
  ·rw [e]at hj' ⊢
   exact wpOp_mono (fun a'' w'' ⟨g1,g2⟩=>⟨fun _=>g1,by rw [hl];exact iY hs hQ p2 _ a'' w'' (hd'.set hj') h5 he2 g1 g2⟩) ha.2.1
  ·rw [e]at hj' ⊢
   exact wpOp_mono (fun a'' w'' ⟨g1,g2⟩=>⟨fun _=>g1,by rw [hl3];exact iY hs hQ p3 _ a'' w'' (hd'.set hj') h6 he3 g1 g2⟩) ha.2.2
theorem Ct {id:Nat}{l:List Oper}{a:Act}{w:World}{Q:Exit→Act→World→Prop}(F:World→Prop)(p:PU)(hm:P.follows .mixedOrders=true)
  (hB:(Region.noSelect l.toArray&&uh .any l.toArray p (Array.replicate l.toArray.size false)&&wU p&&(wH p==l.toArray.size))=true) (hF:F w.drew)
  (h:∀(X:Type) (W:X→World),Nonempty X→(∀x,F (W x))→(∀w',F w'→∃x,w'=W x)→oG P l.toArray (NoPanic Q) (fun w'=>∃x,w'=W x) p a w.drew):(Code.region id l.toArray true).wp P Q a w:=by
 have h':=h {w':World // F w'} (fun x=>x.1) ⟨⟨_,hF⟩⟩ (fun x=>x.2) fun w' hw=>⟨⟨w',hw⟩,rfl⟩
 simp only [Bool.and_eq_true]at hB;refine wp_region_noPanic (wp_region_any hm (mQ _ _ _ _ (C:=fun w'=>∃x: {w':World // F w'},w'=x.1) (late:=fun _=>false) ?_))
 have:=iY hB.1.1.1 (fun _ _ _ h=>h) p _ a w.drew (fun k ok e _ hl=>by simp [Array.getD]at hl) hB.1.1.2 hB.1.2 ⟨⟨_,hF⟩,rfl⟩ h'
 rw [show wH p=l.toArray.size from by simpa using hB.2]at this
 exact this
end
open Go.ChangeShapes Go.WideShapes Go.RowKit
theorem RH {xs ys:List Nat}(hn:iQ ys)(hx:∀d∈xs,d<4294967296)(hl:dval ys≤dval xs):ys.length≤xs.length:=by
 by_cases h0:ys= []
 ·subst h0;simp
 ·have h1:=kR ys hn h0
  have h2:=kW xs hx;have h3:4294967296^(ys.length-1)<4294967296^xs.length:=Nat.lt_of_le_of_lt h1 (Nat.lt_of_le_of_lt hl h2);have:=(Nat.pow_lt_pow_iff_right (a:=4294967296) (by omega)).1 h3
  have:0<ys.length:=List.length_pos_iff.2 h0;omega
theorem RI (w:World)(vx vy:Value)(xs ys:List Nat)(hx:dW w vx xs)(hy:dW w vy ys)(hne:iQ ys)(h0:ys≠ [])(hl:ys.length≤xs.length)(hlx:xs.length≤150000):
  Calls Tryz.prog 161 #[vx,vy] w (IX (dval xs) (dval ys) w):=by
 have hl0:0<ys.length:=List.length_pos_iff.2 h0;have hne':ys.getD (ys.length-1) 0≠0:=by rcases hne with h | h;exact absurd h h0;exact h
 by_cases h1:ys.length=1
 ·obtain ⟨d,rfl⟩:=List.length_eq_one_iff.1 h1
  have hd:0<d:=by simp at hne';omega
  have h:=QK w vx vy xs d hx hy hd (by omega)
  rw [show dval [d]=d from by simp [dval]]
  exact h
 ·exact Ny w vx vy xs ys hx hy (by omega) hne' hl hlx
theorem Fp (w:World)(bz oz bx ox eD oy br or:Nat)(x y:Int)(hz:bO w bz oz)(hr:bO w br or)(zX:P6 bz oz br or)(hx:aX w bx ox x)(hy:aX w eD oy y)(hy0:y≠0)
  (hsx:x.natAbs<BIG) (hsy:y.natAbs<BIG):
  Calls Tryz.prog 137 #[.pointer (some ⟨bz,oz,none⟩),.pointer (some ⟨bx,ox,none⟩),.pointer (some ⟨eD,oy,none⟩),.pointer (some ⟨br,or,none⟩)] w fun e w'=>
   e= .returned (.tuple #[.pointer (some ⟨bz,oz,none⟩),.pointer (some ⟨br,or,none⟩)])∧Keep (P7 (At bz oz) (At br or)) w w'∧aX w' bz oz (x.tdiv y)∧aX w' br or (x.tmod y):=by
 have C:=zh (pF w bx ox eD oy x y hx hy)
 by_cases hlt:x.natAbs<y.natAbs
 ·have hcm:eP x.natAbs y.natAbs= -1:=by simp [eP,hlt]
  rw [hcm]at C;have q0:x.tdiv y=0:=by
   rw [← zJ x y (decide (x<0)) (decide (y<0)) (by simp) (by simp),Nat.div_eq_of_lt hlt];simp [iP]
  have r0:x.tmod y=x:=by
   rw [← zK x y (decide (x<0)) (by simp),Nat.mod_eq_of_lt hlt]
   by_cases h:x<0<;>simp [iP,h]<;>omega
  have Hz:=zh hz;have Hr:=zh hr;have Hx:=zh hx;have Hq:=zh q0;have Hm:=zh r0;have HB:=zh hsx;clear hz hr hx hy hcm hsx hsy q0 r0 hlt;go_enter Tryz.func137,Tryz.ntmps137;go_wp2_with fail;refine C.out.mono ?_;rintro e w1 ⟨rfl,n,rfl⟩;go_wp2_with fail;refine(jI _ br or bx ox x (Hr.out.keep ((Keep.refl au w).drewN n) (Off.noS _ _ _)) (Hx.out.keep ((Keep.refl au w).drewN n) (Off.noS _ _ _)) HB.out).mono ?_;rintro e w2 ⟨rfl,hk2,hi2⟩;have Ww:=zh hk2;have Hi2:=zh hi2;clear hk2 hi2;go_wp2_with fail;refine(tJ _ bz oz 0 (Hz.out.keep (((Keep.refl au w).drewN n).mono (S':=At br or) (fun _ _ _ h=>h.elim) |>.trans Ww.out fun _ _ _ h=>h) (Hr.out.off (P6.symm zX))) (by omega) (by omega)).mono ?_
  rintro e w3 ⟨rfl,hk3,hi3⟩;have Hk3:=zh hk3;have Hi3:=zh hi3;clear hk3 hi3;go_wp2;go_returns;refine⟨rfl,?_,?_,?_⟩
  ·exact ((((Keep.refl au w).drewN n).any.trans (Ww.out.mono fun _ _ _ h=> .inr h) fun _ _ _ h=>h).trans Hk3.out fun _ _ _ h=> .inl h)
  ·rw [Hq.out];exact Hi3.out
  ·rw [Hm.out];exact Hi2.out.keep Hk3.out ((Hz.out.keep (((Keep.refl au w).drewN n).any.trans Ww.out fun _ _ _ h=>h) (Hr.out.off (P6.symm zX))).off zX)
 ·by_cases hsm:x.natAbs<18446744073709551616
  ·exact zL w bz oz bx ox eD oy br or x y hz hr zX hx hy hy0 hsm (by omega)
  have hcm:∃c:Int,eP x.natAbs y.natAbs=c∧0≤c:=⟨_,rfl,by unfold eP;rw [if_neg hlt];split<;>omega⟩
  obtain⟨c,hc1,hc2⟩:=hcm;rw [hc1]at C;clear hc1;obtain⟨neg,ds,hrx,hn,hne,hzx,h1,h2,h3⟩:=hx.open;obtain⟨dH,ds',yF,hn',hne',hzy,h1',h2',h3'⟩:=hy.open;have Bv:∀d∈ds,d<4294967296:=by
   obtain⟨_,_,_,_,hd,_⟩:=hrx.parts;exact hd.all_lt
  have hl3:decide ((ds.length:Int)<3)=false:=aW (by
   intro hh;have:=Jl Bv (by omega)
   rw [h3]at this;exact hsm this)
  obtain⟨gx,cx,xc0,xc1,hDX,xb⟩:=hrx.parts;obtain⟨gy,cy,yc0,yc1,hDY,yb⟩:=yF.parts;have HLX:Hid (ds.length≤150000):=zh (by have:=mo ds hn (by rw [h3];exact hsx);omega)
  have DL:Hid (ds'.length≤ds.length):=zh (RH hn' Bv (by rw [h3,h3'];omega))
  have Ot:=zh hDX;have RZ:=zh hDY;have Wl:=zh hn';have HY0:Hid (ds'≠ []):=zh fun h=>hy0 (h2'.1 h)
  have Hz:=zh hz;have Hr:=zh hr;have H3:=zh (And.intro h3 h3');have HQ:Hid (iP (neg != dH) (x.natAbs/y.natAbs)=x.tdiv y):=zh (zJ x y neg dH h1 h1');have HR:Hid (iP neg (x.natAbs%y.natAbs)=x.tmod y):=zh (zK x y neg h1);clear hz hr hx hy hrx yF hn hne hzx h1 h2 h3 hn' hne' hzy h1' h2' h3' hlt hy0 hDX hDY Bv hsm hsx hsy;go_enter Tryz.func137,Tryz.ntmps137;go_wp2_with fail;refine C.out.mono ?_;rintro e w1 ⟨rfl,n,rfl⟩;go_wp2_with fail;go_quiet (fail);go_wp2_with fail;have hk1:Keep au w (w.drewN (n+nq)):=(Keep.refl _ _).drewN _;have bx1:=dY xb hk1.size;have by1:=dY yb hk1.size;have ex1:=(hk1.cell xb).trans xc1;have ey1:=(hk1.cell yb).trans yc1;have Hk1:=zh hk1;clear xc0 xc1 yc0 yc1 xb yb hk1 C hc2 hl3;generalize w.drewN (n+nq)=w1 at *;have PA:Hid (∀w',Keep au w1 w'→Calls Tryz.prog 161 #[.slice (some ⟨gx,0,none⟩) ds.length cx,.slice (some ⟨gy,0,none⟩) ds'.length cy] w' (IX (dval ds) (dval ds') w')):=
   zh fun w' k=>RI w' _ _ ds ds' (Ot.out.ofNewer (Hk1.out.both k)) (RZ.out.ofNewer (Hk1.out.both k)) Wl.out HY0.out DL.out HLX.out
  clear Ot RZ Wl HY0 DL HLX;refine aD (fun w'=>Keep au w1 w') [] [([0,1,2,3,4,5,6,7],8)] [9,10,11,12,13] (by kernel_rfl) (by kernel_rfl) kp ?_
  intro X W hne hF hcl;have aQ:=zh hcl;have hx1:=fun x=>((hF x).cell bx1).trans ex1
  have hy1:=fun x=>((hF x).cell by1).trans ey1
  clear hF hcl;simp only [aO,aJ,zl0,zl1,zl2,aV,Bool.false_eq_true,if_false]
  (repeat(quiet_step (fail)));refine wpQuiet_nil ?_
  refine ay rfl rfl fun K hK=> ?_
  go_simp;refine(PA.out _ kp).mono ?_;rintro e w2 ⟨vq,vr,dq,dr,rfl,hk2,hq2,hr2,Wo,OT⟩;have k2:Keep au w1 w2:=Keep.trans kp hk2 fun _ _ _ h=>h
  refine hK _ _ ⟨fun _=>aQ.out _ k2,?_⟩
  have yJ:=zh hq2;have HR2:=zh hr2;have Pj:=zh (And.intro Wo OT);have zW:=zh (Hk1.out.both k2);clear hK K hk2 hq2 hr2 Wo OT PA aQ hx1 hy1 bx1 by1 ex1 ey1 k2
  (repeat(quiet_step (fail)));refine wpQuiet_nil ?_
  refine NoPanic.normal ?_;obtain⟨Tg,za,zm1,zm2,zc0,zc1,zf0,zf1,zb⟩:=(Hz.out.ofNewer zW.out).open;have HZ2:=zh (Hz.out.ofNewer zW.out);have zcY:=zh (Hr.out.ofNewer zW.out);obtain⟨gq,cq,rfl⟩:=yJ.out.form;obtain⟨gr,cr,rfl⟩:=HR2.out.form;go_upto_region 13 with fail
  have ez:(!(neg==dH))=(neg != dH):=by cases neg<;>cases dH<;>rfl
  have yw:Hid (Keep (At bz oz) w2 ((w2.setCell ⟨bz,oz,none⟩ (.bool (!(neg==dH)))).setCell ⟨bz,oz+1,none⟩ (.slice (some ⟨gq,0,none⟩) dq.length cq))):=zh (((Keep.refl _ _).setCell _ fun _=>wG bz oz).setCell _ fun _=>FR bz oz)
  have HZ3:=zh (pG HZ2.out (!(neg==dH)) yJ.out);generalize (w2.setCell ⟨bz,oz,none⟩ (.bool (!(neg==dH)))).setCell ⟨bz,oz+1,none⟩ (.slice (some ⟨gq,0,none⟩) dq.length cq)=w3 at *;have zaJ:=zh (zcY.out.keep yw.out (HZ2.out.off zX));have HR3:=zh (HR2.out.keep yw.out (HZ2.out.off zX).1);clear zc0 zc1 zf0 zf1 zb;obtain⟨rneg,ra,rm1,rm2,rc0,rc1,rf0,rf1,rb⟩:=zaJ.out.open;go_wp2_with fail;have WO:Hid (Keep (At br or) w3 ((w3.setCell ⟨br,or,none⟩ (.bool neg)).setCell ⟨br,or+1,none⟩ (.slice (some ⟨gr,0,none⟩) dr.length cr))):=zh (((Keep.refl _ _).setCell _ fun _=>wG br or).setCell _ fun _=>FR br or)
  have HR4:=zh (pG zaJ.out neg HR3.out);generalize (w3.setCell ⟨br,or,none⟩ (.bool neg)).setCell ⟨br,or+1,none⟩ (.slice (some ⟨gr,0,none⟩) dr.length cr)=w4 at *;have HZ4:=zh (HZ3.out.keep WO.out (zaJ.out.off zX.symm));clear rc0 rc1 rf0 rf1 rb;refine(kP _ bz oz _ dq HZ4.out).mono ?_;rintro e w6 ⟨rfl,hk6,hi6⟩;have V6:=zh (HR4.out.keep hk6 (HZ4.out.hdr.off zX));have FK:=zh hk6;have HI6:=zh hi6;clear hk6 hi6;go_wp2_with fail;refine(kP _ br or _ dr V6.out).mono ?_;rintro e w7 ⟨rfl,hk7,hi7⟩;have zcZ:=zh (HI6.out.keep hk7 (V6.out.hdr.off zX.symm));have Tj:=zh hk7;have HI7:=zh hi7;clear hk7 hi7;go_wp2;go_returns;refine⟨rfl,?_,?_,?_⟩
  ·have a1:=(zW.out.any.trans (yw.out.mono (S':=P7 (At bz oz) (At br or)) fun _ _ _ h=> .inl h) fun _ _ _ h=>h).trans WO.out fun _ _ _ h=> .inr h
   exact(a1.trans FK.out fun _ _ _ h=> .inl h).trans Tj.out fun _ _ _ h=> .inr h
  ·rw [← HQ.out,←H3.out.1,←H3.out.2,←Pj.out.1,←ez];exact zcZ.out
  ·rw [← HR.out,←H3.out.1,←H3.out.2,←Pj.out.2];exact HI7.out
theorem VL:zaW BIG:=fun x y hy0 h1 h2 w bz oz bx ox eD oy br or hz hr zX hx hy=>Fp w bz oz bx ox eD oy br or x y hz hr zX hx hy hy0 h1 h2
theorem Pk (w:World)(bz oz bx ox eD oy:Nat)(x y:Int)(hz:bO w bz oz)(hx:aX w bx ox x)(hy:aX w eD oy y)(hy0:y≠0)
  (hsx:x.natAbs<BIG) (hsy:y.natAbs<BIG):
  Calls Tryz.prog 113 #[.pointer (some ⟨bz,oz,none⟩),.pointer (some ⟨bx,ox,none⟩),.pointer (some ⟨eD,oy,none⟩)] w fun e w'=>
   e= .returned (.pointer (some ⟨bz,oz,none⟩))∧Keep (At bz oz) w w'∧aX w' bz oz (x.tdiv y):=by
 have Hz:=zh hz;have Hx:=zh hx;have Hy:=zh hy;have hzl:=hz.lt;clear hz hx hy;go_enter Tryz.func113,Tryz.ntmps113;go_wp2_with fail;have k1:Keep au w (w.alloc (.cells #[.bool false,.slice none 0 0] 125)):=(Keep.refl _ _).alloc _;refine(Fp _ bz oz bx ox eD oy w.heap.size 0 x y (Hz.out.ofNewer k1) (dR w) (.inl (by omega)) (Hx.out.ofNewer k1) (Hy.out.ofNewer k1) hy0 hsx hsy).mono ?_
 rintro e w1 ⟨rfl,hk1,hq,hr⟩;have Hk:=zh (k1.any (S:=At bz oz) |>.trans hk1 fun n o hn h=>by rcases h with h | h;exact h;have:=h.1;omega)
 have Hq:=zh hq;clear hk1 hq hr k1 hy0;go_wp2;go_returns;exact⟨rfl,Hk.out,Hq.out⟩
theorem dW.uniq {w:World}{v:Value}{ds ds':List Nat}(h:dW w v ds)(h':dW w v ds'):ds=ds':=by
 obtain⟨g,cap,c,fr,hv,hg,_,_,hc,_⟩:=h;obtain⟨g',cap',c',fr',hv',hg',_,_,hc',_⟩:=h';subst hv;simp at hv';obtain⟨rfl,hl,rfl⟩:=hv';rw [hg]at hg';simp at hg';obtain⟨rfl,_⟩:=hg'
 apply List.ext_getElem hl
 intro i h1 h2;have e1:=hc i h1;have e2:=hc' i h2;rw [e1]at e2;simp [List.getD,h1,h2]at e2;omega
theorem aX.uniq {w:World}{b o:Nat}{z z':Int}(h:aX w b o z)(h':aX w b o z'):z=z':=by
 obtain⟨neg,ds,⟨c,t,v,hb,ht,h0,h1,hd⟩,_,_,rfl⟩:=h;obtain⟨dH,ds',⟨c',t',v',hb',ht',h0',h1',hd'⟩,_,_,rfl⟩:=h';rw [hb]at hb';simp at hb';obtain⟨rfl,_⟩:=hb';rw [h0]at h0';rw [h1]at h1';simp at h0' h1';subst h0' h1';rw [hd.uniq hd']
open Classical in
noncomputable def VN (w:World) (v:Value):Nat:=if h:∃b z,v= .pointer (some ⟨b,0,none⟩)∧aX w b 0 z then(Classical.choose (Classical.choose_spec h)).natAbs else 0
theorem Mg {w:World}{b:Nat}{z:Int}(h:aX w b 0 z):VN w (.pointer (some ⟨b,0,none⟩))=z.natAbs:=by
 have hex:∃b' z',Value.pointer (some ⟨b,0,none⟩)= .pointer (some ⟨b',0,none⟩)∧aX w b' 0 z':=⟨b,z,rfl,h⟩;unfold VN;rw [dif_pos hex];have key:∀(b':Nat) (z':Int),Value.pointer (some ⟨b,0,none⟩)= .pointer (some ⟨b',0,none⟩)→aX w b' 0 z'→z'=z:=fun b' z' e hi=>by
  simp at e;subst e;exact hi.uniq h
 have hs:=Classical.choose_spec (Classical.choose_spec hex);exact congrArg Int.natAbs (key _ _ hs.1 hs.2)
theorem VO (w:World)(bz oz ba oa bb ob:Nat)(x y:Int)(hz:bO w bz oz)(hx:aX w ba oa x)(hy:aX w bb ob y)
  (hbx:x.natAbs<BIG) (hby:y.natAbs<BIG):
  Calls Tryz.prog 64 #[.pointer (some ⟨bz,oz,none⟩),.pointer none,.pointer none,.pointer (some ⟨ba,oa,none⟩),.pointer (some ⟨bb,ob,none⟩)] w fun e w'=>
   e= .returned (.pointer (some ⟨bz,oz,none⟩))∧Keep (At bz oz) w w'∧aX w' bz oz (Nat.gcd x.natAbs y.natAbs:Nat):=by
 have Hz:=zh hz;have Hx:=zh hx;have Hy:=zh hy;have Yz:=zh hbx;have WL:=zh hby;have hzl:=hz.lt;clear hz hx hy hbx hby;go_enter Tryz.func64,Tryz.ntmps64;go_wp2_with fail;have k1:Keep au w (w.alloc (.cells #[.bool false,.slice none 0 0] 125)):=(Keep.refl _ _).alloc _;refine(Dr _ w.heap.size 0 ba oa x (dR w) (Hx.out.ofNewer k1) Yz.out).mono ?_;rintro e w1 ⟨rfl,hk1,hp1⟩;have K1:=zh (k1.trans hk1 fun n o hn h=>by have:=h.1;omega)
 have Hp1:=zh hp1;have hs1:w.heap.size+1≤w1.heap.size:=by have:=hk1.size;simpa using this
 clear k1 hk1 hp1;go_wp2_with fail;have k2:Keep au w1 (w1.alloc (.cells #[.bool false,.slice none 0 0] 125)):=(Keep.refl _ _).alloc _;refine(Dr _ w1.heap.size 0 bb ob y (dR w1) ((Hy.out.ofNewer K1.out).ofNewer k2) WL.out).mono ?_;rintro e w2 ⟨rfl,hk2,hq2⟩;have k2':Keep au w1 w2:=k2.trans hk2 fun n o hn h=>by have:=h.1;omega
 have K2:=zh (K1.out.trans k2' fun _ _ _ h=>h)
 have Hp2:=zh (Hp1.out.ofNewer k2');have Hq2:=zh hq2;clear k2 hk2 hq2 k2' Hp1 K1 Hx Hy;go_wp2_with fail;go_loopw [11,12] (fun c d wr=>∃p q P Q:Nat,c= .pointer (some ⟨p,0,none⟩)∧d= .pointer (some ⟨q,0,none⟩)∧Keep au w wr∧aX wr p 0 (P:Int)∧aX wr q 0 (Q:Int)∧P<BIG∧Q<BIG∧Nat.gcd P Q=Nat.gcd x.natAbs y.natAbs) (fun _ d wr=>VN wr d)
 case atStart=>exact⟨_,_,x.natAbs,y.natAbs,rfl,rfl,K2.out,Hp2.out,Hq2.out,Yz.out,WL.out,rfl⟩
 case round=>
  obtain⟨p,q,P,Q,rfl,rfl,hk,hp,hq,hP,hQ,hg⟩:=hrel;have HK:=zh hk;have HP:=zh hp;have HQ:=zh hq;have HB:=zh (And.intro hP hQ);have HG:=zh hg;have hm:=Mg hq;rw [Int.natAbs_natCast]at hm;have HM:=zh hm;clear hk hp hq hP hQ hg hm K2 Hp2 Hq2 Yz WL;go_wp2_with fail;refine(yI _ q 0 _ HQ.out).mono ?_;rintro e w3 ⟨rfl,rfl⟩
  by_cases hy0:Q=0
  ·subst hy0
   go_wp2_with fail;refine(jI _ bz oz p 0 _ (Hz.out.ofNewer HK.out) HP.out (by rw [Int.natAbs_natCast];exact HB.out.1)).mono ?_
   rintro e w3 ⟨rfl,hk3,hi3⟩;go_wp2;go_returns;refine⟨rfl,HK.out.any.trans hk3 fun _ _ _ h=>h,?_⟩
   rw [← HG.out,Nat.gcd_zero_right];exact hi3
  ·have hsg:((Q:Nat):Int).sign=1:=Int.sign_eq_one_of_pos (by omega)
   have Hsg:=zh hsg;rw [Hsg.out];obtain⟨neg,ds,hrx,hn,hne,hzx,h1,h2,h3⟩:=HP.out.open;obtain⟨dH,ds',yF,hn',hne',hzy,h1',h2',h3'⟩:=HQ.out.open;have Bv:∀d∈ds,d<4294967296:=by obtain⟨_,_,_,_,hd,_⟩:=hrx.parts;exact hd.all_lt
   have hdy:∀d∈ds',d<4294967296:=by obtain⟨_,_,_,_,hd,_⟩:=yF.parts;exact hd.all_lt
   obtain⟨g,cap,xc0,xc1,_,_,xb,_,_,_,_,_⟩:=hrx.open;obtain⟨g',cap',yc0,yc1,_,_,yb,_,_,_,_,_⟩:=yF.open;have hcon:P%Q<Q∧Nat.gcd Q (P%Q)=Nat.gcd P Q:=⟨Nat.mod_lt _ (by omega),by rw [Nat.gcd_comm P Q,Nat.gcd_rec Q P,Nat.gcd_comm]⟩
   have Yf:=zh hcon
   by_cases hsm:ds.length<3∧ds'.length<3
   ·have hl3:decide ((ds.length:Int)<3)=true:=bI (by omega)
    have zaD:decide ((ds'.length:Int)<3)=true:=bI (by omega)
    have hsx:P<18446744073709551616:=by have:=Jl Bv hsm.1;rw [h3]at this;simpa using this
    have hsy:Q<18446744073709551616:=by have:=Jl hdy hsm.2;rw [h3']at this;simpa using this
    have UX:=mJ wr p 0 _ HP.out;have UY:=mJ wr q 0 _ HQ.out;rw [Int.natAbs_natCast,Nat.mod_eq_of_lt hsx]at UX;rw [Int.natAbs_natCast,Nat.mod_eq_of_lt hsy]at UY;have HUX:=zh UX;have HUY:=zh UY;have HS:=zh (And.intro hsx hsy);clear hsg UX UY hrx yF hn hne hzx h1 h2 h3 hn' hne' hzy h1' h2' h3' Bv hdy hsm hsx hsy hcon Yf hy0;go_wp2_with fail;refine HUX.out.mono ?_;rintro e w3 ⟨rfl,rfl⟩;go_wp2_with fail;refine HUY.out.mono ?_;rintro e w3 ⟨rfl,rfl⟩;clear HUX HUY Hsg hl3 zaD xc0 xc1 yc0 yc1;go_wp2_with fail;go_loopw [13,14] (fun c d wx=>∃p' q':Nat,c= .int .u64 p'∧d= .int .u64 q'∧p'<18446744073709551616∧q'<18446744073709551616∧Nat.gcd p' q'=Nat.gcd x.natAbs y.natAbs∧∃n,wx=wr.drewN n) (fun _ d _=>(intOf d).toNat)
    case atStart=>exact⟨P,Q,rfl,rfl,HS.out.1,HS.out.2,HG.out,0,rfl⟩
    case round=>
     obtain⟨p',q',rfl,rfl,hp,hq,hg,n,rfl⟩:=hrel;have Hg:=zh hg;clear hg
     by_cases h0:q'=0
     ·subst h0
      go_wp2_with fail;refine(ji _ bz oz p' ((Hz.out.ofNewer HK.out).ofNewer ((Keep.refl au wr).drewN n)) hp).mono ?_;rintro e w3 ⟨rfl,hk3,hi3⟩;go_wp2;go_returns;refine⟨rfl,((HK.out.trans ((Keep.refl au wr).drewN n) fun _ _ _ h=>h).any).trans hk3 fun _ _ _ h=>h,?_⟩
      rw [← Hg.out];simpa using hi3
     ·have hq0:((0:Int)<(q':Int)):=by omega
      have hm:p'%q'<q':=Nat.mod_lt _ (by omega)
      go_wp2_with fail;go_quiet (fail);go_wp2_with fail;go_roundw
      case rel=>exact⟨q',p'%q',rfl,by simp,hq,by omega,by rw [← Hg.out,Nat.gcd_comm p' q',Nat.gcd_rec q' p',Nat.gcd_comm],n+nq,by simp⟩
      case measure=>simp [intOf];omega
   ·have hl3:(decide ((ds.length:Int)<3)&&decide ((ds'.length:Int)<3))=false:=by
     rw [Bool.and_eq_false_iff]
     rcases Nat.lt_or_ge ds.length 3 with h | h
     ·exact .inr (aW (by omega))
     ·exact .inl (aW (by omega))
    clear hsg hrx yF hn hne hzx h1 h2 h3 hn' hne' hzy h1' h2' h3' Bv hdy hcon;have k1:Keep au wr (wr.alloc (.cells intCells 125)):=(Keep.refl _ _).alloc _;have hM:=Zy (Nat.le_refl _) VL _ wr.heap.size 0 p 0 q 0 _ _ (dR wr) (HP.out.ofNewer k1) (HQ.out.ofNewer k1) (by omega) (by rw [Int.natAbs_natCast];exact HB.out.1) (by rw [Int.natAbs_natCast];exact HB.out.2)
    have HMO:=zh hM;clear hM;go_wp2_with fail
    all_goals
     refine HMO.out.mono ?_;rintro e w3 ⟨rfl,hk3,hi3⟩;have yw:=zh (k1.newer hk3 (Nat.le_refl _));have HI3:=zh hi3;clear hk3 hi3 k1 HMO xc0 xc1 yc0 yc1;go_wp2_with fail;go_roundw
     case rel=>
      refine⟨q,wr.heap.size,Q,P%Q,rfl,rfl,HK.out.both yw.out,HQ.out.ofNewer yw.out,HI3.out,HB.out.2,?_,by rw [Yf.out.2];exact HG.out⟩
      have:=Yf.out.1;have:=HB.out.2;omega
     case measure=>
      rw [Mg HI3.out,HM.out,←Int.natCast_emod,Int.natAbs_natCast];exact Yf.out.1
theorem Ba:YA BIG:=fun a b hb ha1 hb1 w bz oz ba oa bb ob hz ha hb'=>by
 have hg0:(Nat.gcd a.natAbs b.natAbs:Int)≠0:=by
  have:0<Nat.gcd a.natAbs b.natAbs:=Nat.gcd_pos_of_pos_right _ (by omega)
  omega
 have hg1:(Nat.gcd a.natAbs b.natAbs:Int).natAbs<BIG:=by
  rw [Int.natAbs_natCast];exact Nat.lt_of_le_of_lt (Nat.gcd_le_right _ (by omega)) hb1
 exact Fa w bz oz ba oa bb ob a b hz ha hb' hb ha1 hb1 (fun w bz oz ba oa bb ob hz hx hy=>VO w bz oz ba oa bb ob a b hz hx hy ha1 hb1)
  (fun w bz oz ba oa bb ob hz hx hy=>Pk w bz oz ba oa bb ob _ _ hz hx hy hg0 ha1 hg1) (fun w bz oz ba oa bb ob hz hx hy=>Pk w bz oz ba oa bb ob _ _ hz hx hy hg0 hb1 hg1)
theorem aL.set2 {w:World}{b:Nat}{x y:Value}(h:aL w b #[x,y])(u v:Value):aL ((w.setCell ⟨b,0,none⟩ u).setCell ⟨b,1,none⟩ v) b #[u,v]:=by
 obtain⟨t,h⟩:=h;exact⟨t,heap_setCell_same 1 v (heap_setCell_same 0 u h)⟩
theorem aL.other2 {w:World}{b b':Nat}{A:Array Value}(h:aL w b A)(hne:b≠b')(u v:Value):aL ((w.setCell ⟨b',0,none⟩ u).setCell ⟨b',1,none⟩ v) b A:=by
 obtain⟨t,h⟩:=h;exact⟨t,by rw [heap_setCell_other _ _ _ _ hne,heap_setCell_other _ _ _ _ hne];exact h⟩
theorem aP {w0 w:World}{b:Nat}(h:Keep au w0 w)(hb:w0.heap.size≤b)(u v:Value):Keep au w0 ((w.setCell ⟨b,0,none⟩ u).setCell ⟨b,1,none⟩ v):=
 (h.setCell _ fun hh=>absurd hh (by omega)).setCell _ fun hh=>absurd hh (by omega)
def YB (b c:Nat):Nat→Nat→Prop:=fun k _=>k=b∨k=c
theorem aL.keep2 {w w':World}{k b c:Nat}{A:Array Value}(h:aL w k A)(hk:Keep (YB b c) w w')(h1:k≠b)(h2:k≠c):aL w' k A:=by
 obtain⟨t,h⟩:=h;exact⟨t,by rw [hk.block k (lt_of_heap h) fun o ho=>ho.elim h1 h2];exact h⟩
theorem Ht {w0 w:World}{b c d:Nat}(h:Keep (YB b c) w0 w)(hd:d=b∨d=c)(u v:Value):Keep (YB b c) w0 ((w.setCell ⟨d,0,none⟩ u).setCell ⟨d,1,none⟩ v):=
 (h.setCell _ fun _=>hd).setCell _ fun _=>hd
theorem zb3 {y:Int}(h:y≠0):0<(cZ y.natAbs).length:=List.length_pos_iff.2 fun e=>by
 have:=qB.1 e;omega
theorem aH (z:Int):∃b S,bH z= .agg #[.bool b,.string S]∧b=decide (z<0)∧S=bytesOf (cZ z.natAbs):=⟨_,_,rfl,rfl,rfl⟩
theorem pW (w:World)(x y:Int)(hx:dl x≤4500)(hy:dl y≤4500)(hy0:y≠0):
  Calls Tryz.prog 99 #[bH x,bH y] w fun e w'=>e= .returned (.tuple #[bH (x/y),bH (x%y),.int .i64 0])∧Keep au w w':=by
 have Bv:(cZ x.natAbs).length≤4500:=hx;have hdy:(cZ y.natAbs).length≤4500:=hy;have hq:=nW (a:=x.tdiv y) (b:=x) (by rw [Int.natAbs_tdiv];exact Nat.div_le_self _ _)
 have hr:=nW (a:=x.tmod y) (b:=x) (by rw [Int.natAbs_tmod];exact Nat.mod_le _ _)
 have ha:=ZO y;have hdy0:=zb3 hy0;have LX:=fun w b=>zh (jf w x b (by omega))
 have LY:=fun w b=>zh (jf w y b (by omega))
 have SY:=fun w=>zh (iV w y)
 have SR:=fun w=>zh (iV w (x.tmod y))
 have AY:=fun w=>zh (J7 w y)
 have UR:=fun w=>zh (qD w (x.tmod y) (y.natAbs:Nat) (by omega) (by omega))
 have U1:=fun w=>zh (qD w (x.tdiv y) 1 (by omega) (by have:=rF (z:=1) (k:=1) (by decide);omega))
 have U2:=fun w=>zh (qD w (x.tdiv y) (-1) (by omega) (by have:=rF (z:= -1) (k:=1) (by decide);omega))
 have HQV:=zJ x y (decide (x<0)) (decide (y<0)) (by simp) (by simp)
 have HRV:=zK x y (decide (x<0)) (by simp)
 have HE0:Hid (0≤x.tmod y→x/y=x.tdiv y∧x%y=x.tmod y):=zh fun h=>uI hy0 (by omega)
 have Ir:Hid (x.tmod y<0→(y<0→x/y=x.tdiv y+1∧x%y=x.tmod y+(y.natAbs:Nat))∧(0≤y→x/y=x.tdiv y+ -1∧x%y=x.tmod y+(y.natAbs:Nat))):=zh fun h=>by
  obtain⟨h1,h2⟩:=Bw hy0 h;exact⟨fun h'=>by obtain⟨h3,h4⟩:=h1 h';omega,fun h'=>by obtain⟨h3,h4⟩:=h2 (by omega);omega⟩
 have RV:Hid (x.tmod y<0↔(x.tmod y).sign<0):=zh (by
  rcases Int.lt_trichotomy (x.tmod y) 0 with h | h | h
  ·rw [Int.sign_eq_neg_one_of_neg h];omega
  ·rw [h];simp
  ·rw [Int.sign_eq_one_of_pos h];omega)
 have e0:(y.sign==0)=false:=by rw [beq_eq_false_iff_ne];intro h;exact hy0 (Int.sign_eq_zero_iff_zero.1 h)
 obtain⟨bx,S,lx,hbx,hS⟩:=aH x;obtain⟨eD,U,ly,hby,hU⟩:=aH y
 obtain⟨qb,QS,lq,-,-⟩:=aH (x.tdiv y);obtain⟨rb,RS,lr,-,-⟩:=aH (x.tmod y);obtain⟨ab,AS,nu,-,-⟩:=aH (y.natAbs:Nat);rw [← hS]at LX;rw [← hU]at LY;rw [← hbx,←hby]at HQV;rw [← hbx]at HRV;rw [ly]at SY AY;rw [lr]at SR UR;rw [nu]at AY UR;rw [lq]at U1 U2;rw [lx,ly];have WX:=zh hby;have Wp:=zh (dX y.natAbs);have kJ:=zh (dX x.natAbs);have LQ:=fun w vx vy h1 h2=>zh (rQ w vx vy (cZ x.natAbs) (cZ y.natAbs) h1 h2 kJ.out Wp.out hdy0 (by omega) (by omega))
 rw [bQ,bQ]at LQ;have HQV:=zh (congrArg bH HQV);have HRV:=zh (congrArg bH HRV);rw [lq]at HQV;rw [lr]at HRV;have HLQ:=zh lq;have Oo:=zh lr;clear hx hy hbx hS hby hU lx ly lq lr nu ha hq hr hy0 hdy0;have Ot:=zh Bv;have RZ:=zh hdy;clear Bv hdy;go_enter Tryz.func99,Tryz.ntmps99;go_wp2_with fail;have B0:aL ((((w.alloc (.cells #[.bool bx,.string S] 91)).alloc (.cells #[.bool eD,.string U] 91)).alloc (.cells #[.bool false,.string ⟨#[]⟩] 91)).alloc (.cells #[.bool false,.string ⟨#[]⟩] 91)) w.heap.size #[.bool bx,.string S]:=kc
 have B1:aL ((((w.alloc (.cells #[.bool bx,.string S] 91)).alloc (.cells #[.bool eD,.string U] 91)).alloc (.cells #[.bool false,.string ⟨#[]⟩] 91)).alloc (.cells #[.bool false,.string ⟨#[]⟩] 91)) (w.heap.size+1) #[.bool eD,.string U]:=kc
 have B4:aL ((((w.alloc (.cells #[.bool bx,.string S] 91)).alloc (.cells #[.bool eD,.string U] 91)).alloc (.cells #[.bool false,.string ⟨#[]⟩] 91)).alloc (.cells #[.bool false,.string ⟨#[]⟩] 91)) (w.heap.size+1+1) #[.bool false,.string ⟨#[]⟩]:=kc
 have B5:aL ((((w.alloc (.cells #[.bool bx,.string S] 91)).alloc (.cells #[.bool eD,.string U] 91)).alloc (.cells #[.bool false,.string ⟨#[]⟩] 91)).alloc (.cells #[.bool false,.string ⟨#[]⟩] 91)) (w.heap.size+1+1+1) #[.bool false,.string ⟨#[]⟩]:=kc
 have K0:Hid (Keep au w ((((w.alloc (.cells #[.bool bx,.string S] 91)).alloc (.cells #[.bool eD,.string U] 91)).alloc (.cells #[.bool false,.string ⟨#[]⟩] 91)).alloc (.cells #[.bool false,.string ⟨#[]⟩] 91))):=zh kp
 generalize (((w.alloc (.cells #[.bool bx,.string S] 91)).alloc (.cells #[.bool eD,.string U] 91)).alloc (.cells #[.bool false,.string ⟨#[]⟩] 91)).alloc (.cells #[.bool false,.string ⟨#[]⟩] 91)=w1 at*
 have HB0:=zh B0;have HB1:=zh B1;have fO:=zh B4;have gZ:=zh B5;clear B0 B1 B4 B5;refine(SY _).out.mono ?_;rintro e w2 ⟨rfl,hk2⟩;have K2:=zh (K0.out.both hk2);have HB0:=zh (HB0.out.keep hk2);have HB1:=zh (HB1.out.keep hk2);have fO:=zh (fO.out.keep hk2);have gZ:=zh (gZ.out.keep hk2);have h45:w.heap.size+1+1≠w.heap.size+1+1+1:=by omega
 have Ck:Hid (w.heap.size≤w.heap.size+1+1):=zh (by omega)
 have HS5:Hid (w.heap.size≤w.heap.size+1+1+1):=zh (by omega)
 clear hk2 SY;generalize w.heap.size+1+1+1=b5 at *;generalize w.heap.size+1+1=b4 at *;generalize w.heap.size+1=b1 at *;generalize hb0:w.heap.size=b0 at HB0 ⊢;clear hb0;go_wp2;refine aD (fun w'=>Keep au w2 w') [] [([0,2],1),([],3),([],4)] [5,6,7,8,9] (by kernel_rfl) (by kernel_rfl) kp ?_
 intro X W hne hF hcl;have aQ:=zh hcl;have hx0:=fun x=>(HB0.out.keep (hF x)).two
 have hx1:=fun x=>(HB1.out.keep (hF x)).two
 clear hF hcl;simp only [aO,aJ,zl0,zl1,zl2,aV,Bool.false_eq_true,if_false]
 (repeat(quiet_step (fail)));refine wpQuiet_nil ?_
 refine ay rfl rfl fun K hK=> ?_
 go_simp;refine(LX _ _).out.mono ?_;rintro e w3 ⟨v3,rfl,hd3,hk3⟩;have k3:Keep au w2 w3:=Keep.trans kp hk3 fun _ _ _ h=>h
 refine hK _ _ ⟨fun _=>aQ.out _ k3,?_⟩
 clear hK K hk3
 (repeat(quiet_step (fail)));refine wpQuiet_nil ?_
 refine ay rfl rfl fun K hK=> ?_
 go_simp;refine(LY _ _).out.mono ?_;rintro e w4 ⟨v4,rfl,hd4,hk4⟩;have k4:=k3.both hk4;refine hK _ _ ⟨fun _=>aQ.out _ k4,?_⟩
 have hd3:=hd3.keep hk4;clear hK K hk4 k3
 (repeat(quiet_step (fail)));refine wpQuiet_nil ?_
 refine ay rfl rfl fun K hK=> ?_
 go_simp;refine(LQ _ _ _ hd3 hd4).out.mono ?_;rintro e w5 ⟨vq,vr,qs,rs,rfl,hk5,hq5,hr5,Wo,OT,hlq,hlr⟩;have k5:=k4.both hk5;refine hK _ _ ⟨fun _=>aQ.out _ k5,?_⟩
 have K5:=zh (K2.out.both k5);have HB0:=zh (HB0.out.keep k5);have HB1:=zh (HB1.out.keep k5);have fO:=zh (fO.out.keep k5);have gZ:=zh (gZ.out.keep k5);have HD1:=zh hq5;have HD2:=zh hr5;have Yq:Hid (qs.length≤20000):=zh (by have:=Ot.out;omega)
 have Br:Hid (rs.length≤20000):=zh (by have:=Ot.out;omega)
 have Ou:Hid (bH (iP (!(bx==eD)) (dval qs))= .agg #[.bool qb,.string QS]):=zh (by rw [Wo,←HQV.out];cases bx<;>cases eD<;>rfl)
 have Pj:Hid (bH (iP bx (dval rs))= .agg #[.bool rb,.string RS]):=zh (by rw [OT];exact HRV.out)
 clear hK K hk5 k4 hd3 hd4 hq5 hr5 Wo OT hlq hlr k5 LX LY LQ hx0 hx1 aQ
 (repeat(quiet_step (fail)));refine wpQuiet_nil ?_
 refine NoPanic.normal ?_;generalize w5=w0 at *;have RJ:=zh fO.out.lt;have Yg:=zh gZ.out.lt;have zc2:=zh HB1.out.lt;go_upto_region 4 with fail
 go_cut [9,10]from 24 to 51 (fun s t wx=>∃ba bb,s= .pointer (some ⟨ba,0,none⟩)∧t= .pointer (some ⟨bb,0,none⟩)∧Keep au w0 wx∧aL wx ba #[.bool qb,.string QS]∧aL wx bb #[.bool rb,.string RS]∧w0.heap.size≤ba∧w0.heap.size≤bb∧ba≠bb)
 case first=>
  as_aux_lemma=>
   refine Ct (fun w'=>Keep au w0 w') (.three [0,1,2,3,4,5,7,8,9] 6 (.three [] 10 (.two [] 11 (.one [] 12 (.one [] 13 (.one [] 14 (.fin [])))) 12 (.one [] 11 (.one [] 13 (.one [] 14 (.fin []))))) 11 (.two [] 10 (.one [] 12 (.one [] 13 (.one [] 14 (.fin [])))) 12 (.one [] 10 (.one [] 13 (.one [] 14 (.fin []))))) 12 (.two [] 10 (.one [] 11 (.one [] 13 (.one [] 14 (.fin [])))) 11 (.one [] 10 (.one [] 13 (.one [] 14 (.fin [])))))) 11 (.two [] 6 (.two [] 10 (.one [] 12 (.one [] 13 (.one [] 14 (.fin [])))) 12 (.one [] 10 (.one [] 13 (.one [] 14 (.fin []))))) 12 (.one [] 6 (.one [] 10 (.one [] 13 (.one [] 14 (.fin [])))))) 12 (.two [] 6 (.two [] 10 (.one [] 11 (.one [] 13 (.one [] 14 (.fin [])))) 11 (.one [] 10 (.one [] 13 (.one [] 14 (.fin []))))) 11 (.one [] 6 (.one [] 10 (.one [] 13 (.one [] 14 (.fin []))))))) (by kernel_rfl) (by kernel_rfl) kp ?_
   intro X W hne hF hcl;have aQ:=zh hcl;have hx0:=fun x=>(HB0.out.keep (hF x)).two
   have hx1:=fun x=>(HB1.out.keep (hF x)).two
   clear hF hcl;simp only [oG,aJ,zl0,zl1,zl2,aV,Bool.false_eq_true,if_false]
   (repeat(quiet_step (fail)));refine wpQuiet_nil ?_
   refine⟨?_,?_,?_⟩
   ·refine ay rfl rfl fun K hK=> ?_
    go_simp;refine(dJ _ _ _ _ (HD1.out.keep kp) Yq.out).mono ?_;rintro e v1 ⟨rfl,hk⟩;have K1:=zh ((show Keep au w0 _ from kp).both hk)
    rw [Ou.out];refine hK _ _ ⟨aQ.out _ K1.out,?_⟩;clear hK K hk
    (repeat(quiet_step (fail)));refine wpQuiet_nil ?_
    refine⟨?_,?_,?_⟩
    ·refine ay rfl rfl fun K hK=> ?_
     go_simp;refine(dJ _ _ _ _ (HD2.out.keep K1.out) Br.out).mono ?_;rintro e v2 ⟨rfl,hk⟩;have K2:=zh ((show Keep au w0 _ from K1.out).both hk)
     rw [Pj.out];refine hK _ _ ⟨aQ.out _ K2.out,?_⟩;clear hK K hk
     (repeat(quiet_step (fail)));refine wpQuiet_nil ?_
     refine⟨?_,?_⟩
     ·refine ay rfl rfl fun K hK=> ?_
      go_simp;have k3:Keep au w0 (v2.alloc (.cells #[.bool false,.string ⟨#[]⟩] 91)):=K2.out.alloc _;refine hK _ _ ⟨aQ.out _ k3,?_⟩;have dh:Hid (aL (v2.alloc (.cells #[.bool false,.string ⟨#[]⟩] 91)) v2.heap.size #[.bool false,.string ⟨#[]⟩]):=zh (aR _ _ rfl);have K3:=zh k3;clear hK K k3;obtain⟨ba,hba⟩:∃b,b=v2.heap.size:=⟨_,rfl⟩;have vJ:Hid (w0.heap.size≤ba):=zh (by rw [hba];exact K2.out.size)
      rw [← hba]at dh ⊢;clear hba;generalize v2.alloc (.cells #[.bool false,.string ⟨#[]⟩] 91)=v3 at*
      (repeat(quiet_step (fail)));refine wpQuiet_nil ?_
      refine ay rfl rfl fun K hK=> ?_
      go_simp;have k4:Keep au w0 (v3.alloc (.cells #[.bool false,.string ⟨#[]⟩] 91)):=K3.out.alloc _;refine hK _ _ ⟨aQ.out _ k4,?_⟩;have dw:Hid (aL (v3.alloc (.cells #[.bool false,.string ⟨#[]⟩] 91)) v3.heap.size #[.bool false,.string ⟨#[]⟩]):=zh (aR _ _ rfl);have K4:=zh k4;have gV:Hid (ba≠v3.heap.size):=zh (by have:=dh.out.lt;omega)
      have dh:=zh (dh.out.old (.cells #[.bool false,.string ⟨#[]⟩] 91));clear hK K k4;obtain⟨bb,hbb⟩:∃b,b=v3.heap.size:=⟨_,rfl⟩;have wD:Hid (w0.heap.size≤bb):=zh (by rw [hbb];exact K3.out.size)
      rw [← hbb]at dw gV ⊢;clear hbb;generalize v3.alloc (.cells #[.bool false,.string ⟨#[]⟩] 91)=v4 at*
      (repeat(quiet_step (fail)));refine wpQuiet_nil ?_
      obtain⟨ra0,ra1,fa0,fa1,Bb⟩:=dh.out.two;refine ay rfl rfl fun K hK=> ?_
      go_simp;have K5:=zh (aP K4.out vJ.out (.bool qb) (.string QS));refine hK _ _ ⟨aQ.out _ K5.out,?_⟩;have dh:=zh (dh.out.set2 (.bool qb) (.string QS));have dw:=zh (dw.out.other2 (fun h=>gV.out h.symm) (.bool qb) (.string QS))
      clear hK K ra0 ra1 fa0 fa1 Bb;generalize (v4.setCell ⟨ba,0,none⟩ (.bool qb)).setCell ⟨ba,1,none⟩ (.string QS)=v5 at*
      (repeat(quiet_step (fail)));refine wpQuiet_nil ?_
      obtain⟨rb0,rb1,fb0,fb1,Bc⟩:=dw.out.two;refine ay rfl rfl fun K hK=> ?_
      go_simp;have K6:=zh (aP K5.out wD.out (.bool rb) (.string RS));refine hK _ _ ⟨aQ.out _ K6.out,?_⟩;have dw:=zh (dw.out.set2 (.bool rb) (.string RS));have dh:=zh (dh.out.other2 (fun h=>gV.out h) (.bool rb) (.string RS))
      clear hK K rb0 rb1 fb0 fb1 Bc;generalize (v5.setCell ⟨bb,0,none⟩ (.bool rb)).setCell ⟨bb,1,none⟩ (.string RS)=v6 at*
      (repeat(quiet_step (fail)));refine wpQuiet_nil ?_
      refine NoPanic.normal ?_;go_wp2_with fail;go_meet;exact⟨ba,bb,rfl,rfl,K6.out,dh.out,dw.out,vJ.out,wD.out,gV.out⟩
     ·refine ay rfl rfl fun K hK=> ?_
      go_simp;have k3:Keep au w0 (v2.alloc (.cells #[.bool false,.string ⟨#[]⟩] 91)):=K2.out.alloc _;refine hK _ _ ⟨aQ.out _ k3,?_⟩;have dw:Hid (aL (v2.alloc (.cells #[.bool false,.string ⟨#[]⟩] 91)) v2.heap.size #[.bool false,.string ⟨#[]⟩]):=zh (aR _ _ rfl);have K3:=zh k3;clear hK K k3;obtain⟨bb,hbb⟩:∃b,b=v2.heap.size:=⟨_,rfl⟩;have wD:Hid (w0.heap.size≤bb):=zh (by rw [hbb];exact K2.out.size)
      rw [← hbb]at dw ⊢;clear hbb;generalize v2.alloc (.cells #[.bool false,.string ⟨#[]⟩] 91)=v3 at*
      (repeat(quiet_step (fail)));refine wpQuiet_nil ?_
      refine ay rfl rfl fun K hK=> ?_
      go_simp;have k4:Keep au w0 (v3.alloc (.cells #[.bool false,.string ⟨#[]⟩] 91)):=K3.out.alloc _;refine hK _ _ ⟨aQ.out _ k4,?_⟩;have dh:Hid (aL (v3.alloc (.cells #[.bool false,.string ⟨#[]⟩] 91)) v3.heap.size #[.bool false,.string ⟨#[]⟩]):=zh (aR _ _ rfl);have K4:=zh k4;have gV:Hid (v3.heap.size≠bb):=zh (by have:=dw.out.lt;omega)
      have dw:=zh (dw.out.old (.cells #[.bool false,.string ⟨#[]⟩] 91));clear hK K k4;obtain⟨ba,hba⟩:∃b,b=v3.heap.size:=⟨_,rfl⟩;have vJ:Hid (w0.heap.size≤ba):=zh (by rw [hba];exact K3.out.size)
      rw [← hba]at dh gV ⊢;clear hba;generalize v3.alloc (.cells #[.bool false,.string ⟨#[]⟩] 91)=v4 at*
      (repeat(quiet_step (fail)));refine wpQuiet_nil ?_
      obtain⟨ra0,ra1,fa0,fa1,Bb⟩:=dh.out.two;refine ay rfl rfl fun K hK=> ?_
      go_simp;have K5:=zh (aP K4.out vJ.out (.bool qb) (.string QS));refine hK _ _ ⟨aQ.out _ K5.out,?_⟩;have dh:=zh (dh.out.set2 (.bool qb) (.string QS));have dw:=zh (dw.out.other2 (fun h=>gV.out h.symm) (.bool qb) (.string QS))
      clear hK K ra0 ra1 fa0 fa1 Bb;generalize (v4.setCell ⟨ba,0,none⟩ (.bool qb)).setCell ⟨ba,1,none⟩ (.string QS)=v5 at*
      (repeat(quiet_step (fail)));refine wpQuiet_nil ?_
      obtain⟨rb0,rb1,fb0,fb1,Bc⟩:=dw.out.two;refine ay rfl rfl fun K hK=> ?_
      go_simp;have K6:=zh (aP K5.out wD.out (.bool rb) (.string RS));refine hK _ _ ⟨aQ.out _ K6.out,?_⟩;have dw:=zh (dw.out.set2 (.bool rb) (.string RS));have dh:=zh (dh.out.other2 (fun h=>gV.out h) (.bool rb) (.string RS))
      clear hK K rb0 rb1 fb0 fb1 Bc;generalize (v5.setCell ⟨bb,0,none⟩ (.bool rb)).setCell ⟨bb,1,none⟩ (.string RS)=v6 at*
      (repeat(quiet_step (fail)));refine wpQuiet_nil ?_
      refine NoPanic.normal ?_;go_wp2_with fail;go_meet;exact⟨ba,bb,rfl,rfl,K6.out,dh.out,dw.out,vJ.out,wD.out,gV.out⟩
    ·refine ay rfl rfl fun K hK=> ?_
     go_simp;have k2:Keep au w0 (v1.alloc (.cells #[.bool false,.string ⟨#[]⟩] 91)):=K1.out.alloc _;refine hK _ _ ⟨aQ.out _ k2,?_⟩;have dh:Hid (aL (v1.alloc (.cells #[.bool false,.string ⟨#[]⟩] 91)) v1.heap.size #[.bool false,.string ⟨#[]⟩]):=zh (aR _ _ rfl);have K2:=zh k2;clear hK K k2;obtain⟨ba,hba⟩:∃b,b=v1.heap.size:=⟨_,rfl⟩;have vJ:Hid (w0.heap.size≤ba):=zh (by rw [hba];exact K1.out.size)
     rw [← hba]at dh ⊢;clear hba;generalize v1.alloc (.cells #[.bool false,.string ⟨#[]⟩] 91)=v2 at*
     (repeat(quiet_step (fail)));refine wpQuiet_nil ?_
     refine⟨?_,?_⟩
     ·refine ay rfl rfl fun K hK=> ?_
      go_simp;refine(dJ _ _ _ _ (HD2.out.keep K2.out) Br.out).mono ?_;rintro e v3 ⟨rfl,hk⟩;have K3:=zh ((show Keep au w0 _ from K2.out).both hk)
      rw [Pj.out];have dh:=zh (dh.out.keep hk);refine hK _ _ ⟨aQ.out _ K3.out,?_⟩;clear hK K hk
      (repeat(quiet_step (fail)));refine wpQuiet_nil ?_
      refine ay rfl rfl fun K hK=> ?_
      go_simp;have k4:Keep au w0 (v3.alloc (.cells #[.bool false,.string ⟨#[]⟩] 91)):=K3.out.alloc _;refine hK _ _ ⟨aQ.out _ k4,?_⟩;have dw:Hid (aL (v3.alloc (.cells #[.bool false,.string ⟨#[]⟩] 91)) v3.heap.size #[.bool false,.string ⟨#[]⟩]):=zh (aR _ _ rfl);have K4:=zh k4;have gV:Hid (ba≠v3.heap.size):=zh (by have:=dh.out.lt;omega)
      have dh:=zh (dh.out.old (.cells #[.bool false,.string ⟨#[]⟩] 91));clear hK K k4;obtain⟨bb,hbb⟩:∃b,b=v3.heap.size:=⟨_,rfl⟩;have wD:Hid (w0.heap.size≤bb):=zh (by rw [hbb];exact K3.out.size)
      rw [← hbb]at dw gV ⊢;clear hbb;generalize v3.alloc (.cells #[.bool false,.string ⟨#[]⟩] 91)=v4 at*
      (repeat(quiet_step (fail)));refine wpQuiet_nil ?_
      obtain⟨ra0,ra1,fa0,fa1,Bb⟩:=dh.out.two;refine ay rfl rfl fun K hK=> ?_
      go_simp;have K5:=zh (aP K4.out vJ.out (.bool qb) (.string QS));refine hK _ _ ⟨aQ.out _ K5.out,?_⟩;have dh:=zh (dh.out.set2 (.bool qb) (.string QS));have dw:=zh (dw.out.other2 (fun h=>gV.out h.symm) (.bool qb) (.string QS))
      clear hK K ra0 ra1 fa0 fa1 Bb;generalize (v4.setCell ⟨ba,0,none⟩ (.bool qb)).setCell ⟨ba,1,none⟩ (.string QS)=v5 at*
      (repeat(quiet_step (fail)));refine wpQuiet_nil ?_
      obtain⟨rb0,rb1,fb0,fb1,Bc⟩:=dw.out.two;refine ay rfl rfl fun K hK=> ?_
      go_simp;have K6:=zh (aP K5.out wD.out (.bool rb) (.string RS));refine hK _ _ ⟨aQ.out _ K6.out,?_⟩;have dw:=zh (dw.out.set2 (.bool rb) (.string RS));have dh:=zh (dh.out.other2 (fun h=>gV.out h) (.bool rb) (.string RS))
      clear hK K rb0 rb1 fb0 fb1 Bc;generalize (v5.setCell ⟨bb,0,none⟩ (.bool rb)).setCell ⟨bb,1,none⟩ (.string RS)=v6 at*
      (repeat(quiet_step (fail)));refine wpQuiet_nil ?_
      refine NoPanic.normal ?_;go_wp2_with fail;go_meet;exact⟨ba,bb,rfl,rfl,K6.out,dh.out,dw.out,vJ.out,wD.out,gV.out⟩
     ·refine ay rfl rfl fun K hK=> ?_
      go_simp;have k3:Keep au w0 (v2.alloc (.cells #[.bool false,.string ⟨#[]⟩] 91)):=K2.out.alloc _;refine hK _ _ ⟨aQ.out _ k3,?_⟩;have dw:Hid (aL (v2.alloc (.cells #[.bool false,.string ⟨#[]⟩] 91)) v2.heap.size #[.bool false,.string ⟨#[]⟩]):=zh (aR _ _ rfl);have K3:=zh k3;have gV:Hid (ba≠v2.heap.size):=zh (by have:=dh.out.lt;omega)
      have dh:=zh (dh.out.old (.cells #[.bool false,.string ⟨#[]⟩] 91));clear hK K k3;obtain⟨bb,hbb⟩:∃b,b=v2.heap.size:=⟨_,rfl⟩;have wD:Hid (w0.heap.size≤bb):=zh (by rw [hbb];exact K2.out.size)
      rw [← hbb]at dw gV ⊢;clear hbb;generalize v2.alloc (.cells #[.bool false,.string ⟨#[]⟩] 91)=v3 at*
      (repeat(quiet_step (fail)));refine wpQuiet_nil ?_
      refine ay rfl rfl fun K hK=> ?_
      go_simp;refine(dJ _ _ _ _ (HD2.out.keep K3.out) Br.out).mono ?_;rintro e v4 ⟨rfl,hk⟩;have K4:=zh ((show Keep au w0 _ from K3.out).both hk)
      rw [Pj.out];have dh:=zh (dh.out.keep hk);have dw:=zh (dw.out.keep hk);refine hK _ _ ⟨aQ.out _ K4.out,?_⟩;clear hK K hk
      (repeat(quiet_step (fail)));refine wpQuiet_nil ?_
      obtain⟨ra0,ra1,fa0,fa1,Bb⟩:=dh.out.two;refine ay rfl rfl fun K hK=> ?_
      go_simp;have K5:=zh (aP K4.out vJ.out (.bool qb) (.string QS));refine hK _ _ ⟨aQ.out _ K5.out,?_⟩;have dh:=zh (dh.out.set2 (.bool qb) (.string QS));have dw:=zh (dw.out.other2 (fun h=>gV.out h.symm) (.bool qb) (.string QS))
      clear hK K ra0 ra1 fa0 fa1 Bb;generalize (v4.setCell ⟨ba,0,none⟩ (.bool qb)).setCell ⟨ba,1,none⟩ (.string QS)=v5 at*
      (repeat(quiet_step (fail)));refine wpQuiet_nil ?_
      obtain⟨rb0,rb1,fb0,fb1,Bc⟩:=dw.out.two;refine ay rfl rfl fun K hK=> ?_
      go_simp;have K6:=zh (aP K5.out wD.out (.bool rb) (.string RS));refine hK _ _ ⟨aQ.out _ K6.out,?_⟩;have dw:=zh (dw.out.set2 (.bool rb) (.string RS));have dh:=zh (dh.out.other2 (fun h=>gV.out h) (.bool rb) (.string RS))
      clear hK K rb0 rb1 fb0 fb1 Bc;generalize (v5.setCell ⟨bb,0,none⟩ (.bool rb)).setCell ⟨bb,1,none⟩ (.string RS)=v6 at*
      (repeat(quiet_step (fail)));refine wpQuiet_nil ?_
      refine NoPanic.normal ?_;go_wp2_with fail;go_meet;exact⟨ba,bb,rfl,rfl,K6.out,dh.out,dw.out,vJ.out,wD.out,gV.out⟩
    ·refine ay rfl rfl fun K hK=> ?_
     go_simp;have k2:Keep au w0 (v1.alloc (.cells #[.bool false,.string ⟨#[]⟩] 91)):=K1.out.alloc _;refine hK _ _ ⟨aQ.out _ k2,?_⟩;have dw:Hid (aL (v1.alloc (.cells #[.bool false,.string ⟨#[]⟩] 91)) v1.heap.size #[.bool false,.string ⟨#[]⟩]):=zh (aR _ _ rfl);have K2:=zh k2;clear hK K k2;obtain⟨bb,hbb⟩:∃b,b=v1.heap.size:=⟨_,rfl⟩;have wD:Hid (w0.heap.size≤bb):=zh (by rw [hbb];exact K1.out.size)
     rw [← hbb]at dw ⊢;clear hbb;generalize v1.alloc (.cells #[.bool false,.string ⟨#[]⟩] 91)=v2 at*
     (repeat(quiet_step (fail)));refine wpQuiet_nil ?_
     refine⟨?_,?_⟩
     ·refine ay rfl rfl fun K hK=> ?_
      go_simp;refine(dJ _ _ _ _ (HD2.out.keep K2.out) Br.out).mono ?_;rintro e v3 ⟨rfl,hk⟩;have K3:=zh ((show Keep au w0 _ from K2.out).both hk)
      rw [Pj.out];have dw:=zh (dw.out.keep hk);refine hK _ _ ⟨aQ.out _ K3.out,?_⟩;clear hK K hk
      (repeat(quiet_step (fail)));refine wpQuiet_nil ?_
      refine ay rfl rfl fun K hK=> ?_
      go_simp;have k4:Keep au w0 (v3.alloc (.cells #[.bool false,.string ⟨#[]⟩] 91)):=K3.out.alloc _;refine hK _ _ ⟨aQ.out _ k4,?_⟩;have dh:Hid (aL (v3.alloc (.cells #[.bool false,.string ⟨#[]⟩] 91)) v3.heap.size #[.bool false,.string ⟨#[]⟩]):=zh (aR _ _ rfl);have K4:=zh k4;have gV:Hid (v3.heap.size≠bb):=zh (by have:=dw.out.lt;omega)
      have dw:=zh (dw.out.old (.cells #[.bool false,.string ⟨#[]⟩] 91));clear hK K k4;obtain⟨ba,hba⟩:∃b,b=v3.heap.size:=⟨_,rfl⟩;have vJ:Hid (w0.heap.size≤ba):=zh (by rw [hba];exact K3.out.size)
      rw [← hba]at dh gV ⊢;clear hba;generalize v3.alloc (.cells #[.bool false,.string ⟨#[]⟩] 91)=v4 at*
      (repeat(quiet_step (fail)));refine wpQuiet_nil ?_
      obtain⟨ra0,ra1,fa0,fa1,Bb⟩:=dh.out.two;refine ay rfl rfl fun K hK=> ?_
      go_simp;have K5:=zh (aP K4.out vJ.out (.bool qb) (.string QS));refine hK _ _ ⟨aQ.out _ K5.out,?_⟩;have dh:=zh (dh.out.set2 (.bool qb) (.string QS));have dw:=zh (dw.out.other2 (fun h=>gV.out h.symm) (.bool qb) (.string QS))
      clear hK K ra0 ra1 fa0 fa1 Bb;generalize (v4.setCell ⟨ba,0,none⟩ (.bool qb)).setCell ⟨ba,1,none⟩ (.string QS)=v5 at*
      (repeat(quiet_step (fail)));refine wpQuiet_nil ?_
      obtain⟨rb0,rb1,fb0,fb1,Bc⟩:=dw.out.two;refine ay rfl rfl fun K hK=> ?_
      go_simp;have K6:=zh (aP K5.out wD.out (.bool rb) (.string RS));refine hK _ _ ⟨aQ.out _ K6.out,?_⟩;have dw:=zh (dw.out.set2 (.bool rb) (.string RS));have dh:=zh (dh.out.other2 (fun h=>gV.out h) (.bool rb) (.string RS))
      clear hK K rb0 rb1 fb0 fb1 Bc;generalize (v5.setCell ⟨bb,0,none⟩ (.bool rb)).setCell ⟨bb,1,none⟩ (.string RS)=v6 at*
      (repeat(quiet_step (fail)));refine wpQuiet_nil ?_
      refine NoPanic.normal ?_;go_wp2_with fail;go_meet;exact⟨ba,bb,rfl,rfl,K6.out,dh.out,dw.out,vJ.out,wD.out,gV.out⟩
     ·refine ay rfl rfl fun K hK=> ?_
      go_simp;have k3:Keep au w0 (v2.alloc (.cells #[.bool false,.string ⟨#[]⟩] 91)):=K2.out.alloc _;refine hK _ _ ⟨aQ.out _ k3,?_⟩;have dh:Hid (aL (v2.alloc (.cells #[.bool false,.string ⟨#[]⟩] 91)) v2.heap.size #[.bool false,.string ⟨#[]⟩]):=zh (aR _ _ rfl);have K3:=zh k3;have gV:Hid (v2.heap.size≠bb):=zh (by have:=dw.out.lt;omega)
      have dw:=zh (dw.out.old (.cells #[.bool false,.string ⟨#[]⟩] 91));clear hK K k3;obtain⟨ba,hba⟩:∃b,b=v2.heap.size:=⟨_,rfl⟩;have vJ:Hid (w0.heap.size≤ba):=zh (by rw [hba];exact K2.out.size)
      rw [← hba]at dh gV ⊢;clear hba;generalize v2.alloc (.cells #[.bool false,.string ⟨#[]⟩] 91)=v3 at*
      (repeat(quiet_step (fail)));refine wpQuiet_nil ?_
      refine ay rfl rfl fun K hK=> ?_
      go_simp;refine(dJ _ _ _ _ (HD2.out.keep K3.out) Br.out).mono ?_;rintro e v4 ⟨rfl,hk⟩;have K4:=zh ((show Keep au w0 _ from K3.out).both hk)
      rw [Pj.out];have dh:=zh (dh.out.keep hk);have dw:=zh (dw.out.keep hk);refine hK _ _ ⟨aQ.out _ K4.out,?_⟩;clear hK K hk
      (repeat(quiet_step (fail)));refine wpQuiet_nil ?_
      obtain⟨ra0,ra1,fa0,fa1,Bb⟩:=dh.out.two;refine ay rfl rfl fun K hK=> ?_
      go_simp;have K5:=zh (aP K4.out vJ.out (.bool qb) (.string QS));refine hK _ _ ⟨aQ.out _ K5.out,?_⟩;have dh:=zh (dh.out.set2 (.bool qb) (.string QS));have dw:=zh (dw.out.other2 (fun h=>gV.out h.symm) (.bool qb) (.string QS))
      clear hK K ra0 ra1 fa0 fa1 Bb;generalize (v4.setCell ⟨ba,0,none⟩ (.bool qb)).setCell ⟨ba,1,none⟩ (.string QS)=v5 at*
      (repeat(quiet_step (fail)));refine wpQuiet_nil ?_
      obtain⟨rb0,rb1,fb0,fb1,Bc⟩:=dw.out.two;refine ay rfl rfl fun K hK=> ?_
      go_simp;have K6:=zh (aP K5.out wD.out (.bool rb) (.string RS));refine hK _ _ ⟨aQ.out _ K6.out,?_⟩;have dw:=zh (dw.out.set2 (.bool rb) (.string RS));have dh:=zh (dh.out.other2 (fun h=>gV.out h) (.bool rb) (.string RS))
      clear hK K rb0 rb1 fb0 fb1 Bc;generalize (v5.setCell ⟨bb,0,none⟩ (.bool rb)).setCell ⟨bb,1,none⟩ (.string RS)=v6 at*
      (repeat(quiet_step (fail)));refine wpQuiet_nil ?_
      refine NoPanic.normal ?_;go_wp2_with fail;go_meet;exact⟨ba,bb,rfl,rfl,K6.out,dh.out,dw.out,vJ.out,wD.out,gV.out⟩
   ·refine ay rfl rfl fun K hK=> ?_
    go_simp;have k1:Keep au w0 ((w0.alloc (.cells #[.bool false,.string ⟨#[]⟩] 91)).drew):=kp;refine hK _ _ ⟨aQ.out _ k1,?_⟩;have dh:Hid (aL ((w0.alloc (.cells #[.bool false,.string ⟨#[]⟩] 91)).drew) w0.heap.size #[.bool false,.string ⟨#[]⟩]):=zh ((aR _ _ rfl).keep (Keep.refl _ _).drew);have K1:=zh k1;clear hK K k1;obtain⟨ba,hba⟩:∃b,b=w0.heap.size:=⟨_,rfl⟩;have vJ:Hid (w0.heap.size≤ba):=zh (by rw [hba];exact Nat.le_refl _)
    rw [← hba]at dh ⊢;clear hba;generalize (w0.alloc (.cells #[.bool false,.string ⟨#[]⟩] 91)).drew=v1 at*
    (repeat(quiet_step (fail)));refine wpQuiet_nil ?_
    refine⟨?_,?_⟩
    ·refine ay rfl rfl fun K hK=> ?_
     go_simp;refine(dJ _ _ _ _ (HD1.out.keep K1.out) Yq.out).mono ?_;rintro e v2 ⟨rfl,hk⟩;have K2:=zh ((show Keep au w0 _ from K1.out).both hk)
     rw [Ou.out];have dh:=zh (dh.out.keep hk);refine hK _ _ ⟨aQ.out _ K2.out,?_⟩;clear hK K hk
     (repeat(quiet_step (fail)));refine wpQuiet_nil ?_
     refine⟨?_,?_⟩
     ·refine ay rfl rfl fun K hK=> ?_
      go_simp;refine(dJ _ _ _ _ (HD2.out.keep K2.out) Br.out).mono ?_;rintro e v3 ⟨rfl,hk⟩;have K3:=zh ((show Keep au w0 _ from K2.out).both hk)
      rw [Pj.out];have dh:=zh (dh.out.keep hk);refine hK _ _ ⟨aQ.out _ K3.out,?_⟩;clear hK K hk
      (repeat(quiet_step (fail)));refine wpQuiet_nil ?_
      refine ay rfl rfl fun K hK=> ?_
      go_simp;have k4:Keep au w0 (v3.alloc (.cells #[.bool false,.string ⟨#[]⟩] 91)):=K3.out.alloc _;refine hK _ _ ⟨aQ.out _ k4,?_⟩;have dw:Hid (aL (v3.alloc (.cells #[.bool false,.string ⟨#[]⟩] 91)) v3.heap.size #[.bool false,.string ⟨#[]⟩]):=zh (aR _ _ rfl);have K4:=zh k4;have gV:Hid (ba≠v3.heap.size):=zh (by have:=dh.out.lt;omega)
      have dh:=zh (dh.out.old (.cells #[.bool false,.string ⟨#[]⟩] 91));clear hK K k4;obtain⟨bb,hbb⟩:∃b,b=v3.heap.size:=⟨_,rfl⟩;have wD:Hid (w0.heap.size≤bb):=zh (by rw [hbb];exact K3.out.size)
      rw [← hbb]at dw gV ⊢;clear hbb;generalize v3.alloc (.cells #[.bool false,.string ⟨#[]⟩] 91)=v4 at*
      (repeat(quiet_step (fail)));refine wpQuiet_nil ?_
      obtain⟨ra0,ra1,fa0,fa1,Bb⟩:=dh.out.two;refine ay rfl rfl fun K hK=> ?_
      go_simp;have K5:=zh (aP K4.out vJ.out (.bool qb) (.string QS));refine hK _ _ ⟨aQ.out _ K5.out,?_⟩;have dh:=zh (dh.out.set2 (.bool qb) (.string QS));have dw:=zh (dw.out.other2 (fun h=>gV.out h.symm) (.bool qb) (.string QS))
      clear hK K ra0 ra1 fa0 fa1 Bb;generalize (v4.setCell ⟨ba,0,none⟩ (.bool qb)).setCell ⟨ba,1,none⟩ (.string QS)=v5 at*
      (repeat(quiet_step (fail)));refine wpQuiet_nil ?_
      obtain⟨rb0,rb1,fb0,fb1,Bc⟩:=dw.out.two;refine ay rfl rfl fun K hK=> ?_
      go_simp;have K6:=zh (aP K5.out wD.out (.bool rb) (.string RS));refine hK _ _ ⟨aQ.out _ K6.out,?_⟩;have dw:=zh (dw.out.set2 (.bool rb) (.string RS));have dh:=zh (dh.out.other2 (fun h=>gV.out h) (.bool rb) (.string RS))
      clear hK K rb0 rb1 fb0 fb1 Bc;generalize (v5.setCell ⟨bb,0,none⟩ (.bool rb)).setCell ⟨bb,1,none⟩ (.string RS)=v6 at*
      (repeat(quiet_step (fail)));refine wpQuiet_nil ?_
      refine NoPanic.normal ?_;go_wp2_with fail;go_meet;exact⟨ba,bb,rfl,rfl,K6.out,dh.out,dw.out,vJ.out,wD.out,gV.out⟩
     ·refine ay rfl rfl fun K hK=> ?_
      go_simp;have k3:Keep au w0 (v2.alloc (.cells #[.bool false,.string ⟨#[]⟩] 91)):=K2.out.alloc _;refine hK _ _ ⟨aQ.out _ k3,?_⟩;have dw:Hid (aL (v2.alloc (.cells #[.bool false,.string ⟨#[]⟩] 91)) v2.heap.size #[.bool false,.string ⟨#[]⟩]):=zh (aR _ _ rfl);have K3:=zh k3;have gV:Hid (ba≠v2.heap.size):=zh (by have:=dh.out.lt;omega)
      have dh:=zh (dh.out.old (.cells #[.bool false,.string ⟨#[]⟩] 91));clear hK K k3;obtain⟨bb,hbb⟩:∃b,b=v2.heap.size:=⟨_,rfl⟩;have wD:Hid (w0.heap.size≤bb):=zh (by rw [hbb];exact K2.out.size)
      rw [← hbb]at dw gV ⊢;clear hbb;generalize v2.alloc (.cells #[.bool false,.string ⟨#[]⟩] 91)=v3 at*
      (repeat(quiet_step (fail)));refine wpQuiet_nil ?_
      refine ay rfl rfl fun K hK=> ?_
      go_simp;refine(dJ _ _ _ _ (HD2.out.keep K3.out) Br.out).mono ?_;rintro e v4 ⟨rfl,hk⟩;have K4:=zh ((show Keep au w0 _ from K3.out).both hk)
      rw [Pj.out];have dh:=zh (dh.out.keep hk);have dw:=zh (dw.out.keep hk);refine hK _ _ ⟨aQ.out _ K4.out,?_⟩;clear hK K hk
      (repeat(quiet_step (fail)));refine wpQuiet_nil ?_
      obtain⟨ra0,ra1,fa0,fa1,Bb⟩:=dh.out.two;refine ay rfl rfl fun K hK=> ?_
      go_simp;have K5:=zh (aP K4.out vJ.out (.bool qb) (.string QS));refine hK _ _ ⟨aQ.out _ K5.out,?_⟩;have dh:=zh (dh.out.set2 (.bool qb) (.string QS));have dw:=zh (dw.out.other2 (fun h=>gV.out h.symm) (.bool qb) (.string QS))
      clear hK K ra0 ra1 fa0 fa1 Bb;generalize (v4.setCell ⟨ba,0,none⟩ (.bool qb)).setCell ⟨ba,1,none⟩ (.string QS)=v5 at*
      (repeat(quiet_step (fail)));refine wpQuiet_nil ?_
      obtain⟨rb0,rb1,fb0,fb1,Bc⟩:=dw.out.two;refine ay rfl rfl fun K hK=> ?_
      go_simp;have K6:=zh (aP K5.out wD.out (.bool rb) (.string RS));refine hK _ _ ⟨aQ.out _ K6.out,?_⟩;have dw:=zh (dw.out.set2 (.bool rb) (.string RS));have dh:=zh (dh.out.other2 (fun h=>gV.out h) (.bool rb) (.string RS))
      clear hK K rb0 rb1 fb0 fb1 Bc;generalize (v5.setCell ⟨bb,0,none⟩ (.bool rb)).setCell ⟨bb,1,none⟩ (.string RS)=v6 at*
      (repeat(quiet_step (fail)));refine wpQuiet_nil ?_
      refine NoPanic.normal ?_;go_wp2_with fail;go_meet;exact⟨ba,bb,rfl,rfl,K6.out,dh.out,dw.out,vJ.out,wD.out,gV.out⟩
    ·refine ay rfl rfl fun K hK=> ?_
     go_simp;have k2:Keep au w0 (v1.alloc (.cells #[.bool false,.string ⟨#[]⟩] 91)):=K1.out.alloc _;refine hK _ _ ⟨aQ.out _ k2,?_⟩;have dw:Hid (aL (v1.alloc (.cells #[.bool false,.string ⟨#[]⟩] 91)) v1.heap.size #[.bool false,.string ⟨#[]⟩]):=zh (aR _ _ rfl);have K2:=zh k2;have gV:Hid (ba≠v1.heap.size):=zh (by have:=dh.out.lt;omega)
     have dh:=zh (dh.out.old (.cells #[.bool false,.string ⟨#[]⟩] 91));clear hK K k2;obtain⟨bb,hbb⟩:∃b,b=v1.heap.size:=⟨_,rfl⟩;have wD:Hid (w0.heap.size≤bb):=zh (by rw [hbb];exact K1.out.size)
     rw [← hbb]at dw gV ⊢;clear hbb;generalize v1.alloc (.cells #[.bool false,.string ⟨#[]⟩] 91)=v2 at*
     (repeat(quiet_step (fail)));refine wpQuiet_nil ?_
     refine ay rfl rfl fun K hK=> ?_
     go_simp;refine(dJ _ _ _ _ (HD1.out.keep K2.out) Yq.out).mono ?_;rintro e v3 ⟨rfl,hk⟩;have K3:=zh ((show Keep au w0 _ from K2.out).both hk)
     rw [Ou.out];have dh:=zh (dh.out.keep hk);have dw:=zh (dw.out.keep hk);refine hK _ _ ⟨aQ.out _ K3.out,?_⟩;clear hK K hk
     (repeat(quiet_step (fail)));refine wpQuiet_nil ?_
     refine ay rfl rfl fun K hK=> ?_
     go_simp;refine(dJ _ _ _ _ (HD2.out.keep K3.out) Br.out).mono ?_;rintro e v4 ⟨rfl,hk⟩;have K4:=zh ((show Keep au w0 _ from K3.out).both hk)
     rw [Pj.out];have dh:=zh (dh.out.keep hk);have dw:=zh (dw.out.keep hk);refine hK _ _ ⟨aQ.out _ K4.out,?_⟩;clear hK K hk
     (repeat(quiet_step (fail)));refine wpQuiet_nil ?_
     obtain⟨ra0,ra1,fa0,fa1,Bb⟩:=dh.out.two;refine ay rfl rfl fun K hK=> ?_
     go_simp;have K5:=zh (aP K4.out vJ.out (.bool qb) (.string QS));refine hK _ _ ⟨aQ.out _ K5.out,?_⟩;have dh:=zh (dh.out.set2 (.bool qb) (.string QS));have dw:=zh (dw.out.other2 (fun h=>gV.out h.symm) (.bool qb) (.string QS))
     clear hK K ra0 ra1 fa0 fa1 Bb;generalize (v4.setCell ⟨ba,0,none⟩ (.bool qb)).setCell ⟨ba,1,none⟩ (.string QS)=v5 at*
     (repeat(quiet_step (fail)));refine wpQuiet_nil ?_
     obtain⟨rb0,rb1,fb0,fb1,Bc⟩:=dw.out.two;refine ay rfl rfl fun K hK=> ?_
     go_simp;have K6:=zh (aP K5.out wD.out (.bool rb) (.string RS));refine hK _ _ ⟨aQ.out _ K6.out,?_⟩;have dw:=zh (dw.out.set2 (.bool rb) (.string RS));have dh:=zh (dh.out.other2 (fun h=>gV.out h) (.bool rb) (.string RS))
     clear hK K rb0 rb1 fb0 fb1 Bc;generalize (v5.setCell ⟨bb,0,none⟩ (.bool rb)).setCell ⟨bb,1,none⟩ (.string RS)=v6 at*
     (repeat(quiet_step (fail)));refine wpQuiet_nil ?_
     refine NoPanic.normal ?_;go_wp2_with fail;go_meet;exact⟨ba,bb,rfl,rfl,K6.out,dh.out,dw.out,vJ.out,wD.out,gV.out⟩
   ·refine ay rfl rfl fun K hK=> ?_
    go_simp;have k1:Keep au w0 ((w0.alloc (.cells #[.bool false,.string ⟨#[]⟩] 91)).drew):=kp;refine hK _ _ ⟨aQ.out _ k1,?_⟩;have dw:Hid (aL ((w0.alloc (.cells #[.bool false,.string ⟨#[]⟩] 91)).drew) w0.heap.size #[.bool false,.string ⟨#[]⟩]):=zh ((aR _ _ rfl).keep (Keep.refl _ _).drew);have K1:=zh k1;clear hK K k1;obtain⟨bb,hbb⟩:∃b,b=w0.heap.size:=⟨_,rfl⟩;have wD:Hid (w0.heap.size≤bb):=zh (by rw [hbb];exact Nat.le_refl _)
    rw [← hbb]at dw ⊢;clear hbb;generalize (w0.alloc (.cells #[.bool false,.string ⟨#[]⟩] 91)).drew=v1 at*
    (repeat(quiet_step (fail)));refine wpQuiet_nil ?_
    refine⟨?_,?_⟩
    ·refine ay rfl rfl fun K hK=> ?_
     go_simp;refine(dJ _ _ _ _ (HD1.out.keep K1.out) Yq.out).mono ?_;rintro e v2 ⟨rfl,hk⟩;have K2:=zh ((show Keep au w0 _ from K1.out).both hk)
     rw [Ou.out];have dw:=zh (dw.out.keep hk);refine hK _ _ ⟨aQ.out _ K2.out,?_⟩;clear hK K hk
     (repeat(quiet_step (fail)));refine wpQuiet_nil ?_
     refine⟨?_,?_⟩
     ·refine ay rfl rfl fun K hK=> ?_
      go_simp;refine(dJ _ _ _ _ (HD2.out.keep K2.out) Br.out).mono ?_;rintro e v3 ⟨rfl,hk⟩;have K3:=zh ((show Keep au w0 _ from K2.out).both hk)
      rw [Pj.out];have dw:=zh (dw.out.keep hk);refine hK _ _ ⟨aQ.out _ K3.out,?_⟩;clear hK K hk
      (repeat(quiet_step (fail)));refine wpQuiet_nil ?_
      refine ay rfl rfl fun K hK=> ?_
      go_simp;have k4:Keep au w0 (v3.alloc (.cells #[.bool false,.string ⟨#[]⟩] 91)):=K3.out.alloc _;refine hK _ _ ⟨aQ.out _ k4,?_⟩;have dh:Hid (aL (v3.alloc (.cells #[.bool false,.string ⟨#[]⟩] 91)) v3.heap.size #[.bool false,.string ⟨#[]⟩]):=zh (aR _ _ rfl);have K4:=zh k4;have gV:Hid (v3.heap.size≠bb):=zh (by have:=dw.out.lt;omega)
      have dw:=zh (dw.out.old (.cells #[.bool false,.string ⟨#[]⟩] 91));clear hK K k4;obtain⟨ba,hba⟩:∃b,b=v3.heap.size:=⟨_,rfl⟩;have vJ:Hid (w0.heap.size≤ba):=zh (by rw [hba];exact K3.out.size)
      rw [← hba]at dh gV ⊢;clear hba;generalize v3.alloc (.cells #[.bool false,.string ⟨#[]⟩] 91)=v4 at*
      (repeat(quiet_step (fail)));refine wpQuiet_nil ?_
      obtain⟨ra0,ra1,fa0,fa1,Bb⟩:=dh.out.two;refine ay rfl rfl fun K hK=> ?_
      go_simp;have K5:=zh (aP K4.out vJ.out (.bool qb) (.string QS));refine hK _ _ ⟨aQ.out _ K5.out,?_⟩;have dh:=zh (dh.out.set2 (.bool qb) (.string QS));have dw:=zh (dw.out.other2 (fun h=>gV.out h.symm) (.bool qb) (.string QS))
      clear hK K ra0 ra1 fa0 fa1 Bb;generalize (v4.setCell ⟨ba,0,none⟩ (.bool qb)).setCell ⟨ba,1,none⟩ (.string QS)=v5 at*
      (repeat(quiet_step (fail)));refine wpQuiet_nil ?_
      obtain⟨rb0,rb1,fb0,fb1,Bc⟩:=dw.out.two;refine ay rfl rfl fun K hK=> ?_
      go_simp;have K6:=zh (aP K5.out wD.out (.bool rb) (.string RS));refine hK _ _ ⟨aQ.out _ K6.out,?_⟩;have dw:=zh (dw.out.set2 (.bool rb) (.string RS));have dh:=zh (dh.out.other2 (fun h=>gV.out h) (.bool rb) (.string RS))
      clear hK K rb0 rb1 fb0 fb1 Bc;generalize (v5.setCell ⟨bb,0,none⟩ (.bool rb)).setCell ⟨bb,1,none⟩ (.string RS)=v6 at*
      (repeat(quiet_step (fail)));refine wpQuiet_nil ?_
      refine NoPanic.normal ?_;go_wp2_with fail;go_meet;exact⟨ba,bb,rfl,rfl,K6.out,dh.out,dw.out,vJ.out,wD.out,gV.out⟩
     ·refine ay rfl rfl fun K hK=> ?_
      go_simp;have k3:Keep au w0 (v2.alloc (.cells #[.bool false,.string ⟨#[]⟩] 91)):=K2.out.alloc _;refine hK _ _ ⟨aQ.out _ k3,?_⟩;have dh:Hid (aL (v2.alloc (.cells #[.bool false,.string ⟨#[]⟩] 91)) v2.heap.size #[.bool false,.string ⟨#[]⟩]):=zh (aR _ _ rfl);have K3:=zh k3;have gV:Hid (v2.heap.size≠bb):=zh (by have:=dw.out.lt;omega)
      have dw:=zh (dw.out.old (.cells #[.bool false,.string ⟨#[]⟩] 91));clear hK K k3;obtain⟨ba,hba⟩:∃b,b=v2.heap.size:=⟨_,rfl⟩;have vJ:Hid (w0.heap.size≤ba):=zh (by rw [hba];exact K2.out.size)
      rw [← hba]at dh gV ⊢;clear hba;generalize v2.alloc (.cells #[.bool false,.string ⟨#[]⟩] 91)=v3 at*
      (repeat(quiet_step (fail)));refine wpQuiet_nil ?_
      refine ay rfl rfl fun K hK=> ?_
      go_simp;refine(dJ _ _ _ _ (HD2.out.keep K3.out) Br.out).mono ?_;rintro e v4 ⟨rfl,hk⟩;have K4:=zh ((show Keep au w0 _ from K3.out).both hk)
      rw [Pj.out];have dh:=zh (dh.out.keep hk);have dw:=zh (dw.out.keep hk);refine hK _ _ ⟨aQ.out _ K4.out,?_⟩;clear hK K hk
      (repeat(quiet_step (fail)));refine wpQuiet_nil ?_
      obtain⟨ra0,ra1,fa0,fa1,Bb⟩:=dh.out.two;refine ay rfl rfl fun K hK=> ?_
      go_simp;have K5:=zh (aP K4.out vJ.out (.bool qb) (.string QS));refine hK _ _ ⟨aQ.out _ K5.out,?_⟩;have dh:=zh (dh.out.set2 (.bool qb) (.string QS));have dw:=zh (dw.out.other2 (fun h=>gV.out h.symm) (.bool qb) (.string QS))
      clear hK K ra0 ra1 fa0 fa1 Bb;generalize (v4.setCell ⟨ba,0,none⟩ (.bool qb)).setCell ⟨ba,1,none⟩ (.string QS)=v5 at*
      (repeat(quiet_step (fail)));refine wpQuiet_nil ?_
      obtain⟨rb0,rb1,fb0,fb1,Bc⟩:=dw.out.two;refine ay rfl rfl fun K hK=> ?_
      go_simp;have K6:=zh (aP K5.out wD.out (.bool rb) (.string RS));refine hK _ _ ⟨aQ.out _ K6.out,?_⟩;have dw:=zh (dw.out.set2 (.bool rb) (.string RS));have dh:=zh (dh.out.other2 (fun h=>gV.out h) (.bool rb) (.string RS))
      clear hK K rb0 rb1 fb0 fb1 Bc;generalize (v5.setCell ⟨bb,0,none⟩ (.bool rb)).setCell ⟨bb,1,none⟩ (.string RS)=v6 at*
      (repeat(quiet_step (fail)));refine wpQuiet_nil ?_
      refine NoPanic.normal ?_;go_wp2_with fail;go_meet;exact⟨ba,bb,rfl,rfl,K6.out,dh.out,dw.out,vJ.out,wD.out,gV.out⟩
    ·refine ay rfl rfl fun K hK=> ?_
     go_simp;have k2:Keep au w0 (v1.alloc (.cells #[.bool false,.string ⟨#[]⟩] 91)):=K1.out.alloc _;refine hK _ _ ⟨aQ.out _ k2,?_⟩;have dh:Hid (aL (v1.alloc (.cells #[.bool false,.string ⟨#[]⟩] 91)) v1.heap.size #[.bool false,.string ⟨#[]⟩]):=zh (aR _ _ rfl);have K2:=zh k2;have gV:Hid (v1.heap.size≠bb):=zh (by have:=dw.out.lt;omega)
     have dw:=zh (dw.out.old (.cells #[.bool false,.string ⟨#[]⟩] 91));clear hK K k2;obtain⟨ba,hba⟩:∃b,b=v1.heap.size:=⟨_,rfl⟩;have vJ:Hid (w0.heap.size≤ba):=zh (by rw [hba];exact K1.out.size)
     rw [← hba]at dh gV ⊢;clear hba;generalize v1.alloc (.cells #[.bool false,.string ⟨#[]⟩] 91)=v2 at*
     (repeat(quiet_step (fail)));refine wpQuiet_nil ?_
     refine ay rfl rfl fun K hK=> ?_
     go_simp;refine(dJ _ _ _ _ (HD1.out.keep K2.out) Yq.out).mono ?_;rintro e v3 ⟨rfl,hk⟩;have K3:=zh ((show Keep au w0 _ from K2.out).both hk)
     rw [Ou.out];have dh:=zh (dh.out.keep hk);have dw:=zh (dw.out.keep hk);refine hK _ _ ⟨aQ.out _ K3.out,?_⟩;clear hK K hk
     (repeat(quiet_step (fail)));refine wpQuiet_nil ?_
     refine ay rfl rfl fun K hK=> ?_
     go_simp;refine(dJ _ _ _ _ (HD2.out.keep K3.out) Br.out).mono ?_;rintro e v4 ⟨rfl,hk⟩;have K4:=zh ((show Keep au w0 _ from K3.out).both hk)
     rw [Pj.out];have dh:=zh (dh.out.keep hk);have dw:=zh (dw.out.keep hk);refine hK _ _ ⟨aQ.out _ K4.out,?_⟩;clear hK K hk
     (repeat(quiet_step (fail)));refine wpQuiet_nil ?_
     obtain⟨ra0,ra1,fa0,fa1,Bb⟩:=dh.out.two;refine ay rfl rfl fun K hK=> ?_
     go_simp;have K5:=zh (aP K4.out vJ.out (.bool qb) (.string QS));refine hK _ _ ⟨aQ.out _ K5.out,?_⟩;have dh:=zh (dh.out.set2 (.bool qb) (.string QS));have dw:=zh (dw.out.other2 (fun h=>gV.out h.symm) (.bool qb) (.string QS))
     clear hK K ra0 ra1 fa0 fa1 Bb;generalize (v4.setCell ⟨ba,0,none⟩ (.bool qb)).setCell ⟨ba,1,none⟩ (.string QS)=v5 at*
     (repeat(quiet_step (fail)));refine wpQuiet_nil ?_
     obtain⟨rb0,rb1,fb0,fb1,Bc⟩:=dw.out.two;refine ay rfl rfl fun K hK=> ?_
     go_simp;have K6:=zh (aP K5.out wD.out (.bool rb) (.string RS));refine hK _ _ ⟨aQ.out _ K6.out,?_⟩;have dw:=zh (dw.out.set2 (.bool rb) (.string RS));have dh:=zh (dh.out.other2 (fun h=>gV.out h) (.bool rb) (.string RS))
     clear hK K rb0 rb1 fb0 fb1 Bc;generalize (v5.setCell ⟨bb,0,none⟩ (.bool rb)).setCell ⟨bb,1,none⟩ (.string RS)=v6 at*
     (repeat(quiet_step (fail)));refine wpQuiet_nil ?_
     refine NoPanic.normal ?_;go_wp2_with fail;go_meet;exact⟨ba,bb,rfl,rfl,K6.out,dh.out,dw.out,vJ.out,wD.out,gV.out⟩
 case rest=>
  as_aux_lemma=>
   obtain⟨ba,bb,rfl,rfl,hk6,hba,hbb,hga,hgb,hne⟩:=hcut;obtain⟨w6,hw6⟩:∃W:World,W=wc:=⟨_,rfl⟩;rw [← hw6]at hk6 hba hbb ⊢;clear hw6;have K6:=zh (K5.out.both hk6);have HB1:=zh (HB1.out.keep hk6);have fO:=zh (fO.out.keep hk6);have gZ:=zh (gZ.out.keep hk6);have dh:=zh hba;have dw:=zh hbb;have gV:=zh hne;have vJ:Hid (w.heap.size≤ba):=zh (Nat.le_trans K5.out.size hga);have wD:Hid (w.heap.size≤bb):=zh (Nat.le_trans K5.out.size hgb);have zc3:Hid (b1≠bb):=zh (fun h=>by have:=zc2.out;omega)
   have HD4:Hid (b4≠ba∧b4≠bb∧b5≠ba∧b5≠bb):=zh ⟨fun h=>by have:=RJ.out;omega,fun h=>by have:=RJ.out;omega,fun h=>by have:=Yg.out;omega,fun h=>by have:=Yg.out;omega⟩
   clear hk6 hba hbb hne hga hgb;obtain⟨rb0,rb1,fb0,fb1,Bc⟩:=dw.out.two;go_wp2_with fail;refine(SR _).out.mono ?_;rintro e w7 ⟨rfl,hk7⟩;have K7:=zh (K6.out.both hk7);have HB1:=zh (HB1.out.keep hk7);have fO:=zh (fO.out.keep hk7);have gZ:=zh (gZ.out.keep hk7);have dh:=zh (dh.out.keep hk7);have dw:=zh (dw.out.keep hk7);clear hk7 rb0 rb1 fb0 fb1 Bc SR;go_upto_if 37 with fail
   go_cut [1,11,19,37]from 38 to 51 (fun s1 s11 s19 s37 wx=>∃tb TS sb SS,s1= .agg #[.bool eD,.string U]∧s11= .agg #[.bool eD,.string U]∧s19= .agg #[.bool eD,.string U]∧bH (x/y)= .agg #[.bool tb,.string TS]∧bH (x%y)= .agg #[.bool sb,.string SS]∧Keep au w wx∧aL wx ba #[.bool tb,.string TS]∧aL wx bb #[.bool sb,.string SS]∧aL wx b4 #[.bool false,.string ⟨#[]⟩]∧aL wx b5 #[.bool false,.string ⟨#[]⟩])
   case rest=>
    obtain⟨tb,TS,sb,SS,rfl,rfl,rfl,lq',lr',hk12,hba,hbb,hb4,hb5⟩:=hcut;obtain⟨w12,hw12⟩:∃W:World,W=wc:=⟨_,rfl⟩;rw [← hw12]at hk12 hba hbb hb4 hb5 ⊢;have dh:=zh hba;have dw:=zh hbb;have fO:=zh hb4;have gZ:=zh hb5;have K12:=zh hk12;have VP:=zh lq';have Yh:=zh lr';clear hk12 hba hbb hb4 hb5 lq' lr' hw12 UR U1 U2 AY HB1;go_wp2;obtain⟨A0,A1,_,_,Al⟩:=dh.out.two;obtain⟨C0,C1,_,_,Cl⟩:=dw.out.two;obtain⟨g40,g41,f40,f41,l4⟩:=fO.out.two;obtain⟨g50,g51,f50,f51,l5⟩:=gZ.out.two;refine aD (fun w'=>Keep (YB b4 b5) w12 w') [] [([0,1],2),([],3)] [4] (by kernel_rfl) (by kernel_rfl) (Keep.refl _ _).drew ?_
    intro X W hne hF hcl;have aQ:=zh hcl;have hx0:=fun x=>(dh.out.keep2 (hF x) HD4.out.1.symm HD4.out.2.2.1.symm).two
    have hx1:=fun x=>(dw.out.keep2 (hF x) HD4.out.2.1.symm HD4.out.2.2.2.symm).two
    clear hF hcl;simp only [aO,aJ,zl0,zl1,zl2,aV,Bool.false_eq_true,if_false]
    (repeat(quiet_step (fail)));refine wpQuiet_nil ?_
    refine ay rfl rfl fun K hK=> ?_
    go_simp;have kk1:Keep (YB b4 b5) w12 ((w12.setCell ⟨b4,0,none⟩ (.bool tb)).setCell ⟨b4,1,none⟩ (.string TS)).drew:=(Ht (Keep.refl _ _) (.inl rfl) _ _).drew;refine hK _ _ ⟨fun _=>aQ.out _ kk1,?_⟩
    have RJ:Hid (aL ((w12.setCell ⟨b4,0,none⟩ (.bool tb)).setCell ⟨b4,1,none⟩ (.string TS)).drew b4 #[.bool tb,.string TS]):=zh ((fO.out.set2 (.bool tb) (.string TS)).keep (Keep.refl au _).drew);have gZ:Hid (aL ((w12.setCell ⟨b4,0,none⟩ (.bool tb)).setCell ⟨b4,1,none⟩ (.string TS)).drew b5 #[.bool false,.string ⟨#[]⟩]):=zh ((gZ.out.other2 (fun h=>h45 h.symm) (.bool tb) (.string TS)).keep (Keep.refl au _).drew)
    have K13:Hid (Keep au w ((w12.setCell ⟨b4,0,none⟩ (.bool tb)).setCell ⟨b4,1,none⟩ (.string TS)).drew):=zh (aP K12.out Ck.out (.bool tb) (.string TS)).drew;clear hK K A0 A1 Al C0 C1 Cl g40 g41 f40 f41 l4 g50 g51 f50 f51 l5;generalize ((w12.setCell ⟨b4,0,none⟩ (.bool tb)).setCell ⟨b4,1,none⟩ (.string TS)).drew=w13 at *;obtain⟨g50,g51,f50,f51,l5⟩:=gZ.out.two
    (repeat(quiet_step (fail)));refine wpQuiet_nil ?_
    refine ay rfl rfl fun K hK=> ?_
    go_simp;refine hK _ _ ⟨fun _=>aQ.out _ (Ht kk1 (.inr rfl) _ _),?_⟩
    have Yg:=zh (gZ.out.set2 (.bool sb) (.string SS));have RJ:=zh (RJ.out.other2 h45 (.bool sb) (.string SS));have K14:=zh (aP K13.out HS5.out (.bool sb) (.string SS));clear hK K g50 g51 f50 f51 l5;generalize (w13.setCell ⟨b5,0,none⟩ (.bool sb)).setCell ⟨b5,1,none⟩ (.string SS)=w14 at*
    (repeat(quiet_step (fail)));refine wpQuiet_nil ?_
    refine NoPanic.normal ?_;obtain⟨g40,g41,f40,f41,l4⟩:=RJ.out.two;obtain⟨g50,g51,f50,f51,l5⟩:=Yg.out.two;go_wp2;refine bodyPost_ret (by simp [results,Tryz.results99,go_sem,g40,g41,l4,g50,g51,l5];rfl) rfl ?_
    exact⟨by rw [VP.out,Yh.out],K14.out⟩
   by_cases hneg:x.tmod y<0
   ·have e1:decide ((x.tmod y).sign<0)=true:=decide_eq_true (RV.out.1 hneg)
    have HE:=zh (Ir.out hneg);go_wp2;refine aD (fun w'=>Keep au w7 w') [4] [([0,1],2),([],3),([],4)] [] (by kernel_rfl) (by kernel_rfl) kp ?_
    intro X W hne hF hcl;have aQ:=zh hcl;have hx0:=fun x=>(HB1.out.keep (hF x)).two
    have hx1:=fun x=>(dw.out.keep (hF x)).two
    clear hF hcl;simp only [aO,aJ,zl0,zl1,zl2,aV,Bool.false_eq_true,if_false]
    (repeat(quiet_step (fail)));refine wpQuiet_nil ?_
    refine ay rfl rfl fun K hK=> ?_
    go_simp;refine(AY _).out.mono ?_;rintro e w8 ⟨rfl,hk8⟩;have k8:Keep au w7 w8:=Keep.trans kp hk8 fun _ _ _ h=>h
    refine hK _ _ ⟨fun _=>aQ.out _ k8,?_⟩
    clear hK K hk8
    (repeat(quiet_step (fail)));refine wpQuiet_nil ?_
    refine ay rfl rfl fun K hK=> ?_
    go_simp;refine(UR _).out.mono ?_;rintro e w9 ⟨rfl,hk9⟩;have k9:=k8.both hk9;refine hK _ _ ⟨fun _=>aQ.out _ k9,?_⟩
    have K9:=zh (K7.out.both k9);have HB1:=zh (HB1.out.keep k9);have fO:=zh (fO.out.keep k9);have gZ:=zh (gZ.out.keep k9);have dh:=zh (dh.out.keep k9);have dw:=zh (dw.out.keep k9);clear hK K hk9 k8 hx0 hx1 k9;obtain⟨sb,SS,lsr,-,-⟩:=aH (x.tmod y+(y.natAbs:Nat));rw [lsr];have Yh:=zh lsr;clear lsr;obtain⟨rb0,rb1,fb0,fb1,Bc⟩:=dw.out.two
    (repeat(quiet_step (fail)));refine wpQuiet_nil ?_
    refine ay rfl rfl fun K hK=> ?_
    go_simp;refine hK _ _ ⟨fun h=>(by simp at h),?_⟩
    have zb4:=zh (dw.out.set2 (.bool sb) (.string SS));have dh:=zh (dh.out.other2 (fun h=>gV.out h) (.bool sb) (.string SS))
    have HB1:=zh (HB1.out.other2 (fun h=>zc3.out h) (.bool sb) (.string SS))
    have fO:=zh (fO.out.other2 HD4.out.2.1 (.bool sb) (.string SS));have gZ:=zh (gZ.out.other2 HD4.out.2.2.2 (.bool sb) (.string SS));have K10:=zh (aP K9.out wD.out (.bool sb) (.string SS));clear hK K rb0 rb1 fb0 fb1 Bc dw aQ;generalize (w9.setCell ⟨bb,0,none⟩ (.bool sb)).setCell ⟨bb,1,none⟩ (.string SS)=w10 at *;have dw:=zb4;clear zb4
    (repeat(quiet_step (fail)));refine wpQuiet_nil ?_
    refine NoPanic.normal ?_;obtain⟨y0,y1,_,_,yl⟩:=HB1.out.two
    by_cases hyn:y<0
    ·obtain rfl:eD=true:=by rw [WX.out];exact decide_eq_true hyn
     have HE:=zh (HE.out.1 hyn);clear hyn;go_wp2;refine aD (fun w'=>Keep au w10 w') [3] [([0],1),([],2),([],3)] [] (by kernel_rfl) (by kernel_rfl) kp ?_
     intro X W hne hF hcl;have aQ:=zh hcl;have hx0:=fun x=>(dh.out.keep (hF x)).two
     clear hF hcl;simp only [aO,aJ,zl0,zl1,zl2,aV,Bool.false_eq_true,if_false]
     (repeat(quiet_step (fail)));refine wpQuiet_nil ?_
     refine ay rfl rfl fun K hK=> ?_
     go_simp;refine(xF _ 1 (by omega) (by omega)).mono ?_
     rintro e w11 ⟨rfl,hk11⟩;obtain⟨v11,hv11⟩:∃v,bH 1=v:=⟨_,rfl⟩;rw [hv11];have k11:Keep au w10 w11:=Keep.trans kp hk11 fun _ _ _ h=>h
     refine hK _ _ ⟨fun _=>aQ.out _ k11,?_⟩
     clear hK K hk11
     (repeat(quiet_step (fail)));refine wpQuiet_nil ?_
     refine ay rfl rfl fun K hK=> ?_
     go_simp;have HU:=(U1 w11);rw [hv11]at HU;clear hv11;refine HU.out.mono ?_;rintro e zaK ⟨rfl,hk12⟩;have k12:=k11.both hk12;refine hK _ _ ⟨fun _=>aQ.out _ k12,?_⟩
     have zaL:=zh (K10.out.both k12);have fO:=zh (fO.out.keep k12);have gZ:=zh (gZ.out.keep k12);have dh:=zh (dh.out.keep k12);have dw:=zh (dw.out.keep k12);clear hK K hk12 k11 hx0 k12;obtain⟨tb,TS,lsq,-,-⟩:=aH (x.tdiv y+1);rw [lsq];have VP:=zh lsq;clear lsq;obtain⟨ra0,ra1,fa0,fa1,Bb⟩:=dh.out.two
     (repeat(quiet_step (fail)));refine wpQuiet_nil ?_
     refine ay rfl rfl fun K hK=> ?_
     go_simp;refine hK _ _ ⟨fun h=>(by simp at h),?_⟩
     have VQ:=zh (dh.out.set2 (.bool tb) (.string TS));have dw:=zh (dw.out.other2 (fun h=>gV.out h.symm) (.bool tb) (.string TS))
     have fO:=zh (fO.out.other2 HD4.out.1 (.bool tb) (.string TS));have gZ:=zh (gZ.out.other2 HD4.out.2.2.1 (.bool tb) (.string TS));have K12:=zh (aP zaL.out vJ.out (.bool tb) (.string TS));clear hK K ra0 ra1 fa0 fa1 Bb dh aQ y0 y1 yl;generalize (zaK.setCell ⟨ba,0,none⟩ (.bool tb)).setCell ⟨ba,1,none⟩ (.string TS)=w12 at *;have dh:=VQ;clear VQ
     (repeat(quiet_step (fail)));refine wpQuiet_nil ?_
     refine NoPanic.normal ?_;go_wp2_with fail;go_meet;exact⟨tb,TS,sb,SS,rfl,rfl,rfl,by rw [HE.out.1];exact VP.out,by rw [HE.out.2];exact Yh.out,K12.out,dh.out,dw.out,fO.out,gZ.out⟩
    ·obtain rfl:eD=false:=by rw [WX.out];exact decide_eq_false hyn
     have HE:=zh (HE.out.2 (by omega))
     clear hyn;go_wp2;refine aD (fun w'=>Keep au w10 w') [3] [([0],1),([],2),([],3)] [] (by kernel_rfl) (by kernel_rfl) kp ?_
     intro X W hne hF hcl;have aQ:=zh hcl;have hx0:=fun x=>(dh.out.keep (hF x)).two
     clear hF hcl;simp only [aO,aJ,zl0,zl1,zl2,aV,Bool.false_eq_true,if_false]
     (repeat(quiet_step (fail)));refine wpQuiet_nil ?_
     refine ay rfl rfl fun K hK=> ?_
     go_simp;refine(xF _ (-1) (by omega) (by omega)).mono ?_
     rintro e w11 ⟨rfl,hk11⟩;obtain⟨v11,hv11⟩:∃v,bH (-1)=v:=⟨_,rfl⟩;rw [hv11];have k11:Keep au w10 w11:=Keep.trans kp hk11 fun _ _ _ h=>h
     refine hK _ _ ⟨fun _=>aQ.out _ k11,?_⟩
     clear hK K hk11
     (repeat(quiet_step (fail)));refine wpQuiet_nil ?_
     refine ay rfl rfl fun K hK=> ?_
     go_simp;have HU:=(U2 w11);rw [hv11]at HU;clear hv11;refine HU.out.mono ?_;rintro e zaK ⟨rfl,hk12⟩;have k12:=k11.both hk12;refine hK _ _ ⟨fun _=>aQ.out _ k12,?_⟩
     have zaL:=zh (K10.out.both k12);have fO:=zh (fO.out.keep k12);have gZ:=zh (gZ.out.keep k12);have dh:=zh (dh.out.keep k12);have dw:=zh (dw.out.keep k12);clear hK K hk12 k11 hx0 k12;obtain⟨tb,TS,lsq,-,-⟩:=aH (x.tdiv y+(-1));rw [lsq];have VP:=zh lsq;clear lsq;obtain⟨ra0,ra1,fa0,fa1,Bb⟩:=dh.out.two
     (repeat(quiet_step (fail)));refine wpQuiet_nil ?_
     refine ay rfl rfl fun K hK=> ?_
     go_simp;refine hK _ _ ⟨fun h=>(by simp at h),?_⟩
     have VQ:=zh (dh.out.set2 (.bool tb) (.string TS));have dw:=zh (dw.out.other2 (fun h=>gV.out h.symm) (.bool tb) (.string TS))
     have fO:=zh (fO.out.other2 HD4.out.1 (.bool tb) (.string TS));have gZ:=zh (gZ.out.other2 HD4.out.2.2.1 (.bool tb) (.string TS));have K12:=zh (aP zaL.out vJ.out (.bool tb) (.string TS));clear hK K ra0 ra1 fa0 fa1 Bb dh aQ y0 y1 yl;generalize (zaK.setCell ⟨ba,0,none⟩ (.bool tb)).setCell ⟨ba,1,none⟩ (.string TS)=w12 at *;have dh:=VQ;clear VQ
     (repeat(quiet_step (fail)));refine wpQuiet_nil ?_
     refine NoPanic.normal ?_;go_wp2_with fail;go_meet;exact⟨tb,TS,sb,SS,rfl,rfl,rfl,by rw [HE.out.1];exact VP.out,by rw [HE.out.2];exact Yh.out,K12.out,dh.out,dw.out,fO.out,gZ.out⟩
   ·have e1:decide ((x.tmod y).sign<0)=false:=decide_eq_false fun h=>hneg (RV.out.2 h)
    have e2:¬(x.tmod y).sign<0:=fun h=>hneg (RV.out.2 h)
    have e3:0≤(x.tmod y).sign:=by omega
    have HE:=zh (HE0.out (by omega))
    have e5:0≤x.tmod y:=by omega
    go_wp2_with fail;go_meet;exact⟨qb,QS,rb,RS,rfl,rfl,rfl,by rw [HE.out.1];exact HLQ.out,by rw [HE.out.2];exact Oo.out,K7.out,dh.out,dw.out,fO.out,gZ.out⟩
theorem fC.uniq {w:World}{v:Value}{ds ds':List Nat}(h:fC w v ds)(h':fC w v ds'):ds=ds':=by
 obtain⟨oa,cap,hv,_,_,_,hc⟩:=h;obtain⟨WS,cap',hv',_,_,_,hc'⟩:=h';rw [hv]at hv';simp at hv';obtain⟨rfl,hl,rfl⟩:=hv'
 by_cases h0:ds= []
 ·subst h0
  exact(List.length_eq_zero_iff.1 hl.symm).symm
 ·obtain ⟨g,o,e,_,hc⟩:=hc h0
  obtain⟨g',o',e',_,hc'⟩:=hc' (by rintro rfl;exact h0 (List.length_eq_zero_iff.1 hl))
  rw [e]at e';simp at e';obtain⟨rfl,rfl⟩:=e'
  apply List.ext_getElem hl
  intro i h1 h2;have e1:=hc i h1;have e2:=hc' i h2;rw [e1]at e2;simp [List.getD,h1,h2]at e2;omega
open Classical in
noncomputable def zaM (w:World) (v:Value):Nat:=if h:∃es,fC w v es then dval (Classical.choose h)else 0
theorem Pm {w:World}{v:Value}{es:List Nat}(h:fC w v es):zaM w v=dval es:=by
 have hex:∃es,fC w v es:=⟨es,h⟩;unfold zaM;rw [dif_pos hex,(Classical.choose_spec hex).uniq h]
theorem Mh (w:World)(x y:Int)(hx:dl x≤4500)(hy:dl y≤4500):
  Calls Tryz.prog 117 #[bH x,bH y] w fun e w'=>e= .returned (bH (Nat.gcd x.natAbs y.natAbs:Nat))∧Keep au w w':=by
 have Bv:(cZ x.natAbs).length≤4500:=hx;have hdy:(cZ y.natAbs).length≤4500:=hy;have LX:=fun w b=>zh (jf w x b (by omega))
 have LY:=fun w b=>zh (jf w y b (by omega))
 obtain⟨bx,S,lx,hbx,hS⟩:=aH x;obtain⟨eD,U,ly,hby,hU⟩:=aH y
 obtain⟨gb,GS,lg,-,-⟩:=aH (Nat.gcd x.natAbs y.natAbs:Nat);rw [← hS]at LX;rw [← hU]at LY;rw [lx,ly,lg];have HLG:=zh lg;have Ot:=zh Bv;have RZ:=zh hdy;clear hx hy hbx hS hby hU lx ly lg Bv hdy;go_enter Tryz.func117,Tryz.ntmps117;go_wp2;have B0:aL (((w.alloc (.cells #[.bool bx,.string S] 91)).alloc (.cells #[.bool eD,.string U] 91)).alloc (.cells #[.bool false,.string ⟨#[]⟩] 91)) w.heap.size #[.bool bx,.string S]:=kc
 have B1:aL (((w.alloc (.cells #[.bool bx,.string S] 91)).alloc (.cells #[.bool eD,.string U] 91)).alloc (.cells #[.bool false,.string ⟨#[]⟩] 91)) (w.heap.size+1) #[.bool eD,.string U]:=kc
 have B2:aL (((w.alloc (.cells #[.bool bx,.string S] 91)).alloc (.cells #[.bool eD,.string U] 91)).alloc (.cells #[.bool false,.string ⟨#[]⟩] 91)) (w.heap.size+1+1) #[.bool false,.string ⟨#[]⟩]:=kc
 have K0:Hid (Keep au w (((w.alloc (.cells #[.bool bx,.string S] 91)).alloc (.cells #[.bool eD,.string U] 91)).alloc (.cells #[.bool false,.string ⟨#[]⟩] 91))):=zh kp
 generalize ((w.alloc (.cells #[.bool bx,.string S] 91)).alloc (.cells #[.bool eD,.string U] 91)).alloc (.cells #[.bool false,.string ⟨#[]⟩] 91)=w0 at*
 have HB0:=zh B0;have HB1:=zh B1;have HB2:=zh B2;have HS2:Hid (w.heap.size≤w.heap.size+1+1):=zh (by omega)
 clear B0 B1 B2;refine aD (fun w'=>Keep au w0 w') [] [([0,3],1),([],2),([],4),([],5)] [6,7] (by kernel_rfl) (by kernel_rfl) kp ?_
 intro X W hne hF hcl;have aQ:=zh hcl;have hx0:=fun x=>(HB0.out.keep (hF x)).two
 have hx1:=fun x=>(HB1.out.keep (hF x)).two
 clear hF hcl;simp only [aO,aJ,zl0,zl1,zl2,aV,Bool.false_eq_true,if_false]
 (repeat(quiet_step (fail)));refine wpQuiet_nil ?_
 refine ay rfl rfl fun K hK=> ?_
 go_simp;refine(LX _ _).out.mono ?_;rintro e w1 ⟨v1,rfl,hd1,hk1⟩;have k1:Keep au w0 w1:=Keep.trans kp hk1 fun _ _ _ h=>h
 refine hK _ _ ⟨fun _=>aQ.out _ k1,?_⟩
 clear hK K hk1
 (repeat(quiet_step (fail)));refine wpQuiet_nil ?_
 refine ay rfl rfl fun K hK=> ?_
 go_simp;refine(iU _ _ _ hd1 (by have:=Ot.out;omega)).mono ?_
 rintro e w1' ⟨⟨v2,rfl,hd2⟩,rfl⟩;rw [tC (dX _) hd1.lt]at hd2;refine hK _ _ ⟨fun _=>aQ.out _ k1,?_⟩
 clear hK K hd1
 (repeat(quiet_step (fail)));refine wpQuiet_nil ?_
 refine ay rfl rfl fun K hK=> ?_
 go_simp;refine(LY _ _).out.mono ?_;rintro e w3 ⟨v3,rfl,hd3,hk3⟩;have k3:=k1.both hk3;refine hK _ _ ⟨fun _=>aQ.out _ k3,?_⟩
 have hd2:=hd2.keep hk3;clear hK K hk3 k1
 (repeat(quiet_step (fail)));refine wpQuiet_nil ?_
 refine ay rfl rfl fun K hK=> ?_
 go_simp;refine(iU _ _ _ hd3 (by have:=RZ.out;omega)).mono ?_
 rintro e w3' ⟨⟨v4,rfl,hd4⟩,rfl⟩;rw [tC (dX _) hd3.lt]at hd4;refine hK _ _ ⟨fun _=>aQ.out _ k3,?_⟩
 have K3:=zh (K0.out.both k3);have HB2:=zh (HB2.out.keep k3);have HD2:=zh hd2;have HD4:=zh hd4;clear hK K hd3 hd2 hd4 LX LY hx0 hx1 aQ k3
 (repeat(quiet_step (fail)));refine wpQuiet_nil ?_
 refine NoPanic.normal ?_;generalize w.heap.size+1+1=b2 at *;go_wp2;go_loopw [5,6] (fun s t wr=>∃ds es,fC wr s ds∧fC wr t es∧iQ ds∧iQ es∧ds.length≤4500∧es.length≤4500∧Nat.gcd (dval ds) (dval es)=Nat.gcd x.natAbs y.natAbs∧Keep au w wr∧aL wr b2 #[.bool false,.string ⟨#[]⟩]) (fun _ t wr=>zaM wr t)
 case atStart=>exact⟨_,_,HD2.out,HD4.out,dX _,dX _,Ot.out,RZ.out,by rw [bQ,bQ],K3.out,HB2.out⟩
 case round=>
  obtain⟨ds,es,hds,hes,hnd,hne',hld,hle,hg,hk,hb⟩:=hrel;have HDS:=zh hds;have HES:=zh hes;have Qj:=zh hnd;have gV:=zh hne';have HG:=zh hg;have HK:=zh hk;have HB:=zh hb;have HM:=zh (Pm hes);obtain⟨od,cd,rfl,hcd,hmd⟩:=hds.len;obtain⟨oe,ce,rfl,hce,hme⟩:=hes.len;unfold maxLen at hmd hme;clear hds hes hnd hne' hg hk hb
  by_cases h0:es.length=0
  ·obtain rfl:es= []:=List.length_eq_zero_iff.1 h0
   clear h0;go_wp2_with fail;refine(dJ _ false _ ds HDS.out (by omega)).mono ?_
   rintro e w5 ⟨rfl,hk5⟩;have HV:Hid (bH (iP false (dval ds))= .agg #[.bool gb,.string GS]):=zh (by
    rw [← HLG.out,←HG.out];simp [iP,dval])
   rw [HV.out];have gZ:=HB.out.keep hk5;have K5:=zh (HK.out.both hk5);obtain⟨r0,r1,f0,f1,rl⟩:=gZ.two;go_wp2;refine bodyPost_ret (by simp [results,Tryz.results117,go_sem,r0,r1,rl];rfl) rfl ?_
   exact⟨rfl,aP K5.out HS2.out _ _⟩
  ·have hlt:(0:Int)<(es.length:Int):=by omega
   have hlt0:0<es.length:=by omega
   have hcon:dval es≠0:=fun h=>by
    have:=kR es gV.out (by rintro rfl;simp at h0)
    have:=Nat.pow_pos (a:=4294967296) (n:=es.length-1) (by omega)
    omega
   have HC:Hid (dval ds%dval es<dval es∧Nat.gcd (dval es) (dval ds%dval es)=Nat.gcd (dval ds) (dval es)):=zh ⟨Nat.mod_lt _ (by omega),(Nat.gcd_comm _ _).trans ((Nat.gcd_rec (dval es) (dval ds)).symm.trans (Nat.gcd_comm _ _))⟩
   have HQ:=zh (rQ wr _ _ ds es HDS.out HES.out Qj.out gV.out hlt0 (by omega) (by omega))
   clear h0 hcon;go_wp2_with fail;refine HQ.out.mono ?_;rintro e w5 ⟨vq,vr,qs,rs,rfl,hk5,hq5,hr5,Wo,OT,hlq,hlr⟩;have MB:=zh hr5;have HVR:=zh OT;have Py:=zh hk5;clear hk5 hq5 hr5 Wo OT hlq HQ;go_wp2_with fail;refine(iU _ _ rs MB.out (by omega)).mono ?_
   rintro e w6 ⟨⟨v6,rfl,hd6⟩,rfl⟩;rw [Au MB.out.lt]at hd6;have HD6:=zh hd6;clear hd6;go_wp2_with fail;go_roundw
   case rel=>
    refine⟨es,_,HES.out.keep Py.out,HD6.out,gV.out,dX _,hle,?_,?_,HK.out.both Py.out,HB.out.keep Py.out⟩
    ·have h1:(cZ (dval rs)).length≤es.length:=J5 (by rw [HVR.out];exact Nat.lt_trans HC.out.1 (kW _ HES.out.lt))
     omega
    ·rw [bQ,HVR.out,HC.out.2];exact HG.out
   case measure=>
    rw [Pm HD6.out,HM.out,bQ,HVR.out];exact HC.out.1
end Go.Proofs.YtaiffmebphhdaaaGreat
