/- A region whose order is drawn, by a plan that parts where two or three operations are free. Wide whole numbers of any size: quotient and rest. Wide whole numbers of any size: the common divisor; so SetFrac is right for all that is allowed. Package long: quotient and rest of numbers, the rest not below 0. Package long: the greatest common divisor. -/
import Derived.Test.YtaiffmebphhdaaaGreatBaseA
import Derived.Test.YtaiffmebphhdaaaGreatBaseC
import Derived.Test.YtaiffmebphhdaaaGreatBaseB
import Derived.Test.YtaiffmebphhdaaaGreatLongBB
import Derived.Test.YtaiffmebphhdaaaGreatLongAA
namespace Go.Proofs.YtaiffmebphhdaaaGreat
set_option maxRecDepth 100000
set_option maxHeartbeats 8000000
set_option linter.unusedSimpArgs false
set_option linter.unusedVariables false
inductive PU where
 | fin (qs:List Nat)
 | one (qs:List Nat) (e:Nat) (p:PU)
 | two (qs:List Nat) (e1:Nat) (p1:PU) (e2:Nat) (p2:PU)
 | three (qs:List Nat) (e1:Nat) (p1:PU) (e2:Nat) (p2:PU) (e3:Nat) (p3:PU)
section
variable {P:Program} {ops:Array Oper} {Q:Exit→Act→World→Prop} {C:World→Prop} {md:Region.Mode}
def uJ (md:Region.Mode)(ops:Array Oper):PU→Array Bool→Bool
 | .fin qs,listed=>takeB md ops (fun _=>false) false qs listed&&(Region.ready md ops (bW listed qs)).isEmpty
 | .one qs e p,listed=>takeB md ops (fun _=>false) false qs listed&&(Region.ready md ops (bW listed qs)== [e])&&uJ md ops p ((bW listed qs).setIfInBounds e true)
 | .two qs e1 p1 e2 p2,listed=>takeB md ops (fun _=>false) false qs listed&&(Region.ready md ops (bW listed qs)== [e1,e2])&&(uJ md ops p1 ((bW listed qs).setIfInBounds e1 true)&&uJ md ops p2 ((bW listed qs).setIfInBounds e2 true))
 | .three qs e1 p1 e2 p2 e3 p3,listed=>takeB md ops (fun _=>false) false qs listed&&(Region.ready md ops (bW listed qs)== [e1,e2,e3])&&(uJ md ops p1 ((bW listed qs).setIfInBounds e1 true)&&(uJ md ops p2 ((bW listed qs).setIfInBounds e2 true)&&uJ md ops p3 ((bW listed qs).setIfInBounds e3 true)))
def wZ:PU→Nat
 | .fin qs=>qs.length
 | .one qs _ p=>wZ p+1+qs.length
 | .two qs _ p1 _ _=>wZ p1+1+qs.length
 | .three qs _ p1 _ _ _ _=>wZ p1+1+qs.length
def xL:PU→Bool
 | .fin _=>true
 | .one _ _ p=>xL p
 | .two _ _ p1 _ p2=>xL p1&&xL p2&&wZ p1==wZ p2
 | .three _ _ p1 _ p2 _ p3=>xL p1&&xL p2&&xL p3&&(wZ p1==wZ p2&&wZ p1==wZ p3)
def oL (P:Program)(ops:Array Oper)(Q:Exit→Act→World→Prop)(C:World→Prop):PU→Act→World→Prop
 | .fin qs,a,w=>wpQuiet P ops (aR C false) (fun a'=>Q .normal a' w) (aJ ops qs) a
 | .one qs e p,a,w=>wpQuiet P ops (aR C false) (fun a'=>wpOp P ops Q e (fun a'' w''=>C w''∧oL P ops Q C p a'' w'') a' w) (aJ ops qs) a
 | .two qs e1 p1 e2 p2,a,w=>wpQuiet P ops (aR C false) (fun a'=>wpOp P ops Q e1 (fun a'' w''=>C w''∧oL P ops Q C p1 a'' w'') a' w∧wpOp P ops Q e2 (fun a'' w''=>C w''∧oL P ops Q C p2 a'' w'') a' w) (aJ ops qs) a
 | .three qs e1 p1 e2 p2 e3 p3,a,w=>wpQuiet P ops (aR C false) (fun a'=>wpOp P ops Q e1 (fun a'' w''=>C w''∧oL P ops Q C p1 a'' w'') a' w∧wpOp P ops Q e2 (fun a'' w''=>C w''∧oL P ops Q C p2 a'' w'') a' w∧wpOp P ops Q e3 (fun a'' w''=>C w''∧oL P ops Q C p3 a'' w'') a' w) (aJ ops qs) a
theorem iZ (hs:Region.noSelect ops=true)(hQ:∀c (a:Act) w,¬Q (.panic c) a w):∀(p:PU) (listed:Array Bool) (a:Act) (w:World),DC md ops listed→
  uJ md ops p listed=true→xL p=true→C w→oL P ops Q C p a w→wpAnyL P md ops Q C (fun _=>false) (wZ p) listed a w
 | .fin qs,listed,a,w,hd,hB,_,hC,h=>by
  simp only [uJ,Bool.and_eq_true]at hB;have:=gM (md:=md) (late:=fun _=>false) (C:=C) hs hQ (w:=w) (R:=fun a'=>Q .normal a' w) false 0 qs listed a hd hB.1 (fun _=>hC) (fun _ a' ha=>⟨by simpa using hB.2,ha⟩) h;simpa [wZ]using this
 | .one qs e p,listed,a,w,hd,hB,hE,hC,h=>by
  simp only [uJ,Bool.and_eq_true]at hB;obtain⟨⟨h1,h2⟩,h4⟩:=hB;refine gM hs hQ false (wZ p+1) qs listed a hd h1 (fun _=>hC) (fun hd' a' ha=> ?_) h;have hre:Region.ready md ops (bW listed qs)= [e]:=by simpa using h2
  refine⟨fun h0=>(by rw [hre]at h0;cases h0),fun j hj=> ?_⟩;rw [hre]at hj;obtain rfl:j=e:=by simpa using hj
  exact wpOp_mono (fun a'' w'' ⟨g1,g2⟩=>⟨fun _=>g1,iZ hs hQ p _ a'' w'' (hd'.set (by rw [hre];exact List.mem_singleton.2 rfl)) h4 hE g1 g2⟩) ha
 | .two qs e1 p1 e2 p2,listed,a,w,hd,hB,hE,hC,h=>by
  simp only [uJ,Bool.and_eq_true]at hB;simp only [xL,Bool.and_eq_true,beq_iff_eq]at hE;obtain⟨⟨h1,h2⟩,h4,h5⟩:=hB;obtain⟨⟨he1,he2⟩,hl⟩:=hE;refine gM hs hQ false (wZ p1+1) qs listed a hd h1 (fun _=>hC) (fun hd' a' ha=> ?_) h;have hre:Region.ready md ops (bW listed qs)= [e1,e2]:=by simpa using h2
  refine⟨fun h0=>(by rw [hre]at h0;cases h0),fun j hj=> ?_⟩;have hj':=hj;rw [hre]at hj;have hj2:j=e1∨j=e2:=by simpa using hj
  rcases hj2 with e | e
  ·rw [e]at hj' ⊢;exact wpOp_mono (fun a'' w'' ⟨g1,g2⟩=>⟨fun _=>g1,iZ hs hQ p1 _ a'' w'' (hd'.set hj') h4 he1 g1 g2⟩) ha.1
  rw [e]at hj' ⊢;exact wpOp_mono (fun a'' w'' ⟨g1,g2⟩=>⟨fun _=>g1,by rw [hl];exact iZ hs hQ p2 _ a'' w'' (hd'.set hj') h5 he2 g1 g2⟩) ha.2
 | .three qs e1 p1 e2 p2 e3 p3,listed,a,w,hd,hB,hE,hC,h=>by
  simp only [uJ,Bool.and_eq_true]at hB;simp only [xL,Bool.and_eq_true,beq_iff_eq]at hE;obtain⟨⟨h1,h2⟩,h4,h5,h6⟩:=hB;obtain⟨⟨⟨he1,he2⟩,he3⟩,hl,hl3⟩:=hE;refine gM hs hQ false (wZ p1+1) qs listed a hd h1 (fun _=>hC) (fun hd' a' ha=> ?_) h;have hre:Region.ready md ops (bW listed qs)= [e1,e2,e3]:=by simpa using h2
  refine⟨fun h0=>(by rw [hre]at h0;cases h0),fun j hj=> ?_⟩;have hj':=hj;rw [hre]at hj;have hj2:j=e1∨j=e2∨j=e3:=by simpa using hj
  rcases hj2 with e | e | e
  ·rw [e]at hj' ⊢;exact wpOp_mono (fun a'' w'' ⟨g1,g2⟩=>⟨fun _=>g1,iZ hs hQ p1 _ a'' w'' (hd'.set hj') h4 he1 g1 g2⟩) ha.1
  ·rw [e]at hj' ⊢;exact wpOp_mono (fun a'' w'' ⟨g1,g2⟩=>⟨fun _=>g1,by rw [hl];exact iZ hs hQ p2 _ a'' w'' (hd'.set hj') h5 he2 g1 g2⟩) ha.2.1
  rw [e]at hj' ⊢;exact wpOp_mono (fun a'' w'' ⟨g1,g2⟩=>⟨fun _=>g1,by rw [hl3];exact iZ hs hQ p3 _ a'' w'' (hd'.set hj') h6 he3 g1 g2⟩) ha.2.2
theorem Db {id:Nat}{l:List Oper}{a:Act}{w:World}{Q:Exit→Act→World→Prop}(F:World→Prop)(p:PU)(hm:P.follows .mixedOrders=true)
  (hB:(Region.noSelect l.toArray&&uJ .any l.toArray p (Array.replicate l.toArray.size false)&&xL p&&(wZ p==l.toArray.size))=true) (hF:F w.drew)
  (h:∀(X:Type) (W:X→World),Nonempty X→(∀x,F (W x))→(∀w',F w'→∃x,w'=W x)→oL P l.toArray (NoPanic Q) (fun w'=>∃x,w'=W x) p a w.drew):(Code.region id l.toArray true).wp P Q a w:=by
 have h':=h {w':World // F w'} (fun x=>x.1) ⟨⟨_,hF⟩⟩ (fun x=>x.2) fun w' hw=>⟨⟨w',hw⟩,rfl⟩;simp only [Bool.and_eq_true]at hB;refine wp_region_noPanic (wp_region_any hm (mR _ _ _ _ (C:=fun w'=>∃x: {w':World // F w'},w'=x.1) (late:=fun _=>false) ?_));have:=iZ hB.1.1.1 (fun _ _ _ h=>h) p _ a w.drew (fun k ok e _ hl=>by simp [Array.getD]at hl) hB.1.1.2 hB.1.2 ⟨⟨_,hF⟩,rfl⟩ h';rw [show wZ p=l.toArray.size from by simpa using hB.2]at this;exact this
end
open Go.ChangeShapes Go.WideShapes Go.RowKit
theorem TP {xs ys:List Nat}(hn:iQ ys)(hx:∀d∈xs,d<4294967296)(hl:dval ys≤dval xs):ys.length≤xs.length:=by
 by_cases h0:ys= []
 ·subst h0;simp
 have h1:=kV ys hn h0;have h2:=kX xs hx;have h3:4294967296^(ys.length-1)<4294967296^xs.length:=Nat.lt_of_le_of_lt h1 (Nat.lt_of_le_of_lt hl h2);have:=(Nat.pow_lt_pow_iff_right (a:=4294967296) om).1 h3;have:0<ys.length:=List.length_pos_iff.2 h0;omega
theorem TQ (w:World)(vx vy:Value)(xs ys:List Nat)(hx:eF w vx xs)(hy:eF w vy ys)(hne:iQ ys)(h0:ys≠ [])(hl:ys.length≤xs.length)(hlx:xs.length≤150000):
  Calls Tryz.prog 161 #[vx,vy] w (IY (dval xs) (dval ys) w):=by
 have hl0:0<ys.length:=List.length_pos_iff.2 h0;have hne':ys.getD (ys.length-1) 0≠0:=by rcases hne with h | h;exact absurd h h0;exact h
 by_cases h1:ys.length=1
 ·obtain ⟨d,rfl⟩:=List.length_eq_one_iff.1 h1;have hd:0<d:=by simp at hne';omega
  have h:=RV w vx vy xs d hx hy hd om;rw [show dval [d]=d from by simp [dval]];exact h
 exact Og w vx vy xs ys hx hy om hne' hl hlx
theorem Fx (w:World)(bz oz bx ox eP oy br or:Nat)(x y:Int)(hz:bQ w bz oz)(hr:bQ w br or)(Ad:Rb bz oz br or)(hx:bC w bx ox x)(hy:bC w eP oy y)(hy0:y≠0)
  (hsx:x.natAbs<BIG) (hsy:y.natAbs<BIG):
  Calls Tryz.prog 137 #[.pointer (some ⟨bz,oz,none⟩),.pointer (some ⟨bx,ox,none⟩),.pointer (some ⟨eP,oy,none⟩),.pointer (some ⟨br,or,none⟩)] w fun e w'=>
   e= .returned (.tuple #[.pointer (some ⟨bz,oz,none⟩),.pointer (some ⟨br,or,none⟩)])∧Keep (Rf (At bz oz) (At br or)) w w'∧bC w' bz oz (x.tdiv y)∧bC w' br or (x.tmod y):=by
 have C:=zh (pG w bx ox eP oy x y hx hy);by_cases hlt:x.natAbs<y.natAbs
 ·have hcm:eY x.natAbs y.natAbs= -1:=by simp [eY,hlt]
  rw [hcm]at C;have q0:x.tdiv y=0:=by
   rw [← zM x y (decide (x<0)) (decide (y<0)) sm sm,Nat.div_eq_of_lt hlt];simp [iP]
  have r0:x.tmod y=x:=by
   rw [← zN x y (decide (x<0)) sm,Nat.mod_eq_of_lt hlt];by_cases h:x<0<;>simp [iP,h]<;>omega
  have Hz:=zh hz;have Hr:=zh hr;have Hx:=zh hx;have Hq:=zh q0;have Hm:=zh r0;have HB:=zh hsx;clear hz hr hx hy hcm hsx hsy q0 r0 hlt;go_enter Tryz.func137,Tryz.ntmps137;go_wp2_with fail;refine C.out.mono ?_;rintro e w1 ⟨rfl,n,rfl⟩;go_wp2_with fail;refine(jK _ br or bx ox x (Hr.out.keep ((Keep.refl au w).drewN n) (Off.noS _ _ _)) (Hx.out.keep ((Keep.refl au w).drewN n) (Off.noS _ _ _)) HB.out).mono ?_;rintro e w2 ⟨rfl,hk2,hi2⟩;have XV:=zh hk2;have Hi2:=zh hi2;clear hk2 hi2;go_wp2_with fail;refine(tZ _ bz oz 0 (Hz.out.keep (((Keep.refl au w).drewN n).mono (S':=At br or) (fun _ _ _ h=>h.elim) |>.trans XV.out fun _ _ _ h=>h) (Hr.out.off (Rb.symm Ad))) om om).mono ?_;rintro e w3 ⟨rfl,hk3,hi3⟩;have Hk3:=zh hk3;have Hi3:=zh hi3;clear hk3 hi3;go_wp2;go_returns;refine⟨rfl,?_,?_,?_⟩
  ·exact ((((Keep.refl au w).drewN n).any.trans (XV.out.mono fun _ _ _ h=> .inr h) fun _ _ _ h=>h).trans Hk3.out fun _ _ _ h=> .inl h)
  ·rw [Hq.out];exact Hi3.out
  rw [Hm.out];exact Hi2.out.keep Hk3.out ((Hz.out.keep (((Keep.refl au w).drewN n).any.trans XV.out fun _ _ _ h=>h) (Hr.out.off (Rb.symm Ad))).off Ad)
 by_cases hsm:x.natAbs<18446744073709551616
 ·exact zO w bz oz bx ox eP oy br or x y hz hr Ad hx hy hy0 hsm om
 have hcm:∃c:Int,eY x.natAbs y.natAbs=c∧0≤c:=⟨_,rfl,by unfold eY;rw [if_neg hlt];split<;>omega⟩;obtain⟨c,hc1,hc2⟩:=hcm;rw [hc1]at C;clear hc1;obtain⟨neg,ds,hrx,hn,hne,hzx,h1,h2,h3⟩:=hx.open;obtain⟨dN,ds',yM,hn',hne',hzy,h1',h2',h3'⟩:=hy.open;have BI:∀d∈ds,d<4294967296:=by
  obtain⟨_,_,_,_,hd,_⟩:=hrx.parts;exact hd.all_lt
 have hl3:decide ((ds.length:Int)<3)=false:=aZ (by
  intro hh;have:=Jr BI om;rw [h3]at this;exact hsm this)
 obtain⟨gx,cx,xc0,xc1,hDX,xb⟩:=hrx.parts;obtain⟨gy,cy,yc0,yc1,hDY,yb⟩:=yM.parts;have HLX:Hid (ds.length≤150000):=zh (by have:=mE ds hn (by rw [h3];exact hsx);omega);have D6:Hid (ds'.length≤ds.length):=zh (TP hn' BI (by rw [h3,h3'];omega));have Pf:=zh hDX;have Ub:=zh hDY;have XM:=zh hn';have HY0:Hid (ds'≠ []):=zh fun h=>hy0 (h2'.1 h);have Hz:=zh hz;have Hr:=zh hr;have H3:=zh (And.intro h3 h3');have HQ:Hid (iP (neg != dN) (x.natAbs/y.natAbs)=x.tdiv y):=zh (zM x y neg dN h1 h1');have HR:Hid (iP neg (x.natAbs%y.natAbs)=x.tmod y):=zh (zN x y neg h1);clear hz hr hx hy hrx yM hn hne hzx h1 h2 h3 hn' hne' hzy h1' h2' h3' hlt hy0 hDX hDY BI hsm hsx hsy;go_enter Tryz.func137,Tryz.ntmps137;go_wp2_with fail;refine C.out.mono ?_;rintro e w1 ⟨rfl,n,rfl⟩;go_wp2_with fail;go_quiet (fail);go_wp2_with fail;have hk1:Keep au w (w.drewN (n+nq)):=(Keep.refl _ _).drewN _;have bx1:=dJ xb hk1.size;have by1:=dJ yb hk1.size;have ex1:=(hk1.cell xb).trans xc1;have ey1:=(hk1.cell yb).trans yc1;have Hk1:=zh hk1;clear xc0 xc1 yc0 yc1 xb yb hk1 C hc2 hl3;generalize w.drewN (n+nq)=w1 at *;have PA:Hid (∀w',Keep au w1 w'→Calls Tryz.prog 161 #[.slice (some ⟨gx,0,none⟩) ds.length cx,.slice (some ⟨gy,0,none⟩) ds'.length cy] w' (IY (dval ds) (dval ds') w')):=
  zh fun w' k=>TQ w' _ _ ds ds' (Pf.out.ofNewer (Hk1.out.both k)) (Ub.out.ofNewer (Hk1.out.both k)) XM.out HY0.out D6.out HLX.out
 clear Pf Ub XM HY0 D6 HLX;refine aD (fun w'=>Keep au w1 w') [] [([0,1,2,3,4,5,6,7],8)] [9,10,11,12,13] kr kr kp ?_;intro X W hne hF hcl;have aQ:=zh hcl;have hx1:=fun x=>((hF x).cell bx1).trans ex1;have hy1:=fun x=>((hF x).cell by1).trans ey1;clear hF hcl;simp only [aO,aJ,zl0,zl1,zl2,aR,Bool.false_eq_true,if_false]
 (repeat(quiet_step (fail)));refine wpQuiet_nil ?_
 refine ay rfl rfl fun K hK=> ?_;go_simp;refine(PA.out _ kp).mono ?_;rintro e w2 ⟨vq,vr,dq,dr,rfl,hk2,hq2,hr2,hvq,PD⟩;have k2:Keep au w1 w2:=Keep.trans kp hk2 fun _ _ _ h=>h;refine hK _ _ ⟨fun _=>aQ.out _ k2,?_⟩;have yQ:=zh hq2;have HR2:=zh hr2;have QF:=zh (And.intro hvq PD);have Ab:=zh (Hk1.out.both k2);clear hK K hk2 hq2 hr2 hvq PD PA aQ hx1 hy1 bx1 by1 ex1 ey1 k2
 (repeat(quiet_step (fail)));refine wpQuiet_nil ?_
 refine NoPanic.normal ?_;obtain⟨UH,za,zm1,zm2,zc0,zc1,zf0,zf1,zb⟩:=(Hz.out.ofNewer Ab.out).open;have HZ2:=zh (Hz.out.ofNewer Ab.out);have zdr:=zh (Hr.out.ofNewer Ab.out);obtain⟨gq,cq,rfl⟩:=yQ.out.form;obtain⟨gr,cr,rfl⟩:=HR2.out.form;go_upto_region 13 with fail
 have ez:(!(neg==dN))=(neg != dN):=by cases neg<;>cases dN<;>rfl
 have yI:Hid (Keep (At bz oz) w2 ((w2.setCell ⟨bz,oz,none⟩ (.bool (!(neg==dN)))).setCell ⟨bz,oz+1,none⟩ (.slice (some ⟨gq,0,none⟩) dq.length cq))):=zh (((Keep.refl _ _).setCell _ fun _=>wT bz oz).setCell _ fun _=>FV bz oz);have HZ3:=zh (pI HZ2.out (!(neg==dN)) yQ.out);generalize (w2.setCell ⟨bz,oz,none⟩ (.bool (!(neg==dN)))).setCell ⟨bz,oz+1,none⟩ (.slice (some ⟨gq,0,none⟩) dq.length cq)=w3 at *;have zbi:=zh (zdr.out.keep yI.out (HZ2.out.off Ad));have HR3:=zh (HR2.out.keep yI.out (HZ2.out.off Ad).1);clear zc0 zc1 zf0 zf1 zb;obtain⟨rneg,ra,rm1,rm2,rc0,rc1,rf0,rf1,rb⟩:=zbi.out.open;go_wp2_with fail;have Yg:Hid (Keep (At br or) w3 ((w3.setCell ⟨br,or,none⟩ (.bool neg)).setCell ⟨br,or+1,none⟩ (.slice (some ⟨gr,0,none⟩) dr.length cr))):=zh (((Keep.refl _ _).setCell _ fun _=>wT br or).setCell _ fun _=>FV br or)
 have HR4:=zh (pI zbi.out neg HR3.out);generalize (w3.setCell ⟨br,or,none⟩ (.bool neg)).setCell ⟨br,or+1,none⟩ (.slice (some ⟨gr,0,none⟩) dr.length cr)=w4 at *;have HZ4:=zh (HZ3.out.keep Yg.out (zbi.out.off Ad.symm));clear rc0 rc1 rf0 rf1 rb;refine(kR _ bz oz _ dq HZ4.out).mono ?_;rintro e w6 ⟨rfl,hk6,hi6⟩;have XG:=zh (HR4.out.keep hk6 (HZ4.out.hdr.off Ad));have FH:=zh hk6;have Uc:=zh hi6;clear hk6 hi6;go_wp2_with fail;refine(kR _ br or _ dr XG.out).mono ?_;rintro e w7 ⟨rfl,hk7,hi7⟩;have zds:=zh (Uc.out.keep hk7 (XG.out.hdr.off Ad.symm));have UM:=zh hk7;have HI7:=zh hi7;clear hk7 hi7;go_wp2;go_returns;refine⟨rfl,?_,?_,?_⟩
 ·have a1:=(Ab.out.any.trans (yI.out.mono (S':=Rf (At bz oz) (At br or)) fun _ _ _ h=> .inl h) fun _ _ _ h=>h).trans Yg.out fun _ _ _ h=> .inr h;exact(a1.trans FH.out fun _ _ _ h=> .inl h).trans UM.out fun _ _ _ h=> .inr h
 ·rw [← HQ.out,←H3.out.1,←H3.out.2,←QF.out.1,←ez];exact zds.out
 rw [← HR.out,←H3.out.1,←H3.out.2,←QF.out.2];exact HI7.out
theorem Xw:zbv BIG:=fun x y hy0 h1 h2 w bz oz bx ox eP oy br or hz hr Ad hx hy=>Fx w bz oz bx ox eP oy br or x y hz hr Ad hx hy hy0 h1 h2
theorem QG (w:World)(bz oz bx ox eP oy:Nat)(x y:Int)(hz:bQ w bz oz)(hx:bC w bx ox x)(hy:bC w eP oy y)(hy0:y≠0)
  (hsx:x.natAbs<BIG) (hsy:y.natAbs<BIG):
  Calls Tryz.prog 113 #[.pointer (some ⟨bz,oz,none⟩),.pointer (some ⟨bx,ox,none⟩),.pointer (some ⟨eP,oy,none⟩)] w fun e w'=>
   e= .returned (.pointer (some ⟨bz,oz,none⟩))∧Keep (At bz oz) w w'∧bC w' bz oz (x.tdiv y):=by
 have Hz:=zh hz;have Hx:=zh hx;have Hy:=zh hy;have hzl:=hz.lt;clear hz hx hy;go_enter Tryz.func113,Tryz.ntmps113;go_wp2_with fail;have k1:Keep au w (w.alloc (.cells #[.bool false,.slice none 0 0] 125)):=(Keep.refl _ _).alloc _;refine(Fx _ bz oz bx ox eP oy w.heap.size 0 x y (Hz.out.ofNewer k1) (dY w) (.inl om) (Hx.out.ofNewer k1) (Hy.out.ofNewer k1) hy0 hsx hsy).mono ?_;rintro e w1 ⟨rfl,hk1,hq,hr⟩;have Hk:=zh (k1.any (S:=At bz oz) |>.trans hk1 fun n o hn h=>by rcases h with h | h;exact h;have:=h.1;omega);have Hq:=zh hq;clear hk1 hq hr k1 hy0;go_wp2;go_returns;exact⟨rfl,Hk.out,Hq.out⟩
theorem eF.uniq {w:World}{v:Value}{ds ds':List Nat}(h:eF w v ds)(h':eF w v ds'):ds=ds':=by
 obtain⟨g,cap,c,fr,hv,hg,_,_,hc,_⟩:=h;obtain⟨g',cap',c',fr',hv',hg',_,_,hc',_⟩:=h';subst hv;simp at hv';obtain⟨rfl,hl,rfl⟩:=hv';rw [hg]at hg';simp at hg';obtain⟨rfl,_⟩:=hg';apply List.ext_getElem hl;intro i h1 h2;have e1:=hc i h1;have e2:=hc' i h2;rw [e1]at e2;simp [List.getD,h1,h2]at e2;omega
theorem bC.uniq {w:World}{b o:Nat}{z z':Int}(h:bC w b o z)(h':bC w b o z'):z=z':=by
 obtain⟨neg,ds,⟨c,t,v,hb,ht,h0,h1,hd⟩,_,_,rfl⟩:=h;obtain⟨dN,ds',⟨c',t',v',hb',ht',h0',h1',hd'⟩,_,_,rfl⟩:=h';rw [hb]at hb';simp at hb';obtain⟨rfl,_⟩:=hb';rw [h0]at h0';rw [h1]at h1';simp at h0' h1';subst h0' h1';rw [hd.uniq hd']
open Classical in
noncomputable def Xx (w:World) (v:Value):Nat:=if h:∃b z,v= .pointer (some ⟨b,0,none⟩)∧bC w b 0 z then(Classical.choose (Classical.choose_spec h)).natAbs else 0
theorem MX {w:World}{b:Nat}{z:Int}(h:bC w b 0 z):Xx w (.pointer (some ⟨b,0,none⟩))=z.natAbs:=by
 have hex:∃b' z',Value.pointer (some ⟨b,0,none⟩)= .pointer (some ⟨b',0,none⟩)∧bC w b' 0 z':=⟨b,z,rfl,h⟩;unfold Xx;rw [dif_pos hex];have key:∀(b':Nat) (z':Int),Value.pointer (some ⟨b,0,none⟩)= .pointer (some ⟨b',0,none⟩)→bC w b' 0 z'→z'=z:=fun b' z' e hi=>by
  simp at e;subst e;exact hi.uniq h
 have hs:=Classical.choose_spec (Classical.choose_spec hex);exact congrArg Int.natAbs (key _ _ hs.1 hs.2)
theorem Xy (w:World)(bz oz ba oa bb ob:Nat)(x y:Int)(hz:bQ w bz oz)(hx:bC w ba oa x)(hy:bC w bb ob y)
  (hbx:x.natAbs<BIG) (hby:y.natAbs<BIG):
  Calls Tryz.prog 64 #[.pointer (some ⟨bz,oz,none⟩),.pointer none,.pointer none,.pointer (some ⟨ba,oa,none⟩),.pointer (some ⟨bb,ob,none⟩)] w fun e w'=>
   e= .returned (.pointer (some ⟨bz,oz,none⟩))∧Keep (At bz oz) w w'∧bC w' bz oz (Nat.gcd x.natAbs y.natAbs:Nat):=by
 have Hz:=zh hz;have Hx:=zh hx;have Hy:=zh hy;have ZP:=zh hbx;have Ye:=zh hby;have hzl:=hz.lt;clear hz hx hy hbx hby;go_enter Tryz.func64,Tryz.ntmps64;go_wp2_with fail;have k1:Keep au w (w.alloc (.cells #[.bool false,.slice none 0 0] 125)):=(Keep.refl _ _).alloc _;refine(DN _ w.heap.size 0 ba oa x (dY w) (Hx.out.ofNewer k1) ZP.out).mono ?_;rintro e w1 ⟨rfl,hk1,hp1⟩;have K1:=zh (k1.trans hk1 fun n o hn h=>by have:=h.1;omega);have Hp1:=zh hp1;have hs1:w.heap.size+1≤w1.heap.size:=by have:=hk1.size;simpa using this
 clear k1 hk1 hp1;go_wp2_with fail;have k2:Keep au w1 (w1.alloc (.cells #[.bool false,.slice none 0 0] 125)):=(Keep.refl _ _).alloc _;refine(DN _ w1.heap.size 0 bb ob y (dY w1) ((Hy.out.ofNewer K1.out).ofNewer k2) Ye.out).mono ?_;rintro e w2 ⟨rfl,hk2,hq2⟩;have k2':Keep au w1 w2:=k2.trans hk2 fun n o hn h=>by have:=h.1;omega
 have K2:=zh (K1.out.trans k2' fun _ _ _ h=>h);have Hp2:=zh (Hp1.out.ofNewer k2');have Hq2:=zh hq2;clear k2 hk2 hq2 k2' Hp1 K1 Hx Hy;go_wp2_with fail;go_loopw [11,12] (fun c d wr=>∃p q P Q:Nat,c= .pointer (some ⟨p,0,none⟩)∧d= .pointer (some ⟨q,0,none⟩)∧Keep au w wr∧bC wr p 0 (P:Int)∧bC wr q 0 (Q:Int)∧P<BIG∧Q<BIG∧Nat.gcd P Q=Nat.gcd x.natAbs y.natAbs) (fun _ d wr=>Xx wr d)
 case atStart=>exact⟨_,_,x.natAbs,y.natAbs,rfl,rfl,K2.out,Hp2.out,Hq2.out,ZP.out,Ye.out,rfl⟩
 obtain⟨p,q,P,Q,rfl,rfl,hk,hp,hq,hP,hQ,hg⟩:=hrel;have HK:=zh hk;have HP:=zh hp;have HQ:=zh hq;have HB:=zh (And.intro hP hQ);have HG:=zh hg;have hm:=MX hq;rw [Int.natAbs_natCast]at hm;have HM:=zh hm;clear hk hp hq hP hQ hg hm K2 Hp2 Hq2 ZP Ye;go_wp2_with fail;refine(yP _ q 0 _ HQ.out).mono ?_;rintro e w3 ⟨rfl,rfl⟩;by_cases hy0:Q=0
 ·subst hy0;go_wp2_with fail;refine(jK _ bz oz p 0 _ (Hz.out.ofNewer HK.out) HP.out (by rw [Int.natAbs_natCast];exact HB.out.1)).mono ?_;rintro e w3 ⟨rfl,hk3,hi3⟩;go_wp2;go_returns;refine⟨rfl,HK.out.any.trans hk3 fun _ _ _ h=>h,?_⟩;rw [← HG.out,Nat.gcd_zero_right];exact hi3
 have hsg:((Q:Nat):Int).sign=1:=Int.sign_eq_one_of_pos om;have Hsg:=zh hsg;rw [Hsg.out];obtain⟨neg,ds,hrx,hn,hne,hzx,h1,h2,h3⟩:=HP.out.open;obtain⟨dN,ds',yM,hn',hne',hzy,h1',h2',h3'⟩:=HQ.out.open;have BI:∀d∈ds,d<4294967296:=by obtain⟨_,_,_,_,hd,_⟩:=hrx.parts;exact hd.all_lt
 have hdy:∀d∈ds',d<4294967296:=by obtain⟨_,_,_,_,hd,_⟩:=yM.parts;exact hd.all_lt
 obtain⟨g,cap,xc0,xc1,_,_,xb,_,_,_,_,_⟩:=hrx.open;obtain⟨g',cap',yc0,yc1,_,_,yb,_,_,_,_,_⟩:=yM.open;have hcon:P%Q<Q∧Nat.gcd Q (P%Q)=Nat.gcd P Q:=⟨Nat.mod_lt _ om,by rw [Nat.gcd_comm P Q,Nat.gcd_rec Q P,Nat.gcd_comm]⟩
 have ZB:=zh hcon;by_cases hsm:ds.length<3∧ds'.length<3
 ·have hl3:decide ((ds.length:Int)<3)=true:=bL om;have zba:decide ((ds'.length:Int)<3)=true:=bL om;have hsx:P<18446744073709551616:=by have:=Jr BI hsm.1;rw [h3]at this;simpa using this
  have hsy:Q<18446744073709551616:=by have:=Jr hdy hsm.2;rw [h3']at this;simpa using this
  have UX:=mJ wr p 0 _ HP.out;have UY:=mJ wr q 0 _ HQ.out;rw [Int.natAbs_natCast,Nat.mod_eq_of_lt hsx]at UX;rw [Int.natAbs_natCast,Nat.mod_eq_of_lt hsy]at UY;have HUX:=zh UX;have HUY:=zh UY;have HS:=zh (And.intro hsx hsy);clear hsg UX UY hrx yM hn hne hzx h1 h2 h3 hn' hne' hzy h1' h2' h3' BI hdy hsm hsx hsy hcon ZB hy0;go_wp2_with fail;refine HUX.out.mono ?_;rintro e w3 ⟨rfl,rfl⟩;go_wp2_with fail;refine HUY.out.mono ?_;rintro e w3 ⟨rfl,rfl⟩;clear HUX HUY Hsg hl3 zba xc0 xc1 yc0 yc1;go_wp2_with fail;go_loopw [13,14] (fun c d wx=>∃p' q':Nat,c= .int .u64 p'∧d= .int .u64 q'∧p'<18446744073709551616∧q'<18446744073709551616∧Nat.gcd p' q'=Nat.gcd x.natAbs y.natAbs∧∃n,wx=wr.drewN n) (fun _ d _=>(intOf d).toNat)
  case atStart=>exact⟨P,Q,rfl,rfl,HS.out.1,HS.out.2,HG.out,0,rfl⟩
  obtain⟨p',q',rfl,rfl,hp,hq,hg,n,rfl⟩:=hrel;have Hg:=zh hg;clear hg;by_cases h0:q'=0
  ·subst h0;go_wp2_with fail;refine(ji _ bz oz p' ((Hz.out.ofNewer HK.out).ofNewer ((Keep.refl au wr).drewN n)) hp).mono ?_;rintro e w3 ⟨rfl,hk3,hi3⟩;go_wp2;go_returns;refine⟨rfl,((HK.out.trans ((Keep.refl au wr).drewN n) fun _ _ _ h=>h).any).trans hk3 fun _ _ _ h=>h,?_⟩;rw [← Hg.out];simpa using hi3
  have hq0:((0:Int)<(q':Int)):=om;have hm:p'%q'<q':=Nat.mod_lt _ om;go_wp2_with fail;go_quiet (fail);go_wp2_with fail;go_roundw
  case rel=>exact⟨q',p'%q',rfl,sm,hq,om,by rw [← Hg.out,Nat.gcd_comm p' q',Nat.gcd_rec q' p',Nat.gcd_comm],n+nq,sm⟩
  simp [intOf];omega
 have hl3:(decide ((ds.length:Int)<3)&&decide ((ds'.length:Int)<3))=false:=by
  rw [Bool.and_eq_false_iff];rcases Nat.lt_or_ge ds.length 3 with h | h
  ·exact .inr (aZ om)
  exact .inl (aZ om)
 clear hsg hrx yM hn hne hzx h1 h2 h3 hn' hne' hzy h1' h2' h3' BI hdy hcon;have k1:Keep au wr (wr.alloc (.cells intCells 125)):=(Keep.refl _ _).alloc _;have hM:=zar (Nat.le_refl _) Xw _ wr.heap.size 0 p 0 q 0 _ _ (dY wr) (HP.out.ofNewer k1) (HQ.out.ofNewer k1) om (by rw [Int.natAbs_natCast];exact HB.out.1) (by rw [Int.natAbs_natCast];exact HB.out.2);have HMO:=zh hM;clear hM;go_wp2_with fail
 all_goals
  refine HMO.out.mono ?_;rintro e w3 ⟨rfl,hk3,hi3⟩;have yI:=zh (k1.newer hk3 (Nat.le_refl _));have HI3:=zh hi3;clear hk3 hi3 k1 HMO xc0 xc1 yc0 yc1;go_wp2_with fail;go_roundw
  case rel=>
   refine⟨q,wr.heap.size,Q,P%Q,rfl,rfl,HK.out.both yI.out,HQ.out.ofNewer yI.out,HI3.out,HB.out.2,?_,by rw [ZB.out.2];exact HG.out⟩;have:=ZB.out.1;have:=HB.out.2;omega
  rw [MX HI3.out,HM.out,←Int.natCast_emod,Int.natAbs_natCast];exact ZB.out.1
theorem Br:ZQ BIG:=fun a b hb ha1 hb1 w bz oz ba oa bb ob hz ha hb'=>by
 have hg0:(Nat.gcd a.natAbs b.natAbs:Int)≠0:=by
  have:0<Nat.gcd a.natAbs b.natAbs:=Nat.gcd_pos_of_pos_right _ om;omega
 have hg1:(Nat.gcd a.natAbs b.natAbs:Int).natAbs<BIG:=by
  rw [Int.natAbs_natCast];exact Nat.lt_of_le_of_lt (Nat.gcd_le_right _ om) hb1
 exact E8 w bz oz ba oa bb ob a b hz ha hb' hb ha1 hb1 (fun w bz oz ba oa bb ob hz hx hy=>Xy w bz oz ba oa bb ob a b hz hx hy ha1 hb1)
  (fun w bz oz ba oa bb ob hz hx hy=>QG w bz oz ba oa bb ob _ _ hz hx hy hg0 ha1 hg1) (fun w bz oz ba oa bb ob hz hx hy=>QG w bz oz ba oa bb ob _ _ hz hx hy hg0 hb1 hg1)
theorem aL.set2 {w:World}{b:Nat}{x y:Value}(h:aL w b #[x,y])(u v:Value):aL ((w.setCell ⟨b,0,none⟩ u).setCell ⟨b,1,none⟩ v) b #[u,v]:=by
 obtain⟨t,h⟩:=h;exact⟨t,heap_setCell_same 1 v (heap_setCell_same 0 u h)⟩
theorem aL.other2 {w:World}{b b':Nat}{A:Array Value}(h:aL w b A)(hne:b≠b')(u v:Value):aL ((w.setCell ⟨b',0,none⟩ u).setCell ⟨b',1,none⟩ v) b A:=by
 obtain⟨t,h⟩:=h;exact⟨t,by rw [heap_setCell_other _ _ _ _ hne,heap_setCell_other _ _ _ _ hne];exact h⟩
theorem aV {w0 w:World}{b:Nat}(h:Keep au w0 w)(hb:w0.heap.size≤b)(u v:Value):Keep au w0 ((w.setCell ⟨b,0,none⟩ u).setCell ⟨b,1,none⟩ v):=
 (h.setCell _ fun hh=>absurd hh om).setCell _ fun hh=>absurd hh om
def ZR (b c:Nat):Nat→Nat→Prop:=fun k _=>k=b∨k=c
theorem aL.keep2 {w w':World}{k b c:Nat}{A:Array Value}(h:aL w k A)(hk:Keep (ZR b c) w w')(h1:k≠b)(h2:k≠c):aL w' k A:=by
 obtain⟨t,h⟩:=h;exact⟨t,by rw [hk.block k (lt_of_heap h) fun o ho=>ho.elim h1 h2];exact h⟩
theorem Ii {w0 w:World}{b c d:Nat}(h:Keep (ZR b c) w0 w)(hd:d=b∨d=c)(u v:Value):Keep (ZR b c) w0 ((w.setCell ⟨d,0,none⟩ u).setCell ⟨d,1,none⟩ v):=
 (h.setCell _ fun _=>hd).setCell _ fun _=>hd
theorem zcB {y:Int}(h:y≠0):0<(dw y.natAbs).length:=List.length_pos_iff.2 fun e=>by
 have:=qE.1 e;omega
theorem aH (z:Int):∃b S,bJ z= .agg #[.bool b,.string S]∧b=decide (z<0)∧S=bytesOf (dw z.natAbs):=⟨_,_,rfl,rfl,rfl⟩
theorem pW (w:World)(x y:Int)(hx:dl x≤4500)(hy:dl y≤4500)(hy0:y≠0):
  Calls Tryz.prog 99 #[bJ x,bJ y] w fun e w'=>e= .returned (.tuple #[bJ (x/y),bJ (x%y),.int .i64 0])∧Keep au w w':=by
 have BI:(dw x.natAbs).length≤4500:=hx;have hdy:(dw y.natAbs).length≤4500:=hy;have hq:=oF (a:=x.tdiv y) (b:=x) (by rw [Int.natAbs_tdiv];exact Nat.div_le_self _ _);have hr:=oF (a:=x.tmod y) (b:=x) (by rw [Int.natAbs_tmod];exact Nat.mod_le _ _);have ha:=zav y;have hdy0:=zcB hy0;have LX:=fun w b=>zh (jg w x b om);have LY:=fun w b=>zh (jg w y b om);have SY:=fun w=>zh (iV w y);have SR:=fun w=>zh (iV w (x.tmod y));have AY:=fun w=>zh (Kj w y);have UR:=fun w=>zh (qG w (x.tmod y) (y.natAbs:Nat) om om);have U1:=fun w=>zh (qG w (x.tdiv y) 1 om (by have:=rO (z:=1) (k:=1) dc;omega));have U2:=fun w=>zh (qG w (x.tdiv y) (-1) om (by have:=rO (z:= -1) (k:=1) dc;omega));have HQV:=zM x y (decide (x<0)) (decide (y<0)) sm sm;have HRV:=zN x y (decide (x<0)) sm;have HE0:Hid (0≤x.tmod y→x/y=x.tdiv y∧x%y=x.tmod y):=zh fun h=>uT hy0 om;have FU:Hid (x.tmod y<0→(y<0→x/y=x.tdiv y+1∧x%y=x.tmod y+(y.natAbs:Nat))∧(0≤y→x/y=x.tdiv y+ -1∧x%y=x.tmod y+(y.natAbs:Nat))):=zh fun h=>by
  obtain⟨h1,h2⟩:=BJ hy0 h;exact⟨fun h'=>by obtain⟨h3,h4⟩:=h1 h';omega,fun h'=>by obtain⟨h3,h4⟩:=h2 om;omega⟩
 have Pd:Hid (x.tmod y<0↔(x.tmod y).sign<0):=zh (by
  rcases Int.lt_trichotomy (x.tmod y) 0 with h | h | h
  ·rw [Int.sign_eq_neg_one_of_neg h];omega
  ·rw [h];simp
  rw [Int.sign_eq_one_of_pos h];omega)
 have e0:(y.sign==0)=false:=by rw [beq_eq_false_iff_ne];intro h;exact hy0 (Int.sign_eq_zero_iff_zero.1 h)
 obtain⟨bx,S,lx,hbx,hS⟩:=aH x;obtain⟨eP,U,ly,hby,hU⟩:=aH y;obtain⟨qb,QS,lq,-,-⟩:=aH (x.tdiv y);obtain⟨rb,RS,lr,-,-⟩:=aH (x.tmod y);obtain⟨ab,AS,nE,-,-⟩:=aH (y.natAbs:Nat);rw [← hS]at LX;rw [← hU]at LY;rw [← hbx,←hby]at HQV;rw [← hbx]at HRV;rw [ly]at SY AY;rw [lr]at SR UR;rw [nE]at AY UR;rw [lq]at U1 U2;rw [lx,ly];have Yo:=zh hby;have HNY:=zh (eH y.natAbs);have mM:=zh (eH x.natAbs);have LQ:=fun w vx vy h1 h2=>zh (rY w vx vy (dw x.natAbs) (dw y.natAbs) h1 h2 mM.out HNY.out hdy0 om om);rw [bV,bV]at LQ;have HQV:=zh (congrArg bJ HQV);have HRV:=zh (congrArg bJ HRV);rw [lq]at HQV;rw [lr]at HRV;have HLQ:=zh lq;have Pe:=zh lr;clear hx hy hbx hS hby hU lx ly lq lr nE ha hq hr hy0 hdy0;have Pf:=zh BI;have Ub:=zh hdy;clear BI hdy;go_enter Tryz.func99,Tryz.ntmps99;go_wp2_with fail;have B0:aL ((((w.alloc (.cells #[.bool bx,.string S] 91)).alloc (.cells #[.bool eP,.string U] 91)).alloc (.cells #[.bool false,.string ⟨#[]⟩] 91)).alloc (.cells #[.bool false,.string ⟨#[]⟩] 91)) w.heap.size #[.bool bx,.string S]:=kc;have B1:aL ((((w.alloc (.cells #[.bool bx,.string S] 91)).alloc (.cells #[.bool eP,.string U] 91)).alloc (.cells #[.bool false,.string ⟨#[]⟩] 91)).alloc (.cells #[.bool false,.string ⟨#[]⟩] 91)) (w.heap.size+1) #[.bool eP,.string U]:=kc;have B4:aL ((((w.alloc (.cells #[.bool bx,.string S] 91)).alloc (.cells #[.bool eP,.string U] 91)).alloc (.cells #[.bool false,.string ⟨#[]⟩] 91)).alloc (.cells #[.bool false,.string ⟨#[]⟩] 91)) (w.heap.size+1+1) #[.bool false,.string ⟨#[]⟩]:=kc;have B5:aL ((((w.alloc (.cells #[.bool bx,.string S] 91)).alloc (.cells #[.bool eP,.string U] 91)).alloc (.cells #[.bool false,.string ⟨#[]⟩] 91)).alloc (.cells #[.bool false,.string ⟨#[]⟩] 91)) (w.heap.size+1+1+1) #[.bool false,.string ⟨#[]⟩]:=kc;have K0:Hid (Keep au w ((((w.alloc (.cells #[.bool bx,.string S] 91)).alloc (.cells #[.bool eP,.string U] 91)).alloc (.cells #[.bool false,.string ⟨#[]⟩] 91)).alloc (.cells #[.bool false,.string ⟨#[]⟩] 91))):=zh kp;generalize (((w.alloc (.cells #[.bool bx,.string S] 91)).alloc (.cells #[.bool eP,.string U] 91)).alloc (.cells #[.bool false,.string ⟨#[]⟩] 91)).alloc (.cells #[.bool false,.string ⟨#[]⟩] 91)=w1 at*;have HB0:=zh B0;have HB1:=zh B1;have fH:=zh B4;have fM:=zh B5;clear B0 B1 B4 B5;refine(SY _).out.mono ?_;rintro e w2 ⟨rfl,hk2⟩;have K2:=zh (K0.out.both hk2);have HB0:=zh (HB0.out.keep hk2);have HB1:=zh (HB1.out.keep hk2);have fH:=zh (fH.out.keep hk2);have fM:=zh (fM.out.keep hk2);have h45:w.heap.size+1+1≠w.heap.size+1+1+1:=om;have Cx:Hid (w.heap.size≤w.heap.size+1+1):=zh om;have HS5:Hid (w.heap.size≤w.heap.size+1+1+1):=zh om;clear hk2 SY;generalize w.heap.size+1+1+1=b5 at *;generalize w.heap.size+1+1=b4 at *;generalize w.heap.size+1=b1 at *;generalize hb0:w.heap.size=b0 at HB0 ⊢;clear hb0;go_wp2;refine aD (fun w'=>Keep au w2 w') [] [([0,2],1),([],3),([],4)] [5,6,7,8,9] kr kr kp ?_;intro X W hne hF hcl;have aQ:=zh hcl;have hx0:=fun x=>(HB0.out.keep (hF x)).two;have hx1:=fun x=>(HB1.out.keep (hF x)).two;clear hF hcl;simp only [aO,aJ,zl0,zl1,zl2,aR,Bool.false_eq_true,if_false]
 (repeat(quiet_step (fail)));refine wpQuiet_nil ?_
 refine ay rfl rfl fun K hK=> ?_;go_simp;refine(LX _ _).out.mono ?_;rintro e w3 ⟨v3,rfl,hd3,hk3⟩;have k3:Keep au w2 w3:=Keep.trans kp hk3 fun _ _ _ h=>h;refine hK _ _ ⟨fun _=>aQ.out _ k3,?_⟩;clear hK K hk3
 (repeat(quiet_step (fail)));refine wpQuiet_nil ?_
 refine ay rfl rfl fun K hK=> ?_;go_simp;refine(LY _ _).out.mono ?_;rintro e w4 ⟨v4,rfl,hd4,hk4⟩;have k4:=k3.both hk4;refine hK _ _ ⟨fun _=>aQ.out _ k4,?_⟩;have hd3:=hd3.keep hk4;clear hK K hk4 k3
 (repeat(quiet_step (fail)));refine wpQuiet_nil ?_
 refine ay rfl rfl fun K hK=> ?_;go_simp;refine(LQ _ _ _ hd3 hd4).out.mono ?_;rintro e w5 ⟨vq,vr,qs,rs,rfl,hk5,hq5,hr5,hvq,PD,hlq,hlr⟩;have k5:=k4.both hk5;refine hK _ _ ⟨fun _=>aQ.out _ k5,?_⟩;have K5:=zh (K2.out.both k5);have HB0:=zh (HB0.out.keep k5);have HB1:=zh (HB1.out.keep k5);have fH:=zh (fH.out.keep k5);have fM:=zh (fM.out.keep k5);have HD1:=zh hq5;have HD2:=zh hr5;have TY:Hid (qs.length≤20000):=zh (by have:=Pf.out;omega);have Iu:Hid (rs.length≤20000):=zh (by have:=Pf.out;omega);have Pg:Hid (bJ (iP (!(bx==eP)) (dval qs))= .agg #[.bool qb,.string QS]):=zh (by rw [hvq,←HQV.out];cases bx<;>cases eP<;>rfl);have QF:Hid (bJ (iP bx (dval rs))= .agg #[.bool rb,.string RS]):=zh (by rw [PD];exact HRV.out);clear hK K hk5 k4 hd3 hd4 hq5 hr5 hvq PD hlq hlr k5 LX LY LQ hx0 hx1 aQ
 (repeat(quiet_step (fail)));refine wpQuiet_nil ?_
 refine NoPanic.normal ?_;generalize w5=w0 at *;have TR:=zh fH.out.lt;have ZE:=zh fM.out.lt;have zdu:=zh HB1.out.lt;go_upto_region 4 with fail;go_cut [9,10]from 24 to 51 (fun s t wx=>∃ba bb,s= .pointer (some ⟨ba,0,none⟩)∧t= .pointer (some ⟨bb,0,none⟩)∧Keep au w0 wx∧aL wx ba #[.bool qb,.string QS]∧aL wx bb #[.bool rb,.string RS]∧w0.heap.size≤ba∧w0.heap.size≤bb∧ba≠bb)
 case first=>
  as_aux_lemma=>
   refine Db (fun w'=>Keep au w0 w') (.three [0,1,2,3,4,5,7,8,9] 6 (.three [] 10 (.two [] 11 (.one [] 12 (.one [] 13 (.one [] 14 (.fin [])))) 12 (.one [] 11 (.one [] 13 (.one [] 14 (.fin []))))) 11 (.two [] 10 (.one [] 12 (.one [] 13 (.one [] 14 (.fin [])))) 12 (.one [] 10 (.one [] 13 (.one [] 14 (.fin []))))) 12 (.two [] 10 (.one [] 11 (.one [] 13 (.one [] 14 (.fin [])))) 11 (.one [] 10 (.one [] 13 (.one [] 14 (.fin [])))))) 11 (.two [] 6 (.two [] 10 (.one [] 12 (.one [] 13 (.one [] 14 (.fin [])))) 12 (.one [] 10 (.one [] 13 (.one [] 14 (.fin []))))) 12 (.one [] 6 (.one [] 10 (.one [] 13 (.one [] 14 (.fin [])))))) 12 (.two [] 6 (.two [] 10 (.one [] 11 (.one [] 13 (.one [] 14 (.fin [])))) 11 (.one [] 10 (.one [] 13 (.one [] 14 (.fin []))))) 11 (.one [] 6 (.one [] 10 (.one [] 13 (.one [] 14 (.fin []))))))) kr kr kp ?_;intro X W hne hF hcl;have aQ:=zh hcl;have hx0:=fun x=>(HB0.out.keep (hF x)).two;have hx1:=fun x=>(HB1.out.keep (hF x)).two;clear hF hcl;simp only [oL,aJ,zl0,zl1,zl2,aR,Bool.false_eq_true,if_false]
   (repeat(quiet_step (fail)));refine wpQuiet_nil ?_
   refine⟨?_,?_,?_⟩
   ·refine ay rfl rfl fun K hK=> ?_;go_simp;refine(dP _ _ _ _ (HD1.out.keep kp) TY.out).mono ?_;rintro e v1 ⟨rfl,hk⟩;have K1:=zh ((show Keep au w0 _ from kp).both hk);rw [Pg.out];refine hK _ _ ⟨aQ.out _ K1.out,?_⟩;clear hK K hk
    (repeat(quiet_step (fail)));refine wpQuiet_nil ?_
    refine⟨?_,?_,?_⟩
    ·refine ay rfl rfl fun K hK=> ?_;go_simp;refine(dP _ _ _ _ (HD2.out.keep K1.out) Iu.out).mono ?_;rintro e v2 ⟨rfl,hk⟩;have K2:=zh ((show Keep au w0 _ from K1.out).both hk);rw [QF.out];refine hK _ _ ⟨aQ.out _ K2.out,?_⟩;clear hK K hk
     (repeat(quiet_step (fail)));refine wpQuiet_nil ?_
     refine⟨?_,?_⟩
     ·refine ay rfl rfl fun K hK=> ?_;go_simp;have k3:Keep au w0 (v2.alloc (.cells #[.bool false,.string ⟨#[]⟩] 91)):=K2.out.alloc _;refine hK _ _ ⟨aQ.out _ k3,?_⟩;have dx:Hid (aL (v2.alloc (.cells #[.bool false,.string ⟨#[]⟩] 91)) v2.heap.size #[.bool false,.string ⟨#[]⟩]):=zh (aP _ _ rfl);have K3:=zh k3;clear hK K k3;obtain⟨ba,hba⟩:∃b,b=v2.heap.size:=⟨_,rfl⟩;have vY:Hid (w0.heap.size≤ba):=zh (by rw [hba];exact K2.out.size);rw [← hba]at dx ⊢;clear hba;generalize v2.alloc (.cells #[.bool false,.string ⟨#[]⟩] 91)=v3 at*
      (repeat(quiet_step (fail)));refine wpQuiet_nil ?_
      refine ay rfl rfl fun K hK=> ?_;go_simp;have k4:Keep au w0 (v3.alloc (.cells #[.bool false,.string ⟨#[]⟩] 91)):=K3.out.alloc _;refine hK _ _ ⟨aQ.out _ k4,?_⟩;have dB:Hid (aL (v3.alloc (.cells #[.bool false,.string ⟨#[]⟩] 91)) v3.heap.size #[.bool false,.string ⟨#[]⟩]):=zh (aP _ _ rfl);have K4:=zh k4;have gV:Hid (ba≠v3.heap.size):=zh (by have:=dx.out.lt;omega);have dx:=zh (dx.out.old (.cells #[.bool false,.string ⟨#[]⟩] 91));clear hK K k4;obtain⟨bb,hbb⟩:∃b,b=v3.heap.size:=⟨_,rfl⟩;have wQ:Hid (w0.heap.size≤bb):=zh (by rw [hbb];exact K3.out.size);rw [← hbb]at dB gV ⊢;clear hbb;generalize v3.alloc (.cells #[.bool false,.string ⟨#[]⟩] 91)=v4 at*
      (repeat(quiet_step (fail)));refine wpQuiet_nil ?_
      obtain⟨ra0,ra1,fa0,fa1,Bt⟩:=dx.out.two;refine ay rfl rfl fun K hK=> ?_;go_simp;have K5:=zh (aV K4.out vY.out (.bool qb) (.string QS));refine hK _ _ ⟨aQ.out _ K5.out,?_⟩;have dx:=zh (dx.out.set2 (.bool qb) (.string QS));have dB:=zh (dB.out.other2 (fun h=>gV.out h.symm) (.bool qb) (.string QS));clear hK K ra0 ra1 fa0 fa1 Bt;generalize (v4.setCell ⟨ba,0,none⟩ (.bool qb)).setCell ⟨ba,1,none⟩ (.string QS)=v5 at*
      (repeat(quiet_step (fail)));refine wpQuiet_nil ?_
      obtain⟨rb0,rb1,fb0,fb1,Bu⟩:=dB.out.two;refine ay rfl rfl fun K hK=> ?_;go_simp;have K6:=zh (aV K5.out wQ.out (.bool rb) (.string RS));refine hK _ _ ⟨aQ.out _ K6.out,?_⟩;have dB:=zh (dB.out.set2 (.bool rb) (.string RS));have dx:=zh (dx.out.other2 (fun h=>gV.out h) (.bool rb) (.string RS));clear hK K rb0 rb1 fb0 fb1 Bu;generalize (v5.setCell ⟨bb,0,none⟩ (.bool rb)).setCell ⟨bb,1,none⟩ (.string RS)=v6 at*
      (repeat(quiet_step (fail)));refine wpQuiet_nil ?_
      refine NoPanic.normal ?_;go_wp2_with fail;go_meet;exact⟨ba,bb,rfl,rfl,K6.out,dx.out,dB.out,vY.out,wQ.out,gV.out⟩
     refine ay rfl rfl fun K hK=> ?_;go_simp;have k3:Keep au w0 (v2.alloc (.cells #[.bool false,.string ⟨#[]⟩] 91)):=K2.out.alloc _;refine hK _ _ ⟨aQ.out _ k3,?_⟩;have dB:Hid (aL (v2.alloc (.cells #[.bool false,.string ⟨#[]⟩] 91)) v2.heap.size #[.bool false,.string ⟨#[]⟩]):=zh (aP _ _ rfl);have K3:=zh k3;clear hK K k3;obtain⟨bb,hbb⟩:∃b,b=v2.heap.size:=⟨_,rfl⟩;have wQ:Hid (w0.heap.size≤bb):=zh (by rw [hbb];exact K2.out.size);rw [← hbb]at dB ⊢;clear hbb;generalize v2.alloc (.cells #[.bool false,.string ⟨#[]⟩] 91)=v3 at*
     (repeat(quiet_step (fail)));refine wpQuiet_nil ?_
     refine ay rfl rfl fun K hK=> ?_;go_simp;have k4:Keep au w0 (v3.alloc (.cells #[.bool false,.string ⟨#[]⟩] 91)):=K3.out.alloc _;refine hK _ _ ⟨aQ.out _ k4,?_⟩;have dx:Hid (aL (v3.alloc (.cells #[.bool false,.string ⟨#[]⟩] 91)) v3.heap.size #[.bool false,.string ⟨#[]⟩]):=zh (aP _ _ rfl);have K4:=zh k4;have gV:Hid (v3.heap.size≠bb):=zh (by have:=dB.out.lt;omega);have dB:=zh (dB.out.old (.cells #[.bool false,.string ⟨#[]⟩] 91));clear hK K k4;obtain⟨ba,hba⟩:∃b,b=v3.heap.size:=⟨_,rfl⟩;have vY:Hid (w0.heap.size≤ba):=zh (by rw [hba];exact K3.out.size);rw [← hba]at dx gV ⊢;clear hba;generalize v3.alloc (.cells #[.bool false,.string ⟨#[]⟩] 91)=v4 at*
     (repeat(quiet_step (fail)));refine wpQuiet_nil ?_
     obtain⟨ra0,ra1,fa0,fa1,Bt⟩:=dx.out.two;refine ay rfl rfl fun K hK=> ?_;go_simp;have K5:=zh (aV K4.out vY.out (.bool qb) (.string QS));refine hK _ _ ⟨aQ.out _ K5.out,?_⟩;have dx:=zh (dx.out.set2 (.bool qb) (.string QS));have dB:=zh (dB.out.other2 (fun h=>gV.out h.symm) (.bool qb) (.string QS));clear hK K ra0 ra1 fa0 fa1 Bt;generalize (v4.setCell ⟨ba,0,none⟩ (.bool qb)).setCell ⟨ba,1,none⟩ (.string QS)=v5 at*
     (repeat(quiet_step (fail)));refine wpQuiet_nil ?_
     obtain⟨rb0,rb1,fb0,fb1,Bu⟩:=dB.out.two;refine ay rfl rfl fun K hK=> ?_;go_simp;have K6:=zh (aV K5.out wQ.out (.bool rb) (.string RS));refine hK _ _ ⟨aQ.out _ K6.out,?_⟩;have dB:=zh (dB.out.set2 (.bool rb) (.string RS));have dx:=zh (dx.out.other2 (fun h=>gV.out h) (.bool rb) (.string RS));clear hK K rb0 rb1 fb0 fb1 Bu;generalize (v5.setCell ⟨bb,0,none⟩ (.bool rb)).setCell ⟨bb,1,none⟩ (.string RS)=v6 at*
     (repeat(quiet_step (fail)));refine wpQuiet_nil ?_
     refine NoPanic.normal ?_;go_wp2_with fail;go_meet;exact⟨ba,bb,rfl,rfl,K6.out,dx.out,dB.out,vY.out,wQ.out,gV.out⟩
    ·refine ay rfl rfl fun K hK=> ?_;go_simp;have k2:Keep au w0 (v1.alloc (.cells #[.bool false,.string ⟨#[]⟩] 91)):=K1.out.alloc _;refine hK _ _ ⟨aQ.out _ k2,?_⟩;have dx:Hid (aL (v1.alloc (.cells #[.bool false,.string ⟨#[]⟩] 91)) v1.heap.size #[.bool false,.string ⟨#[]⟩]):=zh (aP _ _ rfl);have K2:=zh k2;clear hK K k2;obtain⟨ba,hba⟩:∃b,b=v1.heap.size:=⟨_,rfl⟩;have vY:Hid (w0.heap.size≤ba):=zh (by rw [hba];exact K1.out.size);rw [← hba]at dx ⊢;clear hba;generalize v1.alloc (.cells #[.bool false,.string ⟨#[]⟩] 91)=v2 at*
     (repeat(quiet_step (fail)));refine wpQuiet_nil ?_
     refine⟨?_,?_⟩
     ·refine ay rfl rfl fun K hK=> ?_;go_simp;refine(dP _ _ _ _ (HD2.out.keep K2.out) Iu.out).mono ?_;rintro e v3 ⟨rfl,hk⟩;have K3:=zh ((show Keep au w0 _ from K2.out).both hk);rw [QF.out];have dx:=zh (dx.out.keep hk);refine hK _ _ ⟨aQ.out _ K3.out,?_⟩;clear hK K hk
      (repeat(quiet_step (fail)));refine wpQuiet_nil ?_
      refine ay rfl rfl fun K hK=> ?_;go_simp;have k4:Keep au w0 (v3.alloc (.cells #[.bool false,.string ⟨#[]⟩] 91)):=K3.out.alloc _;refine hK _ _ ⟨aQ.out _ k4,?_⟩;have dB:Hid (aL (v3.alloc (.cells #[.bool false,.string ⟨#[]⟩] 91)) v3.heap.size #[.bool false,.string ⟨#[]⟩]):=zh (aP _ _ rfl);have K4:=zh k4;have gV:Hid (ba≠v3.heap.size):=zh (by have:=dx.out.lt;omega);have dx:=zh (dx.out.old (.cells #[.bool false,.string ⟨#[]⟩] 91));clear hK K k4;obtain⟨bb,hbb⟩:∃b,b=v3.heap.size:=⟨_,rfl⟩;have wQ:Hid (w0.heap.size≤bb):=zh (by rw [hbb];exact K3.out.size);rw [← hbb]at dB gV ⊢;clear hbb;generalize v3.alloc (.cells #[.bool false,.string ⟨#[]⟩] 91)=v4 at*
      (repeat(quiet_step (fail)));refine wpQuiet_nil ?_
      obtain⟨ra0,ra1,fa0,fa1,Bt⟩:=dx.out.two;refine ay rfl rfl fun K hK=> ?_;go_simp;have K5:=zh (aV K4.out vY.out (.bool qb) (.string QS));refine hK _ _ ⟨aQ.out _ K5.out,?_⟩;have dx:=zh (dx.out.set2 (.bool qb) (.string QS));have dB:=zh (dB.out.other2 (fun h=>gV.out h.symm) (.bool qb) (.string QS));clear hK K ra0 ra1 fa0 fa1 Bt;generalize (v4.setCell ⟨ba,0,none⟩ (.bool qb)).setCell ⟨ba,1,none⟩ (.string QS)=v5 at*
      (repeat(quiet_step (fail)));refine wpQuiet_nil ?_
      obtain⟨rb0,rb1,fb0,fb1,Bu⟩:=dB.out.two;refine ay rfl rfl fun K hK=> ?_;go_simp;have K6:=zh (aV K5.out wQ.out (.bool rb) (.string RS));refine hK _ _ ⟨aQ.out _ K6.out,?_⟩;have dB:=zh (dB.out.set2 (.bool rb) (.string RS));have dx:=zh (dx.out.other2 (fun h=>gV.out h) (.bool rb) (.string RS));clear hK K rb0 rb1 fb0 fb1 Bu;generalize (v5.setCell ⟨bb,0,none⟩ (.bool rb)).setCell ⟨bb,1,none⟩ (.string RS)=v6 at*
      (repeat(quiet_step (fail)));refine wpQuiet_nil ?_
      refine NoPanic.normal ?_;go_wp2_with fail;go_meet;exact⟨ba,bb,rfl,rfl,K6.out,dx.out,dB.out,vY.out,wQ.out,gV.out⟩
     refine ay rfl rfl fun K hK=> ?_;go_simp;have k3:Keep au w0 (v2.alloc (.cells #[.bool false,.string ⟨#[]⟩] 91)):=K2.out.alloc _;refine hK _ _ ⟨aQ.out _ k3,?_⟩;have dB:Hid (aL (v2.alloc (.cells #[.bool false,.string ⟨#[]⟩] 91)) v2.heap.size #[.bool false,.string ⟨#[]⟩]):=zh (aP _ _ rfl);have K3:=zh k3;have gV:Hid (ba≠v2.heap.size):=zh (by have:=dx.out.lt;omega);have dx:=zh (dx.out.old (.cells #[.bool false,.string ⟨#[]⟩] 91));clear hK K k3;obtain⟨bb,hbb⟩:∃b,b=v2.heap.size:=⟨_,rfl⟩;have wQ:Hid (w0.heap.size≤bb):=zh (by rw [hbb];exact K2.out.size);rw [← hbb]at dB gV ⊢;clear hbb;generalize v2.alloc (.cells #[.bool false,.string ⟨#[]⟩] 91)=v3 at*
     (repeat(quiet_step (fail)));refine wpQuiet_nil ?_
     refine ay rfl rfl fun K hK=> ?_;go_simp;refine(dP _ _ _ _ (HD2.out.keep K3.out) Iu.out).mono ?_;rintro e v4 ⟨rfl,hk⟩;have K4:=zh ((show Keep au w0 _ from K3.out).both hk);rw [QF.out];have dx:=zh (dx.out.keep hk);have dB:=zh (dB.out.keep hk);refine hK _ _ ⟨aQ.out _ K4.out,?_⟩;clear hK K hk
     (repeat(quiet_step (fail)));refine wpQuiet_nil ?_
     obtain⟨ra0,ra1,fa0,fa1,Bt⟩:=dx.out.two;refine ay rfl rfl fun K hK=> ?_;go_simp;have K5:=zh (aV K4.out vY.out (.bool qb) (.string QS));refine hK _ _ ⟨aQ.out _ K5.out,?_⟩;have dx:=zh (dx.out.set2 (.bool qb) (.string QS));have dB:=zh (dB.out.other2 (fun h=>gV.out h.symm) (.bool qb) (.string QS));clear hK K ra0 ra1 fa0 fa1 Bt;generalize (v4.setCell ⟨ba,0,none⟩ (.bool qb)).setCell ⟨ba,1,none⟩ (.string QS)=v5 at*
     (repeat(quiet_step (fail)));refine wpQuiet_nil ?_
     obtain⟨rb0,rb1,fb0,fb1,Bu⟩:=dB.out.two;refine ay rfl rfl fun K hK=> ?_;go_simp;have K6:=zh (aV K5.out wQ.out (.bool rb) (.string RS));refine hK _ _ ⟨aQ.out _ K6.out,?_⟩;have dB:=zh (dB.out.set2 (.bool rb) (.string RS));have dx:=zh (dx.out.other2 (fun h=>gV.out h) (.bool rb) (.string RS));clear hK K rb0 rb1 fb0 fb1 Bu;generalize (v5.setCell ⟨bb,0,none⟩ (.bool rb)).setCell ⟨bb,1,none⟩ (.string RS)=v6 at*
     (repeat(quiet_step (fail)));refine wpQuiet_nil ?_
     refine NoPanic.normal ?_;go_wp2_with fail;go_meet;exact⟨ba,bb,rfl,rfl,K6.out,dx.out,dB.out,vY.out,wQ.out,gV.out⟩
    refine ay rfl rfl fun K hK=> ?_;go_simp;have k2:Keep au w0 (v1.alloc (.cells #[.bool false,.string ⟨#[]⟩] 91)):=K1.out.alloc _;refine hK _ _ ⟨aQ.out _ k2,?_⟩;have dB:Hid (aL (v1.alloc (.cells #[.bool false,.string ⟨#[]⟩] 91)) v1.heap.size #[.bool false,.string ⟨#[]⟩]):=zh (aP _ _ rfl);have K2:=zh k2;clear hK K k2;obtain⟨bb,hbb⟩:∃b,b=v1.heap.size:=⟨_,rfl⟩;have wQ:Hid (w0.heap.size≤bb):=zh (by rw [hbb];exact K1.out.size);rw [← hbb]at dB ⊢;clear hbb;generalize v1.alloc (.cells #[.bool false,.string ⟨#[]⟩] 91)=v2 at*
    (repeat(quiet_step (fail)));refine wpQuiet_nil ?_
    refine⟨?_,?_⟩
    ·refine ay rfl rfl fun K hK=> ?_;go_simp;refine(dP _ _ _ _ (HD2.out.keep K2.out) Iu.out).mono ?_;rintro e v3 ⟨rfl,hk⟩;have K3:=zh ((show Keep au w0 _ from K2.out).both hk);rw [QF.out];have dB:=zh (dB.out.keep hk);refine hK _ _ ⟨aQ.out _ K3.out,?_⟩;clear hK K hk
     (repeat(quiet_step (fail)));refine wpQuiet_nil ?_
     refine ay rfl rfl fun K hK=> ?_;go_simp;have k4:Keep au w0 (v3.alloc (.cells #[.bool false,.string ⟨#[]⟩] 91)):=K3.out.alloc _;refine hK _ _ ⟨aQ.out _ k4,?_⟩;have dx:Hid (aL (v3.alloc (.cells #[.bool false,.string ⟨#[]⟩] 91)) v3.heap.size #[.bool false,.string ⟨#[]⟩]):=zh (aP _ _ rfl);have K4:=zh k4;have gV:Hid (v3.heap.size≠bb):=zh (by have:=dB.out.lt;omega);have dB:=zh (dB.out.old (.cells #[.bool false,.string ⟨#[]⟩] 91));clear hK K k4;obtain⟨ba,hba⟩:∃b,b=v3.heap.size:=⟨_,rfl⟩;have vY:Hid (w0.heap.size≤ba):=zh (by rw [hba];exact K3.out.size);rw [← hba]at dx gV ⊢;clear hba;generalize v3.alloc (.cells #[.bool false,.string ⟨#[]⟩] 91)=v4 at*
     (repeat(quiet_step (fail)));refine wpQuiet_nil ?_
     obtain⟨ra0,ra1,fa0,fa1,Bt⟩:=dx.out.two;refine ay rfl rfl fun K hK=> ?_;go_simp;have K5:=zh (aV K4.out vY.out (.bool qb) (.string QS));refine hK _ _ ⟨aQ.out _ K5.out,?_⟩;have dx:=zh (dx.out.set2 (.bool qb) (.string QS));have dB:=zh (dB.out.other2 (fun h=>gV.out h.symm) (.bool qb) (.string QS));clear hK K ra0 ra1 fa0 fa1 Bt;generalize (v4.setCell ⟨ba,0,none⟩ (.bool qb)).setCell ⟨ba,1,none⟩ (.string QS)=v5 at*
     (repeat(quiet_step (fail)));refine wpQuiet_nil ?_
     obtain⟨rb0,rb1,fb0,fb1,Bu⟩:=dB.out.two;refine ay rfl rfl fun K hK=> ?_;go_simp;have K6:=zh (aV K5.out wQ.out (.bool rb) (.string RS));refine hK _ _ ⟨aQ.out _ K6.out,?_⟩;have dB:=zh (dB.out.set2 (.bool rb) (.string RS));have dx:=zh (dx.out.other2 (fun h=>gV.out h) (.bool rb) (.string RS));clear hK K rb0 rb1 fb0 fb1 Bu;generalize (v5.setCell ⟨bb,0,none⟩ (.bool rb)).setCell ⟨bb,1,none⟩ (.string RS)=v6 at*
     (repeat(quiet_step (fail)));refine wpQuiet_nil ?_
     refine NoPanic.normal ?_;go_wp2_with fail;go_meet;exact⟨ba,bb,rfl,rfl,K6.out,dx.out,dB.out,vY.out,wQ.out,gV.out⟩
    refine ay rfl rfl fun K hK=> ?_;go_simp;have k3:Keep au w0 (v2.alloc (.cells #[.bool false,.string ⟨#[]⟩] 91)):=K2.out.alloc _;refine hK _ _ ⟨aQ.out _ k3,?_⟩;have dx:Hid (aL (v2.alloc (.cells #[.bool false,.string ⟨#[]⟩] 91)) v2.heap.size #[.bool false,.string ⟨#[]⟩]):=zh (aP _ _ rfl);have K3:=zh k3;have gV:Hid (v2.heap.size≠bb):=zh (by have:=dB.out.lt;omega);have dB:=zh (dB.out.old (.cells #[.bool false,.string ⟨#[]⟩] 91));clear hK K k3;obtain⟨ba,hba⟩:∃b,b=v2.heap.size:=⟨_,rfl⟩;have vY:Hid (w0.heap.size≤ba):=zh (by rw [hba];exact K2.out.size);rw [← hba]at dx gV ⊢;clear hba;generalize v2.alloc (.cells #[.bool false,.string ⟨#[]⟩] 91)=v3 at*
    (repeat(quiet_step (fail)));refine wpQuiet_nil ?_
    refine ay rfl rfl fun K hK=> ?_;go_simp;refine(dP _ _ _ _ (HD2.out.keep K3.out) Iu.out).mono ?_;rintro e v4 ⟨rfl,hk⟩;have K4:=zh ((show Keep au w0 _ from K3.out).both hk);rw [QF.out];have dx:=zh (dx.out.keep hk);have dB:=zh (dB.out.keep hk);refine hK _ _ ⟨aQ.out _ K4.out,?_⟩;clear hK K hk
    (repeat(quiet_step (fail)));refine wpQuiet_nil ?_
    obtain⟨ra0,ra1,fa0,fa1,Bt⟩:=dx.out.two;refine ay rfl rfl fun K hK=> ?_;go_simp;have K5:=zh (aV K4.out vY.out (.bool qb) (.string QS));refine hK _ _ ⟨aQ.out _ K5.out,?_⟩;have dx:=zh (dx.out.set2 (.bool qb) (.string QS));have dB:=zh (dB.out.other2 (fun h=>gV.out h.symm) (.bool qb) (.string QS));clear hK K ra0 ra1 fa0 fa1 Bt;generalize (v4.setCell ⟨ba,0,none⟩ (.bool qb)).setCell ⟨ba,1,none⟩ (.string QS)=v5 at*
    (repeat(quiet_step (fail)));refine wpQuiet_nil ?_
    obtain⟨rb0,rb1,fb0,fb1,Bu⟩:=dB.out.two;refine ay rfl rfl fun K hK=> ?_;go_simp;have K6:=zh (aV K5.out wQ.out (.bool rb) (.string RS));refine hK _ _ ⟨aQ.out _ K6.out,?_⟩;have dB:=zh (dB.out.set2 (.bool rb) (.string RS));have dx:=zh (dx.out.other2 (fun h=>gV.out h) (.bool rb) (.string RS));clear hK K rb0 rb1 fb0 fb1 Bu;generalize (v5.setCell ⟨bb,0,none⟩ (.bool rb)).setCell ⟨bb,1,none⟩ (.string RS)=v6 at*
    (repeat(quiet_step (fail)));refine wpQuiet_nil ?_
    refine NoPanic.normal ?_;go_wp2_with fail;go_meet;exact⟨ba,bb,rfl,rfl,K6.out,dx.out,dB.out,vY.out,wQ.out,gV.out⟩
   ·refine ay rfl rfl fun K hK=> ?_;go_simp;have k1:Keep au w0 ((w0.alloc (.cells #[.bool false,.string ⟨#[]⟩] 91)).drew):=kp;refine hK _ _ ⟨aQ.out _ k1,?_⟩;have dx:Hid (aL ((w0.alloc (.cells #[.bool false,.string ⟨#[]⟩] 91)).drew) w0.heap.size #[.bool false,.string ⟨#[]⟩]):=zh ((aP _ _ rfl).keep (Keep.refl _ _).drew);have K1:=zh k1;clear hK K k1;obtain⟨ba,hba⟩:∃b,b=w0.heap.size:=⟨_,rfl⟩;have vY:Hid (w0.heap.size≤ba):=zh (by rw [hba];exact Nat.le_refl _);rw [← hba]at dx ⊢;clear hba;generalize (w0.alloc (.cells #[.bool false,.string ⟨#[]⟩] 91)).drew=v1 at*
    (repeat(quiet_step (fail)));refine wpQuiet_nil ?_
    refine⟨?_,?_⟩
    ·refine ay rfl rfl fun K hK=> ?_;go_simp;refine(dP _ _ _ _ (HD1.out.keep K1.out) TY.out).mono ?_;rintro e v2 ⟨rfl,hk⟩;have K2:=zh ((show Keep au w0 _ from K1.out).both hk);rw [Pg.out];have dx:=zh (dx.out.keep hk);refine hK _ _ ⟨aQ.out _ K2.out,?_⟩;clear hK K hk
     (repeat(quiet_step (fail)));refine wpQuiet_nil ?_
     refine⟨?_,?_⟩
     ·refine ay rfl rfl fun K hK=> ?_;go_simp;refine(dP _ _ _ _ (HD2.out.keep K2.out) Iu.out).mono ?_;rintro e v3 ⟨rfl,hk⟩;have K3:=zh ((show Keep au w0 _ from K2.out).both hk);rw [QF.out];have dx:=zh (dx.out.keep hk);refine hK _ _ ⟨aQ.out _ K3.out,?_⟩;clear hK K hk
      (repeat(quiet_step (fail)));refine wpQuiet_nil ?_
      refine ay rfl rfl fun K hK=> ?_;go_simp;have k4:Keep au w0 (v3.alloc (.cells #[.bool false,.string ⟨#[]⟩] 91)):=K3.out.alloc _;refine hK _ _ ⟨aQ.out _ k4,?_⟩;have dB:Hid (aL (v3.alloc (.cells #[.bool false,.string ⟨#[]⟩] 91)) v3.heap.size #[.bool false,.string ⟨#[]⟩]):=zh (aP _ _ rfl);have K4:=zh k4;have gV:Hid (ba≠v3.heap.size):=zh (by have:=dx.out.lt;omega);have dx:=zh (dx.out.old (.cells #[.bool false,.string ⟨#[]⟩] 91));clear hK K k4;obtain⟨bb,hbb⟩:∃b,b=v3.heap.size:=⟨_,rfl⟩;have wQ:Hid (w0.heap.size≤bb):=zh (by rw [hbb];exact K3.out.size);rw [← hbb]at dB gV ⊢;clear hbb;generalize v3.alloc (.cells #[.bool false,.string ⟨#[]⟩] 91)=v4 at*
      (repeat(quiet_step (fail)));refine wpQuiet_nil ?_
      obtain⟨ra0,ra1,fa0,fa1,Bt⟩:=dx.out.two;refine ay rfl rfl fun K hK=> ?_;go_simp;have K5:=zh (aV K4.out vY.out (.bool qb) (.string QS));refine hK _ _ ⟨aQ.out _ K5.out,?_⟩;have dx:=zh (dx.out.set2 (.bool qb) (.string QS));have dB:=zh (dB.out.other2 (fun h=>gV.out h.symm) (.bool qb) (.string QS));clear hK K ra0 ra1 fa0 fa1 Bt;generalize (v4.setCell ⟨ba,0,none⟩ (.bool qb)).setCell ⟨ba,1,none⟩ (.string QS)=v5 at*
      (repeat(quiet_step (fail)));refine wpQuiet_nil ?_
      obtain⟨rb0,rb1,fb0,fb1,Bu⟩:=dB.out.two;refine ay rfl rfl fun K hK=> ?_;go_simp;have K6:=zh (aV K5.out wQ.out (.bool rb) (.string RS));refine hK _ _ ⟨aQ.out _ K6.out,?_⟩;have dB:=zh (dB.out.set2 (.bool rb) (.string RS));have dx:=zh (dx.out.other2 (fun h=>gV.out h) (.bool rb) (.string RS));clear hK K rb0 rb1 fb0 fb1 Bu;generalize (v5.setCell ⟨bb,0,none⟩ (.bool rb)).setCell ⟨bb,1,none⟩ (.string RS)=v6 at*
      (repeat(quiet_step (fail)));refine wpQuiet_nil ?_
      refine NoPanic.normal ?_;go_wp2_with fail;go_meet;exact⟨ba,bb,rfl,rfl,K6.out,dx.out,dB.out,vY.out,wQ.out,gV.out⟩
     refine ay rfl rfl fun K hK=> ?_;go_simp;have k3:Keep au w0 (v2.alloc (.cells #[.bool false,.string ⟨#[]⟩] 91)):=K2.out.alloc _;refine hK _ _ ⟨aQ.out _ k3,?_⟩;have dB:Hid (aL (v2.alloc (.cells #[.bool false,.string ⟨#[]⟩] 91)) v2.heap.size #[.bool false,.string ⟨#[]⟩]):=zh (aP _ _ rfl);have K3:=zh k3;have gV:Hid (ba≠v2.heap.size):=zh (by have:=dx.out.lt;omega);have dx:=zh (dx.out.old (.cells #[.bool false,.string ⟨#[]⟩] 91));clear hK K k3;obtain⟨bb,hbb⟩:∃b,b=v2.heap.size:=⟨_,rfl⟩;have wQ:Hid (w0.heap.size≤bb):=zh (by rw [hbb];exact K2.out.size);rw [← hbb]at dB gV ⊢;clear hbb;generalize v2.alloc (.cells #[.bool false,.string ⟨#[]⟩] 91)=v3 at*
     (repeat(quiet_step (fail)));refine wpQuiet_nil ?_
     refine ay rfl rfl fun K hK=> ?_;go_simp;refine(dP _ _ _ _ (HD2.out.keep K3.out) Iu.out).mono ?_;rintro e v4 ⟨rfl,hk⟩;have K4:=zh ((show Keep au w0 _ from K3.out).both hk);rw [QF.out];have dx:=zh (dx.out.keep hk);have dB:=zh (dB.out.keep hk);refine hK _ _ ⟨aQ.out _ K4.out,?_⟩;clear hK K hk
     (repeat(quiet_step (fail)));refine wpQuiet_nil ?_
     obtain⟨ra0,ra1,fa0,fa1,Bt⟩:=dx.out.two;refine ay rfl rfl fun K hK=> ?_;go_simp;have K5:=zh (aV K4.out vY.out (.bool qb) (.string QS));refine hK _ _ ⟨aQ.out _ K5.out,?_⟩;have dx:=zh (dx.out.set2 (.bool qb) (.string QS));have dB:=zh (dB.out.other2 (fun h=>gV.out h.symm) (.bool qb) (.string QS));clear hK K ra0 ra1 fa0 fa1 Bt;generalize (v4.setCell ⟨ba,0,none⟩ (.bool qb)).setCell ⟨ba,1,none⟩ (.string QS)=v5 at*
     (repeat(quiet_step (fail)));refine wpQuiet_nil ?_
     obtain⟨rb0,rb1,fb0,fb1,Bu⟩:=dB.out.two;refine ay rfl rfl fun K hK=> ?_;go_simp;have K6:=zh (aV K5.out wQ.out (.bool rb) (.string RS));refine hK _ _ ⟨aQ.out _ K6.out,?_⟩;have dB:=zh (dB.out.set2 (.bool rb) (.string RS));have dx:=zh (dx.out.other2 (fun h=>gV.out h) (.bool rb) (.string RS));clear hK K rb0 rb1 fb0 fb1 Bu;generalize (v5.setCell ⟨bb,0,none⟩ (.bool rb)).setCell ⟨bb,1,none⟩ (.string RS)=v6 at*
     (repeat(quiet_step (fail)));refine wpQuiet_nil ?_
     refine NoPanic.normal ?_;go_wp2_with fail;go_meet;exact⟨ba,bb,rfl,rfl,K6.out,dx.out,dB.out,vY.out,wQ.out,gV.out⟩
    refine ay rfl rfl fun K hK=> ?_;go_simp;have k2:Keep au w0 (v1.alloc (.cells #[.bool false,.string ⟨#[]⟩] 91)):=K1.out.alloc _;refine hK _ _ ⟨aQ.out _ k2,?_⟩;have dB:Hid (aL (v1.alloc (.cells #[.bool false,.string ⟨#[]⟩] 91)) v1.heap.size #[.bool false,.string ⟨#[]⟩]):=zh (aP _ _ rfl);have K2:=zh k2;have gV:Hid (ba≠v1.heap.size):=zh (by have:=dx.out.lt;omega);have dx:=zh (dx.out.old (.cells #[.bool false,.string ⟨#[]⟩] 91));clear hK K k2;obtain⟨bb,hbb⟩:∃b,b=v1.heap.size:=⟨_,rfl⟩;have wQ:Hid (w0.heap.size≤bb):=zh (by rw [hbb];exact K1.out.size);rw [← hbb]at dB gV ⊢;clear hbb;generalize v1.alloc (.cells #[.bool false,.string ⟨#[]⟩] 91)=v2 at*
    (repeat(quiet_step (fail)));refine wpQuiet_nil ?_
    refine ay rfl rfl fun K hK=> ?_;go_simp;refine(dP _ _ _ _ (HD1.out.keep K2.out) TY.out).mono ?_;rintro e v3 ⟨rfl,hk⟩;have K3:=zh ((show Keep au w0 _ from K2.out).both hk);rw [Pg.out];have dx:=zh (dx.out.keep hk);have dB:=zh (dB.out.keep hk);refine hK _ _ ⟨aQ.out _ K3.out,?_⟩;clear hK K hk
    (repeat(quiet_step (fail)));refine wpQuiet_nil ?_
    refine ay rfl rfl fun K hK=> ?_;go_simp;refine(dP _ _ _ _ (HD2.out.keep K3.out) Iu.out).mono ?_;rintro e v4 ⟨rfl,hk⟩;have K4:=zh ((show Keep au w0 _ from K3.out).both hk);rw [QF.out];have dx:=zh (dx.out.keep hk);have dB:=zh (dB.out.keep hk);refine hK _ _ ⟨aQ.out _ K4.out,?_⟩;clear hK K hk
    (repeat(quiet_step (fail)));refine wpQuiet_nil ?_
    obtain⟨ra0,ra1,fa0,fa1,Bt⟩:=dx.out.two;refine ay rfl rfl fun K hK=> ?_;go_simp;have K5:=zh (aV K4.out vY.out (.bool qb) (.string QS));refine hK _ _ ⟨aQ.out _ K5.out,?_⟩;have dx:=zh (dx.out.set2 (.bool qb) (.string QS));have dB:=zh (dB.out.other2 (fun h=>gV.out h.symm) (.bool qb) (.string QS));clear hK K ra0 ra1 fa0 fa1 Bt;generalize (v4.setCell ⟨ba,0,none⟩ (.bool qb)).setCell ⟨ba,1,none⟩ (.string QS)=v5 at*
    (repeat(quiet_step (fail)));refine wpQuiet_nil ?_
    obtain⟨rb0,rb1,fb0,fb1,Bu⟩:=dB.out.two;refine ay rfl rfl fun K hK=> ?_;go_simp;have K6:=zh (aV K5.out wQ.out (.bool rb) (.string RS));refine hK _ _ ⟨aQ.out _ K6.out,?_⟩;have dB:=zh (dB.out.set2 (.bool rb) (.string RS));have dx:=zh (dx.out.other2 (fun h=>gV.out h) (.bool rb) (.string RS));clear hK K rb0 rb1 fb0 fb1 Bu;generalize (v5.setCell ⟨bb,0,none⟩ (.bool rb)).setCell ⟨bb,1,none⟩ (.string RS)=v6 at*
    (repeat(quiet_step (fail)));refine wpQuiet_nil ?_
    refine NoPanic.normal ?_;go_wp2_with fail;go_meet;exact⟨ba,bb,rfl,rfl,K6.out,dx.out,dB.out,vY.out,wQ.out,gV.out⟩
   refine ay rfl rfl fun K hK=> ?_;go_simp;have k1:Keep au w0 ((w0.alloc (.cells #[.bool false,.string ⟨#[]⟩] 91)).drew):=kp;refine hK _ _ ⟨aQ.out _ k1,?_⟩;have dB:Hid (aL ((w0.alloc (.cells #[.bool false,.string ⟨#[]⟩] 91)).drew) w0.heap.size #[.bool false,.string ⟨#[]⟩]):=zh ((aP _ _ rfl).keep (Keep.refl _ _).drew);have K1:=zh k1;clear hK K k1;obtain⟨bb,hbb⟩:∃b,b=w0.heap.size:=⟨_,rfl⟩;have wQ:Hid (w0.heap.size≤bb):=zh (by rw [hbb];exact Nat.le_refl _);rw [← hbb]at dB ⊢;clear hbb;generalize (w0.alloc (.cells #[.bool false,.string ⟨#[]⟩] 91)).drew=v1 at*
   (repeat(quiet_step (fail)));refine wpQuiet_nil ?_
   refine⟨?_,?_⟩
   ·refine ay rfl rfl fun K hK=> ?_;go_simp;refine(dP _ _ _ _ (HD1.out.keep K1.out) TY.out).mono ?_;rintro e v2 ⟨rfl,hk⟩;have K2:=zh ((show Keep au w0 _ from K1.out).both hk);rw [Pg.out];have dB:=zh (dB.out.keep hk);refine hK _ _ ⟨aQ.out _ K2.out,?_⟩;clear hK K hk
    (repeat(quiet_step (fail)));refine wpQuiet_nil ?_
    refine⟨?_,?_⟩
    ·refine ay rfl rfl fun K hK=> ?_;go_simp;refine(dP _ _ _ _ (HD2.out.keep K2.out) Iu.out).mono ?_;rintro e v3 ⟨rfl,hk⟩;have K3:=zh ((show Keep au w0 _ from K2.out).both hk);rw [QF.out];have dB:=zh (dB.out.keep hk);refine hK _ _ ⟨aQ.out _ K3.out,?_⟩;clear hK K hk
     (repeat(quiet_step (fail)));refine wpQuiet_nil ?_
     refine ay rfl rfl fun K hK=> ?_;go_simp;have k4:Keep au w0 (v3.alloc (.cells #[.bool false,.string ⟨#[]⟩] 91)):=K3.out.alloc _;refine hK _ _ ⟨aQ.out _ k4,?_⟩;have dx:Hid (aL (v3.alloc (.cells #[.bool false,.string ⟨#[]⟩] 91)) v3.heap.size #[.bool false,.string ⟨#[]⟩]):=zh (aP _ _ rfl);have K4:=zh k4;have gV:Hid (v3.heap.size≠bb):=zh (by have:=dB.out.lt;omega);have dB:=zh (dB.out.old (.cells #[.bool false,.string ⟨#[]⟩] 91));clear hK K k4;obtain⟨ba,hba⟩:∃b,b=v3.heap.size:=⟨_,rfl⟩;have vY:Hid (w0.heap.size≤ba):=zh (by rw [hba];exact K3.out.size);rw [← hba]at dx gV ⊢;clear hba;generalize v3.alloc (.cells #[.bool false,.string ⟨#[]⟩] 91)=v4 at*
     (repeat(quiet_step (fail)));refine wpQuiet_nil ?_
     obtain⟨ra0,ra1,fa0,fa1,Bt⟩:=dx.out.two;refine ay rfl rfl fun K hK=> ?_;go_simp;have K5:=zh (aV K4.out vY.out (.bool qb) (.string QS));refine hK _ _ ⟨aQ.out _ K5.out,?_⟩;have dx:=zh (dx.out.set2 (.bool qb) (.string QS));have dB:=zh (dB.out.other2 (fun h=>gV.out h.symm) (.bool qb) (.string QS));clear hK K ra0 ra1 fa0 fa1 Bt;generalize (v4.setCell ⟨ba,0,none⟩ (.bool qb)).setCell ⟨ba,1,none⟩ (.string QS)=v5 at*
     (repeat(quiet_step (fail)));refine wpQuiet_nil ?_
     obtain⟨rb0,rb1,fb0,fb1,Bu⟩:=dB.out.two;refine ay rfl rfl fun K hK=> ?_;go_simp;have K6:=zh (aV K5.out wQ.out (.bool rb) (.string RS));refine hK _ _ ⟨aQ.out _ K6.out,?_⟩;have dB:=zh (dB.out.set2 (.bool rb) (.string RS));have dx:=zh (dx.out.other2 (fun h=>gV.out h) (.bool rb) (.string RS));clear hK K rb0 rb1 fb0 fb1 Bu;generalize (v5.setCell ⟨bb,0,none⟩ (.bool rb)).setCell ⟨bb,1,none⟩ (.string RS)=v6 at*
     (repeat(quiet_step (fail)));refine wpQuiet_nil ?_
     refine NoPanic.normal ?_;go_wp2_with fail;go_meet;exact⟨ba,bb,rfl,rfl,K6.out,dx.out,dB.out,vY.out,wQ.out,gV.out⟩
    refine ay rfl rfl fun K hK=> ?_;go_simp;have k3:Keep au w0 (v2.alloc (.cells #[.bool false,.string ⟨#[]⟩] 91)):=K2.out.alloc _;refine hK _ _ ⟨aQ.out _ k3,?_⟩;have dx:Hid (aL (v2.alloc (.cells #[.bool false,.string ⟨#[]⟩] 91)) v2.heap.size #[.bool false,.string ⟨#[]⟩]):=zh (aP _ _ rfl);have K3:=zh k3;have gV:Hid (v2.heap.size≠bb):=zh (by have:=dB.out.lt;omega);have dB:=zh (dB.out.old (.cells #[.bool false,.string ⟨#[]⟩] 91));clear hK K k3;obtain⟨ba,hba⟩:∃b,b=v2.heap.size:=⟨_,rfl⟩;have vY:Hid (w0.heap.size≤ba):=zh (by rw [hba];exact K2.out.size);rw [← hba]at dx gV ⊢;clear hba;generalize v2.alloc (.cells #[.bool false,.string ⟨#[]⟩] 91)=v3 at*
    (repeat(quiet_step (fail)));refine wpQuiet_nil ?_
    refine ay rfl rfl fun K hK=> ?_;go_simp;refine(dP _ _ _ _ (HD2.out.keep K3.out) Iu.out).mono ?_;rintro e v4 ⟨rfl,hk⟩;have K4:=zh ((show Keep au w0 _ from K3.out).both hk);rw [QF.out];have dx:=zh (dx.out.keep hk);have dB:=zh (dB.out.keep hk);refine hK _ _ ⟨aQ.out _ K4.out,?_⟩;clear hK K hk
    (repeat(quiet_step (fail)));refine wpQuiet_nil ?_
    obtain⟨ra0,ra1,fa0,fa1,Bt⟩:=dx.out.two;refine ay rfl rfl fun K hK=> ?_;go_simp;have K5:=zh (aV K4.out vY.out (.bool qb) (.string QS));refine hK _ _ ⟨aQ.out _ K5.out,?_⟩;have dx:=zh (dx.out.set2 (.bool qb) (.string QS));have dB:=zh (dB.out.other2 (fun h=>gV.out h.symm) (.bool qb) (.string QS));clear hK K ra0 ra1 fa0 fa1 Bt;generalize (v4.setCell ⟨ba,0,none⟩ (.bool qb)).setCell ⟨ba,1,none⟩ (.string QS)=v5 at*
    (repeat(quiet_step (fail)));refine wpQuiet_nil ?_
    obtain⟨rb0,rb1,fb0,fb1,Bu⟩:=dB.out.two;refine ay rfl rfl fun K hK=> ?_;go_simp;have K6:=zh (aV K5.out wQ.out (.bool rb) (.string RS));refine hK _ _ ⟨aQ.out _ K6.out,?_⟩;have dB:=zh (dB.out.set2 (.bool rb) (.string RS));have dx:=zh (dx.out.other2 (fun h=>gV.out h) (.bool rb) (.string RS));clear hK K rb0 rb1 fb0 fb1 Bu;generalize (v5.setCell ⟨bb,0,none⟩ (.bool rb)).setCell ⟨bb,1,none⟩ (.string RS)=v6 at*
    (repeat(quiet_step (fail)));refine wpQuiet_nil ?_
    refine NoPanic.normal ?_;go_wp2_with fail;go_meet;exact⟨ba,bb,rfl,rfl,K6.out,dx.out,dB.out,vY.out,wQ.out,gV.out⟩
   refine ay rfl rfl fun K hK=> ?_;go_simp;have k2:Keep au w0 (v1.alloc (.cells #[.bool false,.string ⟨#[]⟩] 91)):=K1.out.alloc _;refine hK _ _ ⟨aQ.out _ k2,?_⟩;have dx:Hid (aL (v1.alloc (.cells #[.bool false,.string ⟨#[]⟩] 91)) v1.heap.size #[.bool false,.string ⟨#[]⟩]):=zh (aP _ _ rfl);have K2:=zh k2;have gV:Hid (v1.heap.size≠bb):=zh (by have:=dB.out.lt;omega);have dB:=zh (dB.out.old (.cells #[.bool false,.string ⟨#[]⟩] 91));clear hK K k2;obtain⟨ba,hba⟩:∃b,b=v1.heap.size:=⟨_,rfl⟩;have vY:Hid (w0.heap.size≤ba):=zh (by rw [hba];exact K1.out.size);rw [← hba]at dx gV ⊢;clear hba;generalize v1.alloc (.cells #[.bool false,.string ⟨#[]⟩] 91)=v2 at*
   (repeat(quiet_step (fail)));refine wpQuiet_nil ?_
   refine ay rfl rfl fun K hK=> ?_;go_simp;refine(dP _ _ _ _ (HD1.out.keep K2.out) TY.out).mono ?_;rintro e v3 ⟨rfl,hk⟩;have K3:=zh ((show Keep au w0 _ from K2.out).both hk);rw [Pg.out];have dx:=zh (dx.out.keep hk);have dB:=zh (dB.out.keep hk);refine hK _ _ ⟨aQ.out _ K3.out,?_⟩;clear hK K hk
   (repeat(quiet_step (fail)));refine wpQuiet_nil ?_
   refine ay rfl rfl fun K hK=> ?_;go_simp;refine(dP _ _ _ _ (HD2.out.keep K3.out) Iu.out).mono ?_;rintro e v4 ⟨rfl,hk⟩;have K4:=zh ((show Keep au w0 _ from K3.out).both hk);rw [QF.out];have dx:=zh (dx.out.keep hk);have dB:=zh (dB.out.keep hk);refine hK _ _ ⟨aQ.out _ K4.out,?_⟩;clear hK K hk
   (repeat(quiet_step (fail)));refine wpQuiet_nil ?_
   obtain⟨ra0,ra1,fa0,fa1,Bt⟩:=dx.out.two;refine ay rfl rfl fun K hK=> ?_;go_simp;have K5:=zh (aV K4.out vY.out (.bool qb) (.string QS));refine hK _ _ ⟨aQ.out _ K5.out,?_⟩;have dx:=zh (dx.out.set2 (.bool qb) (.string QS));have dB:=zh (dB.out.other2 (fun h=>gV.out h.symm) (.bool qb) (.string QS));clear hK K ra0 ra1 fa0 fa1 Bt;generalize (v4.setCell ⟨ba,0,none⟩ (.bool qb)).setCell ⟨ba,1,none⟩ (.string QS)=v5 at*
   (repeat(quiet_step (fail)));refine wpQuiet_nil ?_
   obtain⟨rb0,rb1,fb0,fb1,Bu⟩:=dB.out.two;refine ay rfl rfl fun K hK=> ?_;go_simp;have K6:=zh (aV K5.out wQ.out (.bool rb) (.string RS));refine hK _ _ ⟨aQ.out _ K6.out,?_⟩;have dB:=zh (dB.out.set2 (.bool rb) (.string RS));have dx:=zh (dx.out.other2 (fun h=>gV.out h) (.bool rb) (.string RS));clear hK K rb0 rb1 fb0 fb1 Bu;generalize (v5.setCell ⟨bb,0,none⟩ (.bool rb)).setCell ⟨bb,1,none⟩ (.string RS)=v6 at*
   (repeat(quiet_step (fail)));refine wpQuiet_nil ?_
   refine NoPanic.normal ?_;go_wp2_with fail;go_meet;exact⟨ba,bb,rfl,rfl,K6.out,dx.out,dB.out,vY.out,wQ.out,gV.out⟩
 as_aux_lemma=>
  obtain⟨ba,bb,rfl,rfl,hk6,hba,hbb,hga,hgb,hne⟩:=hcut;obtain⟨w6,hw6⟩:∃W:World,W=wc:=⟨_,rfl⟩;rw [← hw6]at hk6 hba hbb ⊢;clear hw6;have K6:=zh (K5.out.both hk6);have HB1:=zh (HB1.out.keep hk6);have fH:=zh (fH.out.keep hk6);have fM:=zh (fM.out.keep hk6);have dx:=zh hba;have dB:=zh hbb;have gV:=zh hne;have vY:Hid (w.heap.size≤ba):=zh (Nat.le_trans K5.out.size hga);have wQ:Hid (w.heap.size≤bb):=zh (Nat.le_trans K5.out.size hgb);have zdv:Hid (b1≠bb):=zh (fun h=>by have:=zdu.out;omega);have HD4:Hid (b4≠ba∧b4≠bb∧b5≠ba∧b5≠bb):=zh ⟨fun h=>by have:=TR.out;omega,fun h=>by have:=TR.out;omega,fun h=>by have:=ZE.out;omega,fun h=>by have:=ZE.out;omega⟩;clear hk6 hba hbb hne hga hgb;obtain⟨rb0,rb1,fb0,fb1,Bu⟩:=dB.out.two;go_wp2_with fail;refine(SR _).out.mono ?_;rintro e w7 ⟨rfl,hk7⟩;have K7:=zh (K6.out.both hk7);have HB1:=zh (HB1.out.keep hk7);have fH:=zh (fH.out.keep hk7);have fM:=zh (fM.out.keep hk7);have dx:=zh (dx.out.keep hk7);have dB:=zh (dB.out.keep hk7);clear hk7 rb0 rb1 fb0 fb1 Bu SR;go_upto_if 37 with fail;go_cut [1,11,19,37]from 38 to 51 (fun s1 s11 s19 s37 wx=>∃tb TS sb SS,s1= .agg #[.bool eP,.string U]∧s11= .agg #[.bool eP,.string U]∧s19= .agg #[.bool eP,.string U]∧bJ (x/y)= .agg #[.bool tb,.string TS]∧bJ (x%y)= .agg #[.bool sb,.string SS]∧Keep au w wx∧aL wx ba #[.bool tb,.string TS]∧aL wx bb #[.bool sb,.string SS]∧aL wx b4 #[.bool false,.string ⟨#[]⟩]∧aL wx b5 #[.bool false,.string ⟨#[]⟩])
  case rest=>
   obtain⟨tb,TS,sb,SS,rfl,rfl,rfl,lq',lr',hk12,hba,hbb,hb4,hb5⟩:=hcut;obtain⟨w12,hw12⟩:∃W:World,W=wc:=⟨_,rfl⟩;rw [← hw12]at hk12 hba hbb hb4 hb5 ⊢;have dx:=zh hba;have dB:=zh hbb;have fH:=zh hb4;have fM:=zh hb5;have K12:=zh hk12;have Xz:=zh lq';have ZF:=zh lr';clear hk12 hba hbb hb4 hb5 lq' lr' hw12 UR U1 U2 AY HB1;go_wp2;obtain⟨A0,A1,_,_,Al⟩:=dx.out.two;obtain⟨C0,C1,_,_,Cl⟩:=dB.out.two;obtain⟨g40,g41,f40,f41,l4⟩:=fH.out.two;obtain⟨g50,g51,f50,f51,l5⟩:=fM.out.two;refine aD (fun w'=>Keep (ZR b4 b5) w12 w') [] [([0,1],2),([],3)] [4] kr kr (Keep.refl _ _).drew ?_;intro X W hne hF hcl;have aQ:=zh hcl;have hx0:=fun x=>(dx.out.keep2 (hF x) HD4.out.1.symm HD4.out.2.2.1.symm).two;have hx1:=fun x=>(dB.out.keep2 (hF x) HD4.out.2.1.symm HD4.out.2.2.2.symm).two;clear hF hcl;simp only [aO,aJ,zl0,zl1,zl2,aR,Bool.false_eq_true,if_false]
   (repeat(quiet_step (fail)));refine wpQuiet_nil ?_
   refine ay rfl rfl fun K hK=> ?_;go_simp;have kk1:Keep (ZR b4 b5) w12 ((w12.setCell ⟨b4,0,none⟩ (.bool tb)).setCell ⟨b4,1,none⟩ (.string TS)).drew:=(Ii (Keep.refl _ _) (.inl rfl) _ _).drew;refine hK _ _ ⟨fun _=>aQ.out _ kk1,?_⟩;have TR:Hid (aL ((w12.setCell ⟨b4,0,none⟩ (.bool tb)).setCell ⟨b4,1,none⟩ (.string TS)).drew b4 #[.bool tb,.string TS]):=zh ((fH.out.set2 (.bool tb) (.string TS)).keep (Keep.refl au _).drew);have fM:Hid (aL ((w12.setCell ⟨b4,0,none⟩ (.bool tb)).setCell ⟨b4,1,none⟩ (.string TS)).drew b5 #[.bool false,.string ⟨#[]⟩]):=zh ((fM.out.other2 (fun h=>h45 h.symm) (.bool tb) (.string TS)).keep (Keep.refl au _).drew);have K13:Hid (Keep au w ((w12.setCell ⟨b4,0,none⟩ (.bool tb)).setCell ⟨b4,1,none⟩ (.string TS)).drew):=zh (aV K12.out Cx.out (.bool tb) (.string TS)).drew;clear hK K A0 A1 Al C0 C1 Cl g40 g41 f40 f41 l4 g50 g51 f50 f51 l5;generalize ((w12.setCell ⟨b4,0,none⟩ (.bool tb)).setCell ⟨b4,1,none⟩ (.string TS)).drew=w13 at *;obtain⟨g50,g51,f50,f51,l5⟩:=fM.out.two
   (repeat(quiet_step (fail)));refine wpQuiet_nil ?_
   refine ay rfl rfl fun K hK=> ?_;go_simp;refine hK _ _ ⟨fun _=>aQ.out _ (Ii kk1 (.inr rfl) _ _),?_⟩;have ZE:=zh (fM.out.set2 (.bool sb) (.string SS));have TR:=zh (TR.out.other2 h45 (.bool sb) (.string SS));have K14:=zh (aV K13.out HS5.out (.bool sb) (.string SS));clear hK K g50 g51 f50 f51 l5;generalize (w13.setCell ⟨b5,0,none⟩ (.bool sb)).setCell ⟨b5,1,none⟩ (.string SS)=w14 at*
   (repeat(quiet_step (fail)));refine wpQuiet_nil ?_
   refine NoPanic.normal ?_;obtain⟨g40,g41,f40,f41,l4⟩:=TR.out.two;obtain⟨g50,g51,f50,f51,l5⟩:=ZE.out.two;go_wp2;refine bodyPost_ret (by simp [results,Tryz.results99,go_sem,g40,g41,l4,g50,g51,l5];rfl) rfl ?_;exact⟨by rw [Xz.out,ZF.out],K14.out⟩
  by_cases hneg:x.tmod y<0
  ·have e1:decide ((x.tmod y).sign<0)=true:=decide_eq_true (Pd.out.1 hneg);have HE:=zh (FU.out hneg);go_wp2;refine aD (fun w'=>Keep au w7 w') [4] [([0,1],2),([],3),([],4)] [] kr kr kp ?_;intro X W hne hF hcl;have aQ:=zh hcl;have hx0:=fun x=>(HB1.out.keep (hF x)).two;have hx1:=fun x=>(dB.out.keep (hF x)).two;clear hF hcl;simp only [aO,aJ,zl0,zl1,zl2,aR,Bool.false_eq_true,if_false]
   (repeat(quiet_step (fail)));refine wpQuiet_nil ?_
   refine ay rfl rfl fun K hK=> ?_;go_simp;refine(AY _).out.mono ?_;rintro e w8 ⟨rfl,hk8⟩;have k8:Keep au w7 w8:=Keep.trans kp hk8 fun _ _ _ h=>h;refine hK _ _ ⟨fun _=>aQ.out _ k8,?_⟩;clear hK K hk8
   (repeat(quiet_step (fail)));refine wpQuiet_nil ?_
   refine ay rfl rfl fun K hK=> ?_;go_simp;refine(UR _).out.mono ?_;rintro e w9 ⟨rfl,hk9⟩;have k9:=k8.both hk9;refine hK _ _ ⟨fun _=>aQ.out _ k9,?_⟩;have K9:=zh (K7.out.both k9);have HB1:=zh (HB1.out.keep k9);have fH:=zh (fH.out.keep k9);have fM:=zh (fM.out.keep k9);have dx:=zh (dx.out.keep k9);have dB:=zh (dB.out.keep k9);clear hK K hk9 k8 hx0 hx1 k9;obtain⟨sb,SS,lsr,-,-⟩:=aH (x.tmod y+(y.natAbs:Nat));rw [lsr];have ZF:=zh lsr;clear lsr;obtain⟨rb0,rb1,fb0,fb1,Bu⟩:=dB.out.two
   (repeat(quiet_step (fail)));refine wpQuiet_nil ?_
   refine ay rfl rfl fun K hK=> ?_;go_simp;refine hK _ _ ⟨fun h=>(by simp at h),?_⟩;have zcC:=zh (dB.out.set2 (.bool sb) (.string SS));have dx:=zh (dx.out.other2 (fun h=>gV.out h) (.bool sb) (.string SS));have HB1:=zh (HB1.out.other2 (fun h=>zdv.out h) (.bool sb) (.string SS));have fH:=zh (fH.out.other2 HD4.out.2.1 (.bool sb) (.string SS));have fM:=zh (fM.out.other2 HD4.out.2.2.2 (.bool sb) (.string SS));have K10:=zh (aV K9.out wQ.out (.bool sb) (.string SS));clear hK K rb0 rb1 fb0 fb1 Bu dB aQ;generalize (w9.setCell ⟨bb,0,none⟩ (.bool sb)).setCell ⟨bb,1,none⟩ (.string SS)=w10 at *;have dB:=zcC;clear zcC
   (repeat(quiet_step (fail)));refine wpQuiet_nil ?_
   refine NoPanic.normal ?_;obtain⟨y0,y1,_,_,yl⟩:=HB1.out.two;by_cases hyn:y<0
   ·obtain rfl:eP=true:=by rw [Yo.out];exact decide_eq_true hyn
    have HE:=zh (HE.out.1 hyn);clear hyn;go_wp2;refine aD (fun w'=>Keep au w10 w') [3] [([0],1),([],2),([],3)] [] kr kr kp ?_;intro X W hne hF hcl;have aQ:=zh hcl;have hx0:=fun x=>(dx.out.keep (hF x)).two;clear hF hcl;simp only [aO,aJ,zl0,zl1,zl2,aR,Bool.false_eq_true,if_false]
    (repeat(quiet_step (fail)));refine wpQuiet_nil ?_
    refine ay rfl rfl fun K hK=> ?_;go_simp;refine(xX _ 1 om om).mono ?_;rintro e w11 ⟨rfl,hk11⟩;obtain⟨v11,hv11⟩:∃v,bJ 1=v:=⟨_,rfl⟩;rw [hv11];have k11:Keep au w10 w11:=Keep.trans kp hk11 fun _ _ _ h=>h;refine hK _ _ ⟨fun _=>aQ.out _ k11,?_⟩;clear hK K hk11
    (repeat(quiet_step (fail)));refine wpQuiet_nil ?_
    refine ay rfl rfl fun K hK=> ?_;go_simp;have HU:=(U1 w11);rw [hv11]at HU;clear hv11;refine HU.out.mono ?_;rintro e zbj ⟨rfl,hk12⟩;have k12:=k11.both hk12;refine hK _ _ ⟨fun _=>aQ.out _ k12,?_⟩;have zbk:=zh (K10.out.both k12);have fH:=zh (fH.out.keep k12);have fM:=zh (fM.out.keep k12);have dx:=zh (dx.out.keep k12);have dB:=zh (dB.out.keep k12);clear hK K hk12 k11 hx0 k12;obtain⟨tb,TS,lsq,-,-⟩:=aH (x.tdiv y+1);rw [lsq];have Xz:=zh lsq;clear lsq;obtain⟨ra0,ra1,fa0,fa1,Bt⟩:=dx.out.two
    (repeat(quiet_step (fail)));refine wpQuiet_nil ?_
    refine ay rfl rfl fun K hK=> ?_;go_simp;refine hK _ _ ⟨fun h=>(by simp at h),?_⟩;have XA:=zh (dx.out.set2 (.bool tb) (.string TS));have dB:=zh (dB.out.other2 (fun h=>gV.out h.symm) (.bool tb) (.string TS));have fH:=zh (fH.out.other2 HD4.out.1 (.bool tb) (.string TS));have fM:=zh (fM.out.other2 HD4.out.2.2.1 (.bool tb) (.string TS));have K12:=zh (aV zbk.out vY.out (.bool tb) (.string TS));clear hK K ra0 ra1 fa0 fa1 Bt dx aQ y0 y1 yl;generalize (zbj.setCell ⟨ba,0,none⟩ (.bool tb)).setCell ⟨ba,1,none⟩ (.string TS)=w12 at *;have dx:=XA;clear XA
    (repeat(quiet_step (fail)));refine wpQuiet_nil ?_
    refine NoPanic.normal ?_;go_wp2_with fail;go_meet;exact⟨tb,TS,sb,SS,rfl,rfl,rfl,by rw [HE.out.1];exact Xz.out,by rw [HE.out.2];exact ZF.out,K12.out,dx.out,dB.out,fH.out,fM.out⟩
   obtain rfl:eP=false:=by rw [Yo.out];exact decide_eq_false hyn
   have HE:=zh (HE.out.2 om);clear hyn;go_wp2;refine aD (fun w'=>Keep au w10 w') [3] [([0],1),([],2),([],3)] [] kr kr kp ?_;intro X W hne hF hcl;have aQ:=zh hcl;have hx0:=fun x=>(dx.out.keep (hF x)).two;clear hF hcl;simp only [aO,aJ,zl0,zl1,zl2,aR,Bool.false_eq_true,if_false]
   (repeat(quiet_step (fail)));refine wpQuiet_nil ?_
   refine ay rfl rfl fun K hK=> ?_;go_simp;refine(xX _ (-1) om om).mono ?_;rintro e w11 ⟨rfl,hk11⟩;obtain⟨v11,hv11⟩:∃v,bJ (-1)=v:=⟨_,rfl⟩;rw [hv11];have k11:Keep au w10 w11:=Keep.trans kp hk11 fun _ _ _ h=>h;refine hK _ _ ⟨fun _=>aQ.out _ k11,?_⟩;clear hK K hk11
   (repeat(quiet_step (fail)));refine wpQuiet_nil ?_
   refine ay rfl rfl fun K hK=> ?_;go_simp;have HU:=(U2 w11);rw [hv11]at HU;clear hv11;refine HU.out.mono ?_;rintro e zbj ⟨rfl,hk12⟩;have k12:=k11.both hk12;refine hK _ _ ⟨fun _=>aQ.out _ k12,?_⟩;have zbk:=zh (K10.out.both k12);have fH:=zh (fH.out.keep k12);have fM:=zh (fM.out.keep k12);have dx:=zh (dx.out.keep k12);have dB:=zh (dB.out.keep k12);clear hK K hk12 k11 hx0 k12;obtain⟨tb,TS,lsq,-,-⟩:=aH (x.tdiv y+(-1));rw [lsq];have Xz:=zh lsq;clear lsq;obtain⟨ra0,ra1,fa0,fa1,Bt⟩:=dx.out.two
   (repeat(quiet_step (fail)));refine wpQuiet_nil ?_
   refine ay rfl rfl fun K hK=> ?_;go_simp;refine hK _ _ ⟨fun h=>(by simp at h),?_⟩;have XA:=zh (dx.out.set2 (.bool tb) (.string TS));have dB:=zh (dB.out.other2 (fun h=>gV.out h.symm) (.bool tb) (.string TS));have fH:=zh (fH.out.other2 HD4.out.1 (.bool tb) (.string TS));have fM:=zh (fM.out.other2 HD4.out.2.2.1 (.bool tb) (.string TS));have K12:=zh (aV zbk.out vY.out (.bool tb) (.string TS));clear hK K ra0 ra1 fa0 fa1 Bt dx aQ y0 y1 yl;generalize (zbj.setCell ⟨ba,0,none⟩ (.bool tb)).setCell ⟨ba,1,none⟩ (.string TS)=w12 at *;have dx:=XA;clear XA
   (repeat(quiet_step (fail)));refine wpQuiet_nil ?_
   refine NoPanic.normal ?_;go_wp2_with fail;go_meet;exact⟨tb,TS,sb,SS,rfl,rfl,rfl,by rw [HE.out.1];exact Xz.out,by rw [HE.out.2];exact ZF.out,K12.out,dx.out,dB.out,fH.out,fM.out⟩
  have e1:decide ((x.tmod y).sign<0)=false:=decide_eq_false fun h=>hneg (Pd.out.2 h);have e2:¬(x.tmod y).sign<0:=fun h=>hneg (Pd.out.2 h);have e3:0≤(x.tmod y).sign:=om;have HE:=zh (HE0.out om);have e5:0≤x.tmod y:=om;go_wp2_with fail;go_meet;exact⟨qb,QS,rb,RS,rfl,rfl,rfl,by rw [HE.out.1];exact HLQ.out,by rw [HE.out.2];exact Pe.out,K7.out,dx.out,dB.out,fH.out,fM.out⟩
theorem fE.uniq {w:World}{v:Value}{ds ds':List Nat}(h:fE w v ds)(h':fE w v ds'):ds=ds':=by
 obtain⟨oa,cap,hv,_,_,_,hc⟩:=h;obtain⟨XL,cap',hv',_,_,_,hc'⟩:=h';rw [hv]at hv';simp at hv';obtain⟨rfl,hl,rfl⟩:=hv';by_cases h0:ds= []
 ·subst h0;exact(List.length_eq_zero_iff.1 hl.symm).symm
 obtain⟨g,o,e,_,hc⟩:=hc h0;obtain⟨g',o',e',_,hc'⟩:=hc' (by rintro rfl;exact h0 (List.length_eq_zero_iff.1 hl));rw [e]at e';simp at e';obtain⟨rfl,rfl⟩:=e';apply List.ext_getElem hl;intro i h1 h2;have e1:=hc i h1;have e2:=hc' i h2;rw [e1]at e2;simp [List.getD,h1,h2]at e2;omega
open Classical in
noncomputable def zbl (w:World) (v:Value):Nat:=if h:∃es,fE w v es then dval (Classical.choose h)else 0
theorem QI {w:World}{v:Value}{es:List Nat}(h:fE w v es):zbl w v=dval es:=by
 have hex:∃es,fE w v es:=⟨es,h⟩;unfold zbl;rw [dif_pos hex,(Classical.choose_spec hex).uniq h]
theorem MZ (w:World)(x y:Int)(hx:dl x≤4500)(hy:dl y≤4500):
  Calls Tryz.prog 117 #[bJ x,bJ y] w fun e w'=>e= .returned (bJ (Nat.gcd x.natAbs y.natAbs:Nat))∧Keep au w w':=by
 have BI:(dw x.natAbs).length≤4500:=hx;have hdy:(dw y.natAbs).length≤4500:=hy;have LX:=fun w b=>zh (jg w x b om);have LY:=fun w b=>zh (jg w y b om);obtain⟨bx,S,lx,hbx,hS⟩:=aH x;obtain⟨eP,U,ly,hby,hU⟩:=aH y;obtain⟨gb,GS,lg,-,-⟩:=aH (Nat.gcd x.natAbs y.natAbs:Nat);rw [← hS]at LX;rw [← hU]at LY;rw [lx,ly,lg];have HLG:=zh lg;have Pf:=zh BI;have Ub:=zh hdy;clear hx hy hbx hS hby hU lx ly lg BI hdy;go_enter Tryz.func117,Tryz.ntmps117;go_wp2;have B0:aL (((w.alloc (.cells #[.bool bx,.string S] 91)).alloc (.cells #[.bool eP,.string U] 91)).alloc (.cells #[.bool false,.string ⟨#[]⟩] 91)) w.heap.size #[.bool bx,.string S]:=kc;have B1:aL (((w.alloc (.cells #[.bool bx,.string S] 91)).alloc (.cells #[.bool eP,.string U] 91)).alloc (.cells #[.bool false,.string ⟨#[]⟩] 91)) (w.heap.size+1) #[.bool eP,.string U]:=kc;have B2:aL (((w.alloc (.cells #[.bool bx,.string S] 91)).alloc (.cells #[.bool eP,.string U] 91)).alloc (.cells #[.bool false,.string ⟨#[]⟩] 91)) (w.heap.size+1+1) #[.bool false,.string ⟨#[]⟩]:=kc;have K0:Hid (Keep au w (((w.alloc (.cells #[.bool bx,.string S] 91)).alloc (.cells #[.bool eP,.string U] 91)).alloc (.cells #[.bool false,.string ⟨#[]⟩] 91))):=zh kp;generalize ((w.alloc (.cells #[.bool bx,.string S] 91)).alloc (.cells #[.bool eP,.string U] 91)).alloc (.cells #[.bool false,.string ⟨#[]⟩] 91)=w0 at*;have HB0:=zh B0;have HB1:=zh B1;have HB2:=zh B2;have HS2:Hid (w.heap.size≤w.heap.size+1+1):=zh om;clear B0 B1 B2;refine aD (fun w'=>Keep au w0 w') [] [([0,3],1),([],2),([],4),([],5)] [6,7] kr kr kp ?_;intro X W hne hF hcl;have aQ:=zh hcl;have hx0:=fun x=>(HB0.out.keep (hF x)).two;have hx1:=fun x=>(HB1.out.keep (hF x)).two;clear hF hcl;simp only [aO,aJ,zl0,zl1,zl2,aR,Bool.false_eq_true,if_false]
 (repeat(quiet_step (fail)));refine wpQuiet_nil ?_
 refine ay rfl rfl fun K hK=> ?_;go_simp;refine(LX _ _).out.mono ?_;rintro e w1 ⟨v1,rfl,hd1,hk1⟩;have k1:Keep au w0 w1:=Keep.trans kp hk1 fun _ _ _ h=>h;refine hK _ _ ⟨fun _=>aQ.out _ k1,?_⟩;clear hK K hk1
 (repeat(quiet_step (fail)));refine wpQuiet_nil ?_
 refine ay rfl rfl fun K hK=> ?_;go_simp;refine(iU _ _ _ hd1 (by have:=Pf.out;omega)).mono ?_;rintro e w1' ⟨⟨v2,rfl,hd2⟩,rfl⟩;rw [tQ (eH _) hd1.lt]at hd2;refine hK _ _ ⟨fun _=>aQ.out _ k1,?_⟩;clear hK K hd1
 (repeat(quiet_step (fail)));refine wpQuiet_nil ?_
 refine ay rfl rfl fun K hK=> ?_;go_simp;refine(LY _ _).out.mono ?_;rintro e w3 ⟨v3,rfl,hd3,hk3⟩;have k3:=k1.both hk3;refine hK _ _ ⟨fun _=>aQ.out _ k3,?_⟩;have hd2:=hd2.keep hk3;clear hK K hk3 k1
 (repeat(quiet_step (fail)));refine wpQuiet_nil ?_
 refine ay rfl rfl fun K hK=> ?_;go_simp;refine(iU _ _ _ hd3 (by have:=Ub.out;omega)).mono ?_;rintro e w3' ⟨⟨v4,rfl,hd4⟩,rfl⟩;rw [tQ (eH _) hd3.lt]at hd4;refine hK _ _ ⟨fun _=>aQ.out _ k3,?_⟩;have K3:=zh (K0.out.both k3);have HB2:=zh (HB2.out.keep k3);have HD2:=zh hd2;have HD4:=zh hd4;clear hK K hd3 hd2 hd4 LX LY hx0 hx1 aQ k3
 (repeat(quiet_step (fail)));refine wpQuiet_nil ?_
 refine NoPanic.normal ?_;generalize w.heap.size+1+1=b2 at *;go_wp2;go_loopw [5,6] (fun s t wr=>∃ds es,fE wr s ds∧fE wr t es∧iQ ds∧iQ es∧ds.length≤4500∧es.length≤4500∧Nat.gcd (dval ds) (dval es)=Nat.gcd x.natAbs y.natAbs∧Keep au w wr∧aL wr b2 #[.bool false,.string ⟨#[]⟩]) (fun _ t wr=>zbl wr t)
 case atStart=>exact⟨_,_,HD2.out,HD4.out,eH _,eH _,Pf.out,Ub.out,by rw [bV,bV],K3.out,HB2.out⟩
 obtain⟨ds,es,hds,hes,hnd,hne',hld,hle,hg,hk,hb⟩:=hrel;have HDS:=zh hds;have HES:=zh hes;have Rn:=zh hnd;have gV:=zh hne';have HG:=zh hg;have HK:=zh hk;have HB:=zh hb;have HM:=zh (QI hes);obtain⟨od,cd,rfl,hcd,hmd⟩:=hds.len;obtain⟨oe,ce,rfl,hce,hme⟩:=hes.len;unfold maxLen at hmd hme;clear hds hes hnd hne' hg hk hb;by_cases h0:es.length=0
 ·obtain rfl:es= []:=List.length_eq_zero_iff.1 h0;clear h0;go_wp2_with fail;refine(dP _ false _ ds HDS.out om).mono ?_;rintro e w5 ⟨rfl,hk5⟩;have HV:Hid (bJ (iP false (dval ds))= .agg #[.bool gb,.string GS]):=zh (by
   rw [← HLG.out,←HG.out];simp [iP,dval])
  rw [HV.out];have fM:=HB.out.keep hk5;have K5:=zh (HK.out.both hk5);obtain⟨r0,r1,f0,f1,rl⟩:=fM.two;go_wp2;refine bodyPost_ret (by simp [results,Tryz.results117,go_sem,r0,r1,rl];rfl) rfl ?_;exact⟨rfl,aV K5.out HS2.out _ _⟩
 have hlt:(0:Int)<(es.length:Int):=om;have hlt0:0<es.length:=om;have hcon:dval es≠0:=fun h=>by
  have:=kV es gV.out (by rintro rfl;simp at h0);have:=Nat.pow_pos (a:=4294967296) (n:=es.length-1) om;omega
 have HC:Hid (dval ds%dval es<dval es∧Nat.gcd (dval es) (dval ds%dval es)=Nat.gcd (dval ds) (dval es)):=zh ⟨Nat.mod_lt _ om,(Nat.gcd_comm _ _).trans ((Nat.gcd_rec (dval es) (dval ds)).symm.trans (Nat.gcd_comm _ _))⟩;have HQ:=zh (rY wr _ _ ds es HDS.out HES.out Rn.out gV.out hlt0 om om);clear h0 hcon;go_wp2_with fail;refine HQ.out.mono ?_;rintro e w5 ⟨vq,vr,qs,rs,rfl,hk5,hq5,hr5,hvq,PD,hlq,hlr⟩;have Nj:=zh hr5;have HVR:=zh PD;have QT:=zh hk5;clear hk5 hq5 hr5 hvq PD hlq HQ;go_wp2_with fail;refine(iU _ _ rs Nj.out om).mono ?_;rintro e w6 ⟨⟨v6,rfl,hd6⟩,rfl⟩;rw [AA Nj.out.lt]at hd6;have HD6:=zh hd6;clear hd6;go_wp2_with fail;go_roundw
 case rel=>
  refine⟨es,_,HES.out.keep QT.out,HD6.out,gV.out,eH _,hle,?_,?_,HK.out.both QT.out,HB.out.keep QT.out⟩
  ·have h1:(dw (dval rs)).length≤es.length:=Kh (by rw [HVR.out];exact Nat.lt_trans HC.out.1 (kX _ HES.out.lt));omega
  rw [bV,HVR.out,HC.out.2];exact HG.out
 rw [QI HD6.out,HM.out,bV,HVR.out];exact HC.out.1
end Go.Proofs.YtaiffmebphhdaaaGreat
