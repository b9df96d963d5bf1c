/- Package cut: Search, Do. Package cut: what Do tells, by cases. Numbers, fractions and rows that lie in blocks of the call's own. The closed fact of the cut laws. What the walks are told of arguments that are slices of bools. -/
import Derived.Test.YtaiffmebphhdaaaGreatCuO
import Derived.Test.YtaiffmebphhdaaaGreatFkAA
import Derived.Test.YtaiffmebphhdaaaGreatOwGG
import Derived.Test.YtaiffmebphhdaaaGreatBaseB
import Derived.Test.YtaiffmebphhdaaaGreatCuAA
import Derived.Deep.Grids
namespace Go.Proofs.YtaiffmebphhdaaaGreat
set_option maxRecDepth 100000
set_option maxHeartbeats 32000000
set_option linter.unusedSimpArgs false
set_option linter.unusedVariables false
open Go.ChangeShapes Go.WideShapes Go.RowKit Go.Maps
def iH (w:World)(v:Value)(T:List eG):Prop:=∃(base:Nat) (ys:List DT),ys.map DT.st=T∧(∀y∈ys,Mt w base y)∧dR sD 9 stC w base v ys
theorem iH.keep {w w':World}{v:Value}{T:List eG}(h:iH w v T)(k:Keep au w w'):iH w' v T:=by
 obtain⟨b,ys,h1,h2,h3⟩:=h;exact⟨b,ys,h1,fun y hy=>(h2 y hy).kt (.of (P:=fun _=>False) k),h3.keep k⟩
theorem iH.nil (w:World):iH w (.slice none 0 0) []:=⟨0,[],rfl,sm,dR.nil _ _⟩
theorem iH.len {w:World}{v:Value}{T:List eG}(h:iH w v T):∃o c,v= .slice o T.length c:=by
 obtain⟨b,ys,h1,h2,h3⟩:=h;obtain⟨o,c,e⟩:=dL h3;exact⟨o,c,by rw [← h1,List.length_map];exact e⟩
def srR (rows:List Rw)(ints:List Bool)(fuel:Nat):mI:=uL (uM ints.length) rows ints (fuel+1) ⟨fuel,[],[],[],false⟩ []
def SrP (w:World)(r:mI)(e:Ending)(w':World):Prop:=(r.s.much=true∨3000<r.s.steps.length→e= .returned (.tuple #[.int .i64 0,.slice none 0 0,.slice none 0 0]))∧(¬ (r.s.much=true∨3000<r.s.steps.length)→∃u v,e= .returned (.tuple #[.int .i64 r.st,u,v])∧pK w' w.heap.size u r.s.point∧iH w' v r.s.steps)∧Keep au w w'
theorem O0 (w:World)(lD:Option Addr)(cr:Nat)(oi:Option Addr)(ci:Nat)(rows:List Rw)(ints:List Bool)(hx:Sr w (.slice lD rows.length cr) (.slice oi ints.length ci) rows ints)(fuel:Nat)(hf:fuel≤2000):
  Calls Tryz.prog 20 #[.slice lD rows.length cr,.slice oi ints.length ci,.int .i64 (fuel:Int)] w (SrP w (srR rows ints fuel)):=by
 have HA:=zh (WE w w.heap.size lD cr oi ci rows ints hx (fuel+1));have h40:=hx.m40;clear hx;have hc1:uI (fun _=>False) w (w.alloc (.cells #[.slice lD rows.length cr,.slice oi ints.length ci,.int .i64 (fuel:Int),.slice none 0 0,.slice none 0 0,.slice none 0 0,.bool false] Y7)) w.heap.size (.slice lD rows.length cr) (.slice oi ints.length ci) ⟨fuel,[],[],[],false⟩ (.slice none 0 0) (.slice none 0 0) (.slice none 0 0) [] []:=
  ⟨(Keep.refl _ _).alloc _,Nat.le_refl _,aX _ _ _ rfl,dR.nil _ _,rfl,sm,dR.nil _ _,rfl,sm,dR.nil _ _,fun c h=>h.elim⟩
 have Ns:=zh hc1;clear hc1;obtain⟨r,hr⟩:∃r,srR rows ints fuel=r:=⟨_,rfl⟩;rw [hr];unfold SrP;go_enter Tryz.func20,Tryz.ntmps20;go_upto_region 2 with fail;generalize w.alloc (.cells #[.slice lD rows.length cr,.slice oi ints.length ci,.int .i64 (fuel:Int),.slice none 0 0,.slice none 0 0,.slice none 0 0,.bool false] Y7)=w1 at *;have k2:Keep au w1 (w1.alloc (.map #[] 0)):=(Keep.refl _ _).alloc _;have hB:VZ (w1.alloc (.map #[] 0)) w.heap.size w1.heap.size []:=⟨[],0,⟨aX _ _ _ rfl,⟨.nil,.nil,sm⟩,sm⟩,fun k s=>rfl⟩;have CA:=zh (HA.out (fun _=>False) _ ⟨fuel,[],[],[],false⟩ [] _ ⟨_,_,_,_,_,Ns.out.keep k2⟩ hB (vP h40) vQ (Nat.lt_succ_self _) (by unfold qJ;simp only [List.length_nil];omega));have hmk:(Instr.makeMap 75 none).run Tryz.prog w1= .ok (.map (some w1.heap.size)) (w1.alloc (.map #[] 0)):=rfl;clear k2 hB HA;go_wp2_with fail;refine CA.out.mono ?_;rintro e w3 ⟨c,rfl,ho3,hs3,kt3⟩;rw [show uL (uM ints.length) rows ints (fuel+1) ⟨fuel,[],[],[],false⟩ []=r from hr]at ho3 hs3 ⊢;obtain⟨oc,cc,hcv⟩:=ho3.len;subst hcv;obtain⟨va,vt,vp,xs,ys,hc3⟩:=hs3;obtain⟨⟨oa,ca,rfl⟩,⟨ot,ct,rfl⟩,op,cp,rfl⟩:=hc3.forms;obtain⟨t0,t1,t2,t3,t4,t5,t6,lS⟩:=lQ hc3.blk;have ZV:=zh hc3;clear CA ho3 hc3 kt3 hr Ns hmk;rcases hmu:r.s.much with _ | _
 case true=>
  rw [hmu]at t6;go_simp
  repeat go_step
  refine bodyPost_ret (by simp [results,Tryz.results20,go_sem];rfl) rfl ?_;exact⟨fun _=>rfl,fun h=>absurd (.inl hmu) h,ZV.out.k⟩
 rw [hmu]at t6;by_cases hl:3000<r.s.steps.length
 case pos=>
  have d1:decide ((3000:Int)<(r.s.steps.length:Int))=true:=bL om;have d2:(3000:Int)<(r.s.steps.length:Int):=om;go_simp
  repeat go_step
  refine bodyPost_ret (by simp [results,Tryz.results20,go_sem];rfl) rfl ?_;exact⟨fun _=>rfl,fun h=>absurd (.inr hl) h,ZV.out.k⟩
 have d1:decide ((3000:Int)<(r.s.steps.length:Int))=false:=aZ om;have d2:¬(3000:Int)<(r.s.steps.length:Int):=om;go_upto_region 5 with fail;refine aD (fun w'=>Keep au w3 w') [] [] [0,1,2,3,4,5,6,7,8,9,10,11] kr kr kp ?_;intro X W hne hF hcl;have z4:=fun x=>((hF x).cell lS).trans t4;have z5:=fun x=>((hF x).cell lS).trans t5;clear hF hcl;simp only [aO,aJ,zl0,zl1,zl2,aR,Bool.false_eq_true,if_false]
 (repeat(go_big_quiet_step (fail)));refine wpQuiet_nil ?_
 refine NoPanic.normal ?_;have HC4:=zh (ZV.out.keep (Keep.refl au w3).drew);go_simp
 repeat go_step
 refine bodyPost_ret (by simp [results,Tryz.results20,go_sem];rfl) rfl ?_;exact⟨fun h=>absurd h (by rintro(h | h);(rw [hmu]at h;cases h);exact hl h),fun _=>⟨_,_,rfl,HC4.out.p,_,_,HC4.out.tx,HC4.out.ti,HC4.out.t⟩,HC4.out.k⟩
def Dc (rows:List Rw)(ints:List Bool)(fuel:Int):Yz:=
 if(nW rows ints.length).1=0 then
  if fuel<0∨2000<fuel then⟨0,[],[],(3,-1)⟩else F6 (uM ints.length) rows ints fuel.toNat
 else⟨0,[],[],nW rows ints.length⟩
def DoQ (w:World)(R:Yz)(e:Ending)(w':World):Prop:=∃u t,e= .returned (.tuple #[.int .i64 R.st,u,t,fV R.f])∧pK w' 0 u R.pt∧iH w' t R.steps∧Keep au w w'
theorem iH.other2 {w:World}{base b:Nat}{v:Value}{T:List eG}(h:iH w v T)(hb:∃A,w.heap[b]? =some (.cells A 28 (0,0)))(x y:Value):iH ((w.setCell ⟨b,0,none⟩ x).setCell ⟨b,1,none⟩ y) v T:=by
 obtain⟨base,ys,h1,h2,h3⟩:=h;obtain⟨A,hA⟩:=hb;have ne:∀ {e:TypeId} {k n:Nat} {u:Value} {xs:List Value},w.ownsRow base e k u n xs→e≠28→u.ownBlock≠some b:=fun h he e1=>by
  obtain⟨A',e2⟩:=gF h e1;rw [hA]at e2;exact he (Obj.cells.inj (Option.some.inj e2)).2.1.symm
 have st:∀ {e:TypeId} {k n:Nat} {u:Value} {xs:List Value},w.ownsRow base e k u n xs→e≠28→((w.setCell ⟨b,0,none⟩ x).setCell ⟨b,1,none⟩ y).ownsRow base e k u n xs:=fun h he=>ownsRow_setCell_other (a:=⟨b,1,none⟩) (ownsRow_setCell_other (a:=⟨b,0,none⟩) h (ne h he) x) (ne h he) y;exact⟨base,ys,h1,fun y hy=>⟨st (h2 y hy).l dc,st (h2 y hy).n dc,st (h2 y hy).r dc⟩,st h3 dc⟩
theorem TT (w:World)(v vi:Value)(rows:List Rw)(ints:List Bool)(fuel:Int)(h:dD w v rows)(hi:gJ w vi ints)(hf:fT fuel):Calls Tryz.prog 9 #[v,vi,.int .i64 fuel] w (DoQ w (Dc rows ints fuel)):=by
 have hnI:fT (ints.length:Int):=by
  obtain⟨_,_,_,h1,h2⟩:=hi.len;unfold maxLen at h2;unfold fT;omega
 have CH:=fun w' (k:Keep au w w')=>zh (MK w' v rows ints.length (h.keep k) hnI);have HR:=zh h;have HI:=zh hi;obtain⟨oi,ci,rfl,_⟩:=hi.len;obtain⟨lD,cr,rfl,_⟩:=h.len;clear h hi;unfold DoQ;obtain⟨R,hR⟩:∃R,Dc rows ints fuel=R:=⟨_,rfl⟩;by_cases hl:(nW rows ints.length).1=0
 case neg=>
  have gQ:Hid (R=⟨0,[],[],nW rows ints.length⟩):=zh (by rw [← hR];unfold Dc;rw [if_neg hl]);rw [hR];clear hR;generalize nW rows ints.length=cf at *;obtain⟨c1,c2⟩:=cf;simp only at hl;unfold fV at CH ⊢;simp only at CH;have e1:(c1 != 0)=true:=by rw [bne_iff_ne];exact hl
  clear hl HR HI;go_enter Tryz.func9,Tryz.ntmps9;go_wp2_with fail;refine(CH _ kp).out.mono ?_;rintro e w1 ⟨rfl,hk1⟩;have xZ:Hid (aL w1 w.heap.size #[.int .i64 0,.int .i64 0]):=zh (aL.keep kb hk1);have K1:Hid (Keep au w w1):=zh (Keep.both kp hk1);clear hk1 CH;generalize hb9:w.heap.size=b9 at xZ ⊢;have HS9:Hid (w.heap.size≤b9):=zh om;clear hb9;go_upto_region 3 with fail;have qz:Hid (Keep au w (w1.alloc (.cells #[.int .i64 c1,.int .i64 c2] 28))):=zh (K1.out.alloc _);have JO:Hid (aL (w1.alloc (.cells #[.int .i64 c1,.int .i64 c2] 28)) w1.heap.size #[.int .i64 c1,.int .i64 c2]):=zh (aP _ _ rfl);have xZ:=zh (xZ.out.old (.cells #[.int .i64 c1,.int .i64 c2] 28));generalize w1.alloc (.cells #[.int .i64 c1,.int .i64 c2] 28)=w3 at *;generalize w1.heap.size=b6 at *;obtain⟨s0,s1,t0,t1,sl⟩:=xZ.out.two;refine aD (fun w'=>Keep au w3 w') [4] [([0,1,2,3],4)] [] kr kr kp ?_;intro X W hne hF hcl;have hx0:=fun x=>(JO.out.keep (hF x)).two;clear hF hcl;simp only [aO,aJ,zl0,zl1,zl2,aR,Bool.false_eq_true,if_false]
  (repeat(go_big_quiet_step (fail)));refine wpQuiet_nil ?_
  refine ay rfl rfl fun K hK=> ?_;go_simp;refine hK _ _ ⟨fun h=>(by simp at h),?_⟩;have zdw:Hid (aL ((w3.setCell ⟨b9,0,none⟩ (.int .i64 c1)).setCell ⟨b9,1,none⟩ (.int .i64 c2)).drew b9 #[.int .i64 c1,.int .i64 c2]):=zh ((xZ.out.set2 (.int .i64 c1) (.int .i64 c2)).keep (Keep.refl au _).drew);have K14:Hid (Keep au w ((w3.setCell ⟨b9,0,none⟩ (.int .i64 c1)).setCell ⟨b9,1,none⟩ (.int .i64 c2)).drew):=zh (aV qz.out HS9.out (.int .i64 c1) (.int .i64 c2)).drew;clear hK K s0 s1 t0 t1 sl;generalize ((w3.setCell ⟨b9,0,none⟩ (.int .i64 c1)).setCell ⟨b9,1,none⟩ (.int .i64 c2)).drew=w5 at*
  (repeat(go_big_quiet_step (fail)));refine wpQuiet_nil ?_
  refine NoPanic.normal ?_;obtain⟨s0,s1,t0,t1,sl⟩:=zdw.out.two;go_wp2;refine bodyPost_ret (by simp [results,Tryz.results9,go_sem,s0,s1,sl];rfl) rfl ?_;rw [gQ.out];exact⟨_,_,rfl,dR.nil _ _,iH.nil _,K14.out⟩
 obtain⟨hl0,hn0,hn12,h40,hok⟩:=wP hl;have gQ:Hid (R=if fuel<0∨2000<fuel then⟨0,[],[],(3,-1)⟩else F6 (uM ints.length) rows ints fuel.toNat):=zh (by rw [← hR];unfold Dc;rw [if_pos hl]);rw [hR];rw [hl0]at CH;have Dn:=zh hok;clear hR hl hl0 hok;unfold fV at CH ⊢;simp only at CH;unfold fT at hf;go_enter Tryz.func9,Tryz.ntmps9;go_wp2_with fail;refine(CH _ kp).out.mono ?_;rintro e w1 ⟨rfl,hk1⟩;have xZ:Hid (aL w1 w.heap.size #[.int .i64 0,.int .i64 0]):=zh (aL.keep kb hk1);have Ue:Hid (w1.heap[w.heap.size]? =some (.cells #[.int .i64 0,.int .i64 0] 28 (0,0))):=zh ((hk1.block _ sm fun _ h=>h).trans (aX _ _ _ rfl));have K1:Hid (Keep au w w1):=zh (Keep.both kp hk1);clear hk1 CH;generalize hb9:w.heap.size=b9 at xZ Ue ⊢;have HS9:Hid (w.heap.size≤b9):=zh om;clear hb9;have xZ:=zh (xZ.out.old (.cells #[.int .i64 0,.int .i64 0] 28));have Ue:Hid ((w1.alloc (.cells #[.int .i64 0,.int .i64 0] 28)).heap[b9]? =some (.cells #[.int .i64 0,.int .i64 0] 28 (0,0))):=zh ((((Keep.refl au w1).alloc _).block _ (lt_of_heap Ue.out) fun _ h=>h).trans Ue.out);have K2:=zh (K1.out.alloc (.cells #[.int .i64 0,.int .i64 0] 28));go_upto_region 4 with fail;clear K1;generalize w1.alloc (.cells #[.int .i64 0,.int .i64 0] 28)=w2 at*;by_cases hfu:fuel<0∨2000<fuel
 case pos=>
  have gQ:=zh (gQ.out.trans (if_pos hfu));obtain⟨s0,s1,t0,t1,sl⟩:=xZ.out.two;by_cases f0:fuel<0
  case pos=>
   go_wp2;refine bodyPost_ret (by simp [results,Tryz.results9,go_sem,s0,s1,sl];rfl) rfl ?_;rw [gQ.out];exact⟨_,_,rfl,dR.nil _ _,iH.nil _,aV K2.out HS9.out _ _⟩
  have f1:2000<fuel:=om;go_wp2;refine bodyPost_ret (by simp [results,Tryz.results9,go_sem,s0,s1,sl];rfl) rfl ?_;rw [gQ.out];exact⟨_,_,rfl,dR.nil _ _,iH.nil _,aV K2.out HS9.out _ _⟩
 have gQ:=zh (gQ.out.trans (if_neg hfu));obtain⟨f,rfl⟩:∃f:Nat,fuel=(f:Int):=⟨fuel.toNat,om⟩;have f0:¬(f:Int)<0:=om;have f1:¬(2000:Int)<(f:Int):=om;have hf2:f≤2000:=om;clear hfu;have LPO:Hid (F5 ints.length (uM ints.length)):=zh (Ld om _);have CS:=zh (fun w' (k:Keep au w w')=>O0 w' lD cr oi ci rows ints ⟨HR.out.keep k,HI.out.keep k,om,h40,Dn.out⟩ f hf2);have HST:=zh (tL LPO.out om h40 Dn.out (f+1) ⟨f,[],[],[],false⟩ [] (vP h40) vQ);have gQ:Hid (R=let r:=srR rows ints f;if r.s.much=true∨3000<r.s.steps.length then⟨0,[],[],(10,0)⟩else if r.st=1 then⟨1,r.s.point,[],(0,0)⟩else if r.st=2 then⟨2,[],r.s.steps,(0,0)⟩else⟨3,[],[],(0,0)⟩):=gQ;obtain⟨r,hr⟩:∃r,srR rows ints f=r:=⟨_,rfl⟩;rw [show uL (uM ints.length) rows ints (f+1) ⟨f,[],[],[],false⟩ []=r from hr]at HST;rw [hr]at CS gQ;clear hr;go_wp2_with fail;refine(CS.out _ K2.out).mono ?_;rintro e w3 ⟨hbad,hgood,hk3⟩;have k3:Keep au w2 w3:=Keep.trans kp hk3 fun _ _ _ h=>h;have hb96:b9<w2.heap.size:=xZ.out.lt;have zdx:=zh (xZ.out.keep k3);have zdy:Hid (∃A,w3.heap[b9]? =some (.cells A 28 (0,0))):=zh ⟨_,(k3.block _ (lt_of_heap Ue.out) fun _ h=>h).trans Ue.out⟩;have K3:=zh (K2.out.both k3);obtain⟨s0,s1,t0,t1,sl⟩:=zdx.out.two;clear CS k3 hk3;by_cases hb:r.s.much=true∨3000<r.s.steps.length
 case pos=>
  have gQ:=zh (gQ.out.trans (if_pos hb));obtain rfl:=hbad hb;clear hbad hgood HST;go_wp2;refine bodyPost_ret (by simp [results,Tryz.results9,go_sem,s0,s1,sl];rfl) rfl ?_;rw [gQ.out];exact⟨_,_,rfl,dR.nil _ _,iH.nil _,aV K3.out HS9.out _ _⟩
 have gQ:=zh (gQ.out.trans (if_neg hb));obtain⟨u,t,rfl,hu,ht⟩:=hgood hb;have HU:=zh (fun x y=>show pK ((w3.setCell ⟨b9,0,none⟩ x).setCell ⟨b9,1,none⟩ y) 0 u r.s.point from World.ownsRow_mono (dR.other2 hu hb96 x y) (Nat.zero_le _));have HT:=zh (fun x y=>ht.other2 (base:=0) zdy.out x y);obtain⟨ou,cu,rfl⟩:=dL hu;obtain⟨ot,ct,rfl⟩:=ht.len;clear hbad hgood hb hu ht;have hst:=HST.out.st;clear HST;generalize hrs:r.st=st at *;obtain rfl | rfl | rfl:=hst
 ·have gQ:=zh (gQ.out.trans (if_pos rfl));go_wp2;refine bodyPost_ret (by simp [results,Tryz.results9,go_sem,s0,s1,sl];rfl) rfl ?_;rw [gQ.out];exact⟨_,_,rfl,HU.out _ _,iH.nil _,aV K3.out HS9.out _ _⟩
 ·have gQ:=zh (gQ.out.trans ((if_neg dc).trans (if_pos rfl)));go_wp2;refine bodyPost_ret (by simp [results,Tryz.results9,go_sem,s0,s1,sl];rfl) rfl ?_;rw [gQ.out];exact⟨_,_,rfl,dR.nil _ _,HT.out _ _,aV K3.out HS9.out _ _⟩
 have gQ:=zh (gQ.out.trans ((if_neg dc).trans (if_neg dc)));go_wp2;refine bodyPost_ret (by simp [results,Tryz.results9,go_sem,s0,s1,sl];rfl) rfl ?_;rw [gQ.out];exact⟨_,_,rfl,dR.nil _ _,iH.nil _,aV K3.out HS9.out _ _⟩
open Go.ChangeShapes Go.WideShapes Go.RowKit
theorem Ij (rows:List Rw)(ints:List Bool)(fuel:Int):
  ((nW rows ints.length).1≠0∧Dc rows ints fuel=⟨0,[],[],((nW rows ints.length).1,(nW rows ints.length).2)⟩)∨
  (nW rows ints.length=(0,0)∧(fuel<0∨2000<fuel)∧Dc rows ints fuel=⟨0,[],[],(3,-1)⟩)∨
  (nW rows ints.length=(0,0)∧(0≤fuel∧fuel≤2000)∧(Dc rows ints fuel=⟨0,[],[],(10,0)⟩∨Dc rows ints fuel=⟨3,[],[],(0,0)⟩∨
   (∃pt:List Rat,Dc rows ints fuel=⟨1,pt.map cZ,[],(0,0)⟩∧pt.length=ints.length∧allFit pt pt.length=true∧qI ints pt=none∧∀r∈rows,wV r ints.length fun j=>pt.getD j 0)∨
   ∃T:List eG,Dc rows ints fuel=⟨2,[],T,(0,0)⟩∧T≠ []∧∀x,Mix ints x→(∀r∈rows,wV r ints.length x)→False)):=by
 unfold Dc;by_cases hl:(nW rows ints.length).1=0
 ·obtain ⟨hl0,hn0,hn12,h40,hok⟩:=wP hl;rw [if_pos hl];by_cases hf:fuel<0∨2000<fuel
  ·rw [if_pos hf];exact .inr (.inl ⟨hl0,hf,rfl⟩)
  rw [if_neg hf];exact .inr (.inr ⟨hl0,om,VH (Ld om _) om h40 hok fuel.toNat⟩)
 rw [if_neg hl];exact .inl ⟨hl,rfl⟩
def DoP (w:World)(R:Yz)(e:Ending)(w':World):Prop:=∃u t,e= .returned (.tuple #[.int .i64 R.st,u,t,fV R.f])∧dh w' u R.pt∧iH w' t R.steps∧Keep au w w'
theorem zbm (rows:List Rw)(ints:List Bool)(fuel:Int):∃qs:List Rat,(Dc rows ints fuel).pt=qs.map cZ:=by
 rcases Ij rows ints fuel with⟨_,h⟩ | ⟨_,_,h⟩ | ⟨_,_,h | h | ⟨pt,h,_⟩ | ⟨T,h,_⟩⟩
 all_goals rw [h]
 ·exact ⟨[],rfl⟩
 ·exact ⟨[],rfl⟩
 ·exact ⟨[],rfl⟩
 ·exact ⟨[],rfl⟩
 ·exact ⟨pt,rfl⟩
 exact⟨[],rfl⟩
theorem Bg (w:World)(v vi:Value)(rows:List Rw)(ints:List Bool)(fuel:Int)(h:dD w v rows)(hi:gJ w vi ints)(hf:fT fuel):Calls Tryz.prog 9 #[v,vi,.int .i64 fuel] w (DoP w (Dc rows ints fuel)):=by
 refine(TT w v vi rows ints fuel h hi hf).mono fun e w' h=> ?_;obtain⟨u,t,h1,h2,h3,h4⟩:=h;obtain⟨qs,hq⟩:=zbm rows ints fuel;exact⟨u,t,h1,by rw [hq]at h2 ⊢;exact dR.ofFq h2,h3,h4⟩
theorem XC {w:World}{b:Nat}{xs:List Int}{cs:Array Value}{n:Nat}(h:aL w b cs)(hc:cs=(iv xs).toArray)(hn:n=xs.length)(hx:∀x∈xs,fT x)(hl:xs.length≤maxLen):aW w (.slice (some ⟨b,0,none⟩) n n) xs:=by
 subst hn hc;refine⟨_,_,rfl,hl,hx,fun hne=>⟨b,0,rfl,h.lt,fun i x hi=> ?_⟩⟩;rw [h.cell,Nat.zero_add];simp [iv,hi]
theorem Na {w:World}{b:Nat}{xs:List wL}{cs:Array Value}{n:Nat}{l:List Rw}(h:aL w b cs)(hc:cs=(xs.flatMap AR).toArray)(hl:l=xs.map wL.r)(hn:n=xs.length)(hx:∀x∈xs,aW w x.sv x.r.of∧fT x.r.kind∧fT x.r.to∧pz x.sv)(hm:xs.length≤maxLen):dD w (.slice (some ⟨b,0,none⟩) n n) l:=by
 subst hn hc hl;refine⟨_,_,by rw [List.length_map],by rw [List.length_map];exact Nat.le_refl _,hm,fun hne=>⟨b,0,rfl,h.lt,fun i r hi=> ?_⟩⟩;rw [List.getElem?_map]at hi;rcases hy:xs[i]? with _ | y
 ·rw [hy]at hi;cases hi
 rw [hy]at hi;simp at hi;subst hi;have h0:=flat_get wM xs i y hy 0 om;have h1:=flat_get wM xs i y hy 1 om;have h2:=flat_get wM xs i y hy 2 om;obtain⟨h6,h7⟩:=hx y (List.mem_of_getElem? hy);refine⟨y.sv,?_,?_,?_,h6,h7⟩
 ·rw [h.cell,Nat.zero_add];rw [show(AR y)[0]? =some _ from rfl]at h0;simpa using h0
 ·rw [h.cell,Nat.zero_add];rw [show(AR y)[1]? =some _ from rfl]at h1;simpa using h1
 rw [h.cell,Nat.zero_add];rw [show(AR y)[2]? =some _ from rfl]at h2;simpa using h2
theorem DW {w:World}{b:Nat}(xs:List Int)(k t:Int){cs:Array Value}(h:aL w b cs)(hc:cs=(iv xs).toArray)(hx:∀x∈xs,bZ x)(hl:xs.length≤12)(hk:bZ k)(ht:bZ t)(n:Nat)(hn:n=xs.length):
  aW w (.slice (some ⟨b,0,none⟩) n n) xs∧fT k∧fT t∧pz (.slice (some ⟨b,0,none⟩) n n):=by
 have h64:∀x,bZ x→fT x:=fun x h=>by unfold bZ at h;unfold fT;omega
 exact⟨XC h hc hn (fun x h=>h64 x (hx x h)) (by unfold maxLen;omega),h64 _ hk,h64 _ ht,_,_,_,rfl,Nat.le_refl _⟩
def xM:List Rw:= [⟨[2],1,1⟩,⟨[-2],1,-1⟩]
theorem zcD:((Dc xM [true] 2000).st,(Dc xM [true] 2000).pt.length,(Dc xM [true] 2000).steps.length,(Dc xM [true] 2000).f)=(2,0,6,(0,0)):=kr
theorem zcE:Dc xM [false] 2000=⟨1,[⟨1,2⟩],[],(0,0)⟩:=kr
theorem Nb {w:World}{b:Nat}{x:Bool}(h:aL w b #[.bool x]):gJ w (.slice (some ⟨b,0,none⟩) 1 1) [x]:=⟨_,1,rfl,Nat.le_refl _,by unfold maxLen;omega,fun _=>⟨b,0,rfl,h.lt,fun i y hi=>by
 rcases i with _ | i
 ·cases hi;exact h.cell 0
 simp at hi⟩⟩
theorem qN (w:World):Calls Tryz.prog 8 #[] w fun e w'=>e= .returned (.bool true)∧Keep au w w':=by
 have CA:=fun w' v vi (h:dD w' v xM) (hi:gJ w' vi [true])=>zh (Bg w' v vi xM [true] 2000 h hi (by unfold fT;omega));have CB:=fun w' v vi (h:dD w' v xM) (hi:gJ w' vi [false])=>zh (Bg w' v vi xM [false] 2000 h hi (by unfold fT;omega));rw [zcE]at CB;have hA:=zcD;generalize Dc xM [true] 2000=RA at *;obtain⟨st,pt,stp,f1,f2⟩:=RA;simp only [Prod.mk.injEq]at hA;obtain⟨rfl,hpt,hst,rfl,rfl⟩:=hA;unfold DoP fV at CA CB;simp only at CA CB;go_enter Tryz.func8,Tryz.ntmps8;go_wp2_with fail;refine(CA _ _ _ (Na (b:=w.heap.size+1+1) (xs:= [⟨.slice (some ⟨w.heap.size,0,none⟩) 1 1,⟨[2],1,1⟩⟩,⟨.slice (some ⟨w.heap.size+1,0,none⟩) 1 1,⟨[-2],1,-1⟩⟩]) kc rfl rfl rfl ?_ (by simp [maxLen])) (Nb (b:=w.heap.size+1+1+1) kc)).out.mono ?_
 ·intro x hx;simp at hx;rcases hx with rfl | rfl
  ·exact DW (b:=w.heap.size) [2] 1 1 kc rfl dc dc dc dc 1 rfl
  exact DW (b:=w.heap.size+1) [-2] 1 (-1) kc rfl dc dc dc dc 1 rfl
 rintro e w1 ⟨u,t,rfl,hu,ht,hk1⟩;have K1:Hid (Keep au w w1):=zh (Keep.both kp hk1);obtain⟨ou,cu,rfl,_,_⟩:=hu.len;obtain⟨ot,ct,rfl⟩:=ht.len;rw [hpt,hst];clear hk1 hu CA ht hpt hst;have fH:Hid (aL (w1.alloc (.cells #[.int .i64 0,.int .i64 0] 28)) w1.heap.size #[.int .i64 0,.int .i64 0]):=zh (aP _ _ rfl);have K2:=zh (K1.out.alloc (.cells #[.int .i64 0,.int .i64 0] 28));go_upto_region 2 with fail;generalize w1.alloc (.cells #[.int .i64 0,.int .i64 0] 28)=w2 at *;generalize w1.heap.size=b4 at *;clear K1;go_wp2_with fail;refine(CB _ _ _ (Na (b:=w2.heap.size+1+1) (xs:= [⟨.slice (some ⟨w2.heap.size,0,none⟩) 1 1,⟨[2],1,1⟩⟩,⟨.slice (some ⟨w2.heap.size+1,0,none⟩) 1 1,⟨[-2],1,-1⟩⟩]) kc rfl rfl rfl ?_ (by simp [maxLen])) (Nb (b:=w2.heap.size+1+1+1) kc)).out.mono ?_
 ·intro x hx;simp at hx;rcases hx with rfl | rfl
  ·exact DW (b:=w2.heap.size) [2] 1 1 kc rfl dc dc dc dc 1 rfl
  exact DW (b:=w2.heap.size+1) [-2] 1 (-1) kc rfl dc dc dc dc 1 rfl
 rintro e w3 ⟨u,t,rfl,hu,ht,hk3⟩;have K3:Hid (Keep au w2 w3):=zh (Keep.both kp hk3);obtain⟨ou',cu',rfl,_,_⟩:=hu.len;obtain⟨ot',ct',rfl⟩:=ht.len;have HU:=zh hu;simp only [List.length_nil,List.length_cons]at *;clear hk3 hu CB ht;have mh:Hid (aL (w3.alloc (.cells #[.int .i64 0,.int .i64 0] 28)) w3.heap.size #[.int .i64 0,.int .i64 0]):=zh (aP _ _ rfl);have k4:Keep au w3 (w3.alloc (.cells #[.int .i64 0,.int .i64 0] 28)):=(Keep.refl _ _).alloc _;have K4:=zh ((K2.out.both K3.out).both k4);have fH:=zh (fH.out.keep (K3.out.both k4));have HU:=zh (HU.out.keep k4);go_upto_region 3 with fail;generalize w3.alloc (.cells #[.int .i64 0,.int .i64 0] 28)=w4 at *;generalize w3.heap.size=b8 at *;obtain⟨bu,ou1,rfl,hbu,d0,d1⟩:=HU.out.at (k:=0) dc;simp at d0 d1;obtain⟨s0,s1,_,_,sl⟩:=fH.out.two;obtain⟨t0,t1,_,_,tl⟩:=mh.out.two;clear k4 K2 K3;go_wp2;go_ret;exact⟨rfl,K4.out⟩
open Go.ChangeShapes Go.WideShapes Go.ChangeAt Go.RowKit Go.Joins Go.Deep
section
variable {H:Type} {enc:TypeId × Value→H} {W:World} {base:Nat} {d:DataW H} {p:List MemPlace} {v:Value}
theorem Vy (hv:Value.okWide Tryz.prog W .any base 23 v)(h:DataW.Trod enc Tryz.prog W 0 (fun _=>true) true 23 v d p):∃l,gJ W v l:=by
 obtain⟨a0,len,cap,rfl⟩:=okWide_slice Tryz.underlying23 hv;obtain⟨fuel,hf⟩:=h;rcases open_bools Tryz.underlying23 Tryz.underlying4 kr hf with⟨hcs,_⟩ | ⟨⟨b,off,spot⟩,len',cap',B,hcs,_,hl,hm,_,hc⟩
 ·simp [Value.cells]at hcs;obtain⟨rfl,rfl,rfl⟩:=hcs;exact⟨[],none,0,rfl,sm,sm,fun h=>absurd rfl h⟩
 simp [Value.cells]at hcs;obtain⟨rfl,rfl,rfl⟩:=hcs;refine⟨(List.range len).map B,some ⟨b,off,spot⟩,cap,sm,by simpa using hl,hm,fun hne=> ?_⟩;have hp:0<len:=by
  rcases len with _ | n
  ·simp at hne
  omega
 have hs:spot=none:=by simpa [Addr.add]using World.cell?_spot (hc 0 om)
 subst hs;have hq:∀i,i<cap→W.cell? ⟨b,off+i,none⟩=some (.bool (B i)):=fun i hi=>by rw [← Go.WideShapes.add_plain];exact hc i hi
 refine⟨b,off,rfl,Iz (hq 0 om),fun i x hx=> ?_⟩;obtain⟨hi,hx⟩:=List.getElem?_eq_some_iff.1 hx;simp at hi;rw [hq i om,←hx];simp
end
end Go.Proofs.YtaiffmebphhdaaaGreat
