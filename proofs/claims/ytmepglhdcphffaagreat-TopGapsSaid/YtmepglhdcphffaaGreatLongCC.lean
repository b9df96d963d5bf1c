/- A region whose order is drawn, by a plan that parts where two or three operations are free. Wide whole numbers of any size: quotient and rest. Wide whole numbers of any size: the common divisor; so SetFrac is right for all that is allowed. Package long: quotient and rest of numbers, the rest not below 0. Package long: the greatest common divisor. -/
import Derived.Test.YtmepglhdcphffaaGreatBaseA
import Derived.Test.YtmepglhdcphffaaGreatBaseC
import Derived.Test.YtmepglhdcphffaaGreatBaseB
import Derived.Test.YtmepglhdcphffaaGreatLongBB
import Derived.Test.YtmepglhdcphffaaGreatLongAA
namespace Go.Proofs.YtmepglhdcphffaaGreat
set_option maxRecDepth 100000
set_option maxHeartbeats 8000000
set_option linter.unusedSimpArgs false
set_option linter.unusedVariables false
inductive PU where
 | fin (qs:List Nat)
 | one (qs:List Nat) (e:Nat) (p:PU)
 | two (qs:List Nat) (e1:Nat) (p1:PU) (e2:Nat) (p2:PU)
 | three (qs:List Nat) (e1:Nat) (p1:PU) (e2:Nat) (p2:PU) (e3:Nat) (p3:PU)
section
variable {P:Program} {ops:Array Oper} {Q:Exit→Act→World→Prop} {C:World→Prop} {md:Region.Mode}
def tL (md:Region.Mode)(ops:Array Oper):PU→Array Bool→Bool
 | .fin qs,listed=>takeB md ops (fun _=>false) false qs listed&&(Region.ready md ops (aZ listed qs)).isEmpty
 | .one qs e p,listed=>takeB md ops (fun _=>false) false qs listed&&(Region.ready md ops (aZ listed qs)== [e])&&tL md ops p ((aZ listed qs).setIfInBounds e true)
 | .two qs e1 p1 e2 p2,listed=>takeB md ops (fun _=>false) false qs listed&&(Region.ready md ops (aZ listed qs)== [e1,e2])&&(tL md ops p1 ((aZ listed qs).setIfInBounds e1 true)&&tL md ops p2 ((aZ listed qs).setIfInBounds e2 true))
 | .three qs e1 p1 e2 p2 e3 p3,listed=>takeB md ops (fun _=>false) false qs listed&&(Region.ready md ops (aZ listed qs)== [e1,e2,e3])&&(tL md ops p1 ((aZ listed qs).setIfInBounds e1 true)&&(tL md ops p2 ((aZ listed qs).setIfInBounds e2 true)&&tL md ops p3 ((aZ listed qs).setIfInBounds e3 true)))
def wu:PU→Nat
 | .fin qs=>qs.length
 | .one qs _ p=>wu p+1+qs.length
 | .two qs _ p1 _ _=>wu p1+1+qs.length
 | .three qs _ p1 _ _ _ _=>wu p1+1+qs.length
def wR:PU→Bool
 | .fin _=>true
 | .one _ _ p=>wR p
 | .two _ _ p1 _ p2=>wR p1&&wR p2&&wu p1==wu p2
 | .three _ _ p1 _ p2 _ p3=>wR p1&&wR p2&&wR p3&&(wu p1==wu p2&&wu p1==wu p3)
def mJ (P:Program)(ops:Array Oper)(Q:Exit→Act→World→Prop)(C:World→Prop):PU→Act→World→Prop
 | .fin qs,a,w=>wpQuiet P ops (aX C false) (fun a'=>Q .normal a' w) (aJ ops qs) a
 | .one qs e p,a,w=>wpQuiet P ops (aX C false) (fun a'=>wpOp P ops Q e (fun a'' w''=>C w''∧mJ P ops Q C p a'' w'') a' w) (aJ ops qs) a
 | .two qs e1 p1 e2 p2,a,w=>wpQuiet P ops (aX C false) (fun a'=>wpOp P ops Q e1 (fun a'' w''=>C w''∧mJ P ops Q C p1 a'' w'') a' w∧wpOp P ops Q e2 (fun a'' w''=>C w''∧mJ P ops Q C p2 a'' w'') a' w) (aJ ops qs) a
 | .three qs e1 p1 e2 p2 e3 p3,a,w=>wpQuiet P ops (aX C false) (fun a'=>wpOp P ops Q e1 (fun a'' w''=>C w''∧mJ P ops Q C p1 a'' w'') a' w∧wpOp P ops Q e2 (fun a'' w''=>C w''∧mJ P ops Q C p2 a'' w'') a' w∧wpOp P ops Q e3 (fun a'' w''=>C w''∧mJ P ops Q C p3 a'' w'') a' w) (aJ ops qs) a
theorem gZ (hs:Region.noSelect ops=true)(hQ:∀c (a:Act) w,¬Q (.panic c) a w):∀(p:PU) (listed:Array Bool) (a:Act) (w:World),DC md ops listed→
  tL md ops p listed=true→wR p=true→C w→mJ P ops Q C p a w→wpAnyL P md ops Q C (fun _=>false) (wu p) listed a w
 | .fin qs,listed,a,w,hd,hB,_,hC,h=>by
  simp only [tL,Bool.and_eq_true]at hB;have:=fD (md:=md) (late:=fun _=>false) (C:=C) hs hQ (w:=w) (R:=fun a'=>Q .normal a' w) false 0 qs listed a hd hB.1 (fun _=>hC) (fun _ a' ha=>⟨by simpa using hB.2,ha⟩) h;simpa [wu]using this
 | .one qs e p,listed,a,w,hd,hB,hE,hC,h=>by
  simp only [tL,Bool.and_eq_true]at hB;obtain⟨⟨h1,h2⟩,h4⟩:=hB;refine fD hs hQ false (wu p+1) qs listed a hd h1 (fun _=>hC) (fun hd' a' ha=> ?_) h;have hre:Region.ready md ops (aZ listed qs)= [e]:=by simpa using h2
  refine⟨fun h0=>(by rw [hre]at h0;cases h0),fun j hj=> ?_⟩;rw [hre]at hj;obtain rfl:j=e:=by simpa using hj
  exact wpOp_mono (fun a'' w'' ⟨g1,g2⟩=>⟨fun _=>g1,gZ hs hQ p _ a'' w'' (hd'.set (by rw [hre];exact List.mem_singleton.2 rfl)) h4 hE g1 g2⟩) ha
 | .two qs e1 p1 e2 p2,listed,a,w,hd,hB,hE,hC,h=>by
  simp only [tL,Bool.and_eq_true]at hB;simp only [wR,Bool.and_eq_true,beq_iff_eq]at hE;obtain⟨⟨h1,h2⟩,h4,h5⟩:=hB;obtain⟨⟨he1,he2⟩,hl⟩:=hE;refine fD hs hQ false (wu p1+1) qs listed a hd h1 (fun _=>hC) (fun hd' a' ha=> ?_) h;have hre:Region.ready md ops (aZ listed qs)= [e1,e2]:=by simpa using h2
  refine⟨fun h0=>(by rw [hre]at h0;cases h0),fun j hj=> ?_⟩;have hj':=hj;rw [hre]at hj;have hj2:j=e1∨j=e2:=by simpa using hj
  rcases hj2 with e | e
  ·rw [e]at hj' ⊢;exact wpOp_mono (fun a'' w'' ⟨g1,g2⟩=>⟨fun _=>g1,gZ hs hQ p1 _ a'' w'' (hd'.set hj') h4 he1 g1 g2⟩) ha.1
  rw [e]at hj' ⊢;exact wpOp_mono (fun a'' w'' ⟨g1,g2⟩=>⟨fun _=>g1,by rw [hl];exact gZ hs hQ p2 _ a'' w'' (hd'.set hj') h5 he2 g1 g2⟩) ha.2
 | .three qs e1 p1 e2 p2 e3 p3,listed,a,w,hd,hB,hE,hC,h=>by
  simp only [tL,Bool.and_eq_true]at hB;simp only [wR,Bool.and_eq_true,beq_iff_eq]at hE;obtain⟨⟨h1,h2⟩,h4,h5,h6⟩:=hB;obtain⟨⟨⟨he1,he2⟩,he3⟩,hl,hl3⟩:=hE;refine fD hs hQ false (wu p1+1) qs listed a hd h1 (fun _=>hC) (fun hd' a' ha=> ?_) h;have hre:Region.ready md ops (aZ listed qs)= [e1,e2,e3]:=by simpa using h2
  refine⟨fun h0=>(by rw [hre]at h0;cases h0),fun j hj=> ?_⟩;have hj':=hj;rw [hre]at hj;have hj2:j=e1∨j=e2∨j=e3:=by simpa using hj
  rcases hj2 with e | e | e
  ·rw [e]at hj' ⊢;exact wpOp_mono (fun a'' w'' ⟨g1,g2⟩=>⟨fun _=>g1,gZ hs hQ p1 _ a'' w'' (hd'.set hj') h4 he1 g1 g2⟩) ha.1
  ·rw [e]at hj' ⊢;exact wpOp_mono (fun a'' w'' ⟨g1,g2⟩=>⟨fun _=>g1,by rw [hl];exact gZ hs hQ p2 _ a'' w'' (hd'.set hj') h5 he2 g1 g2⟩) ha.2.1
  rw [e]at hj' ⊢;exact wpOp_mono (fun a'' w'' ⟨g1,g2⟩=>⟨fun _=>g1,by rw [hl3];exact gZ hs hQ p3 _ a'' w'' (hd'.set hj') h6 he3 g1 g2⟩) ha.2.2
theorem Bt {id:Nat}{l:List Oper}{a:Act}{w:World}{Q:Exit→Act→World→Prop}(F:World→Prop)(p:PU)(hm:P.follows .mixedOrders=true)
  (hB:(Region.noSelect l.toArray&&tL .any l.toArray p (Array.replicate l.toArray.size false)&&wR p&&(wu p==l.toArray.size))=true) (hF:F w.drew)
  (h:∀(X:Type) (W:X→World),Nonempty X→(∀x,F (W x))→(∀w',F w'→∃x,w'=W x)→mJ P l.toArray (NoPanic Q) (fun w'=>∃x,w'=W x) p a w.drew):(Code.region id l.toArray true).wp P Q a w:=by
 have h':=h {w':World // F w'} (fun x=>x.1) ⟨⟨_,hF⟩⟩ (fun x=>x.2) fun w' hw=>⟨⟨w',hw⟩,rfl⟩;simp only [Bool.and_eq_true]at hB;refine wp_region_noPanic (wp_region_any hm (jr _ _ _ _ (C:=fun w'=>∃x: {w':World // F w'},w'=x.1) (late:=fun _=>false) ?_));have:=gZ hB.1.1.1 (fun _ _ _ h=>h) p _ a w.drew (fun k ok e _ hl=>by simp [Array.getD]at hl) hB.1.1.2 hB.1.2 ⟨⟨_,hF⟩,rfl⟩ h';rw [show wu p=l.toArray.size from by simpa using hB.2]at this;exact this
end
open Go.ChangeShapes Go.WideShapes Go.RowKit
theorem lM.uniq {w:World}{v:Value}{ds ds':List Nat}(h:lM w v ds)(h':lM w v ds'):ds=ds':=by
 obtain⟨g,cap,c,fr,hv,hg,_,_,hc,_⟩:=h;obtain⟨g',cap',c',fr',hv',hg',_,_,hc',_⟩:=h';subst hv;simp at hv';obtain⟨rfl,hl,rfl⟩:=hv';rw [hg]at hg';simp at hg';obtain⟨rfl,_⟩:=hg';apply List.ext_getElem hl;intro i h1 h2;have e1:=hc i h1;have e2:=hc' i h2;rw [e1]at e2;simp [List.getD,h1,h2]at e2;omega
theorem tK.uniq {w:World}{b o:Nat}{z z':Int}(h:tK w b o z)(h':tK w b o z'):z=z':=by
 obtain⟨neg,ds,⟨c,t,v,hb,ht,h0,h1,hd⟩,_,_,rfl⟩:=h;obtain⟨wC,ds',⟨c',t',v',hb',ht',h0',h1',hd'⟩,_,_,rfl⟩:=h';rw [hb]at hb';simp at hb';obtain⟨rfl,_⟩:=hb';rw [h0]at h0';rw [h1]at h1';simp at h0' h1';subst h0' h1';rw [hd.uniq hd']
theorem aL.set2 {w:World}{b:Nat}{x y:Value}(h:aL w b #[x,y])(u v:Value):aL ((w.setCell ⟨b,0,none⟩ u).setCell ⟨b,1,none⟩ v) b #[u,v]:=by
 obtain⟨t,h⟩:=h;exact⟨t,heap_setCell_same 1 v (heap_setCell_same 0 u h)⟩
theorem aL.other2 {w:World}{b b':Nat}{A:Array Value}(h:aL w b A)(hne:b≠b')(u v:Value):aL ((w.setCell ⟨b',0,none⟩ u).setCell ⟨b',1,none⟩ v) b A:=by
 obtain⟨t,h⟩:=h;exact⟨t,by rw [heap_setCell_other _ _ _ _ hne,heap_setCell_other _ _ _ _ hne];exact h⟩
theorem dw {w0 w:World}{b:Nat}(h:Keep au w0 w)(hb:w0.heap.size≤b)(u v:Value):Keep au w0 ((w.setCell ⟨b,0,none⟩ u).setCell ⟨b,1,none⟩ v):=
 (h.setCell _ fun hh=>absurd hh om).setCell _ fun hh=>absurd hh om
def MU (b c:Nat):Nat→Nat→Prop:=fun k _=>k=b∨k=c
theorem aL.keep2 {w w':World}{k b c:Nat}{A:Array Value}(h:aL w k A)(hk:Keep (MU b c) w w')(h1:k≠b)(h2:k≠c):aL w' k A:=by
 obtain⟨t,h⟩:=h;exact⟨t,by rw [hk.block k (lt_of_heap h) fun o ho=>ho.elim h1 h2];exact h⟩
theorem Gb {w0 w:World}{b c d:Nat}(h:Keep (MU b c) w0 w)(hd:d=b∨d=c)(u v:Value):Keep (MU b c) w0 ((w.setCell ⟨d,0,none⟩ u).setCell ⟨d,1,none⟩ v):=
 (h.setCell _ fun _=>hd).setCell _ fun _=>hd
theorem zdm {y:Int}(h:y≠0):0<(bV y.natAbs).length:=List.length_pos_iff.2 fun e=>by
 have:=pE.1 e;omega
theorem aH (z:Int):∃b S,bG z= .agg #[.bool b,.string S]∧b=decide (z<0)∧S=bytesOf (bV z.natAbs):=⟨_,_,rfl,rfl,rfl⟩
theorem uT (w:World)(x y:Int)(hx:dl x≤4500)(hy:dl y≤4500)(hy0:y≠0):
  Calls Tryz.prog 201 #[bG x,bG y] w fun e w'=>e= .returned (.tuple #[bG (x/y),bG (x%y),.int .i64 0])∧Keep au w w':=by
 have hdx:(bV x.natAbs).length≤4500:=hx;have hdy:(bV y.natAbs).length≤4500:=hy;have hq:=pJ (a:=x.tdiv y) (b:=x) (by rw [Int.natAbs_tdiv];exact Nat.div_le_self _ _);have hr:=pJ (a:=x.tmod y) (b:=x) (by rw [Int.natAbs_tmod];exact Nat.mod_le _ _);have ha:=zbG y;have hdy0:=zdm hy0;have LX:=fun w b=>zh (iC w x b om);have LY:=fun w b=>zh (iC w y b om);have SY:=fun w=>zh (gX w y);have SR:=fun w=>zh (gX w (x.tmod y));have AY:=fun w=>zh (Kl w y);have UR:=fun w=>zh (pK w (x.tmod y) (y.natAbs:Nat) om om);have U1:=fun w=>zh (pK w (x.tdiv y) 1 om (by have:=jY (z:=1) (k:=1) dc;omega));have U2:=fun w=>zh (pK w (x.tdiv y) (-1) om (by have:=jY (z:= -1) (k:=1) dc;omega));have HQV:=zaf x y (decide (x<0)) (decide (y<0)) sm sm;have HRV:=zah x y (decide (x<0)) sm;have HE0:Hid (0≤x.tmod y→x/y=x.tdiv y∧x%y=x.tmod y):=zh fun h=>DV hy0 om;have WB:Hid (x.tmod y<0→(y<0→x/y=x.tdiv y+1∧x%y=x.tmod y+(y.natAbs:Nat))∧(0≤y→x/y=x.tdiv y+ -1∧x%y=x.tmod y+(y.natAbs:Nat))):=zh fun h=>by
  obtain⟨h1,h2⟩:=Lh hy0 h;exact⟨fun h'=>by obtain⟨h3,h4⟩:=h1 h';omega,fun h'=>by obtain⟨h3,h4⟩:=h2 om;omega⟩
 have Nc:Hid (x.tmod y<0↔(x.tmod y).sign<0):=zh (by
  rcases Int.lt_trichotomy (x.tmod y) 0 with h | h | h
  ·rw [Int.sign_eq_neg_one_of_neg h];omega
  ·rw [h];simp
  rw [Int.sign_eq_one_of_pos h];omega)
 have e0:(y.sign==0)=false:=by rw [beq_eq_false_iff_ne];intro h;exact hy0 (Int.sign_eq_zero_iff_zero.1 h)
 obtain⟨bx,S,lx,hbx,hS⟩:=aH x;obtain⟨by',U,ly,hby,hU⟩:=aH y;obtain⟨qb,QS,lq,-,-⟩:=aH (x.tdiv y);obtain⟨rb,RS,lr,-,-⟩:=aH (x.tmod y);obtain⟨ab,AS,qH,-,-⟩:=aH (y.natAbs:Nat);rw [← hS]at LX;rw [← hU]at LY;rw [← hbx,←hby]at HQV;rw [← hbx]at HRV;rw [ly]at SY AY;rw [lr]at SR UR;rw [qH]at AY UR;rw [lq]at U1 U2;rw [lx,ly];have ZU:=zh hby;have HNY:=zh (dD y.natAbs);have lY:=zh (dD x.natAbs);have LQ:=fun w vx vy h1 h2=>zh (qX w vx vy (bV x.natAbs) (bV y.natAbs) h1 h2 lY.out HNY.out hdy0 om om);rw [dh,dh]at LQ;have HQV:=zh (congrArg bG HQV);have HRV:=zh (congrArg bG HRV);rw [lq]at HQV;rw [lr]at HRV;have HLQ:=zh lq;have Qv:=zh lr;clear hx hy hbx hS hby hU lx ly lq lr qH ha hq hr hy0 hdy0;have HDX:=zh hdx;have HDY:=zh hdy;clear hdx hdy;go_enter Tryz.func201,Tryz.ntmps201;go_wp2_with fail;have B0:aL ((((w.alloc (.cells #[.bool bx,.string S] 100)).alloc (.cells #[.bool by',.string U] 100)).alloc (.cells #[.bool false,.string ⟨#[]⟩] 100)).alloc (.cells #[.bool false,.string ⟨#[]⟩] 100)) w.heap.size #[.bool bx,.string S]:=kc;have B1:aL ((((w.alloc (.cells #[.bool bx,.string S] 100)).alloc (.cells #[.bool by',.string U] 100)).alloc (.cells #[.bool false,.string ⟨#[]⟩] 100)).alloc (.cells #[.bool false,.string ⟨#[]⟩] 100)) (w.heap.size+1) #[.bool by',.string U]:=kc;have B4:aL ((((w.alloc (.cells #[.bool bx,.string S] 100)).alloc (.cells #[.bool by',.string U] 100)).alloc (.cells #[.bool false,.string ⟨#[]⟩] 100)).alloc (.cells #[.bool false,.string ⟨#[]⟩] 100)) (w.heap.size+1+1) #[.bool false,.string ⟨#[]⟩]:=kc;have B5:aL ((((w.alloc (.cells #[.bool bx,.string S] 100)).alloc (.cells #[.bool by',.string U] 100)).alloc (.cells #[.bool false,.string ⟨#[]⟩] 100)).alloc (.cells #[.bool false,.string ⟨#[]⟩] 100)) (w.heap.size+1+1+1) #[.bool false,.string ⟨#[]⟩]:=kc;have K0:Hid (Keep au w ((((w.alloc (.cells #[.bool bx,.string S] 100)).alloc (.cells #[.bool by',.string U] 100)).alloc (.cells #[.bool false,.string ⟨#[]⟩] 100)).alloc (.cells #[.bool false,.string ⟨#[]⟩] 100))):=zh kp;generalize (((w.alloc (.cells #[.bool bx,.string S] 100)).alloc (.cells #[.bool by',.string U] 100)).alloc (.cells #[.bool false,.string ⟨#[]⟩] 100)).alloc (.cells #[.bool false,.string ⟨#[]⟩] 100)=w1 at*;have HB0:=zh B0;have HB1:=zh B1;have fC:=zh B4;have dY:=zh B5;clear B0 B1 B4 B5;refine(SY _).out.mono ?_;rintro e w2 ⟨rfl,hk2⟩;have K2:=zh (K0.out.both hk2);have HB0:=zh (HB0.out.keep hk2);have HB1:=zh (HB1.out.keep hk2);have fC:=zh (fC.out.keep hk2);have dY:=zh (dY.out.keep hk2);have h45:w.heap.size+1+1≠w.heap.size+1+1+1:=om;have EG:Hid (w.heap.size≤w.heap.size+1+1):=zh om;have G5:Hid (w.heap.size≤w.heap.size+1+1+1):=zh om;clear hk2 SY;generalize w.heap.size+1+1+1=b5 at *;generalize w.heap.size+1+1=b4 at *;generalize w.heap.size+1=b1 at *;generalize hb0:w.heap.size=b0 at HB0 ⊢;clear hb0;go_wp2;refine aD (fun w'=>Keep au w2 w') [] [([0,2],1),([],3),([],4)] [5,6,7,8,9] kr kr kp ?_;intro X W hne hF hcl;have aY:=zh hcl;have hx0:=fun x=>(HB0.out.keep (hF x)).two;have hx1:=fun x=>(HB1.out.keep (hF x)).two;clear hF hcl;simp only [aW,aJ,zl0,zl1,zl2,aX,Bool.false_eq_true,if_false]
 (repeat(quiet_step (fail)));refine wpQuiet_nil ?_
 refine ay rfl rfl fun K hK=> ?_;go_simp;refine(LX _ _).out.mono ?_;rintro e w3 ⟨v3,rfl,hd3,hk3⟩;have k3:Keep au w2 w3:=Keep.trans kp hk3 fun _ _ _ h=>h;refine hK _ _ ⟨fun _=>aY.out _ k3,?_⟩;clear hK K hk3
 (repeat(quiet_step (fail)));refine wpQuiet_nil ?_
 refine ay rfl rfl fun K hK=> ?_;go_simp;refine(LY _ _).out.mono ?_;rintro e w4 ⟨v4,rfl,hd4,hk4⟩;have k4:=k3.both hk4;refine hK _ _ ⟨fun _=>aY.out _ k4,?_⟩;have hd3:=hd3.keep hk4;clear hK K hk4 k3
 (repeat(quiet_step (fail)));refine wpQuiet_nil ?_
 refine ay rfl rfl fun K hK=> ?_;go_simp;refine(LQ _ _ _ hd3 hd4).out.mono ?_;rintro e w5 ⟨vq,vr,qs,rs,rfl,hk5,hq5,hr5,hvq,WJ,hlq,hlr⟩;have k5:=k4.both hk5;refine hK _ _ ⟨fun _=>aY.out _ k5,?_⟩;have K5:=zh (K2.out.both k5);have HB0:=zh (HB0.out.keep k5);have HB1:=zh (HB1.out.keep k5);have fC:=zh (fC.out.keep k5);have dY:=zh (dY.out.keep k5);have HD1:=zh hq5;have HD2:=zh hr5;have HN1:Hid (qs.length≤20000):=zh (by have:=HDX.out;omega);have Jt:Hid (rs.length≤20000):=zh (by have:=HDX.out;omega);have HV1:Hid (bG (jK (!(bx==by')) (dval qs))= .agg #[.bool qb,.string QS]):=zh (by rw [hvq,←HQV.out];cases bx<;>cases by'<;>rfl);have Li:Hid (bG (jK bx (dval rs))= .agg #[.bool rb,.string RS]):=zh (by rw [WJ];exact HRV.out);clear hK K hk5 k4 hd3 hd4 hq5 hr5 hvq WJ hlq hlr k5 LX LY LQ hx0 hx1 aY
 (repeat(quiet_step (fail)));refine wpQuiet_nil ?_
 refine NoPanic.normal ?_;generalize w5=w0 at *;have J8:=zh fC.out.lt;have Rj:=zh dY.out.lt;have ze2:=zh HB1.out.lt;go_upto_region 4 with fail;go_cut [9,10]from 24 to 51 (fun s t wx=>∃ba bb,s= .pointer (some ⟨ba,0,none⟩)∧t= .pointer (some ⟨bb,0,none⟩)∧Keep au w0 wx∧aL wx ba #[.bool qb,.string QS]∧aL wx bb #[.bool rb,.string RS]∧w0.heap.size≤ba∧w0.heap.size≤bb∧ba≠bb)
 case first=>
  as_aux_lemma=>
   refine Bt (fun w'=>Keep au w0 w') (.three [0,1,2,3,4,5,7,8,9] 6 (.three [] 10 (.two [] 11 (.one [] 12 (.one [] 13 (.one [] 14 (.fin [])))) 12 (.one [] 11 (.one [] 13 (.one [] 14 (.fin []))))) 11 (.two [] 10 (.one [] 12 (.one [] 13 (.one [] 14 (.fin [])))) 12 (.one [] 10 (.one [] 13 (.one [] 14 (.fin []))))) 12 (.two [] 10 (.one [] 11 (.one [] 13 (.one [] 14 (.fin [])))) 11 (.one [] 10 (.one [] 13 (.one [] 14 (.fin [])))))) 11 (.two [] 6 (.two [] 10 (.one [] 12 (.one [] 13 (.one [] 14 (.fin [])))) 12 (.one [] 10 (.one [] 13 (.one [] 14 (.fin []))))) 12 (.one [] 6 (.one [] 10 (.one [] 13 (.one [] 14 (.fin [])))))) 12 (.two [] 6 (.two [] 10 (.one [] 11 (.one [] 13 (.one [] 14 (.fin [])))) 11 (.one [] 10 (.one [] 13 (.one [] 14 (.fin []))))) 11 (.one [] 6 (.one [] 10 (.one [] 13 (.one [] 14 (.fin []))))))) kr kr kp ?_;intro X W hne hF hcl;have aY:=zh hcl;have hx0:=fun x=>(HB0.out.keep (hF x)).two;have hx1:=fun x=>(HB1.out.keep (hF x)).two;clear hF hcl;simp only [mJ,aJ,zl0,zl1,zl2,aX,Bool.false_eq_true,if_false]
   (repeat(quiet_step (fail)));refine wpQuiet_nil ?_
   refine⟨?_,?_,?_⟩
   focus
    refine ay rfl rfl fun K hK=> ?_;go_simp;refine(cO _ _ _ _ (HD1.out.keep kp) HN1.out).mono ?_;rintro e v1 ⟨rfl,hk⟩;have K1:=zh ((show Keep au w0 _ from kp).both hk);rw [HV1.out];refine hK _ _ ⟨aY.out _ K1.out,?_⟩;clear hK K hk
    (repeat(quiet_step (fail)));refine wpQuiet_nil ?_
    refine⟨?_,?_,?_⟩
    focus
     refine ay rfl rfl fun K hK=> ?_;go_simp;refine(cO _ _ _ _ (HD2.out.keep K1.out) Jt.out).mono ?_;rintro e v2 ⟨rfl,hk⟩;have K2:=zh ((show Keep au w0 _ from K1.out).both hk);rw [Li.out];refine hK _ _ ⟨aY.out _ K2.out,?_⟩;clear hK K hk
     (repeat(quiet_step (fail)));refine wpQuiet_nil ?_
     refine⟨?_,?_⟩
     focus
      refine ay rfl rfl fun K hK=> ?_;go_simp;have k3:Keep au w0 (v2.alloc (.cells #[.bool false,.string ⟨#[]⟩] 100)):=K2.out.alloc _;refine hK _ _ ⟨aY.out _ k3,?_⟩;have gF:Hid (aL (v2.alloc (.cells #[.bool false,.string ⟨#[]⟩] 100)) v2.heap.size #[.bool false,.string ⟨#[]⟩]):=zh (aN _ _ rfl);have K3:=zh k3;clear hK K k3;obtain⟨ba,hba⟩:∃b,b=v2.heap.size:=⟨_,rfl⟩;have UE:Hid (w0.heap.size≤ba):=zh (by rw [hba];exact K2.out.size);rw [← hba]at gF ⊢;clear hba;generalize v2.alloc (.cells #[.bool false,.string ⟨#[]⟩] 100)=v3 at*
      (repeat(quiet_step (fail)));refine wpQuiet_nil ?_
      refine ay rfl rfl fun K hK=> ?_;go_simp;have k4:Keep au w0 (v3.alloc (.cells #[.bool false,.string ⟨#[]⟩] 100)):=K3.out.alloc _;refine hK _ _ ⟨aY.out _ k4,?_⟩;have gG:Hid (aL (v3.alloc (.cells #[.bool false,.string ⟨#[]⟩] 100)) v3.heap.size #[.bool false,.string ⟨#[]⟩]):=zh (aN _ _ rfl);have K4:=zh k4;have kZ:Hid (ba≠v3.heap.size):=zh (by have:=gF.out.lt;omega);have gF:=zh (gF.out.old (.cells #[.bool false,.string ⟨#[]⟩] 100));clear hK K k4;obtain⟨bb,hbb⟩:∃b,b=v3.heap.size:=⟨_,rfl⟩;have UF:Hid (w0.heap.size≤bb):=zh (by rw [hbb];exact K3.out.size);rw [← hbb]at gG kZ ⊢;clear hbb
     rotate_left
     focus
      refine ay rfl rfl fun K hK=> ?_;go_simp;have k3:Keep au w0 (v2.alloc (.cells #[.bool false,.string ⟨#[]⟩] 100)):=K2.out.alloc _;refine hK _ _ ⟨aY.out _ k3,?_⟩;have gG:Hid (aL (v2.alloc (.cells #[.bool false,.string ⟨#[]⟩] 100)) v2.heap.size #[.bool false,.string ⟨#[]⟩]):=zh (aN _ _ rfl);have K3:=zh k3;clear hK K k3;obtain⟨bb,hbb⟩:∃b,b=v2.heap.size:=⟨_,rfl⟩;have UF:Hid (w0.heap.size≤bb):=zh (by rw [hbb];exact K2.out.size);rw [← hbb]at gG ⊢;clear hbb;generalize v2.alloc (.cells #[.bool false,.string ⟨#[]⟩] 100)=v3 at*
      (repeat(quiet_step (fail)));refine wpQuiet_nil ?_
      refine ay rfl rfl fun K hK=> ?_;go_simp;have k4:Keep au w0 (v3.alloc (.cells #[.bool false,.string ⟨#[]⟩] 100)):=K3.out.alloc _;refine hK _ _ ⟨aY.out _ k4,?_⟩;have gF:Hid (aL (v3.alloc (.cells #[.bool false,.string ⟨#[]⟩] 100)) v3.heap.size #[.bool false,.string ⟨#[]⟩]):=zh (aN _ _ rfl);have K4:=zh k4;have kZ:Hid (v3.heap.size≠bb):=zh (by have:=gG.out.lt;omega);have gG:=zh (gG.out.old (.cells #[.bool false,.string ⟨#[]⟩] 100));clear hK K k4;obtain⟨ba,hba⟩:∃b,b=v3.heap.size:=⟨_,rfl⟩;have UE:Hid (w0.heap.size≤ba):=zh (by rw [hba];exact K3.out.size);rw [← hba]at gF kZ ⊢;clear hba
     rotate_left
     all_goals
      generalize v3.alloc (.cells #[.bool false,.string ⟨#[]⟩] 100)=v4 at*
    rotate_left 2
    focus
     refine ay rfl rfl fun K hK=> ?_;go_simp;have k2:Keep au w0 (v1.alloc (.cells #[.bool false,.string ⟨#[]⟩] 100)):=K1.out.alloc _;refine hK _ _ ⟨aY.out _ k2,?_⟩;have gF:Hid (aL (v1.alloc (.cells #[.bool false,.string ⟨#[]⟩] 100)) v1.heap.size #[.bool false,.string ⟨#[]⟩]):=zh (aN _ _ rfl);have K2:=zh k2;clear hK K k2;obtain⟨ba,hba⟩:∃b,b=v1.heap.size:=⟨_,rfl⟩;have UE:Hid (w0.heap.size≤ba):=zh (by rw [hba];exact K1.out.size);rw [← hba]at gF ⊢;clear hba;generalize v1.alloc (.cells #[.bool false,.string ⟨#[]⟩] 100)=v2 at*
     (repeat(quiet_step (fail)));refine wpQuiet_nil ?_
     refine⟨?_,?_⟩
     focus
      refine ay rfl rfl fun K hK=> ?_;go_simp;refine(cO _ _ _ _ (HD2.out.keep K2.out) Jt.out).mono ?_;rintro e v3 ⟨rfl,hk⟩;have K3:=zh ((show Keep au w0 _ from K2.out).both hk);rw [Li.out];have gF:=zh (gF.out.keep hk);refine hK _ _ ⟨aY.out _ K3.out,?_⟩;clear hK K hk
      (repeat(quiet_step (fail)));refine wpQuiet_nil ?_
      refine ay rfl rfl fun K hK=> ?_;go_simp;have k4:Keep au w0 (v3.alloc (.cells #[.bool false,.string ⟨#[]⟩] 100)):=K3.out.alloc _;refine hK _ _ ⟨aY.out _ k4,?_⟩;have gG:Hid (aL (v3.alloc (.cells #[.bool false,.string ⟨#[]⟩] 100)) v3.heap.size #[.bool false,.string ⟨#[]⟩]):=zh (aN _ _ rfl);have K4:=zh k4;have kZ:Hid (ba≠v3.heap.size):=zh (by have:=gF.out.lt;omega);have gF:=zh (gF.out.old (.cells #[.bool false,.string ⟨#[]⟩] 100));clear hK K k4;obtain⟨bb,hbb⟩:∃b,b=v3.heap.size:=⟨_,rfl⟩;have UF:Hid (w0.heap.size≤bb):=zh (by rw [hbb];exact K3.out.size);rw [← hbb]at gG kZ ⊢;clear hbb;generalize v3.alloc (.cells #[.bool false,.string ⟨#[]⟩] 100)=v4 at*
     rotate_left
     focus
      refine ay rfl rfl fun K hK=> ?_;go_simp;have k3:Keep au w0 (v2.alloc (.cells #[.bool false,.string ⟨#[]⟩] 100)):=K2.out.alloc _;refine hK _ _ ⟨aY.out _ k3,?_⟩;have gG:Hid (aL (v2.alloc (.cells #[.bool false,.string ⟨#[]⟩] 100)) v2.heap.size #[.bool false,.string ⟨#[]⟩]):=zh (aN _ _ rfl);have K3:=zh k3;have kZ:Hid (ba≠v2.heap.size):=zh (by have:=gF.out.lt;omega);have gF:=zh (gF.out.old (.cells #[.bool false,.string ⟨#[]⟩] 100));clear hK K k3;obtain⟨bb,hbb⟩:∃b,b=v2.heap.size:=⟨_,rfl⟩;have UF:Hid (w0.heap.size≤bb):=zh (by rw [hbb];exact K2.out.size);rw [← hbb]at gG kZ ⊢;clear hbb;generalize v2.alloc (.cells #[.bool false,.string ⟨#[]⟩] 100)=v3 at*
      (repeat(quiet_step (fail)));refine wpQuiet_nil ?_
      refine ay rfl rfl fun K hK=> ?_;go_simp;refine(cO _ _ _ _ (HD2.out.keep K3.out) Jt.out).mono ?_;rintro e v4 ⟨rfl,hk⟩;have K4:=zh ((show Keep au w0 _ from K3.out).both hk);rw [Li.out];have gF:=zh (gF.out.keep hk);have gG:=zh (gG.out.keep hk);refine hK _ _ ⟨aY.out _ K4.out,?_⟩;clear hK K hk
     rotate_left
    rotate_left 2
    focus
     refine ay rfl rfl fun K hK=> ?_;go_simp;have k2:Keep au w0 (v1.alloc (.cells #[.bool false,.string ⟨#[]⟩] 100)):=K1.out.alloc _;refine hK _ _ ⟨aY.out _ k2,?_⟩;have gG:Hid (aL (v1.alloc (.cells #[.bool false,.string ⟨#[]⟩] 100)) v1.heap.size #[.bool false,.string ⟨#[]⟩]):=zh (aN _ _ rfl);have K2:=zh k2;clear hK K k2;obtain⟨bb,hbb⟩:∃b,b=v1.heap.size:=⟨_,rfl⟩;have UF:Hid (w0.heap.size≤bb):=zh (by rw [hbb];exact K1.out.size);rw [← hbb]at gG ⊢;clear hbb;generalize v1.alloc (.cells #[.bool false,.string ⟨#[]⟩] 100)=v2 at*
     (repeat(quiet_step (fail)));refine wpQuiet_nil ?_
     refine⟨?_,?_⟩
     focus
      refine ay rfl rfl fun K hK=> ?_;go_simp;refine(cO _ _ _ _ (HD2.out.keep K2.out) Jt.out).mono ?_;rintro e v3 ⟨rfl,hk⟩;have K3:=zh ((show Keep au w0 _ from K2.out).both hk);rw [Li.out];have gG:=zh (gG.out.keep hk);refine hK _ _ ⟨aY.out _ K3.out,?_⟩;clear hK K hk
      (repeat(quiet_step (fail)));refine wpQuiet_nil ?_
      refine ay rfl rfl fun K hK=> ?_;go_simp;have k4:Keep au w0 (v3.alloc (.cells #[.bool false,.string ⟨#[]⟩] 100)):=K3.out.alloc _;refine hK _ _ ⟨aY.out _ k4,?_⟩;have gF:Hid (aL (v3.alloc (.cells #[.bool false,.string ⟨#[]⟩] 100)) v3.heap.size #[.bool false,.string ⟨#[]⟩]):=zh (aN _ _ rfl);have K4:=zh k4;have kZ:Hid (v3.heap.size≠bb):=zh (by have:=gG.out.lt;omega);have gG:=zh (gG.out.old (.cells #[.bool false,.string ⟨#[]⟩] 100));clear hK K k4;obtain⟨ba,hba⟩:∃b,b=v3.heap.size:=⟨_,rfl⟩;have UE:Hid (w0.heap.size≤ba):=zh (by rw [hba];exact K3.out.size);rw [← hba]at gF kZ ⊢;clear hba;generalize v3.alloc (.cells #[.bool false,.string ⟨#[]⟩] 100)=v4 at*
     rotate_left
     focus
      refine ay rfl rfl fun K hK=> ?_;go_simp;have k3:Keep au w0 (v2.alloc (.cells #[.bool false,.string ⟨#[]⟩] 100)):=K2.out.alloc _;refine hK _ _ ⟨aY.out _ k3,?_⟩;have gF:Hid (aL (v2.alloc (.cells #[.bool false,.string ⟨#[]⟩] 100)) v2.heap.size #[.bool false,.string ⟨#[]⟩]):=zh (aN _ _ rfl);have K3:=zh k3;have kZ:Hid (v2.heap.size≠bb):=zh (by have:=gG.out.lt;omega);have gG:=zh (gG.out.old (.cells #[.bool false,.string ⟨#[]⟩] 100));clear hK K k3;obtain⟨ba,hba⟩:∃b,b=v2.heap.size:=⟨_,rfl⟩;have UE:Hid (w0.heap.size≤ba):=zh (by rw [hba];exact K2.out.size);rw [← hba]at gF kZ ⊢;clear hba;generalize v2.alloc (.cells #[.bool false,.string ⟨#[]⟩] 100)=v3 at*
      (repeat(quiet_step (fail)));refine wpQuiet_nil ?_
      refine ay rfl rfl fun K hK=> ?_;go_simp;refine(cO _ _ _ _ (HD2.out.keep K3.out) Jt.out).mono ?_;rintro e v4 ⟨rfl,hk⟩;have K4:=zh ((show Keep au w0 _ from K3.out).both hk);rw [Li.out];have gF:=zh (gF.out.keep hk);have gG:=zh (gG.out.keep hk);refine hK _ _ ⟨aY.out _ K4.out,?_⟩;clear hK K hk
     rotate_left
    rotate_left 2
   rotate_left 6
   focus
    refine ay rfl rfl fun K hK=> ?_;go_simp;have k1:Keep au w0 ((w0.alloc (.cells #[.bool false,.string ⟨#[]⟩] 100)).drew):=kp;refine hK _ _ ⟨aY.out _ k1,?_⟩;have gF:Hid (aL ((w0.alloc (.cells #[.bool false,.string ⟨#[]⟩] 100)).drew) w0.heap.size #[.bool false,.string ⟨#[]⟩]):=zh ((aN _ _ rfl).keep (Keep.refl _ _).drew);have K1:=zh k1;clear hK K k1;obtain⟨ba,hba⟩:∃b,b=w0.heap.size:=⟨_,rfl⟩;have UE:Hid (w0.heap.size≤ba):=zh (by rw [hba];exact Nat.le_refl _);rw [← hba]at gF ⊢;clear hba;generalize (w0.alloc (.cells #[.bool false,.string ⟨#[]⟩] 100)).drew=v1 at*
    (repeat(quiet_step (fail)));refine wpQuiet_nil ?_
    refine⟨?_,?_⟩
    focus
     refine ay rfl rfl fun K hK=> ?_;go_simp;refine(cO _ _ _ _ (HD1.out.keep K1.out) HN1.out).mono ?_;rintro e v2 ⟨rfl,hk⟩;have K2:=zh ((show Keep au w0 _ from K1.out).both hk);rw [HV1.out];have gF:=zh (gF.out.keep hk);refine hK _ _ ⟨aY.out _ K2.out,?_⟩;clear hK K hk
     (repeat(quiet_step (fail)));refine wpQuiet_nil ?_
     refine⟨?_,?_⟩
     focus
      refine ay rfl rfl fun K hK=> ?_;go_simp;refine(cO _ _ _ _ (HD2.out.keep K2.out) Jt.out).mono ?_;rintro e v3 ⟨rfl,hk⟩;have K3:=zh ((show Keep au w0 _ from K2.out).both hk);rw [Li.out];have gF:=zh (gF.out.keep hk);refine hK _ _ ⟨aY.out _ K3.out,?_⟩;clear hK K hk
      (repeat(quiet_step (fail)));refine wpQuiet_nil ?_
      refine ay rfl rfl fun K hK=> ?_;go_simp;have k4:Keep au w0 (v3.alloc (.cells #[.bool false,.string ⟨#[]⟩] 100)):=K3.out.alloc _;refine hK _ _ ⟨aY.out _ k4,?_⟩;have gG:Hid (aL (v3.alloc (.cells #[.bool false,.string ⟨#[]⟩] 100)) v3.heap.size #[.bool false,.string ⟨#[]⟩]):=zh (aN _ _ rfl);have K4:=zh k4;have kZ:Hid (ba≠v3.heap.size):=zh (by have:=gF.out.lt;omega);have gF:=zh (gF.out.old (.cells #[.bool false,.string ⟨#[]⟩] 100));clear hK K k4;obtain⟨bb,hbb⟩:∃b,b=v3.heap.size:=⟨_,rfl⟩;have UF:Hid (w0.heap.size≤bb):=zh (by rw [hbb];exact K3.out.size);rw [← hbb]at gG kZ ⊢;clear hbb;generalize v3.alloc (.cells #[.bool false,.string ⟨#[]⟩] 100)=v4 at*
     rotate_left
     focus
      refine ay rfl rfl fun K hK=> ?_;go_simp;have k3:Keep au w0 (v2.alloc (.cells #[.bool false,.string ⟨#[]⟩] 100)):=K2.out.alloc _;refine hK _ _ ⟨aY.out _ k3,?_⟩;have gG:Hid (aL (v2.alloc (.cells #[.bool false,.string ⟨#[]⟩] 100)) v2.heap.size #[.bool false,.string ⟨#[]⟩]):=zh (aN _ _ rfl);have K3:=zh k3;have kZ:Hid (ba≠v2.heap.size):=zh (by have:=gF.out.lt;omega);have gF:=zh (gF.out.old (.cells #[.bool false,.string ⟨#[]⟩] 100));clear hK K k3;obtain⟨bb,hbb⟩:∃b,b=v2.heap.size:=⟨_,rfl⟩;have UF:Hid (w0.heap.size≤bb):=zh (by rw [hbb];exact K2.out.size);rw [← hbb]at gG kZ ⊢;clear hbb;generalize v2.alloc (.cells #[.bool false,.string ⟨#[]⟩] 100)=v3 at*
      (repeat(quiet_step (fail)));refine wpQuiet_nil ?_
      refine ay rfl rfl fun K hK=> ?_;go_simp;refine(cO _ _ _ _ (HD2.out.keep K3.out) Jt.out).mono ?_;rintro e v4 ⟨rfl,hk⟩;have K4:=zh ((show Keep au w0 _ from K3.out).both hk);rw [Li.out];have gF:=zh (gF.out.keep hk);have gG:=zh (gG.out.keep hk);refine hK _ _ ⟨aY.out _ K4.out,?_⟩;clear hK K hk
     rotate_left
    rotate_left 2
    focus
     refine ay rfl rfl fun K hK=> ?_;go_simp;have k2:Keep au w0 (v1.alloc (.cells #[.bool false,.string ⟨#[]⟩] 100)):=K1.out.alloc _;refine hK _ _ ⟨aY.out _ k2,?_⟩;have gG:Hid (aL (v1.alloc (.cells #[.bool false,.string ⟨#[]⟩] 100)) v1.heap.size #[.bool false,.string ⟨#[]⟩]):=zh (aN _ _ rfl);have K2:=zh k2;have kZ:Hid (ba≠v1.heap.size):=zh (by have:=gF.out.lt;omega);have gF:=zh (gF.out.old (.cells #[.bool false,.string ⟨#[]⟩] 100));clear hK K k2;obtain⟨bb,hbb⟩:∃b,b=v1.heap.size:=⟨_,rfl⟩;have UF:Hid (w0.heap.size≤bb):=zh (by rw [hbb];exact K1.out.size);rw [← hbb]at gG kZ ⊢;clear hbb;generalize v1.alloc (.cells #[.bool false,.string ⟨#[]⟩] 100)=v2 at*
     (repeat(quiet_step (fail)));refine wpQuiet_nil ?_
     refine ay rfl rfl fun K hK=> ?_;go_simp;refine(cO _ _ _ _ (HD1.out.keep K2.out) HN1.out).mono ?_;rintro e v3 ⟨rfl,hk⟩;have K3:=zh ((show Keep au w0 _ from K2.out).both hk);rw [HV1.out];have gF:=zh (gF.out.keep hk);have gG:=zh (gG.out.keep hk);refine hK _ _ ⟨aY.out _ K3.out,?_⟩;clear hK K hk
     (repeat(quiet_step (fail)));refine wpQuiet_nil ?_
     refine ay rfl rfl fun K hK=> ?_;go_simp;refine(cO _ _ _ _ (HD2.out.keep K3.out) Jt.out).mono ?_;rintro e v4 ⟨rfl,hk⟩;have K4:=zh ((show Keep au w0 _ from K3.out).both hk);rw [Li.out];have gF:=zh (gF.out.keep hk);have gG:=zh (gG.out.keep hk);refine hK _ _ ⟨aY.out _ K4.out,?_⟩;clear hK K hk
    rotate_left
   rotate_left 3
   focus
    refine ay rfl rfl fun K hK=> ?_;go_simp;have k1:Keep au w0 ((w0.alloc (.cells #[.bool false,.string ⟨#[]⟩] 100)).drew):=kp;refine hK _ _ ⟨aY.out _ k1,?_⟩;have gG:Hid (aL ((w0.alloc (.cells #[.bool false,.string ⟨#[]⟩] 100)).drew) w0.heap.size #[.bool false,.string ⟨#[]⟩]):=zh ((aN _ _ rfl).keep (Keep.refl _ _).drew);have K1:=zh k1;clear hK K k1;obtain⟨bb,hbb⟩:∃b,b=w0.heap.size:=⟨_,rfl⟩;have UF:Hid (w0.heap.size≤bb):=zh (by rw [hbb];exact Nat.le_refl _);rw [← hbb]at gG ⊢;clear hbb;generalize (w0.alloc (.cells #[.bool false,.string ⟨#[]⟩] 100)).drew=v1 at*
    (repeat(quiet_step (fail)));refine wpQuiet_nil ?_
    refine⟨?_,?_⟩
    focus
     refine ay rfl rfl fun K hK=> ?_;go_simp;refine(cO _ _ _ _ (HD1.out.keep K1.out) HN1.out).mono ?_;rintro e v2 ⟨rfl,hk⟩;have K2:=zh ((show Keep au w0 _ from K1.out).both hk);rw [HV1.out];have gG:=zh (gG.out.keep hk);refine hK _ _ ⟨aY.out _ K2.out,?_⟩;clear hK K hk
     (repeat(quiet_step (fail)));refine wpQuiet_nil ?_
     refine⟨?_,?_⟩
     focus
      refine ay rfl rfl fun K hK=> ?_;go_simp;refine(cO _ _ _ _ (HD2.out.keep K2.out) Jt.out).mono ?_;rintro e v3 ⟨rfl,hk⟩;have K3:=zh ((show Keep au w0 _ from K2.out).both hk);rw [Li.out];have gG:=zh (gG.out.keep hk);refine hK _ _ ⟨aY.out _ K3.out,?_⟩;clear hK K hk
      (repeat(quiet_step (fail)));refine wpQuiet_nil ?_
      refine ay rfl rfl fun K hK=> ?_;go_simp;have k4:Keep au w0 (v3.alloc (.cells #[.bool false,.string ⟨#[]⟩] 100)):=K3.out.alloc _;refine hK _ _ ⟨aY.out _ k4,?_⟩;have gF:Hid (aL (v3.alloc (.cells #[.bool false,.string ⟨#[]⟩] 100)) v3.heap.size #[.bool false,.string ⟨#[]⟩]):=zh (aN _ _ rfl);have K4:=zh k4;have kZ:Hid (v3.heap.size≠bb):=zh (by have:=gG.out.lt;omega);have gG:=zh (gG.out.old (.cells #[.bool false,.string ⟨#[]⟩] 100));clear hK K k4;obtain⟨ba,hba⟩:∃b,b=v3.heap.size:=⟨_,rfl⟩;have UE:Hid (w0.heap.size≤ba):=zh (by rw [hba];exact K3.out.size);rw [← hba]at gF kZ ⊢;clear hba;generalize v3.alloc (.cells #[.bool false,.string ⟨#[]⟩] 100)=v4 at*
     rotate_left
     focus
      refine ay rfl rfl fun K hK=> ?_;go_simp;have k3:Keep au w0 (v2.alloc (.cells #[.bool false,.string ⟨#[]⟩] 100)):=K2.out.alloc _;refine hK _ _ ⟨aY.out _ k3,?_⟩;have gF:Hid (aL (v2.alloc (.cells #[.bool false,.string ⟨#[]⟩] 100)) v2.heap.size #[.bool false,.string ⟨#[]⟩]):=zh (aN _ _ rfl);have K3:=zh k3;have kZ:Hid (v2.heap.size≠bb):=zh (by have:=gG.out.lt;omega);have gG:=zh (gG.out.old (.cells #[.bool false,.string ⟨#[]⟩] 100));clear hK K k3;obtain⟨ba,hba⟩:∃b,b=v2.heap.size:=⟨_,rfl⟩;have UE:Hid (w0.heap.size≤ba):=zh (by rw [hba];exact K2.out.size);rw [← hba]at gF kZ ⊢;clear hba;generalize v2.alloc (.cells #[.bool false,.string ⟨#[]⟩] 100)=v3 at*
      (repeat(quiet_step (fail)));refine wpQuiet_nil ?_
      refine ay rfl rfl fun K hK=> ?_;go_simp;refine(cO _ _ _ _ (HD2.out.keep K3.out) Jt.out).mono ?_;rintro e v4 ⟨rfl,hk⟩;have K4:=zh ((show Keep au w0 _ from K3.out).both hk);rw [Li.out];have gF:=zh (gF.out.keep hk);have gG:=zh (gG.out.keep hk);refine hK _ _ ⟨aY.out _ K4.out,?_⟩;clear hK K hk
     rotate_left
    rotate_left 2
    focus
     refine ay rfl rfl fun K hK=> ?_;go_simp;have k2:Keep au w0 (v1.alloc (.cells #[.bool false,.string ⟨#[]⟩] 100)):=K1.out.alloc _;refine hK _ _ ⟨aY.out _ k2,?_⟩;have gF:Hid (aL (v1.alloc (.cells #[.bool false,.string ⟨#[]⟩] 100)) v1.heap.size #[.bool false,.string ⟨#[]⟩]):=zh (aN _ _ rfl);have K2:=zh k2;have kZ:Hid (v1.heap.size≠bb):=zh (by have:=gG.out.lt;omega);have gG:=zh (gG.out.old (.cells #[.bool false,.string ⟨#[]⟩] 100));clear hK K k2;obtain⟨ba,hba⟩:∃b,b=v1.heap.size:=⟨_,rfl⟩;have UE:Hid (w0.heap.size≤ba):=zh (by rw [hba];exact K1.out.size);rw [← hba]at gF kZ ⊢;clear hba;generalize v1.alloc (.cells #[.bool false,.string ⟨#[]⟩] 100)=v2 at*
     (repeat(quiet_step (fail)));refine wpQuiet_nil ?_
     refine ay rfl rfl fun K hK=> ?_;go_simp;refine(cO _ _ _ _ (HD1.out.keep K2.out) HN1.out).mono ?_;rintro e v3 ⟨rfl,hk⟩;have K3:=zh ((show Keep au w0 _ from K2.out).both hk);rw [HV1.out];have gF:=zh (gF.out.keep hk);have gG:=zh (gG.out.keep hk);refine hK _ _ ⟨aY.out _ K3.out,?_⟩;clear hK K hk
     (repeat(quiet_step (fail)));refine wpQuiet_nil ?_
     refine ay rfl rfl fun K hK=> ?_;go_simp;refine(cO _ _ _ _ (HD2.out.keep K3.out) Jt.out).mono ?_;rintro e v4 ⟨rfl,hk⟩;have K4:=zh ((show Keep au w0 _ from K3.out).both hk);rw [Li.out];have gF:=zh (gF.out.keep hk);have gG:=zh (gG.out.keep hk);refine hK _ _ ⟨aY.out _ K4.out,?_⟩;clear hK K hk
    rotate_left
   rotate_left
   all_goals
    all_goals
     (repeat(quiet_step (fail)));refine wpQuiet_nil ?_
     obtain⟨ra0,ra1,fa0,fa1,ral⟩:=gF.out.two;refine ay rfl rfl fun K hK=> ?_;go_simp;have K5:=zh (dw K4.out UE.out (.bool qb) (.string QS));refine hK _ _ ⟨aY.out _ K5.out,?_⟩;have gF:=zh (gF.out.set2 (.bool qb) (.string QS));have gG:=zh (gG.out.other2 (fun h=>kZ.out h.symm) (.bool qb) (.string QS));clear hK K ra0 ra1 fa0 fa1 ral;generalize (v4.setCell ⟨ba,0,none⟩ (.bool qb)).setCell ⟨ba,1,none⟩ (.string QS)=v5 at*
     (repeat(quiet_step (fail)));refine wpQuiet_nil ?_
     obtain⟨rb0,rb1,fb0,fb1,rbl⟩:=gG.out.two;refine ay rfl rfl fun K hK=> ?_;go_simp;have K6:=zh (dw K5.out UF.out (.bool rb) (.string RS));refine hK _ _ ⟨aY.out _ K6.out,?_⟩;have gG:=zh (gG.out.set2 (.bool rb) (.string RS));have gF:=zh (gF.out.other2 (fun h=>kZ.out h) (.bool rb) (.string RS));clear hK K rb0 rb1 fb0 fb1 rbl;generalize (v5.setCell ⟨bb,0,none⟩ (.bool rb)).setCell ⟨bb,1,none⟩ (.string RS)=v6 at*
     (repeat(quiet_step (fail)));refine wpQuiet_nil ?_
     refine NoPanic.normal ?_;go_wp2_with fail;go_meet;exact⟨ba,bb,rfl,rfl,K6.out,gF.out,gG.out,UE.out,UF.out,kZ.out⟩
 as_aux_lemma=>
  obtain⟨ba,bb,rfl,rfl,hk6,hba,hbb,hga,hgb,hne⟩:=hcut;obtain⟨w6,hw6⟩:∃W:World,W=wc:=⟨_,rfl⟩;rw [← hw6]at hk6 hba hbb ⊢;clear hw6;have K6:=zh (K5.out.both hk6);have HB1:=zh (HB1.out.keep hk6);have fC:=zh (fC.out.keep hk6);have dY:=zh (dY.out.keep hk6);have gF:=zh hba;have gG:=zh hbb;have kZ:=zh hne;have UE:Hid (w.heap.size≤ba):=zh (Nat.le_trans K5.out.size hga);have UF:Hid (w.heap.size≤bb):=zh (Nat.le_trans K5.out.size hgb);have ze3:Hid (b1≠bb):=zh (fun h=>by have:=ze2.out;omega);have HD4:Hid (b4≠ba∧b4≠bb∧b5≠ba∧b5≠bb):=zh ⟨fun h=>by have:=J8.out;omega,fun h=>by have:=J8.out;omega,fun h=>by have:=Rj.out;omega,fun h=>by have:=Rj.out;omega⟩;clear hk6 hba hbb hne hga hgb;obtain⟨rb0,rb1,fb0,fb1,rbl⟩:=gG.out.two;go_wp2_with fail;refine(SR _).out.mono ?_;rintro e w7 ⟨rfl,hk7⟩;have K7:=zh (K6.out.both hk7);have HB1:=zh (HB1.out.keep hk7);have fC:=zh (fC.out.keep hk7);have dY:=zh (dY.out.keep hk7);have gF:=zh (gF.out.keep hk7);have gG:=zh (gG.out.keep hk7);clear hk7 rb0 rb1 fb0 fb1 rbl SR;go_upto_if 37 with fail;go_cut [1,11,19,37]from 38 to 51 (fun s1 s11 s19 s37 wx=>∃tb TS sb SS,s1= .agg #[.bool by',.string U]∧s11= .agg #[.bool by',.string U]∧s19= .agg #[.bool by',.string U]∧bG (x/y)= .agg #[.bool tb,.string TS]∧bG (x%y)= .agg #[.bool sb,.string SS]∧Keep au w wx∧aL wx ba #[.bool tb,.string TS]∧aL wx bb #[.bool sb,.string SS]∧aL wx b4 #[.bool false,.string ⟨#[]⟩]∧aL wx b5 #[.bool false,.string ⟨#[]⟩])
  case rest=>
   obtain⟨tb,TS,sb,SS,rfl,rfl,rfl,lq',lr',hk12,hba,hbb,hb4,hb5⟩:=hcut;obtain⟨w12,hw12⟩:∃W:World,W=wc:=⟨_,rfl⟩;rw [← hw12]at hk12 hba hbb hb4 hb5 ⊢;have gF:=zh hba;have gG:=zh hbb;have fC:=zh hb4;have dY:=zh hb5;have Rm:=zh hk12;have zb1:=zh lq';have zb2:=zh lr';clear hk12 hba hbb hb4 hb5 lq' lr' hw12 UR U1 U2 AY HB1;go_wp2;obtain⟨A0,A1,_,_,Al⟩:=gF.out.two;obtain⟨C0,C1,_,_,Cl⟩:=gG.out.two;obtain⟨g40,g41,f40,f41,l4⟩:=fC.out.two;obtain⟨g50,g51,f50,f51,l5⟩:=dY.out.two;refine aD (fun w'=>Keep (MU b4 b5) w12 w') [] [([0,1],2),([],3)] [4] kr kr (Keep.refl _ _).drew ?_;intro X W hne hF hcl;have aY:=zh hcl;have hx0:=fun x=>(gF.out.keep2 (hF x) HD4.out.1.symm HD4.out.2.2.1.symm).two;have hx1:=fun x=>(gG.out.keep2 (hF x) HD4.out.2.1.symm HD4.out.2.2.2.symm).two;clear hF hcl;simp only [aW,aJ,zl0,zl1,zl2,aX,Bool.false_eq_true,if_false]
   (repeat(quiet_step (fail)));refine wpQuiet_nil ?_
   refine ay rfl rfl fun K hK=> ?_;go_simp;have kk1:Keep (MU b4 b5) w12 ((w12.setCell ⟨b4,0,none⟩ (.bool tb)).setCell ⟨b4,1,none⟩ (.string TS)).drew:=(Gb (Keep.refl _ _) (.inl rfl) _ _).drew;refine hK _ _ ⟨fun _=>aY.out _ kk1,?_⟩;have J8:Hid (aL ((w12.setCell ⟨b4,0,none⟩ (.bool tb)).setCell ⟨b4,1,none⟩ (.string TS)).drew b4 #[.bool tb,.string TS]):=zh ((fC.out.set2 (.bool tb) (.string TS)).keep (Keep.refl au _).drew);have dY:Hid (aL ((w12.setCell ⟨b4,0,none⟩ (.bool tb)).setCell ⟨b4,1,none⟩ (.string TS)).drew b5 #[.bool false,.string ⟨#[]⟩]):=zh ((dY.out.other2 (fun h=>h45 h.symm) (.bool tb) (.string TS)).keep (Keep.refl au _).drew);have JF:Hid (Keep au w ((w12.setCell ⟨b4,0,none⟩ (.bool tb)).setCell ⟨b4,1,none⟩ (.string TS)).drew):=zh (dw Rm.out EG.out (.bool tb) (.string TS)).drew;clear hK K A0 A1 Al C0 C1 Cl g40 g41 f40 f41 l4 g50 g51 f50 f51 l5;generalize ((w12.setCell ⟨b4,0,none⟩ (.bool tb)).setCell ⟨b4,1,none⟩ (.string TS)).drew=w13 at *;obtain⟨g50,g51,f50,f51,l5⟩:=dY.out.two
   (repeat(quiet_step (fail)));refine wpQuiet_nil ?_
   refine ay rfl rfl fun K hK=> ?_;go_simp;refine hK _ _ ⟨fun _=>aY.out _ (Gb kk1 (.inr rfl) _ _),?_⟩;have Rj:=zh (dY.out.set2 (.bool sb) (.string SS));have J8:=zh (J8.out.other2 h45 (.bool sb) (.string SS));have K14:=zh (dw JF.out G5.out (.bool sb) (.string SS));clear hK K g50 g51 f50 f51 l5;generalize (w13.setCell ⟨b5,0,none⟩ (.bool sb)).setCell ⟨b5,1,none⟩ (.string SS)=w14 at*
   (repeat(quiet_step (fail)));refine wpQuiet_nil ?_
   refine NoPanic.normal ?_;obtain⟨g40,g41,f40,f41,l4⟩:=J8.out.two;obtain⟨g50,g51,f50,f51,l5⟩:=Rj.out.two;go_wp2;refine bodyPost_ret (by simp [results,Tryz.results201,go_sem,g40,g41,l4,g50,g51,l5];rfl) rfl ?_;exact⟨by rw [zb1.out,zb2.out],K14.out⟩
  by_cases hneg:x.tmod y<0
  ·have e1:decide ((x.tmod y).sign<0)=true:=decide_eq_true (Nc.out.1 hneg);have HE:=zh (WB.out hneg);go_wp2;refine aD (fun w'=>Keep au w7 w') [4] [([0,1],2),([],3),([],4)] [] kr kr kp ?_;intro X W hne hF hcl;have aY:=zh hcl;have hx0:=fun x=>(HB1.out.keep (hF x)).two;have hx1:=fun x=>(gG.out.keep (hF x)).two;clear hF hcl;simp only [aW,aJ,zl0,zl1,zl2,aX,Bool.false_eq_true,if_false]
   (repeat(quiet_step (fail)));refine wpQuiet_nil ?_
   refine ay rfl rfl fun K hK=> ?_;go_simp;refine(AY _).out.mono ?_;rintro e w8 ⟨rfl,hk8⟩;have k8:Keep au w7 w8:=Keep.trans kp hk8 fun _ _ _ h=>h;refine hK _ _ ⟨fun _=>aY.out _ k8,?_⟩;clear hK K hk8
   (repeat(quiet_step (fail)));refine wpQuiet_nil ?_
   refine ay rfl rfl fun K hK=> ?_;go_simp;refine(UR _).out.mono ?_;rintro e w9 ⟨rfl,hk9⟩;have k9:=k8.both hk9;refine hK _ _ ⟨fun _=>aY.out _ k9,?_⟩;have K9:=zh (K7.out.both k9);have HB1:=zh (HB1.out.keep k9);have fC:=zh (fC.out.keep k9);have dY:=zh (dY.out.keep k9);have gF:=zh (gF.out.keep k9);have gG:=zh (gG.out.keep k9);clear hK K hk9 k8 hx0 hx1 k9;obtain⟨sb,SS,lsr,-,-⟩:=aH (x.tmod y+(y.natAbs:Nat));rw [lsr];have zb2:=zh lsr;clear lsr;obtain⟨rb0,rb1,fb0,fb1,rbl⟩:=gG.out.two
   (repeat(quiet_step (fail)));refine wpQuiet_nil ?_
   refine ay rfl rfl fun K hK=> ?_;go_simp;refine hK _ _ ⟨fun h=>(by simp at h),?_⟩;have zdn:=zh (gG.out.set2 (.bool sb) (.string SS));have gF:=zh (gF.out.other2 (fun h=>kZ.out h) (.bool sb) (.string SS));have HB1:=zh (HB1.out.other2 (fun h=>ze3.out h) (.bool sb) (.string SS));have fC:=zh (fC.out.other2 HD4.out.2.1 (.bool sb) (.string SS));have dY:=zh (dY.out.other2 HD4.out.2.2.2 (.bool sb) (.string SS));have ZH:=zh (dw K9.out UF.out (.bool sb) (.string SS));clear hK K rb0 rb1 fb0 fb1 rbl gG aY;generalize (w9.setCell ⟨bb,0,none⟩ (.bool sb)).setCell ⟨bb,1,none⟩ (.string SS)=w10 at *;have gG:=zdn;clear zdn
   (repeat(quiet_step (fail)));refine wpQuiet_nil ?_
   refine NoPanic.normal ?_;obtain⟨y0,y1,_,_,yl⟩:=HB1.out.two;by_cases hyn:y<0
   focus
    obtain rfl:by'=true:=by rw [ZU.out];exact decide_eq_true hyn
    have HE:=zh (HE.out.1 hyn);clear hyn;go_wp2;refine aD (fun w'=>Keep au w10 w') [3] [([0],1),([],2),([],3)] [] kr kr kp ?_;intro X W hne hF hcl;have aY:=zh hcl;have hx0:=fun x=>(gF.out.keep (hF x)).two;clear hF hcl;simp only [aW,aJ,zl0,zl1,zl2,aX,Bool.false_eq_true,if_false]
    (repeat(quiet_step (fail)));refine wpQuiet_nil ?_
    refine ay rfl rfl fun K hK=> ?_;go_simp;refine(xF _ 1 om om).mono ?_;rintro e w11 ⟨rfl,hk11⟩;obtain⟨v11,hv11⟩:∃v,bG 1=v:=⟨_,rfl⟩;rw [hv11];have k11:Keep au w10 w11:=Keep.trans kp hk11 fun _ _ _ h=>h;refine hK _ _ ⟨fun _=>aY.out _ k11,?_⟩;clear hK K hk11
    (repeat(quiet_step (fail)));refine wpQuiet_nil ?_
    refine ay rfl rfl fun K hK=> ?_;go_simp;have HU:=(U1 w11);rw [hv11]at HU;clear hv11;refine HU.out.mono ?_;rintro e zdo ⟨rfl,hk12⟩;have k12:=k11.both hk12;refine hK _ _ ⟨fun _=>aY.out _ k12,?_⟩;have zdp:=zh (ZH.out.both k12);have fC:=zh (fC.out.keep k12);have dY:=zh (dY.out.keep k12);have gF:=zh (gF.out.keep k12);have gG:=zh (gG.out.keep k12);clear hK K hk12 k11 hx0 k12;obtain⟨tb,TS,lsq,-,-⟩:=aH (x.tdiv y+1)
   rotate_left
   focus
    obtain rfl:by'=false:=by rw [ZU.out];exact decide_eq_false hyn
    have HE:=zh (HE.out.2 om);clear hyn;go_wp2;refine aD (fun w'=>Keep au w10 w') [3] [([0],1),([],2),([],3)] [] kr kr kp ?_;intro X W hne hF hcl;have aY:=zh hcl;have hx0:=fun x=>(gF.out.keep (hF x)).two;clear hF hcl;simp only [aW,aJ,zl0,zl1,zl2,aX,Bool.false_eq_true,if_false]
    (repeat(quiet_step (fail)));refine wpQuiet_nil ?_
    refine ay rfl rfl fun K hK=> ?_;go_simp;refine(xF _ (-1) om om).mono ?_;rintro e w11 ⟨rfl,hk11⟩;obtain⟨v11,hv11⟩:∃v,bG (-1)=v:=⟨_,rfl⟩;rw [hv11];have k11:Keep au w10 w11:=Keep.trans kp hk11 fun _ _ _ h=>h;refine hK _ _ ⟨fun _=>aY.out _ k11,?_⟩;clear hK K hk11
    (repeat(quiet_step (fail)));refine wpQuiet_nil ?_
    refine ay rfl rfl fun K hK=> ?_;go_simp;have HU:=(U2 w11);rw [hv11]at HU;clear hv11;refine HU.out.mono ?_;rintro e zdo ⟨rfl,hk12⟩;have k12:=k11.both hk12;refine hK _ _ ⟨fun _=>aY.out _ k12,?_⟩;have zdp:=zh (ZH.out.both k12);have fC:=zh (fC.out.keep k12);have dY:=zh (dY.out.keep k12);have gF:=zh (gF.out.keep k12);have gG:=zh (gG.out.keep k12);clear hK K hk12 k11 hx0 k12;obtain⟨tb,TS,lsq,-,-⟩:=aH (x.tdiv y+(-1))
   rotate_left
   all_goals
    rw [lsq];have zb1:=zh lsq;clear lsq;obtain⟨ra0,ra1,fa0,fa1,ral⟩:=gF.out.two
    (repeat(quiet_step (fail)));refine wpQuiet_nil ?_
    refine ay rfl rfl fun K hK=> ?_;go_simp;refine hK _ _ ⟨fun h=>(by simp at h),?_⟩;have zdq:=zh (gF.out.set2 (.bool tb) (.string TS));have gG:=zh (gG.out.other2 (fun h=>kZ.out h.symm) (.bool tb) (.string TS));have fC:=zh (fC.out.other2 HD4.out.1 (.bool tb) (.string TS));have dY:=zh (dY.out.other2 HD4.out.2.2.1 (.bool tb) (.string TS));have Rm:=zh (dw zdp.out UE.out (.bool tb) (.string TS));clear hK K ra0 ra1 fa0 fa1 ral gF aY y0 y1 yl;generalize (zdo.setCell ⟨ba,0,none⟩ (.bool tb)).setCell ⟨ba,1,none⟩ (.string TS)=w12 at *;have gF:=zdq;clear zdq
    (repeat(quiet_step (fail)));refine wpQuiet_nil ?_
    refine NoPanic.normal ?_;go_wp2_with fail;go_meet;exact⟨tb,TS,sb,SS,rfl,rfl,rfl,by rw [HE.out.1];exact zb1.out,by rw [HE.out.2];exact zb2.out,Rm.out,gF.out,gG.out,fC.out,dY.out⟩
  have e1:decide ((x.tmod y).sign<0)=false:=decide_eq_false fun h=>hneg (Nc.out.2 h);have e2:¬(x.tmod y).sign<0:=fun h=>hneg (Nc.out.2 h);have e3:0≤(x.tmod y).sign:=om;have HE:=zh (HE0.out om);have e5:0≤x.tmod y:=om;go_wp2_with fail;go_meet;exact⟨qb,QS,rb,RS,rfl,rfl,rfl,by rw [HE.out.1];exact HLQ.out,by rw [HE.out.2];exact Qv.out,K7.out,gF.out,gG.out,fC.out,dY.out⟩
theorem dX.uniq {w:World}{v:Value}{ds ds':List Nat}(h:dX w v ds)(h':dX w v ds'):ds=ds':=by
 obtain⟨oa,cap,hv,_,_,_,hc⟩:=h;obtain⟨MP,cap',hv',_,_,_,hc'⟩:=h';rw [hv]at hv';simp at hv';obtain⟨rfl,hl,rfl⟩:=hv';by_cases h0:ds= []
 ·subst h0;exact(List.length_eq_zero_iff.1 hl.symm).symm
 obtain⟨g,o,e,_,hc⟩:=hc h0;obtain⟨g',o',e',_,hc'⟩:=hc' (by rintro rfl;exact h0 (List.length_eq_zero_iff.1 hl));rw [e]at e';simp at e';obtain⟨rfl,rfl⟩:=e';apply List.ext_getElem hl;intro i h1 h2;have e1:=hc i h1;have e2:=hc' i h2;rw [e1]at e2;simp [List.getD,h1,h2]at e2;omega
open Classical in
noncomputable def zb3 (w:World) (v:Value):Nat:=if h:∃es,dX w v es then dval (Classical.choose h)else 0
theorem Qx {w:World}{v:Value}{es:List Nat}(h:dX w v es):zb3 w v=dval es:=by
 have hex:∃es,dX w v es:=⟨es,h⟩;unfold zb3;rw [dif_pos hex,(Classical.choose_spec hex).uniq h]
theorem Lj (w:World)(x y:Int)(hx:dl x≤4500)(hy:dl y≤4500):
  Calls Tryz.prog 200 #[bG x,bG y] w fun e w'=>e= .returned (bG (Nat.gcd x.natAbs y.natAbs:Nat))∧Keep au w w':=by
 have hdx:(bV x.natAbs).length≤4500:=hx;have hdy:(bV y.natAbs).length≤4500:=hy;have LX:=fun w b=>zh (iC w x b om);have LY:=fun w b=>zh (iC w y b om);obtain⟨bx,S,lx,hbx,hS⟩:=aH x;obtain⟨by',U,ly,hby,hU⟩:=aH y;obtain⟨gb,GS,lg,-,-⟩:=aH (Nat.gcd x.natAbs y.natAbs:Nat);rw [← hS]at LX;rw [← hU]at LY;rw [lx,ly,lg];have HLG:=zh lg;have HDX:=zh hdx;have HDY:=zh hdy;clear hx hy hbx hS hby hU lx ly lg hdx hdy;go_enter Tryz.func200,Tryz.ntmps200;go_wp2;have B0:aL (((w.alloc (.cells #[.bool bx,.string S] 100)).alloc (.cells #[.bool by',.string U] 100)).alloc (.cells #[.bool false,.string ⟨#[]⟩] 100)) w.heap.size #[.bool bx,.string S]:=kc;have B1:aL (((w.alloc (.cells #[.bool bx,.string S] 100)).alloc (.cells #[.bool by',.string U] 100)).alloc (.cells #[.bool false,.string ⟨#[]⟩] 100)) (w.heap.size+1) #[.bool by',.string U]:=kc;have B2:aL (((w.alloc (.cells #[.bool bx,.string S] 100)).alloc (.cells #[.bool by',.string U] 100)).alloc (.cells #[.bool false,.string ⟨#[]⟩] 100)) (w.heap.size+1+1) #[.bool false,.string ⟨#[]⟩]:=kc;have K0:Hid (Keep au w (((w.alloc (.cells #[.bool bx,.string S] 100)).alloc (.cells #[.bool by',.string U] 100)).alloc (.cells #[.bool false,.string ⟨#[]⟩] 100))):=zh kp;generalize ((w.alloc (.cells #[.bool bx,.string S] 100)).alloc (.cells #[.bool by',.string U] 100)).alloc (.cells #[.bool false,.string ⟨#[]⟩] 100)=w0 at*;have HB0:=zh B0;have HB1:=zh B1;have HB2:=zh B2;have HS2:Hid (w.heap.size≤w.heap.size+1+1):=zh om;clear B0 B1 B2;refine aD (fun w'=>Keep au w0 w') [] [([0,3],1),([],2),([],4),([],5)] [6,7] kr kr kp ?_;intro X W hne hF hcl;have aY:=zh hcl;have hx0:=fun x=>(HB0.out.keep (hF x)).two;have hx1:=fun x=>(HB1.out.keep (hF x)).two;clear hF hcl;simp only [aW,aJ,zl0,zl1,zl2,aX,Bool.false_eq_true,if_false]
 (repeat(quiet_step (fail)));refine wpQuiet_nil ?_
 refine ay rfl rfl fun K hK=> ?_;go_simp;refine(LX _ _).out.mono ?_;rintro e w1 ⟨v1,rfl,hd1,hk1⟩;have k1:Keep au w0 w1:=Keep.trans kp hk1 fun _ _ _ h=>h;refine hK _ _ ⟨fun _=>aY.out _ k1,?_⟩;clear hK K hk1
 (repeat(quiet_step (fail)));refine wpQuiet_nil ?_
 refine ay rfl rfl fun K hK=> ?_;go_simp;refine(gW _ _ _ hd1 (by have:=HDX.out;omega)).mono ?_;rintro e w1' ⟨⟨v2,rfl,hd2⟩,rfl⟩;rw [sK (dD _) hd1.lt]at hd2;refine hK _ _ ⟨fun _=>aY.out _ k1,?_⟩;clear hK K hd1
 (repeat(quiet_step (fail)));refine wpQuiet_nil ?_
 refine ay rfl rfl fun K hK=> ?_;go_simp;refine(LY _ _).out.mono ?_;rintro e w3 ⟨v3,rfl,hd3,hk3⟩;have k3:=k1.both hk3;refine hK _ _ ⟨fun _=>aY.out _ k3,?_⟩;have hd2:=hd2.keep hk3;clear hK K hk3 k1
 (repeat(quiet_step (fail)));refine wpQuiet_nil ?_
 refine ay rfl rfl fun K hK=> ?_;go_simp;refine(gW _ _ _ hd3 (by have:=HDY.out;omega)).mono ?_;rintro e w3' ⟨⟨v4,rfl,hd4⟩,rfl⟩;rw [sK (dD _) hd3.lt]at hd4;refine hK _ _ ⟨fun _=>aY.out _ k3,?_⟩;have K3:=zh (K0.out.both k3);have HB2:=zh (HB2.out.keep k3);have HD2:=zh hd2;have HD4:=zh hd4;clear hK K hd3 hd2 hd4 LX LY hx0 hx1 aY k3
 (repeat(quiet_step (fail)));refine wpQuiet_nil ?_
 refine NoPanic.normal ?_;generalize w.heap.size+1+1=b2 at *;go_wp2;go_loopw [5,6] (fun s t wr=>∃ds es,dX wr s ds∧dX wr t es∧jG ds∧jG es∧ds.length≤4500∧es.length≤4500∧Nat.gcd (dval ds) (dval es)=Nat.gcd x.natAbs y.natAbs∧Keep au w wr∧aL wr b2 #[.bool false,.string ⟨#[]⟩]) (fun _ t wr=>zb3 wr t)
 case atStart=>exact⟨_,_,HD2.out,HD4.out,dD _,dD _,HDX.out,HDY.out,by rw [dh,dh],K3.out,HB2.out⟩
 obtain⟨ds,es,hds,hes,hnd,hne',hld,hle,hg,hk,hb⟩:=hrel;have HDS:=zh hds;have HES:=zh hes;have Ux:=zh hnd;have kZ:=zh hne';have HG:=zh hg;have HK:=zh hk;have HB:=zh hb;have HM:=zh (Qx hes);obtain⟨od,cd,rfl,hcd,hmd⟩:=hds.len;obtain⟨oe,ce,rfl,hce,hme⟩:=hes.len;unfold maxLen at hmd hme;clear hds hes hnd hne' hg hk hb;by_cases h0:es.length=0
 ·obtain rfl:es= []:=List.length_eq_zero_iff.1 h0;clear h0;go_wp2_with fail;refine(cO _ false _ ds HDS.out om).mono ?_;rintro e w5 ⟨rfl,hk5⟩;have HV:Hid (bG (jK false (dval ds))= .agg #[.bool gb,.string GS]):=zh (by
   rw [← HLG.out,←HG.out];simp [jK,dval])
  rw [HV.out];have dY:=HB.out.keep hk5;have K5:=zh (HK.out.both hk5);obtain⟨r0,r1,f0,f1,rl⟩:=dY.two;go_wp2;refine bodyPost_ret (by simp [results,Tryz.results200,go_sem,r0,r1,rl];rfl) rfl ?_;exact⟨rfl,dw K5.out HS2.out _ _⟩
 have hlt:(0:Int)<(es.length:Int):=om;have hlt0:0<es.length:=om;have hcon:dval es≠0:=fun h=>by
  have:=rW es kZ.out (by rintro rfl;simp at h0);have:=Nat.pow_pos (a:=4294967296) (n:=es.length-1) om;omega
 have HC:Hid (dval ds%dval es<dval es∧Nat.gcd (dval es) (dval ds%dval es)=Nat.gcd (dval ds) (dval es)):=zh ⟨Nat.mod_lt _ om,(Nat.gcd_comm _ _).trans ((Nat.gcd_rec (dval es) (dval ds)).symm.trans (Nat.gcd_comm _ _))⟩;have HQ:=zh (qX wr _ _ ds es HDS.out HES.out Ux.out kZ.out hlt0 om om);clear h0 hcon;go_wp2_with fail;refine HQ.out.mono ?_;rintro e w5 ⟨vq,vr,qs,rs,rfl,hk5,hq5,hr5,hvq,WJ,hlq,hlr⟩;have Tc:=zh hr5;have HVR:=zh WJ;have HK5:=zh hk5;clear hk5 hq5 hr5 hvq WJ hlq HQ;go_wp2_with fail;refine(gW _ _ rs Tc.out om).mono ?_;rintro e w6 ⟨⟨v6,rfl,hd6⟩,rfl⟩;rw [zR Tc.out.lt]at hd6;have HD6:=zh hd6;clear hd6;go_wp2_with fail;go_roundw
 case rel=>
  refine⟨es,_,HES.out.keep HK5.out,HD6.out,kZ.out,dD _,hle,?_,?_,HK.out.both HK5.out,HB.out.keep HK5.out⟩
  ·have h1:(bV (dval rs)).length≤es.length:=Ki (by rw [HVR.out];exact Nat.lt_trans HC.out.1 (pG _ HES.out.lt));omega
  rw [dh,HVR.out,HC.out.2];exact HG.out
 rw [Qx HD6.out,HM.out,dh,HVR.out];exact HC.out.1
end Go.Proofs.YtmepglhdcphffaaGreat
