/- A region whose order is drawn, by a plan that parts where two or three operations are free. Wide whole numbers of any size: quotient and rest. Wide whole numbers of any size: the common divisor; so SetFrac is right for all that is allowed. Package long: quotient and rest of numbers, the rest not below 0. Package long: the greatest common divisor. -/
import Derived.Test.YtaiffmebphhdaaaGreatBaseA
import Derived.Test.YtaiffmebphhdaaaGreatBaseC
import Derived.Test.YtaiffmebphhdaaaGreatBaseB
import Derived.Test.YtaiffmebphhdaaaGreatLongBB
import Derived.Test.YtaiffmebphhdaaaGreatLongAA
namespace Go.Proofs.YtaiffmebphhdaaaGreat
set_option maxRecDepth 100000
set_option maxHeartbeats 8000000
set_option linter.unusedSimpArgs false
set_option linter.unusedVariables false
inductive PU where
 | fin (qs:List Nat)
 | one (qs:List Nat) (e:Nat) (p:PU)
 | two (qs:List Nat) (e1:Nat) (p1:PU) (e2:Nat) (p2:PU)
 | three (qs:List Nat) (e1:Nat) (p1:PU) (e2:Nat) (p2:PU) (e3:Nat) (p3:PU)
section
variable {P:Program} {ops:Array Oper} {Q:Exit→Act→World→Prop} {C:World→Prop} {md:Region.Mode}
def planU (md:Region.Mode)(ops:Array Oper):PU→Array Bool→Bool
 | .fin qs,listed=>takeB md ops (fun _=>false) false qs listed&&(Region.ready md ops (listedBy listed qs)).isEmpty
 | .one qs e p,listed=>takeB md ops (fun _=>false) false qs listed&&(Region.ready md ops (listedBy listed qs)== [e])&&planU md ops p ((listedBy listed qs).setIfInBounds e true)
 | .two qs e1 p1 e2 p2,listed=>takeB md ops (fun _=>false) false qs listed&&(Region.ready md ops (listedBy listed qs)== [e1,e2])&&(planU md ops p1 ((listedBy listed qs).setIfInBounds e1 true)&&planU md ops p2 ((listedBy listed qs).setIfInBounds e2 true))
 | .three qs e1 p1 e2 p2 e3 p3,listed=>takeB md ops (fun _=>false) false qs listed&&(Region.ready md ops (listedBy listed qs)== [e1,e2,e3])&&(planU md ops p1 ((listedBy listed qs).setIfInBounds e1 true)&&(planU md ops p2 ((listedBy listed qs).setIfInBounds e2 true)&&planU md ops p3 ((listedBy listed qs).setIfInBounds e3 true)))
def lenU:PU→Nat
 | .fin qs=>qs.length
 | .one qs _ p=>lenU p+1+qs.length
 | .two qs _ p1 _ _=>lenU p1+1+qs.length
 | .three qs _ p1 _ _ _ _=>lenU p1+1+qs.length
def evenU:PU→Bool
 | .fin _=>true
 | .one _ _ p=>evenU p
 | .two _ _ p1 _ p2=>evenU p1&&evenU p2&&lenU p1==lenU p2
 | .three _ _ p1 _ p2 _ p3=>evenU p1&&evenU p2&&evenU p3&&(lenU p1==lenU p2&&lenU p1==lenU p3)
def wpPlanU (P:Program)(ops:Array Oper)(Q:Exit→Act→World→Prop)(C:World→Prop):PU→Act→World→Prop
 | .fin qs,a,w=>wpQuiet P ops (clsOf C false) (fun a'=>Q .normal a' w) (pickOps ops qs) a
 | .one qs e p,a,w=>wpQuiet P ops (clsOf C false) (fun a'=>wpOp P ops Q e (fun a'' w''=>C w''∧wpPlanU P ops Q C p a'' w'') a' w) (pickOps ops qs) a
 | .two qs e1 p1 e2 p2,a,w=>wpQuiet P ops (clsOf C false) (fun a'=>wpOp P ops Q e1 (fun a'' w''=>C w''∧wpPlanU P ops Q C p1 a'' w'') a' w∧wpOp P ops Q e2 (fun a'' w''=>C w''∧wpPlanU P ops Q C p2 a'' w'') a' w) (pickOps ops qs) a
 | .three qs e1 p1 e2 p2 e3 p3,a,w=>wpQuiet P ops (clsOf C false) (fun a'=>wpOp P ops Q e1 (fun a'' w''=>C w''∧wpPlanU P ops Q C p1 a'' w'') a' w∧wpOp P ops Q e2 (fun a'' w''=>C w''∧wpPlanU P ops Q C p2 a'' w'') a' w∧wpOp P ops Q e3 (fun a'' w''=>C w''∧wpPlanU P ops Q C p3 a'' w'') a' w) (pickOps ops qs) a
theorem wpAnyL_planU (hs:Region.noSelect ops=true)(hQ:∀c (a:Act) w,¬Q (.panic c) a w):∀(p:PU) (listed:Array Bool) (a:Act) (w:World),DC md ops listed→
  planU md ops p listed=true→evenU p=true→C w→wpPlanU P ops Q C p a w→wpAnyL P md ops Q C (fun _=>false) (lenU p) listed a w
 | .fin qs,listed,a,w,hd,hB,_,hC,h=>by
  simp only [planU,Bool.and_eq_true]at hB;have:=wpAnyL_take (md:=md) (late:=fun _=>false) (C:=C) hs hQ (w:=w) (R:=fun a'=>Q .normal a' w) false 0 qs listed a hd hB.1 (fun _=>hC) (fun _ a' ha=>⟨by simpa using hB.2,ha⟩) h
  simpa [lenU]using this
 | .one qs e p,listed,a,w,hd,hB,hE,hC,h=>by
  simp only [planU,Bool.and_eq_true]at hB;obtain⟨⟨h1,h2⟩,h4⟩:=hB;refine wpAnyL_take hs hQ false (lenU p+1) qs listed a hd h1 (fun _=>hC) (fun hd' a' ha=> ?_) h
  have hre:Region.ready md ops (listedBy listed qs)= [e]:=by simpa using h2
  refine⟨fun h0=>(by rw [hre]at h0;cases h0),fun j hj=> ?_⟩
  rw [hre]at hj;obtain rfl:j=e:=by simpa using hj
  exact wpOp_mono (fun a'' w'' ⟨g1,g2⟩=>⟨fun _=>g1,wpAnyL_planU hs hQ p _ a'' w'' (hd'.set (by rw [hre];exact List.mem_singleton.2 rfl)) h4 hE g1 g2⟩) ha
 | .two qs e1 p1 e2 p2,listed,a,w,hd,hB,hE,hC,h=>by
  simp only [planU,Bool.and_eq_true]at hB;simp only [evenU,Bool.and_eq_true,beq_iff_eq]at hE;obtain⟨⟨h1,h2⟩,h4,h5⟩:=hB;obtain⟨⟨he1,he2⟩,hl⟩:=hE;refine wpAnyL_take hs hQ false (lenU p1+1) qs listed a hd h1 (fun _=>hC) (fun hd' a' ha=> ?_) h
  have hre:Region.ready md ops (listedBy listed qs)= [e1,e2]:=by simpa using h2
  refine⟨fun h0=>(by rw [hre]at h0;cases h0),fun j hj=> ?_⟩
  have hj':=hj;rw [hre]at hj;have hj2:j=e1∨j=e2:=by simpa using hj
  rcases hj2 with e | e
  ·rw [e]at hj' ⊢
   exact wpOp_mono (fun a'' w'' ⟨g1,g2⟩=>⟨fun _=>g1,wpAnyL_planU hs hQ p1 _ a'' w'' (hd'.set hj') h4 he1 g1 g2⟩) ha.1
  ·rw [e]at hj' ⊢
   exact wpOp_mono (fun a'' w'' ⟨g1,g2⟩=>⟨fun _=>g1,by rw [hl];exact wpAnyL_planU hs hQ p2 _ a'' w'' (hd'.set hj') h5 he2 g1 g2⟩) ha.2
 | .three qs e1 p1 e2 p2 e3 p3,listed,a,w,hd,hB,hE,hC,h=>by
  simp only [planU,Bool.and_eq_true]at hB;simp only [evenU,Bool.and_eq_true,beq_iff_eq]at hE;obtain⟨⟨h1,h2⟩,h4,h5,h6⟩:=hB;obtain⟨⟨⟨he1,he2⟩,he3⟩,hl,hl3⟩:=hE;refine wpAnyL_take hs hQ false (lenU p1+1) qs listed a hd h1 (fun _=>hC) (fun hd' a' ha=> ?_) h
  have hre:Region.ready md ops (listedBy listed qs)= [e1,e2,e3]:=by simpa using h2
  refine⟨fun h0=>(by rw [hre]at h0;cases h0),fun j hj=> ?_⟩
  have hj':=hj;rw [hre]at hj;have hj2:j=e1∨j=e2∨j=e3:=by simpa using hj
  rcases hj2 with e | e | e
  ·rw [e]at hj' ⊢
   exact wpOp_mono (fun a'' w'' ⟨g1,g2⟩=>⟨fun _=>g1,wpAnyL_planU hs hQ p1 _ a'' w'' (hd'.set hj') h4 he1 g1 g2⟩) ha.1
  ·rw [e]at hj' ⊢
   exact wpOp_mono (fun a'' w'' ⟨g1,g2⟩=>⟨fun _=>g1,by rw [hl];exact wpAnyL_planU hs hQ p2 _ a'' w'' (hd'.set hj') h5 he2 g1 g2⟩) ha.2.1
  ·rw [e]at hj' ⊢
   exact wpOp_mono (fun a'' w'' ⟨g1,g2⟩=>⟨fun _=>g1,by rw [hl3];exact wpAnyL_planU hs hQ p3 _ a'' w'' (hd'.set hj') h6 he3 g1 g2⟩) ha.2.2
theorem wp_region_tree3 {id:Nat}{l:List Oper}{a:Act}{w:World}{Q:Exit→Act→World→Prop}(F:World→Prop)(p:PU)(hm:P.follows .mixedOrders=true)
  (hB:(Region.noSelect l.toArray&&planU .any l.toArray p (Array.replicate l.toArray.size false)&&evenU p&&(lenU p==l.toArray.size))=true) (hF:F w.drew)
  (h:∀(X:Type) (W:X→World),Nonempty X→(∀x,F (W x))→(∀w',F w'→∃x,w'=W x)→wpPlanU P l.toArray (NoPanic Q) (fun w'=>∃x,w'=W x) p a w.drew):(Code.region id l.toArray true).wp P Q a w:=by
 have h':=h {w':World // F w'} (fun x=>x.1) ⟨⟨_,hF⟩⟩ (fun x=>x.2) fun w' hw=>⟨⟨w',hw⟩,rfl⟩
 simp only [Bool.and_eq_true]at hB;refine wp_region_noPanic (wp_region_any hm (wpAny_of_late _ _ _ _ (C:=fun w'=>∃x: {w':World // F w'},w'=x.1) (late:=fun _=>false) ?_))
 have:=wpAnyL_planU hB.1.1.1 (fun _ _ _ h=>h) p _ a w.drew (fun k ok e _ hl=>by simp [Array.getD]at hl) hB.1.1.2 hB.1.2 ⟨⟨_,hF⟩,rfl⟩ h'
 rw [show lenU p=l.toArray.size from by simpa using hB.2]at this
 exact this
end
open Go.ChangeShapes Go.WideShapes Go.RowKit
theorem IsDig.uniq {w:World}{v:Value}{ds ds':List Nat}(h:IsDig w v ds)(h':IsDig w v ds'):ds=ds':=by
 obtain⟨g,cap,c,fr,hv,hg,_,_,hc,_⟩:=h;obtain⟨g',cap',c',fr',hv',hg',_,_,hc',_⟩:=h';subst hv;simp at hv';obtain⟨rfl,hl,rfl⟩:=hv';rw [hg]at hg';simp at hg';obtain⟨rfl,_⟩:=hg'
 apply List.ext_getElem hl
 intro i h1 h2;have e1:=hc i h1;have e2:=hc' i h2;rw [e1]at e2;simp [List.getD,h1,h2]at e2;omega
theorem IsInt.uniq {w:World}{b o:Nat}{z z':Int}(h:IsInt w b o z)(h':IsInt w b o z'):z=z':=by
 obtain⟨neg,ds,⟨c,t,v,hb,ht,h0,h1,hd⟩,_,_,rfl⟩:=h;obtain⟨neg',ds',⟨c',t',v',hb',ht',h0',h1',hd'⟩,_,_,rfl⟩:=h';rw [hb]at hb';simp at hb';obtain⟨rfl,_⟩:=hb';rw [h0]at h0';rw [h1]at h1';simp at h0' h1';subst h0' h1';rw [hd.uniq hd']
theorem Blk.set2 {w:World}{b:Nat}{x y:Value}(h:Blk w b #[x,y])(u v:Value):Blk ((w.setCell ⟨b,0,none⟩ u).setCell ⟨b,1,none⟩ v) b #[u,v]:=by
 obtain⟨t,h⟩:=h;exact⟨t,heap_setCell_same 1 v (heap_setCell_same 0 u h)⟩
theorem Blk.other2 {w:World}{b b':Nat}{A:Array Value}(h:Blk w b A)(hne:b≠b')(u v:Value):Blk ((w.setCell ⟨b',0,none⟩ u).setCell ⟨b',1,none⟩ v) b A:=by
 obtain⟨t,h⟩:=h;exact⟨t,by rw [heap_setCell_other _ _ _ _ hne,heap_setCell_other _ _ _ _ hne];exact h⟩
theorem keep_set2 {w0 w:World}{b:Nat}(h:Keep NoS w0 w)(hb:w0.heap.size≤b)(u v:Value):Keep NoS w0 ((w.setCell ⟨b,0,none⟩ u).setCell ⟨b,1,none⟩ v):=
 (h.setCell _ fun hh=>absurd hh (by omega)).setCell _ fun hh=>absurd hh (by omega)
def Is2 (b c:Nat):Nat→Nat→Prop:=fun k _=>k=b∨k=c
theorem Blk.keep2 {w w':World}{k b c:Nat}{A:Array Value}(h:Blk w k A)(hk:Keep (Is2 b c) w w')(h1:k≠b)(h2:k≠c):Blk w' k A:=by
 obtain⟨t,h⟩:=h;exact⟨t,by rw [hk.block k (lt_of_heap h) fun o ho=>ho.elim h1 h2];exact h⟩
theorem keep2_set {w0 w:World}{b c d:Nat}(h:Keep (Is2 b c) w0 w)(hd:d=b∨d=c)(u v:Value):Keep (Is2 b c) w0 ((w.setCell ⟨d,0,none⟩ u).setCell ⟨d,1,none⟩ v):=
 (h.setCell _ fun _=>hd).setCell _ fun _=>hd
theorem dl_ne {y:Int}(h:y≠0):0<(digN y.natAbs).length:=List.length_pos_iff.2 fun e=>by
 have:=digN_eq_nil.1 e;omega
theorem longV_agg (z:Int):∃b S,longV z= .agg #[.bool b,.string S]∧b=decide (z<0)∧S=bytesOf (digN z.natAbs):=⟨_,_,rfl,rfl,rfl⟩
theorem longDivMod_any (w:World)(x y:Int)(hx:dl x≤4500)(hy:dl y≤4500)(hy0:y≠0):
  Calls Tryz.prog 99 #[longV x,longV y] w fun e w'=>e= .returned (.tuple #[longV (x/y),longV (x%y),.int .i64 0])∧Keep NoS w w':=by
 have hdx:(digN x.natAbs).length≤4500:=hx;have hdy:(digN y.natAbs).length≤4500:=hy;have hq:=dl_mono (a:=x.tdiv y) (b:=x) (by rw [Int.natAbs_tdiv];exact Nat.div_le_self _ _)
 have hr:=dl_mono (a:=x.tmod y) (b:=x) (by rw [Int.natAbs_tmod];exact Nat.mod_le _ _)
 have ha:=dl_abs y;have hdy0:=dl_ne hy0;have LX:=fun w b=>zh (limbs_of w x b (by omega))
 have LY:=fun w b=>zh (limbs_of w y b (by omega))
 have SY:=fun w=>zh (longSign_any w y)
 have SR:=fun w=>zh (longSign_any w (x.tmod y))
 have AY:=fun w=>zh (longAbs_any w y)
 have UR:=fun w=>zh (longSum_any w (x.tmod y) (y.natAbs:Nat) (by omega) (by omega))
 have U1:=fun w=>zh (longSum_any w (x.tdiv y) 1 (by omega) (by have:=dl_le (z:=1) (k:=1) (by decide);omega))
 have U2:=fun w=>zh (longSum_any w (x.tdiv y) (-1) (by omega) (by have:=dl_le (z:= -1) (k:=1) (by decide);omega))
 have HQV:=sgn_quo x y (decide (x<0)) (decide (y<0)) (by simp) (by simp)
 have HRV:=sgn_rem x y (decide (x<0)) (by simp)
 have HE0:Hid (0≤x.tmod y→x/y=x.tdiv y∧x%y=x.tmod y):=zh fun h=>ediv_of_nonneg hy0 (by omega)
 have HE1:Hid (x.tmod y<0→(y<0→x/y=x.tdiv y+1∧x%y=x.tmod y+(y.natAbs:Nat))∧(0≤y→x/y=x.tdiv y+ -1∧x%y=x.tmod y+(y.natAbs:Nat))):=zh fun h=>by
  obtain⟨h1,h2⟩:=ediv_of_neg hy0 h;exact⟨fun h'=>by obtain⟨h3,h4⟩:=h1 h';omega,fun h'=>by obtain⟨h3,h4⟩:=h2 (by omega);omega⟩
 have HSG:Hid (x.tmod y<0↔(x.tmod y).sign<0):=zh (by
  rcases Int.lt_trichotomy (x.tmod y) 0 with h | h | h
  ·rw [Int.sign_eq_neg_one_of_neg h];omega
  ·rw [h];simp
  ·rw [Int.sign_eq_one_of_pos h];omega)
 have e0:(y.sign==0)=false:=by rw [beq_eq_false_iff_ne];intro h;exact hy0 (Int.sign_eq_zero_iff_zero.1 h)
 obtain⟨bx,S,lx,hbx,hS⟩:=longV_agg x;obtain⟨by',U,ly,hby,hU⟩:=longV_agg y
 obtain⟨qb,QS,lq,-,-⟩:=longV_agg (x.tdiv y);obtain⟨rb,RS,lr,-,-⟩:=longV_agg (x.tmod y);obtain⟨ab,AS,lan,-,-⟩:=longV_agg (y.natAbs:Nat);rw [← hS]at LX;rw [← hU]at LY;rw [← hbx,←hby]at HQV;rw [← hbx]at HRV;rw [ly]at SY AY;rw [lr]at SR UR;rw [lan]at AY UR;rw [lq]at U1 U2;rw [lx,ly];have HBY:=zh hby;have HNY:=zh (digN_noEnd y.natAbs);have HNX:=zh (digN_noEnd x.natAbs);have LQ:=fun w vx vy h1 h2=>zh (longQuotient_any w vx vy (digN x.natAbs) (digN y.natAbs) h1 h2 HNX.out HNY.out hdy0 (by omega) (by omega))
 rw [digN_val,digN_val]at LQ;have HQV:=zh (congrArg longV HQV);have HRV:=zh (congrArg longV HRV);rw [lq]at HQV;rw [lr]at HRV;have HLQ:=zh lq;have HLR:=zh lr;clear hx hy hbx hS hby hU lx ly lq lr lan ha hq hr hy0 hdy0;have HDX:=zh hdx;have HDY:=zh hdy;clear hdx hdy;go_enter Tryz.func99,Tryz.ntmps99;go_wp2_with fail;have B0:Blk ((((w.alloc (.cells #[.bool bx,.string S] 91)).alloc (.cells #[.bool by',.string U] 91)).alloc (.cells #[.bool false,.string ⟨#[]⟩] 91)).alloc (.cells #[.bool false,.string ⟨#[]⟩] 91)) w.heap.size #[.bool bx,.string S]:=kc
 have B1:Blk ((((w.alloc (.cells #[.bool bx,.string S] 91)).alloc (.cells #[.bool by',.string U] 91)).alloc (.cells #[.bool false,.string ⟨#[]⟩] 91)).alloc (.cells #[.bool false,.string ⟨#[]⟩] 91)) (w.heap.size+1) #[.bool by',.string U]:=kc
 have B4:Blk ((((w.alloc (.cells #[.bool bx,.string S] 91)).alloc (.cells #[.bool by',.string U] 91)).alloc (.cells #[.bool false,.string ⟨#[]⟩] 91)).alloc (.cells #[.bool false,.string ⟨#[]⟩] 91)) (w.heap.size+1+1) #[.bool false,.string ⟨#[]⟩]:=kc
 have B5:Blk ((((w.alloc (.cells #[.bool bx,.string S] 91)).alloc (.cells #[.bool by',.string U] 91)).alloc (.cells #[.bool false,.string ⟨#[]⟩] 91)).alloc (.cells #[.bool false,.string ⟨#[]⟩] 91)) (w.heap.size+1+1+1) #[.bool false,.string ⟨#[]⟩]:=kc
 have K0:Hid (Keep NoS w ((((w.alloc (.cells #[.bool bx,.string S] 91)).alloc (.cells #[.bool by',.string U] 91)).alloc (.cells #[.bool false,.string ⟨#[]⟩] 91)).alloc (.cells #[.bool false,.string ⟨#[]⟩] 91))):=zh kp
 generalize (((w.alloc (.cells #[.bool bx,.string S] 91)).alloc (.cells #[.bool by',.string U] 91)).alloc (.cells #[.bool false,.string ⟨#[]⟩] 91)).alloc (.cells #[.bool false,.string ⟨#[]⟩] 91)=w1 at*
 have HB0:=zh B0;have HB1:=zh B1;have HB4:=zh B4;have HB5:=zh B5;clear B0 B1 B4 B5;refine(SY _).out.mono ?_;rintro e w2 ⟨rfl,hk2⟩;have K2:=zh (K0.out.both hk2);have HB0:=zh (HB0.out.keep hk2);have HB1:=zh (HB1.out.keep hk2);have HB4:=zh (HB4.out.keep hk2);have HB5:=zh (HB5.out.keep hk2);have h45:w.heap.size+1+1≠w.heap.size+1+1+1:=by omega
 have HS4:Hid (w.heap.size≤w.heap.size+1+1):=zh (by omega)
 have HS5:Hid (w.heap.size≤w.heap.size+1+1+1):=zh (by omega)
 clear hk2 SY;generalize w.heap.size+1+1+1=b5 at *;generalize w.heap.size+1+1=b4 at *;generalize w.heap.size+1=b1 at *;generalize hb0:w.heap.size=b0 at HB0 ⊢;clear hb0;go_wp2;refine wp_region_by (fun w'=>Keep NoS w2 w') [] [([0,2],1),([],3),([],4)] [5,6,7,8,9] (by kernel_rfl) (by kernel_rfl) kp ?_
 intro X W hne hF hcl;have HCL:=zh hcl;have hx0:=fun x=>(HB0.out.keep (hF x)).two
 have hx1:=fun x=>(HB1.out.keep (hF x)).two
 clear hF hcl;simp only [wpPlan,pickOps,zl0,zl1,zl2,clsOf,Bool.false_eq_true,if_false]
 (repeat(quiet_step (fail)));refine wpQuiet_nil ?_
 refine wpAt rfl rfl fun K hK=> ?_
 go_simp;refine(LX _ _).out.mono ?_;rintro e w3 ⟨v3,rfl,hd3,hk3⟩;have k3:Keep NoS w2 w3:=Keep.trans kp hk3 fun _ _ _ h=>h
 refine hK _ _ ⟨fun _=>HCL.out _ k3,?_⟩
 clear hK K hk3
 (repeat(quiet_step (fail)));refine wpQuiet_nil ?_
 refine wpAt rfl rfl fun K hK=> ?_
 go_simp;refine(LY _ _).out.mono ?_;rintro e w4 ⟨v4,rfl,hd4,hk4⟩;have k4:=k3.both hk4;refine hK _ _ ⟨fun _=>HCL.out _ k4,?_⟩
 have hd3:=hd3.keep hk4;clear hK K hk4 k3
 (repeat(quiet_step (fail)));refine wpQuiet_nil ?_
 refine wpAt rfl rfl fun K hK=> ?_
 go_simp;refine(LQ _ _ _ hd3 hd4).out.mono ?_;rintro e w5 ⟨vq,vr,qs,rs,rfl,hk5,hq5,hr5,hvq,hvr,hlq,hlr⟩;have k5:=k4.both hk5;refine hK _ _ ⟨fun _=>HCL.out _ k5,?_⟩
 have K5:=zh (K2.out.both k5);have HB0:=zh (HB0.out.keep k5);have HB1:=zh (HB1.out.keep k5);have HB4:=zh (HB4.out.keep k5);have HB5:=zh (HB5.out.keep k5);have HD1:=zh hq5;have HD2:=zh hr5;have HN1:Hid (qs.length≤20000):=zh (by have:=HDX.out;omega)
 have HN2:Hid (rs.length≤20000):=zh (by have:=HDX.out;omega)
 have HV1:Hid (longV (sgn (!(bx==by')) (dval qs))= .agg #[.bool qb,.string QS]):=zh (by rw [hvq,←HQV.out];cases bx<;>cases by'<;>rfl)
 have HV2:Hid (longV (sgn bx (dval rs))= .agg #[.bool rb,.string RS]):=zh (by rw [hvr];exact HRV.out)
 clear hK K hk5 k4 hd3 hd4 hq5 hr5 hvq hvr hlq hlr k5 LX LY LQ hx0 hx1 HCL
 (repeat(quiet_step (fail)));refine wpQuiet_nil ?_
 refine NoPanic.normal ?_;generalize w5=w0 at *;have HB4':=zh HB4.out.lt;have HB5':=zh HB5.out.lt;have HB1':=zh HB1.out.lt;go_upto_region 4 with fail
 go_cut [9,10]from 24 to 51 (fun s t wx=>∃ba bb,s= .pointer (some ⟨ba,0,none⟩)∧t= .pointer (some ⟨bb,0,none⟩)∧Keep NoS w0 wx∧Blk wx ba #[.bool qb,.string QS]∧Blk wx bb #[.bool rb,.string RS]∧w0.heap.size≤ba∧w0.heap.size≤bb∧ba≠bb)
 case first=>
  as_aux_lemma=>
   refine wp_region_tree3 (fun w'=>Keep NoS w0 w') (.three [0,1,2,3,4,5,7,8,9] 6 (.three [] 10 (.two [] 11 (.one [] 12 (.one [] 13 (.one [] 14 (.fin [])))) 12 (.one [] 11 (.one [] 13 (.one [] 14 (.fin []))))) 11 (.two [] 10 (.one [] 12 (.one [] 13 (.one [] 14 (.fin [])))) 12 (.one [] 10 (.one [] 13 (.one [] 14 (.fin []))))) 12 (.two [] 10 (.one [] 11 (.one [] 13 (.one [] 14 (.fin [])))) 11 (.one [] 10 (.one [] 13 (.one [] 14 (.fin [])))))) 11 (.two [] 6 (.two [] 10 (.one [] 12 (.one [] 13 (.one [] 14 (.fin [])))) 12 (.one [] 10 (.one [] 13 (.one [] 14 (.fin []))))) 12 (.one [] 6 (.one [] 10 (.one [] 13 (.one [] 14 (.fin [])))))) 12 (.two [] 6 (.two [] 10 (.one [] 11 (.one [] 13 (.one [] 14 (.fin [])))) 11 (.one [] 10 (.one [] 13 (.one [] 14 (.fin []))))) 11 (.one [] 6 (.one [] 10 (.one [] 13 (.one [] 14 (.fin []))))))) (by kernel_rfl) (by kernel_rfl) kp ?_
   intro X W hne hF hcl;have HCL:=zh hcl;have hx0:=fun x=>(HB0.out.keep (hF x)).two
   have hx1:=fun x=>(HB1.out.keep (hF x)).two
   clear hF hcl;simp only [wpPlanU,pickOps,zl0,zl1,zl2,clsOf,Bool.false_eq_true,if_false]
   (repeat(quiet_step (fail)));refine wpQuiet_nil ?_
   refine⟨?_,?_,?_⟩
   ·refine wpAt rfl rfl fun K hK=> ?_
    go_simp;refine(made_any _ _ _ _ (HD1.out.keep kp) HN1.out).mono ?_;rintro e v1 ⟨rfl,hk⟩;have K1:=zh ((show Keep NoS w0 _ from kp).both hk)
    rw [HV1.out];refine hK _ _ ⟨HCL.out _ K1.out,?_⟩;clear hK K hk
    (repeat(quiet_step (fail)));refine wpQuiet_nil ?_
    refine⟨?_,?_,?_⟩
    ·refine wpAt rfl rfl fun K hK=> ?_
     go_simp;refine(made_any _ _ _ _ (HD2.out.keep K1.out) HN2.out).mono ?_;rintro e v2 ⟨rfl,hk⟩;have K2:=zh ((show Keep NoS w0 _ from K1.out).both hk)
     rw [HV2.out];refine hK _ _ ⟨HCL.out _ K2.out,?_⟩;clear hK K hk
     (repeat(quiet_step (fail)));refine wpQuiet_nil ?_
     refine⟨?_,?_⟩
     ·refine wpAt rfl rfl fun K hK=> ?_
      go_simp;have k3:Keep NoS w0 (v2.alloc (.cells #[.bool false,.string ⟨#[]⟩] 91)):=K2.out.alloc _;refine hK _ _ ⟨HCL.out _ k3,?_⟩;have HBa:Hid (Blk (v2.alloc (.cells #[.bool false,.string ⟨#[]⟩] 91)) v2.heap.size #[.bool false,.string ⟨#[]⟩]):=zh (blk_at _ _ rfl);have K3:=zh k3;clear hK K k3;obtain⟨ba,hba⟩:∃b,b=v2.heap.size:=⟨_,rfl⟩;have HGa:Hid (w0.heap.size≤ba):=zh (by rw [hba];exact K2.out.size)
      rw [← hba]at HBa ⊢;clear hba;generalize v2.alloc (.cells #[.bool false,.string ⟨#[]⟩] 91)=v3 at*
      (repeat(quiet_step (fail)));refine wpQuiet_nil ?_
      refine wpAt rfl rfl fun K hK=> ?_
      go_simp;have k4:Keep NoS w0 (v3.alloc (.cells #[.bool false,.string ⟨#[]⟩] 91)):=K3.out.alloc _;refine hK _ _ ⟨HCL.out _ k4,?_⟩;have HBb:Hid (Blk (v3.alloc (.cells #[.bool false,.string ⟨#[]⟩] 91)) v3.heap.size #[.bool false,.string ⟨#[]⟩]):=zh (blk_at _ _ rfl);have K4:=zh k4;have HNE:Hid (ba≠v3.heap.size):=zh (by have:=HBa.out.lt;omega)
      have HBa:=zh (HBa.out.old (.cells #[.bool false,.string ⟨#[]⟩] 91));clear hK K k4;obtain⟨bb,hbb⟩:∃b,b=v3.heap.size:=⟨_,rfl⟩;have HGb:Hid (w0.heap.size≤bb):=zh (by rw [hbb];exact K3.out.size)
      rw [← hbb]at HBb HNE ⊢;clear hbb;generalize v3.alloc (.cells #[.bool false,.string ⟨#[]⟩] 91)=v4 at*
      (repeat(quiet_step (fail)));refine wpQuiet_nil ?_
      obtain⟨ra0,ra1,fa0,fa1,ral⟩:=HBa.out.two;refine wpAt rfl rfl fun K hK=> ?_
      go_simp;have K5:=zh (keep_set2 K4.out HGa.out (.bool qb) (.string QS));refine hK _ _ ⟨HCL.out _ K5.out,?_⟩;have HBa:=zh (HBa.out.set2 (.bool qb) (.string QS));have HBb:=zh (HBb.out.other2 (fun h=>HNE.out h.symm) (.bool qb) (.string QS))
      clear hK K ra0 ra1 fa0 fa1 ral;generalize (v4.setCell ⟨ba,0,none⟩ (.bool qb)).setCell ⟨ba,1,none⟩ (.string QS)=v5 at*
      (repeat(quiet_step (fail)));refine wpQuiet_nil ?_
      obtain⟨rb0,rb1,fb0,fb1,rbl⟩:=HBb.out.two;refine wpAt rfl rfl fun K hK=> ?_
      go_simp;have K6:=zh (keep_set2 K5.out HGb.out (.bool rb) (.string RS));refine hK _ _ ⟨HCL.out _ K6.out,?_⟩;have HBb:=zh (HBb.out.set2 (.bool rb) (.string RS));have HBa:=zh (HBa.out.other2 (fun h=>HNE.out h) (.bool rb) (.string RS))
      clear hK K rb0 rb1 fb0 fb1 rbl;generalize (v5.setCell ⟨bb,0,none⟩ (.bool rb)).setCell ⟨bb,1,none⟩ (.string RS)=v6 at*
      (repeat(quiet_step (fail)));refine wpQuiet_nil ?_
      refine NoPanic.normal ?_;go_wp2_with fail;go_meet;exact⟨ba,bb,rfl,rfl,K6.out,HBa.out,HBb.out,HGa.out,HGb.out,HNE.out⟩
     ·refine wpAt rfl rfl fun K hK=> ?_
      go_simp;have k3:Keep NoS w0 (v2.alloc (.cells #[.bool false,.string ⟨#[]⟩] 91)):=K2.out.alloc _;refine hK _ _ ⟨HCL.out _ k3,?_⟩;have HBb:Hid (Blk (v2.alloc (.cells #[.bool false,.string ⟨#[]⟩] 91)) v2.heap.size #[.bool false,.string ⟨#[]⟩]):=zh (blk_at _ _ rfl);have K3:=zh k3;clear hK K k3;obtain⟨bb,hbb⟩:∃b,b=v2.heap.size:=⟨_,rfl⟩;have HGb:Hid (w0.heap.size≤bb):=zh (by rw [hbb];exact K2.out.size)
      rw [← hbb]at HBb ⊢;clear hbb;generalize v2.alloc (.cells #[.bool false,.string ⟨#[]⟩] 91)=v3 at*
      (repeat(quiet_step (fail)));refine wpQuiet_nil ?_
      refine wpAt rfl rfl fun K hK=> ?_
      go_simp;have k4:Keep NoS w0 (v3.alloc (.cells #[.bool false,.string ⟨#[]⟩] 91)):=K3.out.alloc _;refine hK _ _ ⟨HCL.out _ k4,?_⟩;have HBa:Hid (Blk (v3.alloc (.cells #[.bool false,.string ⟨#[]⟩] 91)) v3.heap.size #[.bool false,.string ⟨#[]⟩]):=zh (blk_at _ _ rfl);have K4:=zh k4;have HNE:Hid (v3.heap.size≠bb):=zh (by have:=HBb.out.lt;omega)
      have HBb:=zh (HBb.out.old (.cells #[.bool false,.string ⟨#[]⟩] 91));clear hK K k4;obtain⟨ba,hba⟩:∃b,b=v3.heap.size:=⟨_,rfl⟩;have HGa:Hid (w0.heap.size≤ba):=zh (by rw [hba];exact K3.out.size)
      rw [← hba]at HBa HNE ⊢;clear hba;generalize v3.alloc (.cells #[.bool false,.string ⟨#[]⟩] 91)=v4 at*
      (repeat(quiet_step (fail)));refine wpQuiet_nil ?_
      obtain⟨ra0,ra1,fa0,fa1,ral⟩:=HBa.out.two;refine wpAt rfl rfl fun K hK=> ?_
      go_simp;have K5:=zh (keep_set2 K4.out HGa.out (.bool qb) (.string QS));refine hK _ _ ⟨HCL.out _ K5.out,?_⟩;have HBa:=zh (HBa.out.set2 (.bool qb) (.string QS));have HBb:=zh (HBb.out.other2 (fun h=>HNE.out h.symm) (.bool qb) (.string QS))
      clear hK K ra0 ra1 fa0 fa1 ral;generalize (v4.setCell ⟨ba,0,none⟩ (.bool qb)).setCell ⟨ba,1,none⟩ (.string QS)=v5 at*
      (repeat(quiet_step (fail)));refine wpQuiet_nil ?_
      obtain⟨rb0,rb1,fb0,fb1,rbl⟩:=HBb.out.two;refine wpAt rfl rfl fun K hK=> ?_
      go_simp;have K6:=zh (keep_set2 K5.out HGb.out (.bool rb) (.string RS));refine hK _ _ ⟨HCL.out _ K6.out,?_⟩;have HBb:=zh (HBb.out.set2 (.bool rb) (.string RS));have HBa:=zh (HBa.out.other2 (fun h=>HNE.out h) (.bool rb) (.string RS))
      clear hK K rb0 rb1 fb0 fb1 rbl;generalize (v5.setCell ⟨bb,0,none⟩ (.bool rb)).setCell ⟨bb,1,none⟩ (.string RS)=v6 at*
      (repeat(quiet_step (fail)));refine wpQuiet_nil ?_
      refine NoPanic.normal ?_;go_wp2_with fail;go_meet;exact⟨ba,bb,rfl,rfl,K6.out,HBa.out,HBb.out,HGa.out,HGb.out,HNE.out⟩
    ·refine wpAt rfl rfl fun K hK=> ?_
     go_simp;have k2:Keep NoS w0 (v1.alloc (.cells #[.bool false,.string ⟨#[]⟩] 91)):=K1.out.alloc _;refine hK _ _ ⟨HCL.out _ k2,?_⟩;have HBa:Hid (Blk (v1.alloc (.cells #[.bool false,.string ⟨#[]⟩] 91)) v1.heap.size #[.bool false,.string ⟨#[]⟩]):=zh (blk_at _ _ rfl);have K2:=zh k2;clear hK K k2;obtain⟨ba,hba⟩:∃b,b=v1.heap.size:=⟨_,rfl⟩;have HGa:Hid (w0.heap.size≤ba):=zh (by rw [hba];exact K1.out.size)
     rw [← hba]at HBa ⊢;clear hba;generalize v1.alloc (.cells #[.bool false,.string ⟨#[]⟩] 91)=v2 at*
     (repeat(quiet_step (fail)));refine wpQuiet_nil ?_
     refine⟨?_,?_⟩
     ·refine wpAt rfl rfl fun K hK=> ?_
      go_simp;refine(made_any _ _ _ _ (HD2.out.keep K2.out) HN2.out).mono ?_;rintro e v3 ⟨rfl,hk⟩;have K3:=zh ((show Keep NoS w0 _ from K2.out).both hk)
      rw [HV2.out];have HBa:=zh (HBa.out.keep hk);refine hK _ _ ⟨HCL.out _ K3.out,?_⟩;clear hK K hk
      (repeat(quiet_step (fail)));refine wpQuiet_nil ?_
      refine wpAt rfl rfl fun K hK=> ?_
      go_simp;have k4:Keep NoS w0 (v3.alloc (.cells #[.bool false,.string ⟨#[]⟩] 91)):=K3.out.alloc _;refine hK _ _ ⟨HCL.out _ k4,?_⟩;have HBb:Hid (Blk (v3.alloc (.cells #[.bool false,.string ⟨#[]⟩] 91)) v3.heap.size #[.bool false,.string ⟨#[]⟩]):=zh (blk_at _ _ rfl);have K4:=zh k4;have HNE:Hid (ba≠v3.heap.size):=zh (by have:=HBa.out.lt;omega)
      have HBa:=zh (HBa.out.old (.cells #[.bool false,.string ⟨#[]⟩] 91));clear hK K k4;obtain⟨bb,hbb⟩:∃b,b=v3.heap.size:=⟨_,rfl⟩;have HGb:Hid (w0.heap.size≤bb):=zh (by rw [hbb];exact K3.out.size)
      rw [← hbb]at HBb HNE ⊢;clear hbb;generalize v3.alloc (.cells #[.bool false,.string ⟨#[]⟩] 91)=v4 at*
      (repeat(quiet_step (fail)));refine wpQuiet_nil ?_
      obtain⟨ra0,ra1,fa0,fa1,ral⟩:=HBa.out.two;refine wpAt rfl rfl fun K hK=> ?_
      go_simp;have K5:=zh (keep_set2 K4.out HGa.out (.bool qb) (.string QS));refine hK _ _ ⟨HCL.out _ K5.out,?_⟩;have HBa:=zh (HBa.out.set2 (.bool qb) (.string QS));have HBb:=zh (HBb.out.other2 (fun h=>HNE.out h.symm) (.bool qb) (.string QS))
      clear hK K ra0 ra1 fa0 fa1 ral;generalize (v4.setCell ⟨ba,0,none⟩ (.bool qb)).setCell ⟨ba,1,none⟩ (.string QS)=v5 at*
      (repeat(quiet_step (fail)));refine wpQuiet_nil ?_
      obtain⟨rb0,rb1,fb0,fb1,rbl⟩:=HBb.out.two;refine wpAt rfl rfl fun K hK=> ?_
      go_simp;have K6:=zh (keep_set2 K5.out HGb.out (.bool rb) (.string RS));refine hK _ _ ⟨HCL.out _ K6.out,?_⟩;have HBb:=zh (HBb.out.set2 (.bool rb) (.string RS));have HBa:=zh (HBa.out.other2 (fun h=>HNE.out h) (.bool rb) (.string RS))
      clear hK K rb0 rb1 fb0 fb1 rbl;generalize (v5.setCell ⟨bb,0,none⟩ (.bool rb)).setCell ⟨bb,1,none⟩ (.string RS)=v6 at*
      (repeat(quiet_step (fail)));refine wpQuiet_nil ?_
      refine NoPanic.normal ?_;go_wp2_with fail;go_meet;exact⟨ba,bb,rfl,rfl,K6.out,HBa.out,HBb.out,HGa.out,HGb.out,HNE.out⟩
     ·refine wpAt rfl rfl fun K hK=> ?_
      go_simp;have k3:Keep NoS w0 (v2.alloc (.cells #[.bool false,.string ⟨#[]⟩] 91)):=K2.out.alloc _;refine hK _ _ ⟨HCL.out _ k3,?_⟩;have HBb:Hid (Blk (v2.alloc (.cells #[.bool false,.string ⟨#[]⟩] 91)) v2.heap.size #[.bool false,.string ⟨#[]⟩]):=zh (blk_at _ _ rfl);have K3:=zh k3;have HNE:Hid (ba≠v2.heap.size):=zh (by have:=HBa.out.lt;omega)
      have HBa:=zh (HBa.out.old (.cells #[.bool false,.string ⟨#[]⟩] 91));clear hK K k3;obtain⟨bb,hbb⟩:∃b,b=v2.heap.size:=⟨_,rfl⟩;have HGb:Hid (w0.heap.size≤bb):=zh (by rw [hbb];exact K2.out.size)
      rw [← hbb]at HBb HNE ⊢;clear hbb;generalize v2.alloc (.cells #[.bool false,.string ⟨#[]⟩] 91)=v3 at*
      (repeat(quiet_step (fail)));refine wpQuiet_nil ?_
      refine wpAt rfl rfl fun K hK=> ?_
      go_simp;refine(made_any _ _ _ _ (HD2.out.keep K3.out) HN2.out).mono ?_;rintro e v4 ⟨rfl,hk⟩;have K4:=zh ((show Keep NoS w0 _ from K3.out).both hk)
      rw [HV2.out];have HBa:=zh (HBa.out.keep hk);have HBb:=zh (HBb.out.keep hk);refine hK _ _ ⟨HCL.out _ K4.out,?_⟩;clear hK K hk
      (repeat(quiet_step (fail)));refine wpQuiet_nil ?_
      obtain⟨ra0,ra1,fa0,fa1,ral⟩:=HBa.out.two;refine wpAt rfl rfl fun K hK=> ?_
      go_simp;have K5:=zh (keep_set2 K4.out HGa.out (.bool qb) (.string QS));refine hK _ _ ⟨HCL.out _ K5.out,?_⟩;have HBa:=zh (HBa.out.set2 (.bool qb) (.string QS));have HBb:=zh (HBb.out.other2 (fun h=>HNE.out h.symm) (.bool qb) (.string QS))
      clear hK K ra0 ra1 fa0 fa1 ral;generalize (v4.setCell ⟨ba,0,none⟩ (.bool qb)).setCell ⟨ba,1,none⟩ (.string QS)=v5 at*
      (repeat(quiet_step (fail)));refine wpQuiet_nil ?_
      obtain⟨rb0,rb1,fb0,fb1,rbl⟩:=HBb.out.two;refine wpAt rfl rfl fun K hK=> ?_
      go_simp;have K6:=zh (keep_set2 K5.out HGb.out (.bool rb) (.string RS));refine hK _ _ ⟨HCL.out _ K6.out,?_⟩;have HBb:=zh (HBb.out.set2 (.bool rb) (.string RS));have HBa:=zh (HBa.out.other2 (fun h=>HNE.out h) (.bool rb) (.string RS))
      clear hK K rb0 rb1 fb0 fb1 rbl;generalize (v5.setCell ⟨bb,0,none⟩ (.bool rb)).setCell ⟨bb,1,none⟩ (.string RS)=v6 at*
      (repeat(quiet_step (fail)));refine wpQuiet_nil ?_
      refine NoPanic.normal ?_;go_wp2_with fail;go_meet;exact⟨ba,bb,rfl,rfl,K6.out,HBa.out,HBb.out,HGa.out,HGb.out,HNE.out⟩
    ·refine wpAt rfl rfl fun K hK=> ?_
     go_simp;have k2:Keep NoS w0 (v1.alloc (.cells #[.bool false,.string ⟨#[]⟩] 91)):=K1.out.alloc _;refine hK _ _ ⟨HCL.out _ k2,?_⟩;have HBb:Hid (Blk (v1.alloc (.cells #[.bool false,.string ⟨#[]⟩] 91)) v1.heap.size #[.bool false,.string ⟨#[]⟩]):=zh (blk_at _ _ rfl);have K2:=zh k2;clear hK K k2;obtain⟨bb,hbb⟩:∃b,b=v1.heap.size:=⟨_,rfl⟩;have HGb:Hid (w0.heap.size≤bb):=zh (by rw [hbb];exact K1.out.size)
     rw [← hbb]at HBb ⊢;clear hbb;generalize v1.alloc (.cells #[.bool false,.string ⟨#[]⟩] 91)=v2 at*
     (repeat(quiet_step (fail)));refine wpQuiet_nil ?_
     refine⟨?_,?_⟩
     ·refine wpAt rfl rfl fun K hK=> ?_
      go_simp;refine(made_any _ _ _ _ (HD2.out.keep K2.out) HN2.out).mono ?_;rintro e v3 ⟨rfl,hk⟩;have K3:=zh ((show Keep NoS w0 _ from K2.out).both hk)
      rw [HV2.out];have HBb:=zh (HBb.out.keep hk);refine hK _ _ ⟨HCL.out _ K3.out,?_⟩;clear hK K hk
      (repeat(quiet_step (fail)));refine wpQuiet_nil ?_
      refine wpAt rfl rfl fun K hK=> ?_
      go_simp;have k4:Keep NoS w0 (v3.alloc (.cells #[.bool false,.string ⟨#[]⟩] 91)):=K3.out.alloc _;refine hK _ _ ⟨HCL.out _ k4,?_⟩;have HBa:Hid (Blk (v3.alloc (.cells #[.bool false,.string ⟨#[]⟩] 91)) v3.heap.size #[.bool false,.string ⟨#[]⟩]):=zh (blk_at _ _ rfl);have K4:=zh k4;have HNE:Hid (v3.heap.size≠bb):=zh (by have:=HBb.out.lt;omega)
      have HBb:=zh (HBb.out.old (.cells #[.bool false,.string ⟨#[]⟩] 91));clear hK K k4;obtain⟨ba,hba⟩:∃b,b=v3.heap.size:=⟨_,rfl⟩;have HGa:Hid (w0.heap.size≤ba):=zh (by rw [hba];exact K3.out.size)
      rw [← hba]at HBa HNE ⊢;clear hba;generalize v3.alloc (.cells #[.bool false,.string ⟨#[]⟩] 91)=v4 at*
      (repeat(quiet_step (fail)));refine wpQuiet_nil ?_
      obtain⟨ra0,ra1,fa0,fa1,ral⟩:=HBa.out.two;refine wpAt rfl rfl fun K hK=> ?_
      go_simp;have K5:=zh (keep_set2 K4.out HGa.out (.bool qb) (.string QS));refine hK _ _ ⟨HCL.out _ K5.out,?_⟩;have HBa:=zh (HBa.out.set2 (.bool qb) (.string QS));have HBb:=zh (HBb.out.other2 (fun h=>HNE.out h.symm) (.bool qb) (.string QS))
      clear hK K ra0 ra1 fa0 fa1 ral;generalize (v4.setCell ⟨ba,0,none⟩ (.bool qb)).setCell ⟨ba,1,none⟩ (.string QS)=v5 at*
      (repeat(quiet_step (fail)));refine wpQuiet_nil ?_
      obtain⟨rb0,rb1,fb0,fb1,rbl⟩:=HBb.out.two;refine wpAt rfl rfl fun K hK=> ?_
      go_simp;have K6:=zh (keep_set2 K5.out HGb.out (.bool rb) (.string RS));refine hK _ _ ⟨HCL.out _ K6.out,?_⟩;have HBb:=zh (HBb.out.set2 (.bool rb) (.string RS));have HBa:=zh (HBa.out.other2 (fun h=>HNE.out h) (.bool rb) (.string RS))
      clear hK K rb0 rb1 fb0 fb1 rbl;generalize (v5.setCell ⟨bb,0,none⟩ (.bool rb)).setCell ⟨bb,1,none⟩ (.string RS)=v6 at*
      (repeat(quiet_step (fail)));refine wpQuiet_nil ?_
      refine NoPanic.normal ?_;go_wp2_with fail;go_meet;exact⟨ba,bb,rfl,rfl,K6.out,HBa.out,HBb.out,HGa.out,HGb.out,HNE.out⟩
     ·refine wpAt rfl rfl fun K hK=> ?_
      go_simp;have k3:Keep NoS w0 (v2.alloc (.cells #[.bool false,.string ⟨#[]⟩] 91)):=K2.out.alloc _;refine hK _ _ ⟨HCL.out _ k3,?_⟩;have HBa:Hid (Blk (v2.alloc (.cells #[.bool false,.string ⟨#[]⟩] 91)) v2.heap.size #[.bool false,.string ⟨#[]⟩]):=zh (blk_at _ _ rfl);have K3:=zh k3;have HNE:Hid (v2.heap.size≠bb):=zh (by have:=HBb.out.lt;omega)
      have HBb:=zh (HBb.out.old (.cells #[.bool false,.string ⟨#[]⟩] 91));clear hK K k3;obtain⟨ba,hba⟩:∃b,b=v2.heap.size:=⟨_,rfl⟩;have HGa:Hid (w0.heap.size≤ba):=zh (by rw [hba];exact K2.out.size)
      rw [← hba]at HBa HNE ⊢;clear hba;generalize v2.alloc (.cells #[.bool false,.string ⟨#[]⟩] 91)=v3 at*
      (repeat(quiet_step (fail)));refine wpQuiet_nil ?_
      refine wpAt rfl rfl fun K hK=> ?_
      go_simp;refine(made_any _ _ _ _ (HD2.out.keep K3.out) HN2.out).mono ?_;rintro e v4 ⟨rfl,hk⟩;have K4:=zh ((show Keep NoS w0 _ from K3.out).both hk)
      rw [HV2.out];have HBa:=zh (HBa.out.keep hk);have HBb:=zh (HBb.out.keep hk);refine hK _ _ ⟨HCL.out _ K4.out,?_⟩;clear hK K hk
      (repeat(quiet_step (fail)));refine wpQuiet_nil ?_
      obtain⟨ra0,ra1,fa0,fa1,ral⟩:=HBa.out.two;refine wpAt rfl rfl fun K hK=> ?_
      go_simp;have K5:=zh (keep_set2 K4.out HGa.out (.bool qb) (.string QS));refine hK _ _ ⟨HCL.out _ K5.out,?_⟩;have HBa:=zh (HBa.out.set2 (.bool qb) (.string QS));have HBb:=zh (HBb.out.other2 (fun h=>HNE.out h.symm) (.bool qb) (.string QS))
      clear hK K ra0 ra1 fa0 fa1 ral;generalize (v4.setCell ⟨ba,0,none⟩ (.bool qb)).setCell ⟨ba,1,none⟩ (.string QS)=v5 at*
      (repeat(quiet_step (fail)));refine wpQuiet_nil ?_
      obtain⟨rb0,rb1,fb0,fb1,rbl⟩:=HBb.out.two;refine wpAt rfl rfl fun K hK=> ?_
      go_simp;have K6:=zh (keep_set2 K5.out HGb.out (.bool rb) (.string RS));refine hK _ _ ⟨HCL.out _ K6.out,?_⟩;have HBb:=zh (HBb.out.set2 (.bool rb) (.string RS));have HBa:=zh (HBa.out.other2 (fun h=>HNE.out h) (.bool rb) (.string RS))
      clear hK K rb0 rb1 fb0 fb1 rbl;generalize (v5.setCell ⟨bb,0,none⟩ (.bool rb)).setCell ⟨bb,1,none⟩ (.string RS)=v6 at*
      (repeat(quiet_step (fail)));refine wpQuiet_nil ?_
      refine NoPanic.normal ?_;go_wp2_with fail;go_meet;exact⟨ba,bb,rfl,rfl,K6.out,HBa.out,HBb.out,HGa.out,HGb.out,HNE.out⟩
   ·refine wpAt rfl rfl fun K hK=> ?_
    go_simp;have k1:Keep NoS w0 ((w0.alloc (.cells #[.bool false,.string ⟨#[]⟩] 91)).drew):=kp;refine hK _ _ ⟨HCL.out _ k1,?_⟩;have HBa:Hid (Blk ((w0.alloc (.cells #[.bool false,.string ⟨#[]⟩] 91)).drew) w0.heap.size #[.bool false,.string ⟨#[]⟩]):=zh ((blk_at _ _ rfl).keep (Keep.refl _ _).drew);have K1:=zh k1;clear hK K k1;obtain⟨ba,hba⟩:∃b,b=w0.heap.size:=⟨_,rfl⟩;have HGa:Hid (w0.heap.size≤ba):=zh (by rw [hba];exact Nat.le_refl _)
    rw [← hba]at HBa ⊢;clear hba;generalize (w0.alloc (.cells #[.bool false,.string ⟨#[]⟩] 91)).drew=v1 at*
    (repeat(quiet_step (fail)));refine wpQuiet_nil ?_
    refine⟨?_,?_⟩
    ·refine wpAt rfl rfl fun K hK=> ?_
     go_simp;refine(made_any _ _ _ _ (HD1.out.keep K1.out) HN1.out).mono ?_;rintro e v2 ⟨rfl,hk⟩;have K2:=zh ((show Keep NoS w0 _ from K1.out).both hk)
     rw [HV1.out];have HBa:=zh (HBa.out.keep hk);refine hK _ _ ⟨HCL.out _ K2.out,?_⟩;clear hK K hk
     (repeat(quiet_step (fail)));refine wpQuiet_nil ?_
     refine⟨?_,?_⟩
     ·refine wpAt rfl rfl fun K hK=> ?_
      go_simp;refine(made_any _ _ _ _ (HD2.out.keep K2.out) HN2.out).mono ?_;rintro e v3 ⟨rfl,hk⟩;have K3:=zh ((show Keep NoS w0 _ from K2.out).both hk)
      rw [HV2.out];have HBa:=zh (HBa.out.keep hk);refine hK _ _ ⟨HCL.out _ K3.out,?_⟩;clear hK K hk
      (repeat(quiet_step (fail)));refine wpQuiet_nil ?_
      refine wpAt rfl rfl fun K hK=> ?_
      go_simp;have k4:Keep NoS w0 (v3.alloc (.cells #[.bool false,.string ⟨#[]⟩] 91)):=K3.out.alloc _;refine hK _ _ ⟨HCL.out _ k4,?_⟩;have HBb:Hid (Blk (v3.alloc (.cells #[.bool false,.string ⟨#[]⟩] 91)) v3.heap.size #[.bool false,.string ⟨#[]⟩]):=zh (blk_at _ _ rfl);have K4:=zh k4;have HNE:Hid (ba≠v3.heap.size):=zh (by have:=HBa.out.lt;omega)
      have HBa:=zh (HBa.out.old (.cells #[.bool false,.string ⟨#[]⟩] 91));clear hK K k4;obtain⟨bb,hbb⟩:∃b,b=v3.heap.size:=⟨_,rfl⟩;have HGb:Hid (w0.heap.size≤bb):=zh (by rw [hbb];exact K3.out.size)
      rw [← hbb]at HBb HNE ⊢;clear hbb;generalize v3.alloc (.cells #[.bool false,.string ⟨#[]⟩] 91)=v4 at*
      (repeat(quiet_step (fail)));refine wpQuiet_nil ?_
      obtain⟨ra0,ra1,fa0,fa1,ral⟩:=HBa.out.two;refine wpAt rfl rfl fun K hK=> ?_
      go_simp;have K5:=zh (keep_set2 K4.out HGa.out (.bool qb) (.string QS));refine hK _ _ ⟨HCL.out _ K5.out,?_⟩;have HBa:=zh (HBa.out.set2 (.bool qb) (.string QS));have HBb:=zh (HBb.out.other2 (fun h=>HNE.out h.symm) (.bool qb) (.string QS))
      clear hK K ra0 ra1 fa0 fa1 ral;generalize (v4.setCell ⟨ba,0,none⟩ (.bool qb)).setCell ⟨ba,1,none⟩ (.string QS)=v5 at*
      (repeat(quiet_step (fail)));refine wpQuiet_nil ?_
      obtain⟨rb0,rb1,fb0,fb1,rbl⟩:=HBb.out.two;refine wpAt rfl rfl fun K hK=> ?_
      go_simp;have K6:=zh (keep_set2 K5.out HGb.out (.bool rb) (.string RS));refine hK _ _ ⟨HCL.out _ K6.out,?_⟩;have HBb:=zh (HBb.out.set2 (.bool rb) (.string RS));have HBa:=zh (HBa.out.other2 (fun h=>HNE.out h) (.bool rb) (.string RS))
      clear hK K rb0 rb1 fb0 fb1 rbl;generalize (v5.setCell ⟨bb,0,none⟩ (.bool rb)).setCell ⟨bb,1,none⟩ (.string RS)=v6 at*
      (repeat(quiet_step (fail)));refine wpQuiet_nil ?_
      refine NoPanic.normal ?_;go_wp2_with fail;go_meet;exact⟨ba,bb,rfl,rfl,K6.out,HBa.out,HBb.out,HGa.out,HGb.out,HNE.out⟩
     ·refine wpAt rfl rfl fun K hK=> ?_
      go_simp;have k3:Keep NoS w0 (v2.alloc (.cells #[.bool false,.string ⟨#[]⟩] 91)):=K2.out.alloc _;refine hK _ _ ⟨HCL.out _ k3,?_⟩;have HBb:Hid (Blk (v2.alloc (.cells #[.bool false,.string ⟨#[]⟩] 91)) v2.heap.size #[.bool false,.string ⟨#[]⟩]):=zh (blk_at _ _ rfl);have K3:=zh k3;have HNE:Hid (ba≠v2.heap.size):=zh (by have:=HBa.out.lt;omega)
      have HBa:=zh (HBa.out.old (.cells #[.bool false,.string ⟨#[]⟩] 91));clear hK K k3;obtain⟨bb,hbb⟩:∃b,b=v2.heap.size:=⟨_,rfl⟩;have HGb:Hid (w0.heap.size≤bb):=zh (by rw [hbb];exact K2.out.size)
      rw [← hbb]at HBb HNE ⊢;clear hbb;generalize v2.alloc (.cells #[.bool false,.string ⟨#[]⟩] 91)=v3 at*
      (repeat(quiet_step (fail)));refine wpQuiet_nil ?_
      refine wpAt rfl rfl fun K hK=> ?_
      go_simp;refine(made_any _ _ _ _ (HD2.out.keep K3.out) HN2.out).mono ?_;rintro e v4 ⟨rfl,hk⟩;have K4:=zh ((show Keep NoS w0 _ from K3.out).both hk)
      rw [HV2.out];have HBa:=zh (HBa.out.keep hk);have HBb:=zh (HBb.out.keep hk);refine hK _ _ ⟨HCL.out _ K4.out,?_⟩;clear hK K hk
      (repeat(quiet_step (fail)));refine wpQuiet_nil ?_
      obtain⟨ra0,ra1,fa0,fa1,ral⟩:=HBa.out.two;refine wpAt rfl rfl fun K hK=> ?_
      go_simp;have K5:=zh (keep_set2 K4.out HGa.out (.bool qb) (.string QS));refine hK _ _ ⟨HCL.out _ K5.out,?_⟩;have HBa:=zh (HBa.out.set2 (.bool qb) (.string QS));have HBb:=zh (HBb.out.other2 (fun h=>HNE.out h.symm) (.bool qb) (.string QS))
      clear hK K ra0 ra1 fa0 fa1 ral;generalize (v4.setCell ⟨ba,0,none⟩ (.bool qb)).setCell ⟨ba,1,none⟩ (.string QS)=v5 at*
      (repeat(quiet_step (fail)));refine wpQuiet_nil ?_
      obtain⟨rb0,rb1,fb0,fb1,rbl⟩:=HBb.out.two;refine wpAt rfl rfl fun K hK=> ?_
      go_simp;have K6:=zh (keep_set2 K5.out HGb.out (.bool rb) (.string RS));refine hK _ _ ⟨HCL.out _ K6.out,?_⟩;have HBb:=zh (HBb.out.set2 (.bool rb) (.string RS));have HBa:=zh (HBa.out.other2 (fun h=>HNE.out h) (.bool rb) (.string RS))
      clear hK K rb0 rb1 fb0 fb1 rbl;generalize (v5.setCell ⟨bb,0,none⟩ (.bool rb)).setCell ⟨bb,1,none⟩ (.string RS)=v6 at*
      (repeat(quiet_step (fail)));refine wpQuiet_nil ?_
      refine NoPanic.normal ?_;go_wp2_with fail;go_meet;exact⟨ba,bb,rfl,rfl,K6.out,HBa.out,HBb.out,HGa.out,HGb.out,HNE.out⟩
    ·refine wpAt rfl rfl fun K hK=> ?_
     go_simp;have k2:Keep NoS w0 (v1.alloc (.cells #[.bool false,.string ⟨#[]⟩] 91)):=K1.out.alloc _;refine hK _ _ ⟨HCL.out _ k2,?_⟩;have HBb:Hid (Blk (v1.alloc (.cells #[.bool false,.string ⟨#[]⟩] 91)) v1.heap.size #[.bool false,.string ⟨#[]⟩]):=zh (blk_at _ _ rfl);have K2:=zh k2;have HNE:Hid (ba≠v1.heap.size):=zh (by have:=HBa.out.lt;omega)
     have HBa:=zh (HBa.out.old (.cells #[.bool false,.string ⟨#[]⟩] 91));clear hK K k2;obtain⟨bb,hbb⟩:∃b,b=v1.heap.size:=⟨_,rfl⟩;have HGb:Hid (w0.heap.size≤bb):=zh (by rw [hbb];exact K1.out.size)
     rw [← hbb]at HBb HNE ⊢;clear hbb;generalize v1.alloc (.cells #[.bool false,.string ⟨#[]⟩] 91)=v2 at*
     (repeat(quiet_step (fail)));refine wpQuiet_nil ?_
     refine wpAt rfl rfl fun K hK=> ?_
     go_simp;refine(made_any _ _ _ _ (HD1.out.keep K2.out) HN1.out).mono ?_;rintro e v3 ⟨rfl,hk⟩;have K3:=zh ((show Keep NoS w0 _ from K2.out).both hk)
     rw [HV1.out];have HBa:=zh (HBa.out.keep hk);have HBb:=zh (HBb.out.keep hk);refine hK _ _ ⟨HCL.out _ K3.out,?_⟩;clear hK K hk
     (repeat(quiet_step (fail)));refine wpQuiet_nil ?_
     refine wpAt rfl rfl fun K hK=> ?_
     go_simp;refine(made_any _ _ _ _ (HD2.out.keep K3.out) HN2.out).mono ?_;rintro e v4 ⟨rfl,hk⟩;have K4:=zh ((show Keep NoS w0 _ from K3.out).both hk)
     rw [HV2.out];have HBa:=zh (HBa.out.keep hk);have HBb:=zh (HBb.out.keep hk);refine hK _ _ ⟨HCL.out _ K4.out,?_⟩;clear hK K hk
     (repeat(quiet_step (fail)));refine wpQuiet_nil ?_
     obtain⟨ra0,ra1,fa0,fa1,ral⟩:=HBa.out.two;refine wpAt rfl rfl fun K hK=> ?_
     go_simp;have K5:=zh (keep_set2 K4.out HGa.out (.bool qb) (.string QS));refine hK _ _ ⟨HCL.out _ K5.out,?_⟩;have HBa:=zh (HBa.out.set2 (.bool qb) (.string QS));have HBb:=zh (HBb.out.other2 (fun h=>HNE.out h.symm) (.bool qb) (.string QS))
     clear hK K ra0 ra1 fa0 fa1 ral;generalize (v4.setCell ⟨ba,0,none⟩ (.bool qb)).setCell ⟨ba,1,none⟩ (.string QS)=v5 at*
     (repeat(quiet_step (fail)));refine wpQuiet_nil ?_
     obtain⟨rb0,rb1,fb0,fb1,rbl⟩:=HBb.out.two;refine wpAt rfl rfl fun K hK=> ?_
     go_simp;have K6:=zh (keep_set2 K5.out HGb.out (.bool rb) (.string RS));refine hK _ _ ⟨HCL.out _ K6.out,?_⟩;have HBb:=zh (HBb.out.set2 (.bool rb) (.string RS));have HBa:=zh (HBa.out.other2 (fun h=>HNE.out h) (.bool rb) (.string RS))
     clear hK K rb0 rb1 fb0 fb1 rbl;generalize (v5.setCell ⟨bb,0,none⟩ (.bool rb)).setCell ⟨bb,1,none⟩ (.string RS)=v6 at*
     (repeat(quiet_step (fail)));refine wpQuiet_nil ?_
     refine NoPanic.normal ?_;go_wp2_with fail;go_meet;exact⟨ba,bb,rfl,rfl,K6.out,HBa.out,HBb.out,HGa.out,HGb.out,HNE.out⟩
   ·refine wpAt rfl rfl fun K hK=> ?_
    go_simp;have k1:Keep NoS w0 ((w0.alloc (.cells #[.bool false,.string ⟨#[]⟩] 91)).drew):=kp;refine hK _ _ ⟨HCL.out _ k1,?_⟩;have HBb:Hid (Blk ((w0.alloc (.cells #[.bool false,.string ⟨#[]⟩] 91)).drew) w0.heap.size #[.bool false,.string ⟨#[]⟩]):=zh ((blk_at _ _ rfl).keep (Keep.refl _ _).drew);have K1:=zh k1;clear hK K k1;obtain⟨bb,hbb⟩:∃b,b=w0.heap.size:=⟨_,rfl⟩;have HGb:Hid (w0.heap.size≤bb):=zh (by rw [hbb];exact Nat.le_refl _)
    rw [← hbb]at HBb ⊢;clear hbb;generalize (w0.alloc (.cells #[.bool false,.string ⟨#[]⟩] 91)).drew=v1 at*
    (repeat(quiet_step (fail)));refine wpQuiet_nil ?_
    refine⟨?_,?_⟩
    ·refine wpAt rfl rfl fun K hK=> ?_
     go_simp;refine(made_any _ _ _ _ (HD1.out.keep K1.out) HN1.out).mono ?_;rintro e v2 ⟨rfl,hk⟩;have K2:=zh ((show Keep NoS w0 _ from K1.out).both hk)
     rw [HV1.out];have HBb:=zh (HBb.out.keep hk);refine hK _ _ ⟨HCL.out _ K2.out,?_⟩;clear hK K hk
     (repeat(quiet_step (fail)));refine wpQuiet_nil ?_
     refine⟨?_,?_⟩
     ·refine wpAt rfl rfl fun K hK=> ?_
      go_simp;refine(made_any _ _ _ _ (HD2.out.keep K2.out) HN2.out).mono ?_;rintro e v3 ⟨rfl,hk⟩;have K3:=zh ((show Keep NoS w0 _ from K2.out).both hk)
      rw [HV2.out];have HBb:=zh (HBb.out.keep hk);refine hK _ _ ⟨HCL.out _ K3.out,?_⟩;clear hK K hk
      (repeat(quiet_step (fail)));refine wpQuiet_nil ?_
      refine wpAt rfl rfl fun K hK=> ?_
      go_simp;have k4:Keep NoS w0 (v3.alloc (.cells #[.bool false,.string ⟨#[]⟩] 91)):=K3.out.alloc _;refine hK _ _ ⟨HCL.out _ k4,?_⟩;have HBa:Hid (Blk (v3.alloc (.cells #[.bool false,.string ⟨#[]⟩] 91)) v3.heap.size #[.bool false,.string ⟨#[]⟩]):=zh (blk_at _ _ rfl);have K4:=zh k4;have HNE:Hid (v3.heap.size≠bb):=zh (by have:=HBb.out.lt;omega)
      have HBb:=zh (HBb.out.old (.cells #[.bool false,.string ⟨#[]⟩] 91));clear hK K k4;obtain⟨ba,hba⟩:∃b,b=v3.heap.size:=⟨_,rfl⟩;have HGa:Hid (w0.heap.size≤ba):=zh (by rw [hba];exact K3.out.size)
      rw [← hba]at HBa HNE ⊢;clear hba;generalize v3.alloc (.cells #[.bool false,.string ⟨#[]⟩] 91)=v4 at*
      (repeat(quiet_step (fail)));refine wpQuiet_nil ?_
      obtain⟨ra0,ra1,fa0,fa1,ral⟩:=HBa.out.two;refine wpAt rfl rfl fun K hK=> ?_
      go_simp;have K5:=zh (keep_set2 K4.out HGa.out (.bool qb) (.string QS));refine hK _ _ ⟨HCL.out _ K5.out,?_⟩;have HBa:=zh (HBa.out.set2 (.bool qb) (.string QS));have HBb:=zh (HBb.out.other2 (fun h=>HNE.out h.symm) (.bool qb) (.string QS))
      clear hK K ra0 ra1 fa0 fa1 ral;generalize (v4.setCell ⟨ba,0,none⟩ (.bool qb)).setCell ⟨ba,1,none⟩ (.string QS)=v5 at*
      (repeat(quiet_step (fail)));refine wpQuiet_nil ?_
      obtain⟨rb0,rb1,fb0,fb1,rbl⟩:=HBb.out.two;refine wpAt rfl rfl fun K hK=> ?_
      go_simp;have K6:=zh (keep_set2 K5.out HGb.out (.bool rb) (.string RS));refine hK _ _ ⟨HCL.out _ K6.out,?_⟩;have HBb:=zh (HBb.out.set2 (.bool rb) (.string RS));have HBa:=zh (HBa.out.other2 (fun h=>HNE.out h) (.bool rb) (.string RS))
      clear hK K rb0 rb1 fb0 fb1 rbl;generalize (v5.setCell ⟨bb,0,none⟩ (.bool rb)).setCell ⟨bb,1,none⟩ (.string RS)=v6 at*
      (repeat(quiet_step (fail)));refine wpQuiet_nil ?_
      refine NoPanic.normal ?_;go_wp2_with fail;go_meet;exact⟨ba,bb,rfl,rfl,K6.out,HBa.out,HBb.out,HGa.out,HGb.out,HNE.out⟩
     ·refine wpAt rfl rfl fun K hK=> ?_
      go_simp;have k3:Keep NoS w0 (v2.alloc (.cells #[.bool false,.string ⟨#[]⟩] 91)):=K2.out.alloc _;refine hK _ _ ⟨HCL.out _ k3,?_⟩;have HBa:Hid (Blk (v2.alloc (.cells #[.bool false,.string ⟨#[]⟩] 91)) v2.heap.size #[.bool false,.string ⟨#[]⟩]):=zh (blk_at _ _ rfl);have K3:=zh k3;have HNE:Hid (v2.heap.size≠bb):=zh (by have:=HBb.out.lt;omega)
      have HBb:=zh (HBb.out.old (.cells #[.bool false,.string ⟨#[]⟩] 91));clear hK K k3;obtain⟨ba,hba⟩:∃b,b=v2.heap.size:=⟨_,rfl⟩;have HGa:Hid (w0.heap.size≤ba):=zh (by rw [hba];exact K2.out.size)
      rw [← hba]at HBa HNE ⊢;clear hba;generalize v2.alloc (.cells #[.bool false,.string ⟨#[]⟩] 91)=v3 at*
      (repeat(quiet_step (fail)));refine wpQuiet_nil ?_
      refine wpAt rfl rfl fun K hK=> ?_
      go_simp;refine(made_any _ _ _ _ (HD2.out.keep K3.out) HN2.out).mono ?_;rintro e v4 ⟨rfl,hk⟩;have K4:=zh ((show Keep NoS w0 _ from K3.out).both hk)
      rw [HV2.out];have HBa:=zh (HBa.out.keep hk);have HBb:=zh (HBb.out.keep hk);refine hK _ _ ⟨HCL.out _ K4.out,?_⟩;clear hK K hk
      (repeat(quiet_step (fail)));refine wpQuiet_nil ?_
      obtain⟨ra0,ra1,fa0,fa1,ral⟩:=HBa.out.two;refine wpAt rfl rfl fun K hK=> ?_
      go_simp;have K5:=zh (keep_set2 K4.out HGa.out (.bool qb) (.string QS));refine hK _ _ ⟨HCL.out _ K5.out,?_⟩;have HBa:=zh (HBa.out.set2 (.bool qb) (.string QS));have HBb:=zh (HBb.out.other2 (fun h=>HNE.out h.symm) (.bool qb) (.string QS))
      clear hK K ra0 ra1 fa0 fa1 ral;generalize (v4.setCell ⟨ba,0,none⟩ (.bool qb)).setCell ⟨ba,1,none⟩ (.string QS)=v5 at*
      (repeat(quiet_step (fail)));refine wpQuiet_nil ?_
      obtain⟨rb0,rb1,fb0,fb1,rbl⟩:=HBb.out.two;refine wpAt rfl rfl fun K hK=> ?_
      go_simp;have K6:=zh (keep_set2 K5.out HGb.out (.bool rb) (.string RS));refine hK _ _ ⟨HCL.out _ K6.out,?_⟩;have HBb:=zh (HBb.out.set2 (.bool rb) (.string RS));have HBa:=zh (HBa.out.other2 (fun h=>HNE.out h) (.bool rb) (.string RS))
      clear hK K rb0 rb1 fb0 fb1 rbl;generalize (v5.setCell ⟨bb,0,none⟩ (.bool rb)).setCell ⟨bb,1,none⟩ (.string RS)=v6 at*
      (repeat(quiet_step (fail)));refine wpQuiet_nil ?_
      refine NoPanic.normal ?_;go_wp2_with fail;go_meet;exact⟨ba,bb,rfl,rfl,K6.out,HBa.out,HBb.out,HGa.out,HGb.out,HNE.out⟩
    ·refine wpAt rfl rfl fun K hK=> ?_
     go_simp;have k2:Keep NoS w0 (v1.alloc (.cells #[.bool false,.string ⟨#[]⟩] 91)):=K1.out.alloc _;refine hK _ _ ⟨HCL.out _ k2,?_⟩;have HBa:Hid (Blk (v1.alloc (.cells #[.bool false,.string ⟨#[]⟩] 91)) v1.heap.size #[.bool false,.string ⟨#[]⟩]):=zh (blk_at _ _ rfl);have K2:=zh k2;have HNE:Hid (v1.heap.size≠bb):=zh (by have:=HBb.out.lt;omega)
     have HBb:=zh (HBb.out.old (.cells #[.bool false,.string ⟨#[]⟩] 91));clear hK K k2;obtain⟨ba,hba⟩:∃b,b=v1.heap.size:=⟨_,rfl⟩;have HGa:Hid (w0.heap.size≤ba):=zh (by rw [hba];exact K1.out.size)
     rw [← hba]at HBa HNE ⊢;clear hba;generalize v1.alloc (.cells #[.bool false,.string ⟨#[]⟩] 91)=v2 at*
     (repeat(quiet_step (fail)));refine wpQuiet_nil ?_
     refine wpAt rfl rfl fun K hK=> ?_
     go_simp;refine(made_any _ _ _ _ (HD1.out.keep K2.out) HN1.out).mono ?_;rintro e v3 ⟨rfl,hk⟩;have K3:=zh ((show Keep NoS w0 _ from K2.out).both hk)
     rw [HV1.out];have HBa:=zh (HBa.out.keep hk);have HBb:=zh (HBb.out.keep hk);refine hK _ _ ⟨HCL.out _ K3.out,?_⟩;clear hK K hk
     (repeat(quiet_step (fail)));refine wpQuiet_nil ?_
     refine wpAt rfl rfl fun K hK=> ?_
     go_simp;refine(made_any _ _ _ _ (HD2.out.keep K3.out) HN2.out).mono ?_;rintro e v4 ⟨rfl,hk⟩;have K4:=zh ((show Keep NoS w0 _ from K3.out).both hk)
     rw [HV2.out];have HBa:=zh (HBa.out.keep hk);have HBb:=zh (HBb.out.keep hk);refine hK _ _ ⟨HCL.out _ K4.out,?_⟩;clear hK K hk
     (repeat(quiet_step (fail)));refine wpQuiet_nil ?_
     obtain⟨ra0,ra1,fa0,fa1,ral⟩:=HBa.out.two;refine wpAt rfl rfl fun K hK=> ?_
     go_simp;have K5:=zh (keep_set2 K4.out HGa.out (.bool qb) (.string QS));refine hK _ _ ⟨HCL.out _ K5.out,?_⟩;have HBa:=zh (HBa.out.set2 (.bool qb) (.string QS));have HBb:=zh (HBb.out.other2 (fun h=>HNE.out h.symm) (.bool qb) (.string QS))
     clear hK K ra0 ra1 fa0 fa1 ral;generalize (v4.setCell ⟨ba,0,none⟩ (.bool qb)).setCell ⟨ba,1,none⟩ (.string QS)=v5 at*
     (repeat(quiet_step (fail)));refine wpQuiet_nil ?_
     obtain⟨rb0,rb1,fb0,fb1,rbl⟩:=HBb.out.two;refine wpAt rfl rfl fun K hK=> ?_
     go_simp;have K6:=zh (keep_set2 K5.out HGb.out (.bool rb) (.string RS));refine hK _ _ ⟨HCL.out _ K6.out,?_⟩;have HBb:=zh (HBb.out.set2 (.bool rb) (.string RS));have HBa:=zh (HBa.out.other2 (fun h=>HNE.out h) (.bool rb) (.string RS))
     clear hK K rb0 rb1 fb0 fb1 rbl;generalize (v5.setCell ⟨bb,0,none⟩ (.bool rb)).setCell ⟨bb,1,none⟩ (.string RS)=v6 at*
     (repeat(quiet_step (fail)));refine wpQuiet_nil ?_
     refine NoPanic.normal ?_;go_wp2_with fail;go_meet;exact⟨ba,bb,rfl,rfl,K6.out,HBa.out,HBb.out,HGa.out,HGb.out,HNE.out⟩
 case rest=>
  as_aux_lemma=>
   obtain⟨ba,bb,rfl,rfl,hk6,hba,hbb,hga,hgb,hne⟩:=hcut;obtain⟨w6,hw6⟩:∃W:World,W=wc:=⟨_,rfl⟩;rw [← hw6]at hk6 hba hbb ⊢;clear hw6;have K6:=zh (K5.out.both hk6);have HB1:=zh (HB1.out.keep hk6);have HB4:=zh (HB4.out.keep hk6);have HB5:=zh (HB5.out.keep hk6);have HBa:=zh hba;have HBb:=zh hbb;have HNE:=zh hne;have HGa:Hid (w.heap.size≤ba):=zh (Nat.le_trans K5.out.size hga);have HGb:Hid (w.heap.size≤bb):=zh (Nat.le_trans K5.out.size hgb);have HD1b:Hid (b1≠bb):=zh (fun h=>by have:=HB1'.out;omega)
   have HD4:Hid (b4≠ba∧b4≠bb∧b5≠ba∧b5≠bb):=zh ⟨fun h=>by have:=HB4'.out;omega,fun h=>by have:=HB4'.out;omega,fun h=>by have:=HB5'.out;omega,fun h=>by have:=HB5'.out;omega⟩
   clear hk6 hba hbb hne hga hgb;obtain⟨rb0,rb1,fb0,fb1,rbl⟩:=HBb.out.two;go_wp2_with fail;refine(SR _).out.mono ?_;rintro e w7 ⟨rfl,hk7⟩;have K7:=zh (K6.out.both hk7);have HB1:=zh (HB1.out.keep hk7);have HB4:=zh (HB4.out.keep hk7);have HB5:=zh (HB5.out.keep hk7);have HBa:=zh (HBa.out.keep hk7);have HBb:=zh (HBb.out.keep hk7);clear hk7 rb0 rb1 fb0 fb1 rbl SR;go_upto_if 37 with fail
   go_cut [1,11,19,37]from 38 to 51 (fun s1 s11 s19 s37 wx=>∃tb TS sb SS,s1= .agg #[.bool by',.string U]∧s11= .agg #[.bool by',.string U]∧s19= .agg #[.bool by',.string U]∧longV (x/y)= .agg #[.bool tb,.string TS]∧longV (x%y)= .agg #[.bool sb,.string SS]∧Keep NoS w wx∧Blk wx ba #[.bool tb,.string TS]∧Blk wx bb #[.bool sb,.string SS]∧Blk wx b4 #[.bool false,.string ⟨#[]⟩]∧Blk wx b5 #[.bool false,.string ⟨#[]⟩])
   case rest=>
    obtain⟨tb,TS,sb,SS,rfl,rfl,rfl,lq',lr',hk12,hba,hbb,hb4,hb5⟩:=hcut;obtain⟨w12,hw12⟩:∃W:World,W=wc:=⟨_,rfl⟩;rw [← hw12]at hk12 hba hbb hb4 hb5 ⊢;have HBa:=zh hba;have HBb:=zh hbb;have HB4:=zh hb4;have HB5:=zh hb5;have K12:=zh hk12;have HLSQ:=zh lq';have HLSR:=zh lr';clear hk12 hba hbb hb4 hb5 lq' lr' hw12 UR U1 U2 AY HB1;go_wp2;obtain⟨A0,A1,_,_,Al⟩:=HBa.out.two;obtain⟨C0,C1,_,_,Cl⟩:=HBb.out.two;obtain⟨g40,g41,f40,f41,l4⟩:=HB4.out.two;obtain⟨g50,g51,f50,f51,l5⟩:=HB5.out.two;refine wp_region_by (fun w'=>Keep (Is2 b4 b5) w12 w') [] [([0,1],2),([],3)] [4] (by kernel_rfl) (by kernel_rfl) (Keep.refl _ _).drew ?_
    intro X W hne hF hcl;have HCL:=zh hcl;have hx0:=fun x=>(HBa.out.keep2 (hF x) HD4.out.1.symm HD4.out.2.2.1.symm).two
    have hx1:=fun x=>(HBb.out.keep2 (hF x) HD4.out.2.1.symm HD4.out.2.2.2.symm).two
    clear hF hcl;simp only [wpPlan,pickOps,zl0,zl1,zl2,clsOf,Bool.false_eq_true,if_false]
    (repeat(quiet_step (fail)));refine wpQuiet_nil ?_
    refine wpAt rfl rfl fun K hK=> ?_
    go_simp;have kk1:Keep (Is2 b4 b5) w12 ((w12.setCell ⟨b4,0,none⟩ (.bool tb)).setCell ⟨b4,1,none⟩ (.string TS)).drew:=(keep2_set (Keep.refl _ _) (.inl rfl) _ _).drew;refine hK _ _ ⟨fun _=>HCL.out _ kk1,?_⟩
    have HB4':Hid (Blk ((w12.setCell ⟨b4,0,none⟩ (.bool tb)).setCell ⟨b4,1,none⟩ (.string TS)).drew b4 #[.bool tb,.string TS]):=zh ((HB4.out.set2 (.bool tb) (.string TS)).keep (Keep.refl NoS _).drew);have HB5:Hid (Blk ((w12.setCell ⟨b4,0,none⟩ (.bool tb)).setCell ⟨b4,1,none⟩ (.string TS)).drew b5 #[.bool false,.string ⟨#[]⟩]):=zh ((HB5.out.other2 (fun h=>h45 h.symm) (.bool tb) (.string TS)).keep (Keep.refl NoS _).drew)
    have K13:Hid (Keep NoS w ((w12.setCell ⟨b4,0,none⟩ (.bool tb)).setCell ⟨b4,1,none⟩ (.string TS)).drew):=zh (keep_set2 K12.out HS4.out (.bool tb) (.string TS)).drew;clear hK K A0 A1 Al C0 C1 Cl g40 g41 f40 f41 l4 g50 g51 f50 f51 l5;generalize ((w12.setCell ⟨b4,0,none⟩ (.bool tb)).setCell ⟨b4,1,none⟩ (.string TS)).drew=w13 at *;obtain⟨g50,g51,f50,f51,l5⟩:=HB5.out.two
    (repeat(quiet_step (fail)));refine wpQuiet_nil ?_
    refine wpAt rfl rfl fun K hK=> ?_
    go_simp;refine hK _ _ ⟨fun _=>HCL.out _ (keep2_set kk1 (.inr rfl) _ _),?_⟩
    have HB5':=zh (HB5.out.set2 (.bool sb) (.string SS));have HB4':=zh (HB4'.out.other2 h45 (.bool sb) (.string SS));have K14:=zh (keep_set2 K13.out HS5.out (.bool sb) (.string SS));clear hK K g50 g51 f50 f51 l5;generalize (w13.setCell ⟨b5,0,none⟩ (.bool sb)).setCell ⟨b5,1,none⟩ (.string SS)=w14 at*
    (repeat(quiet_step (fail)));refine wpQuiet_nil ?_
    refine NoPanic.normal ?_;obtain⟨g40,g41,f40,f41,l4⟩:=HB4'.out.two;obtain⟨g50,g51,f50,f51,l5⟩:=HB5'.out.two;go_wp2;refine bodyPost_ret (by simp [results,Tryz.results99,go_sem,g40,g41,l4,g50,g51,l5];rfl) rfl ?_
    exact⟨by rw [HLSQ.out,HLSR.out],K14.out⟩
   by_cases hneg:x.tmod y<0
   ·have e1:decide ((x.tmod y).sign<0)=true:=decide_eq_true (HSG.out.1 hneg)
    have HE:=zh (HE1.out hneg);go_wp2;refine wp_region_by (fun w'=>Keep NoS w7 w') [4] [([0,1],2),([],3),([],4)] [] (by kernel_rfl) (by kernel_rfl) kp ?_
    intro X W hne hF hcl;have HCL:=zh hcl;have hx0:=fun x=>(HB1.out.keep (hF x)).two
    have hx1:=fun x=>(HBb.out.keep (hF x)).two
    clear hF hcl;simp only [wpPlan,pickOps,zl0,zl1,zl2,clsOf,Bool.false_eq_true,if_false]
    (repeat(quiet_step (fail)));refine wpQuiet_nil ?_
    refine wpAt rfl rfl fun K hK=> ?_
    go_simp;refine(AY _).out.mono ?_;rintro e w8 ⟨rfl,hk8⟩;have k8:Keep NoS w7 w8:=Keep.trans kp hk8 fun _ _ _ h=>h
    refine hK _ _ ⟨fun _=>HCL.out _ k8,?_⟩
    clear hK K hk8
    (repeat(quiet_step (fail)));refine wpQuiet_nil ?_
    refine wpAt rfl rfl fun K hK=> ?_
    go_simp;refine(UR _).out.mono ?_;rintro e w9 ⟨rfl,hk9⟩;have k9:=k8.both hk9;refine hK _ _ ⟨fun _=>HCL.out _ k9,?_⟩
    have K9:=zh (K7.out.both k9);have HB1:=zh (HB1.out.keep k9);have HB4:=zh (HB4.out.keep k9);have HB5:=zh (HB5.out.keep k9);have HBa:=zh (HBa.out.keep k9);have HBb:=zh (HBb.out.keep k9);clear hK K hk9 k8 hx0 hx1 k9;obtain⟨sb,SS,lsr,-,-⟩:=longV_agg (x.tmod y+(y.natAbs:Nat));rw [lsr];have HLSR:=zh lsr;clear lsr;obtain⟨rb0,rb1,fb0,fb1,rbl⟩:=HBb.out.two
    (repeat(quiet_step (fail)));refine wpQuiet_nil ?_
    refine wpAt rfl rfl fun K hK=> ?_
    go_simp;refine hK _ _ ⟨fun h=>(by simp at h),?_⟩
    have HBb':=zh (HBb.out.set2 (.bool sb) (.string SS));have HBa:=zh (HBa.out.other2 (fun h=>HNE.out h) (.bool sb) (.string SS))
    have HB1:=zh (HB1.out.other2 (fun h=>HD1b.out h) (.bool sb) (.string SS))
    have HB4:=zh (HB4.out.other2 HD4.out.2.1 (.bool sb) (.string SS));have HB5:=zh (HB5.out.other2 HD4.out.2.2.2 (.bool sb) (.string SS));have K10:=zh (keep_set2 K9.out HGb.out (.bool sb) (.string SS));clear hK K rb0 rb1 fb0 fb1 rbl HBb HCL;generalize (w9.setCell ⟨bb,0,none⟩ (.bool sb)).setCell ⟨bb,1,none⟩ (.string SS)=w10 at *;have HBb:=HBb';clear HBb'
    (repeat(quiet_step (fail)));refine wpQuiet_nil ?_
    refine NoPanic.normal ?_;obtain⟨y0,y1,_,_,yl⟩:=HB1.out.two
    by_cases hyn:y<0
    ·obtain rfl:by'=true:=by rw [HBY.out];exact decide_eq_true hyn
     have HE:=zh (HE.out.1 hyn);clear hyn;go_wp2;refine wp_region_by (fun w'=>Keep NoS w10 w') [3] [([0],1),([],2),([],3)] [] (by kernel_rfl) (by kernel_rfl) kp ?_
     intro X W hne hF hcl;have HCL:=zh hcl;have hx0:=fun x=>(HBa.out.keep (hF x)).two
     clear hF hcl;simp only [wpPlan,pickOps,zl0,zl1,zl2,clsOf,Bool.false_eq_true,if_false]
     (repeat(quiet_step (fail)));refine wpQuiet_nil ?_
     refine wpAt rfl rfl fun K hK=> ?_
     go_simp;refine(longOf_any _ 1 (by omega) (by omega)).mono ?_
     rintro e w11 ⟨rfl,hk11⟩;obtain⟨v11,hv11⟩:∃v,longV 1=v:=⟨_,rfl⟩;rw [hv11];have k11:Keep NoS w10 w11:=Keep.trans kp hk11 fun _ _ _ h=>h
     refine hK _ _ ⟨fun _=>HCL.out _ k11,?_⟩
     clear hK K hk11
     (repeat(quiet_step (fail)));refine wpQuiet_nil ?_
     refine wpAt rfl rfl fun K hK=> ?_
     go_simp;have HU:=(U1 w11);rw [hv11]at HU;clear hv11;refine HU.out.mono ?_;rintro e w12' ⟨rfl,hk12⟩;have k12:=k11.both hk12;refine hK _ _ ⟨fun _=>HCL.out _ k12,?_⟩
     have K12':=zh (K10.out.both k12);have HB4:=zh (HB4.out.keep k12);have HB5:=zh (HB5.out.keep k12);have HBa:=zh (HBa.out.keep k12);have HBb:=zh (HBb.out.keep k12);clear hK K hk12 k11 hx0 k12;obtain⟨tb,TS,lsq,-,-⟩:=longV_agg (x.tdiv y+1);rw [lsq];have HLSQ:=zh lsq;clear lsq;obtain⟨ra0,ra1,fa0,fa1,ral⟩:=HBa.out.two
     (repeat(quiet_step (fail)));refine wpQuiet_nil ?_
     refine wpAt rfl rfl fun K hK=> ?_
     go_simp;refine hK _ _ ⟨fun h=>(by simp at h),?_⟩
     have HBa':=zh (HBa.out.set2 (.bool tb) (.string TS));have HBb:=zh (HBb.out.other2 (fun h=>HNE.out h.symm) (.bool tb) (.string TS))
     have HB4:=zh (HB4.out.other2 HD4.out.1 (.bool tb) (.string TS));have HB5:=zh (HB5.out.other2 HD4.out.2.2.1 (.bool tb) (.string TS));have K12:=zh (keep_set2 K12'.out HGa.out (.bool tb) (.string TS));clear hK K ra0 ra1 fa0 fa1 ral HBa HCL y0 y1 yl;generalize (w12'.setCell ⟨ba,0,none⟩ (.bool tb)).setCell ⟨ba,1,none⟩ (.string TS)=w12 at *;have HBa:=HBa';clear HBa'
     (repeat(quiet_step (fail)));refine wpQuiet_nil ?_
     refine NoPanic.normal ?_;go_wp2_with fail;go_meet;exact⟨tb,TS,sb,SS,rfl,rfl,rfl,by rw [HE.out.1];exact HLSQ.out,by rw [HE.out.2];exact HLSR.out,K12.out,HBa.out,HBb.out,HB4.out,HB5.out⟩
    ·obtain rfl:by'=false:=by rw [HBY.out];exact decide_eq_false hyn
     have HE:=zh (HE.out.2 (by omega))
     clear hyn;go_wp2;refine wp_region_by (fun w'=>Keep NoS w10 w') [3] [([0],1),([],2),([],3)] [] (by kernel_rfl) (by kernel_rfl) kp ?_
     intro X W hne hF hcl;have HCL:=zh hcl;have hx0:=fun x=>(HBa.out.keep (hF x)).two
     clear hF hcl;simp only [wpPlan,pickOps,zl0,zl1,zl2,clsOf,Bool.false_eq_true,if_false]
     (repeat(quiet_step (fail)));refine wpQuiet_nil ?_
     refine wpAt rfl rfl fun K hK=> ?_
     go_simp;refine(longOf_any _ (-1) (by omega) (by omega)).mono ?_
     rintro e w11 ⟨rfl,hk11⟩;obtain⟨v11,hv11⟩:∃v,longV (-1)=v:=⟨_,rfl⟩;rw [hv11];have k11:Keep NoS w10 w11:=Keep.trans kp hk11 fun _ _ _ h=>h
     refine hK _ _ ⟨fun _=>HCL.out _ k11,?_⟩
     clear hK K hk11
     (repeat(quiet_step (fail)));refine wpQuiet_nil ?_
     refine wpAt rfl rfl fun K hK=> ?_
     go_simp;have HU:=(U2 w11);rw [hv11]at HU;clear hv11;refine HU.out.mono ?_;rintro e w12' ⟨rfl,hk12⟩;have k12:=k11.both hk12;refine hK _ _ ⟨fun _=>HCL.out _ k12,?_⟩
     have K12':=zh (K10.out.both k12);have HB4:=zh (HB4.out.keep k12);have HB5:=zh (HB5.out.keep k12);have HBa:=zh (HBa.out.keep k12);have HBb:=zh (HBb.out.keep k12);clear hK K hk12 k11 hx0 k12;obtain⟨tb,TS,lsq,-,-⟩:=longV_agg (x.tdiv y+(-1));rw [lsq];have HLSQ:=zh lsq;clear lsq;obtain⟨ra0,ra1,fa0,fa1,ral⟩:=HBa.out.two
     (repeat(quiet_step (fail)));refine wpQuiet_nil ?_
     refine wpAt rfl rfl fun K hK=> ?_
     go_simp;refine hK _ _ ⟨fun h=>(by simp at h),?_⟩
     have HBa':=zh (HBa.out.set2 (.bool tb) (.string TS));have HBb:=zh (HBb.out.other2 (fun h=>HNE.out h.symm) (.bool tb) (.string TS))
     have HB4:=zh (HB4.out.other2 HD4.out.1 (.bool tb) (.string TS));have HB5:=zh (HB5.out.other2 HD4.out.2.2.1 (.bool tb) (.string TS));have K12:=zh (keep_set2 K12'.out HGa.out (.bool tb) (.string TS));clear hK K ra0 ra1 fa0 fa1 ral HBa HCL y0 y1 yl;generalize (w12'.setCell ⟨ba,0,none⟩ (.bool tb)).setCell ⟨ba,1,none⟩ (.string TS)=w12 at *;have HBa:=HBa';clear HBa'
     (repeat(quiet_step (fail)));refine wpQuiet_nil ?_
     refine NoPanic.normal ?_;go_wp2_with fail;go_meet;exact⟨tb,TS,sb,SS,rfl,rfl,rfl,by rw [HE.out.1];exact HLSQ.out,by rw [HE.out.2];exact HLSR.out,K12.out,HBa.out,HBb.out,HB4.out,HB5.out⟩
   ·have e1:decide ((x.tmod y).sign<0)=false:=decide_eq_false fun h=>hneg (HSG.out.2 h)
    have e2:¬(x.tmod y).sign<0:=fun h=>hneg (HSG.out.2 h)
    have e3:0≤(x.tmod y).sign:=by omega
    have HE:=zh (HE0.out (by omega))
    have e5:0≤x.tmod y:=by omega
    go_wp2_with fail;go_meet;exact⟨qb,QS,rb,RS,rfl,rfl,rfl,by rw [HE.out.1];exact HLQ.out,by rw [HE.out.2];exact HLR.out,K7.out,HBa.out,HBb.out,HB4.out,HB5.out⟩
theorem IsDg.uniq {w:World}{v:Value}{ds ds':List Nat}(h:IsDg w v ds)(h':IsDg w v ds'):ds=ds':=by
 obtain⟨oa,cap,hv,_,_,_,hc⟩:=h;obtain⟨oa',cap',hv',_,_,_,hc'⟩:=h';rw [hv]at hv';simp at hv';obtain⟨rfl,hl,rfl⟩:=hv'
 by_cases h0:ds= []
 ·subst h0
  exact(List.length_eq_zero_iff.1 hl.symm).symm
 ·obtain ⟨g,o,e,_,hc⟩:=hc h0
  obtain⟨g',o',e',_,hc'⟩:=hc' (by rintro rfl;exact h0 (List.length_eq_zero_iff.1 hl))
  rw [e]at e';simp at e';obtain⟨rfl,rfl⟩:=e'
  apply List.ext_getElem hl
  intro i h1 h2;have e1:=hc i h1;have e2:=hc' i h2;rw [e1]at e2;simp [List.getD,h1,h2]at e2;omega
open Classical in
noncomputable def dgAt (w:World) (v:Value):Nat:=if h:∃es,IsDg w v es then dval (Classical.choose h)else 0
theorem dgAt_eq {w:World}{v:Value}{es:List Nat}(h:IsDg w v es):dgAt w v=dval es:=by
 have hex:∃es,IsDg w v es:=⟨es,h⟩;unfold dgAt;rw [dif_pos hex,(Classical.choose_spec hex).uniq h]
theorem longGcd_any (w:World)(x y:Int)(hx:dl x≤4500)(hy:dl y≤4500):
  Calls Tryz.prog 117 #[longV x,longV y] w fun e w'=>e= .returned (longV (Nat.gcd x.natAbs y.natAbs:Nat))∧Keep NoS w w':=by
 have hdx:(digN x.natAbs).length≤4500:=hx;have hdy:(digN y.natAbs).length≤4500:=hy;have LX:=fun w b=>zh (limbs_of w x b (by omega))
 have LY:=fun w b=>zh (limbs_of w y b (by omega))
 obtain⟨bx,S,lx,hbx,hS⟩:=longV_agg x;obtain⟨by',U,ly,hby,hU⟩:=longV_agg y
 obtain⟨gb,GS,lg,-,-⟩:=longV_agg (Nat.gcd x.natAbs y.natAbs:Nat);rw [← hS]at LX;rw [← hU]at LY;rw [lx,ly,lg];have HLG:=zh lg;have HDX:=zh hdx;have HDY:=zh hdy;clear hx hy hbx hS hby hU lx ly lg hdx hdy;go_enter Tryz.func117,Tryz.ntmps117;go_wp2;have B0:Blk (((w.alloc (.cells #[.bool bx,.string S] 91)).alloc (.cells #[.bool by',.string U] 91)).alloc (.cells #[.bool false,.string ⟨#[]⟩] 91)) w.heap.size #[.bool bx,.string S]:=kc
 have B1:Blk (((w.alloc (.cells #[.bool bx,.string S] 91)).alloc (.cells #[.bool by',.string U] 91)).alloc (.cells #[.bool false,.string ⟨#[]⟩] 91)) (w.heap.size+1) #[.bool by',.string U]:=kc
 have B2:Blk (((w.alloc (.cells #[.bool bx,.string S] 91)).alloc (.cells #[.bool by',.string U] 91)).alloc (.cells #[.bool false,.string ⟨#[]⟩] 91)) (w.heap.size+1+1) #[.bool false,.string ⟨#[]⟩]:=kc
 have K0:Hid (Keep NoS w (((w.alloc (.cells #[.bool bx,.string S] 91)).alloc (.cells #[.bool by',.string U] 91)).alloc (.cells #[.bool false,.string ⟨#[]⟩] 91))):=zh kp
 generalize ((w.alloc (.cells #[.bool bx,.string S] 91)).alloc (.cells #[.bool by',.string U] 91)).alloc (.cells #[.bool false,.string ⟨#[]⟩] 91)=w0 at*
 have HB0:=zh B0;have HB1:=zh B1;have HB2:=zh B2;have HS2:Hid (w.heap.size≤w.heap.size+1+1):=zh (by omega)
 clear B0 B1 B2;refine wp_region_by (fun w'=>Keep NoS w0 w') [] [([0,3],1),([],2),([],4),([],5)] [6,7] (by kernel_rfl) (by kernel_rfl) kp ?_
 intro X W hne hF hcl;have HCL:=zh hcl;have hx0:=fun x=>(HB0.out.keep (hF x)).two
 have hx1:=fun x=>(HB1.out.keep (hF x)).two
 clear hF hcl;simp only [wpPlan,pickOps,zl0,zl1,zl2,clsOf,Bool.false_eq_true,if_false]
 (repeat(quiet_step (fail)));refine wpQuiet_nil ?_
 refine wpAt rfl rfl fun K hK=> ?_
 go_simp;refine(LX _ _).out.mono ?_;rintro e w1 ⟨v1,rfl,hd1,hk1⟩;have k1:Keep NoS w0 w1:=Keep.trans kp hk1 fun _ _ _ h=>h
 refine hK _ _ ⟨fun _=>HCL.out _ k1,?_⟩
 clear hK K hk1
 (repeat(quiet_step (fail)));refine wpQuiet_nil ?_
 refine wpAt rfl rfl fun K hK=> ?_
 go_simp;refine(longTrim_any _ _ _ hd1 (by have:=HDX.out;omega)).mono ?_
 rintro e w1' ⟨⟨v2,rfl,hd2⟩,rfl⟩;rw [trimD_self (digN_noEnd _) hd1.lt]at hd2;refine hK _ _ ⟨fun _=>HCL.out _ k1,?_⟩
 clear hK K hd1
 (repeat(quiet_step (fail)));refine wpQuiet_nil ?_
 refine wpAt rfl rfl fun K hK=> ?_
 go_simp;refine(LY _ _).out.mono ?_;rintro e w3 ⟨v3,rfl,hd3,hk3⟩;have k3:=k1.both hk3;refine hK _ _ ⟨fun _=>HCL.out _ k3,?_⟩
 have hd2:=hd2.keep hk3;clear hK K hk3 k1
 (repeat(quiet_step (fail)));refine wpQuiet_nil ?_
 refine wpAt rfl rfl fun K hK=> ?_
 go_simp;refine(longTrim_any _ _ _ hd3 (by have:=HDY.out;omega)).mono ?_
 rintro e w3' ⟨⟨v4,rfl,hd4⟩,rfl⟩;rw [trimD_self (digN_noEnd _) hd3.lt]at hd4;refine hK _ _ ⟨fun _=>HCL.out _ k3,?_⟩
 have K3:=zh (K0.out.both k3);have HB2:=zh (HB2.out.keep k3);have HD2:=zh hd2;have HD4:=zh hd4;clear hK K hd3 hd2 hd4 LX LY hx0 hx1 HCL k3
 (repeat(quiet_step (fail)));refine wpQuiet_nil ?_
 refine NoPanic.normal ?_;generalize w.heap.size+1+1=b2 at *;go_wp2;go_loopw [5,6] (fun s t wr=>∃ds es,IsDg wr s ds∧IsDg wr t es∧NoEnd ds∧NoEnd es∧ds.length≤4500∧es.length≤4500∧Nat.gcd (dval ds) (dval es)=Nat.gcd x.natAbs y.natAbs∧Keep NoS w wr∧Blk wr b2 #[.bool false,.string ⟨#[]⟩]) (fun _ t wr=>dgAt wr t)
 case atStart=>exact⟨_,_,HD2.out,HD4.out,digN_noEnd _,digN_noEnd _,HDX.out,HDY.out,by rw [digN_val,digN_val],K3.out,HB2.out⟩
 case round=>
  obtain⟨ds,es,hds,hes,hnd,hne',hld,hle,hg,hk,hb⟩:=hrel;have HDS:=zh hds;have HES:=zh hes;have HND:=zh hnd;have HNE:=zh hne';have HG:=zh hg;have HK:=zh hk;have HB:=zh hb;have HM:=zh (dgAt_eq hes);obtain⟨od,cd,rfl,hcd,hmd⟩:=hds.len;obtain⟨oe,ce,rfl,hce,hme⟩:=hes.len;unfold maxLen at hmd hme;clear hds hes hnd hne' hg hk hb
  by_cases h0:es.length=0
  ·obtain rfl:es= []:=List.length_eq_zero_iff.1 h0
   clear h0;go_wp2_with fail;refine(made_any _ false _ ds HDS.out (by omega)).mono ?_
   rintro e w5 ⟨rfl,hk5⟩;have HV:Hid (longV (sgn false (dval ds))= .agg #[.bool gb,.string GS]):=zh (by
    rw [← HLG.out,←HG.out];simp [sgn,dval])
   rw [HV.out];have HB5:=HB.out.keep hk5;have K5:=zh (HK.out.both hk5);obtain⟨r0,r1,f0,f1,rl⟩:=HB5.two;go_wp2;refine bodyPost_ret (by simp [results,Tryz.results117,go_sem,r0,r1,rl];rfl) rfl ?_
   exact⟨rfl,keep_set2 K5.out HS2.out _ _⟩
  ·have hlt:(0:Int)<(es.length:Int):=by omega
   have hlt0:0<es.length:=by omega
   have hcon:dval es≠0:=fun h=>by
    have:=dval_ge es HNE.out (by rintro rfl;simp at h0)
    have:=Nat.pow_pos (a:=4294967296) (n:=es.length-1) (by omega)
    omega
   have HC:Hid (dval ds%dval es<dval es∧Nat.gcd (dval es) (dval ds%dval es)=Nat.gcd (dval ds) (dval es)):=zh ⟨Nat.mod_lt _ (by omega),(Nat.gcd_comm _ _).trans ((Nat.gcd_rec (dval es) (dval ds)).symm.trans (Nat.gcd_comm _ _))⟩
   have HQ:=zh (longQuotient_any wr _ _ ds es HDS.out HES.out HND.out HNE.out hlt0 (by omega) (by omega))
   clear h0 hcon;go_wp2_with fail;refine HQ.out.mono ?_;rintro e w5 ⟨vq,vr,qs,rs,rfl,hk5,hq5,hr5,hvq,hvr,hlq,hlr⟩;have HR5:=zh hr5;have HVR:=zh hvr;have HK5:=zh hk5;clear hk5 hq5 hr5 hvq hvr hlq HQ;go_wp2_with fail;refine(longTrim_any _ _ rs HR5.out (by omega)).mono ?_
   rintro e w6 ⟨⟨v6,rfl,hd6⟩,rfl⟩;rw [trimD_dig HR5.out.lt]at hd6;have HD6:=zh hd6;clear hd6;go_wp2_with fail;go_roundw
   case rel=>
    refine⟨es,_,HES.out.keep HK5.out,HD6.out,HNE.out,digN_noEnd _,hle,?_,?_,HK.out.both HK5.out,HB.out.keep HK5.out⟩
    ·have h1:(digN (dval rs)).length≤es.length:=digN_len (by rw [HVR.out];exact Nat.lt_trans HC.out.1 (dval_lt _ HES.out.lt))
     omega
    ·rw [digN_val,HVR.out,HC.out.2];exact HG.out
   case measure=>
    rw [dgAt_eq HD6.out,HM.out,digN_val,HVR.out];exact HC.out.1
end Go.Proofs.YtaiffmebphhdaaaGreat
