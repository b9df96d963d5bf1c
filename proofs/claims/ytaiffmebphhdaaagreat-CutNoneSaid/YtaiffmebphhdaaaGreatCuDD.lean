/- Package cut: Search, Do. Package cut: what Do tells, by cases. Numbers, fractions and rows that lie in blocks of the call's own. The closed fact of the cut laws. What the walks are told of arguments that are slices of bools. -/
import Derived.Test.YtaiffmebphhdaaaGreatCuO
import Derived.Test.YtaiffmebphhdaaaGreatFkAA
import Derived.Test.YtaiffmebphhdaaaGreatOwnG
import Derived.Test.YtaiffmebphhdaaaGreatBaseB
import Derived.Test.YtaiffmebphhdaaaGreatCuAA
import Derived.Deep.Grids
namespace Go.Proofs.YtaiffmebphhdaaaGreat
set_option maxRecDepth 100000
set_option maxHeartbeats 32000000
set_option linter.unusedSimpArgs false
set_option linter.unusedVariables false
open Go.ChangeShapes Go.WideShapes Go.RowKit Go.Maps
def IsStp (w:World)(v:Value)(T:List CStep):Prop:=∃(base:Nat) (ys:List StV),ys.map StV.st=T∧(∀y∈ys,StOK w base y)∧OwnG TSt 9 stC w base v ys
theorem IsStp.keep {w w':World}{v:Value}{T:List CStep}(h:IsStp w v T)(k:Keep NoS w w'):IsStp w' v T:=by
 obtain⟨b,ys,h1,h2,h3⟩:=h;exact⟨b,ys,h1,fun y hy=>(h2 y hy).kt (.of (P:=fun _=>False) k),h3.keep k⟩
theorem IsStp.nil (w:World):IsStp w (.slice none 0 0) []:=⟨0,[],rfl,by simp,OwnG.nil _ _⟩
theorem IsStp.len {w:World}{v:Value}{T:List CStep}(h:IsStp w v T):∃o c,v= .slice o T.length c:=by
 obtain⟨b,ys,h1,h2,h3⟩:=h;obtain⟨o,c,e⟩:=owns_form h3;exact⟨o,c,by rw [← h1,List.length_map];exact e⟩
def srR (rows:List Rw)(ints:List Bool)(fuel:Nat):CRes:=atF (lpN ints.length) rows ints (fuel+1) ⟨fuel,[],[],[],false⟩ []
def SrP (w:World)(r:CRes)(e:Ending)(w':World):Prop:=(r.s.much=true∨3000<r.s.steps.length→e= .returned (.tuple #[.int .i64 0,.slice none 0 0,.slice none 0 0]))∧(¬ (r.s.much=true∨3000<r.s.steps.length)→∃u v,e= .returned (.tuple #[.int .i64 r.st,u,v])∧OwnF w' w.heap.size u r.s.point∧IsStp w' v r.s.steps)∧Keep NoS w w'
theorem search_any (w:World)(orr:Option Addr)(cr:Nat)(oi:Option Addr)(ci:Nat)(rows:List Rw)(ints:List Bool)(hx:CutX w (.slice orr rows.length cr) (.slice oi ints.length ci) rows ints)(fuel:Nat)(hf:fuel≤2000):
  Calls Tryz.prog 20 #[.slice orr rows.length cr,.slice oi ints.length ci,.int .i64 (fuel:Int)] w (SrP w (srR rows ints fuel)):=by
 have HA:=zh (at_any w w.heap.size orr cr oi ci rows ints hx (fuel+1));have h40:=hx.m40;clear hx;have hc1:IsC (fun _=>False) w (w.alloc (.cells #[.slice orr rows.length cr,.slice oi ints.length ci,.int .i64 (fuel:Int),.slice none 0 0,.slice none 0 0,.slice none 0 0,.bool false] TSr)) w.heap.size (.slice orr rows.length cr) (.slice oi ints.length ci) ⟨fuel,[],[],[],false⟩ (.slice none 0 0) (.slice none 0 0) (.slice none 0 0) [] []:=
  ⟨(Keep.refl _ _).alloc _,Nat.le_refl _,heap_alloc_at _ _ _ rfl,OwnG.nil _ _,rfl,by simp,OwnG.nil _ _,rfl,by simp,OwnG.nil _ _,fun c h=>h.elim⟩
 have HC1:=zh hc1;clear hc1;obtain⟨r,hr⟩:∃r,srR rows ints fuel=r:=⟨_,rfl⟩;rw [hr];unfold SrP;go_enter Tryz.func20,Tryz.ntmps20;go_upto_region 2 with fail
 generalize w.alloc (.cells #[.slice orr rows.length cr,.slice oi ints.length ci,.int .i64 (fuel:Int),.slice none 0 0,.slice none 0 0,.slice none 0 0,.bool false] TSr)=w1 at *;have k2:Keep NoS w1 (w1.alloc (.map #[] 0)):=(Keep.refl _ _).alloc _;have hB:IsB (w1.alloc (.map #[] 0)) w.heap.size w1.heap.size []:=⟨[],0,⟨heap_alloc_at _ _ _ rfl,⟨.nil,.nil,by simp⟩,by simp⟩,fun k s=>rfl⟩
 have CA:=zh (HA.out (fun _=>False) _ ⟨fuel,[],[],[],false⟩ [] _ ⟨_,_,_,_,_,HC1.out.keep k2⟩ hB (atOK_nil h40) bdOK_nil (Nat.lt_succ_self _) (by unfold PhiOK;simp only [List.length_nil];omega))
 have hmk:(Instr.makeMap 75 none).run Tryz.prog w1= .ok (.map (some w1.heap.size)) (w1.alloc (.map #[] 0)):=rfl;clear k2 hB HA;go_wp2_with fail;refine CA.out.mono ?_;rintro e w3 ⟨c,rfl,ho3,hs3,kt3⟩;rw [show atF (lpN ints.length) rows ints (fuel+1) ⟨fuel,[],[],[],false⟩ []=r from hr]at ho3 hs3 ⊢
 obtain⟨oc,cc,hcv⟩:=ho3.len;subst hcv;obtain⟨va,vt,vp,xs,ys,hc3⟩:=hs3;obtain⟨⟨oa,ca,rfl⟩,⟨ot,ct,rfl⟩,op,cp,rfl⟩:=hc3.forms;obtain⟨t0,t1,t2,t3,t4,t5,t6,lS⟩:=blk7C hc3.blk;have HC3:=zh hc3;clear CA ho3 hc3 kt3 hr HC1 hmk
 rcases hmu:r.s.much with _ | _
 case true=>
  rw [hmu]at t6;go_simp
  repeat go_step
  refine bodyPost_ret (by simp [results,Tryz.results20,go_sem];rfl) rfl ?_
  exact⟨fun _=>rfl,fun h=>absurd (.inl hmu) h,HC3.out.k⟩
 case false=>
  rw [hmu]at t6
  by_cases hl:3000<r.s.steps.length
  case pos=>
   have d1:decide ((3000:Int)<(r.s.steps.length:Int))=true:=dec_t (by omega)
   have d2:(3000:Int)<(r.s.steps.length:Int):=by omega
   go_simp
   repeat go_step
   refine bodyPost_ret (by simp [results,Tryz.results20,go_sem];rfl) rfl ?_
   exact⟨fun _=>rfl,fun h=>absurd (.inr hl) h,HC3.out.k⟩
  case neg=>
   have d1:decide ((3000:Int)<(r.s.steps.length:Int))=false:=dec_f (by omega)
   have d2:¬(3000:Int)<(r.s.steps.length:Int):=by omega
   go_upto_region 5 with fail
   refine wp_region_by (fun w'=>Keep NoS w3 w') [] [] [0,1,2,3,4,5,6,7,8,9,10,11] (by kernel_rfl) (by kernel_rfl) kp ?_
   intro X W hne hF hcl;have z4:=fun x=>((hF x).cell lS).trans t4
   have z5:=fun x=>((hF x).cell lS).trans t5
   clear hF hcl;simp only [wpPlan,pickOps,zl0,zl1,zl2,clsOf,Bool.false_eq_true,if_false]
   (repeat(go_big_quiet_step (fail)));refine wpQuiet_nil ?_
   refine NoPanic.normal ?_;have HC4:=zh (HC3.out.keep (Keep.refl NoS w3).drew);go_simp
   repeat go_step
   refine bodyPost_ret (by simp [results,Tryz.results20,go_sem];rfl) rfl ?_
   exact⟨fun h=>absurd h (by rintro(h | h);(rw [hmu]at h;cases h);exact hl h),fun _=>⟨_,_,rfl,HC4.out.p,_,_,HC4.out.tx,HC4.out.ti,HC4.out.t⟩,HC4.out.k⟩
def doC (rows:List Rw)(ints:List Bool)(fuel:Int):CutR:=
 if(listF rows ints.length).1=0 then
  if fuel<0∨2000<fuel then⟨0,[],[],(3,-1)⟩else cutG (lpN ints.length) rows ints fuel.toNat
 else⟨0,[],[],listF rows ints.length⟩
def DoP (w:World)(R:CutR)(e:Ending)(w':World):Prop:=∃u t,e= .returned (.tuple #[.int .i64 R.st,u,t,fV R.f])∧IsFracs w' u R.pt∧IsStp w' t R.steps∧Keep NoS w w'
theorem IsStp.other2 {w:World}{base b:Nat}{v:Value}{T:List CStep}(h:IsStp w v T)(hb:∃A,w.heap[b]? =some (.cells A 28 (0,0)))(x y:Value):IsStp ((w.setCell ⟨b,0,none⟩ x).setCell ⟨b,1,none⟩ y) v T:=by
 obtain⟨base,ys,h1,h2,h3⟩:=h;obtain⟨A,hA⟩:=hb;have ne:∀ {e:TypeId} {k n:Nat} {u:Value} {xs:List Value},w.ownsRow base e k u n xs→e≠28→u.ownBlock≠some b:=fun h he e1=>by
  obtain⟨A',e2⟩:=own_at h e1;rw [hA]at e2;exact he (Obj.cells.inj (Option.some.inj e2)).2.1.symm
 have st:∀ {e:TypeId} {k n:Nat} {u:Value} {xs:List Value},w.ownsRow base e k u n xs→e≠28→((w.setCell ⟨b,0,none⟩ x).setCell ⟨b,1,none⟩ y).ownsRow base e k u n xs:=fun h he=>ownsRow_setCell_other (a:=⟨b,1,none⟩) (ownsRow_setCell_other (a:=⟨b,0,none⟩) h (ne h he) x) (ne h he) y
 exact⟨base,ys,h1,fun y hy=>⟨st (h2 y hy).l (by decide),st (h2 y hy).n (by decide),st (h2 y hy).r (by decide)⟩,st h3 (by decide)⟩
theorem cutDo_any (w:World)(v vi:Value)(rows:List Rw)(ints:List Bool)(fuel:Int)(h:IsRows w v rows)(hi:IsBools w vi ints)(hf:I64 fuel):Calls Tryz.prog 9 #[v,vi,.int .i64 fuel] w (DoP w (doC rows ints fuel)):=by
 have hnI:I64 (ints.length:Int):=by
  obtain⟨_,_,_,h1,h2⟩:=hi.len;unfold maxLen at h2;unfold I64;omega
 have CH:=fun w' (k:Keep NoS w w')=>zh (rowList_any w' v rows ints.length (h.keep k) hnI)
 have HR:=zh h;have HI:=zh hi;obtain⟨oi,ci,rfl,_⟩:=hi.len;obtain⟨orr,cr,rfl,_⟩:=h.len;clear h hi;unfold DoP;obtain⟨R,hR⟩:∃R,doC rows ints fuel=R:=⟨_,rfl⟩
 by_cases hl:(listF rows ints.length).1=0
 case neg=>
  have HRES:Hid (R=⟨0,[],[],listF rows ints.length⟩):=zh (by rw [← hR];unfold doC;rw [if_neg hl])
  rw [hR];clear hR;generalize listF rows ints.length=cf at *;obtain⟨c1,c2⟩:=cf;simp only at hl;unfold fV at CH ⊢;simp only at CH;have e1:(c1 != 0)=true:=by rw [bne_iff_ne];exact hl
  clear hl HR HI;go_enter Tryz.func9,Tryz.ntmps9;go_wp2_with fail;refine(CH _ kp).out.mono ?_;rintro e w1 ⟨rfl,hk1⟩;have HB9:Hid (Blk w1 w.heap.size #[.int .i64 0,.int .i64 0]):=zh (Blk.keep kb hk1);have K1:Hid (Keep NoS w w1):=zh (Keep.both kp hk1);clear hk1 CH;generalize hb9:w.heap.size=b9 at HB9 ⊢;have HS9:Hid (w.heap.size≤b9):=zh (by omega)
  clear hb9;go_upto_region 3 with fail
  have HK0:Hid (Keep NoS w (w1.alloc (.cells #[.int .i64 c1,.int .i64 c2] 28))):=zh (K1.out.alloc _);have HB6:Hid (Blk (w1.alloc (.cells #[.int .i64 c1,.int .i64 c2] 28)) w1.heap.size #[.int .i64 c1,.int .i64 c2]):=zh (blk_at _ _ rfl);have HB9:=zh (HB9.out.old (.cells #[.int .i64 c1,.int .i64 c2] 28));generalize w1.alloc (.cells #[.int .i64 c1,.int .i64 c2] 28)=w3 at *;generalize w1.heap.size=b6 at *;obtain⟨s0,s1,t0,t1,sl⟩:=HB9.out.two;refine wp_region_by (fun w'=>Keep NoS w3 w') [4] [([0,1,2,3],4)] [] (by kernel_rfl) (by kernel_rfl) kp ?_
  intro X W hne hF hcl;have hx0:=fun x=>(HB6.out.keep (hF x)).two
  clear hF hcl;simp only [wpPlan,pickOps,zl0,zl1,zl2,clsOf,Bool.false_eq_true,if_false]
  (repeat(go_big_quiet_step (fail)));refine wpQuiet_nil ?_
  refine wpAt rfl rfl fun K hK=> ?_
  go_simp;refine hK _ _ ⟨fun h=>(by simp at h),?_⟩
  have HB9':Hid (Blk ((w3.setCell ⟨b9,0,none⟩ (.int .i64 c1)).setCell ⟨b9,1,none⟩ (.int .i64 c2)).drew b9 #[.int .i64 c1,.int .i64 c2]):=zh ((HB9.out.set2 (.int .i64 c1) (.int .i64 c2)).keep (Keep.refl NoS _).drew);have K14:Hid (Keep NoS w ((w3.setCell ⟨b9,0,none⟩ (.int .i64 c1)).setCell ⟨b9,1,none⟩ (.int .i64 c2)).drew):=zh (keep_set2 HK0.out HS9.out (.int .i64 c1) (.int .i64 c2)).drew;clear hK K s0 s1 t0 t1 sl;generalize ((w3.setCell ⟨b9,0,none⟩ (.int .i64 c1)).setCell ⟨b9,1,none⟩ (.int .i64 c2)).drew=w5 at*
  (repeat(go_big_quiet_step (fail)));refine wpQuiet_nil ?_
  refine NoPanic.normal ?_;obtain⟨s0,s1,t0,t1,sl⟩:=HB9'.out.two;go_wp2;refine bodyPost_ret (by simp [results,Tryz.results9,go_sem,s0,s1,sl];rfl) rfl ?_
  rw [HRES.out];exact⟨_,_,rfl,nil_fracs _,IsStp.nil _,K14.out⟩
 case pos=>
  obtain⟨hl0,hn0,hn12,h40,hok⟩:=list_rows hl;have HRES:Hid (R=if fuel<0∨2000<fuel then⟨0,[],[],(3,-1)⟩else cutG (lpN ints.length) rows ints fuel.toNat):=zh (by rw [← hR];unfold doC;rw [if_pos hl])
  rw [hR];rw [hl0]at CH;have HOK:=zh hok;clear hR hl hl0 hok;unfold fV at CH ⊢;simp only at CH;unfold I64 at hf;go_enter Tryz.func9,Tryz.ntmps9;go_wp2_with fail;refine(CH _ kp).out.mono ?_;rintro e w1 ⟨rfl,hk1⟩;have HB9:Hid (Blk w1 w.heap.size #[.int .i64 0,.int .i64 0]):=zh (Blk.keep kb hk1);have HA9:Hid (w1.heap[w.heap.size]? =some (.cells #[.int .i64 0,.int .i64 0] 28 (0,0))):=zh ((hk1.block _ (by simp) fun _ h=>h).trans (heap_alloc_at _ _ _ rfl))
  have K1:Hid (Keep NoS w w1):=zh (Keep.both kp hk1);clear hk1 CH;generalize hb9:w.heap.size=b9 at HB9 HA9 ⊢;have HS9:Hid (w.heap.size≤b9):=zh (by omega)
  clear hb9;have HB9:=zh (HB9.out.old (.cells #[.int .i64 0,.int .i64 0] 28));have HA9:Hid ((w1.alloc (.cells #[.int .i64 0,.int .i64 0] 28)).heap[b9]? =some (.cells #[.int .i64 0,.int .i64 0] 28 (0,0))):=zh ((((Keep.refl NoS w1).alloc _).block _ (lt_of_heap HA9.out) fun _ h=>h).trans HA9.out)
  have K2:=zh (K1.out.alloc (.cells #[.int .i64 0,.int .i64 0] 28));go_upto_region 4 with fail
  clear K1;generalize w1.alloc (.cells #[.int .i64 0,.int .i64 0] 28)=w2 at*
  by_cases hfu:fuel<0∨2000<fuel
  case pos=>
   have HRES:=zh (HRES.out.trans (if_pos hfu));obtain⟨s0,s1,t0,t1,sl⟩:=HB9.out.two
   by_cases f0:fuel<0
   case pos=>
    go_wp2;refine bodyPost_ret (by simp [results,Tryz.results9,go_sem,s0,s1,sl];rfl) rfl ?_
    rw [HRES.out];exact⟨_,_,rfl,nil_fracs _,IsStp.nil _,keep_set2 K2.out HS9.out _ _⟩
   case neg=>
    have f1:2000<fuel:=by omega
    go_wp2;refine bodyPost_ret (by simp [results,Tryz.results9,go_sem,s0,s1,sl];rfl) rfl ?_
    rw [HRES.out];exact⟨_,_,rfl,nil_fracs _,IsStp.nil _,keep_set2 K2.out HS9.out _ _⟩
  case neg=>
   have HRES:=zh (HRES.out.trans (if_neg hfu));obtain⟨f,rfl⟩:∃f:Nat,fuel=(f:Int):=⟨fuel.toNat,by omega⟩
   have f0:¬(f:Int)<0:=by omega
   have f1:¬(2000:Int)<(f:Int):=by omega
   have hf2:f≤2000:=by omega
   clear hfu;have LPO:Hid (LPok ints.length (lpN ints.length)):=zh (lp_ok (by omega) _)
   have CS:=zh (fun w' (k:Keep NoS w w')=>search_any w' orr cr oi ci rows ints ⟨HR.out.keep k,HI.out.keep k,by omega,h40,HOK.out⟩ f hf2)
   have HST:=zh (snd_at LPO.out (by omega) h40 HOK.out (f+1) ⟨f,[],[],[],false⟩ [] (atOK_nil h40) bdOK_nil)
   have HRES:Hid (R=let r:=srR rows ints f;if r.s.much=true∨3000<r.s.steps.length then⟨0,[],[],(10,0)⟩else if r.st=1 then⟨1,r.s.point,[],(0,0)⟩else if r.st=2 then⟨2,[],r.s.steps,(0,0)⟩else⟨3,[],[],(0,0)⟩):=HRES
   obtain⟨r,hr⟩:∃r,srR rows ints f=r:=⟨_,rfl⟩;rw [show atF (lpN ints.length) rows ints (f+1) ⟨f,[],[],[],false⟩ []=r from hr]at HST
   rw [hr]at CS HRES;clear hr;go_wp2_with fail;refine(CS.out _ K2.out).mono ?_;rintro e w3 ⟨hbad,hgood,hk3⟩;have k3:Keep NoS w2 w3:=Keep.trans kp hk3 fun _ _ _ h=>h
   have hb96:b9<w2.heap.size:=HB9.out.lt;have HB93:=zh (HB9.out.keep k3);have HA93:Hid (∃A,w3.heap[b9]? =some (.cells A 28 (0,0))):=zh ⟨_,(k3.block _ (lt_of_heap HA9.out) fun _ h=>h).trans HA9.out⟩
   have K3:=zh (K2.out.both k3);obtain⟨s0,s1,t0,t1,sl⟩:=HB93.out.two;clear CS k3 hk3
   by_cases hb:r.s.much=true∨3000<r.s.steps.length
   case pos=>
    have HRES:=zh (HRES.out.trans (if_pos hb));obtain rfl:=hbad hb;clear hbad hgood HST;go_wp2;refine bodyPost_ret (by simp [results,Tryz.results9,go_sem,s0,s1,sl];rfl) rfl ?_
    rw [HRES.out];exact⟨_,_,rfl,nil_fracs _,IsStp.nil _,keep_set2 K3.out HS9.out _ _⟩
   case neg=>
    have HRES:=zh (HRES.out.trans (if_neg hb));obtain⟨u,t,rfl,hu,ht⟩:=hgood hb;have HU:Hid (r.st=1→∀x y,IsFracs ((w3.setCell ⟨b9,0,none⟩ x).setCell ⟨b9,1,none⟩ y) u r.s.point):=zh fun h1 x y=>by
     obtain⟨pt,_,_,_,hpe,_⟩:=HST.out.yes h1 (by
      rcases h:r.s.much with _ | _
      ·rfl
      ·exact absurd (.inl h) hb)
     have h2:=OwnG.other2 hu hb96 x y;rw [hpe]at h2 ⊢;exact h2.ofFq
    have HT:=zh (fun x y=>ht.other2 (base:=0) HA93.out x y)
    obtain⟨ou,cu,rfl,_⟩:=hu.len;obtain⟨ot,ct,rfl⟩:=ht.len;clear hbad hgood hb hu ht;have hst:=HST.out.st;clear HST;generalize hrs:r.st=st at *;obtain rfl | rfl | rfl:=hst
    ·have HRES:=zh (HRES.out.trans (if_pos rfl))
     have HU1:=zh (HU.out rfl);clear HU;go_wp2;refine bodyPost_ret (by simp [results,Tryz.results9,go_sem,s0,s1,sl];rfl) rfl ?_
     rw [HRES.out];exact⟨_,_,rfl,HU1.out _ _,IsStp.nil _,keep_set2 K3.out HS9.out _ _⟩
    ·have HRES:=zh (HRES.out.trans ((if_neg (by decide)).trans (if_pos rfl)))
     go_wp2;refine bodyPost_ret (by simp [results,Tryz.results9,go_sem,s0,s1,sl];rfl) rfl ?_
     rw [HRES.out];exact⟨_,_,rfl,nil_fracs _,HT.out _ _,keep_set2 K3.out HS9.out _ _⟩
    ·have HRES:=zh (HRES.out.trans ((if_neg (by decide)).trans (if_neg (by decide))))
     go_wp2;refine bodyPost_ret (by simp [results,Tryz.results9,go_sem,s0,s1,sl];rfl) rfl ?_
     rw [HRES.out];exact⟨_,_,rfl,nil_fracs _,IsStp.nil _,keep_set2 K3.out HS9.out _ _⟩
open Go.ChangeShapes Go.WideShapes Go.RowKit
theorem doC_cases (rows:List Rw)(ints:List Bool)(fuel:Int):
  ((listF rows ints.length).1≠0∧doC rows ints fuel=⟨0,[],[],((listF rows ints.length).1,(listF rows ints.length).2)⟩)∨
  (listF rows ints.length=(0,0)∧(fuel<0∨2000<fuel)∧doC rows ints fuel=⟨0,[],[],(3,-1)⟩)∨
  (listF rows ints.length=(0,0)∧(0≤fuel∧fuel≤2000)∧(doC rows ints fuel=⟨0,[],[],(10,0)⟩∨doC rows ints fuel=⟨3,[],[],(0,0)⟩∨
   (∃pt:List Rat,doC rows ints fuel=⟨1,pt.map fqOf,[],(0,0)⟩∧pt.length=ints.length∧allFit pt pt.length=true∧openK ints pt=none∧∀r∈rows,AtPt r ints.length fun j=>pt.getD j 0)∨
   ∃T:List CStep,doC rows ints fuel=⟨2,[],T,(0,0)⟩∧T≠ []∧∀x,Mix ints x→(∀r∈rows,AtPt r ints.length x)→False)):=by
 unfold doC
 by_cases hl:(listF rows ints.length).1=0
 ·obtain ⟨hl0,hn0,hn12,h40,hok⟩:=list_rows hl
  rw [if_pos hl]
  by_cases hf:fuel<0∨2000<fuel
  ·rw [if_pos hf]
   exact .inr (.inl ⟨hl0,hf,rfl⟩)
  ·rw [if_neg hf]
   exact .inr (.inr ⟨hl0,by omega,cut_told (lp_ok (by omega) _) (by omega) h40 hok fuel.toNat⟩)
 ·rw [if_neg hl]
  exact .inl ⟨hl,rfl⟩
theorem lie_ints {w:World}{b:Nat}{xs:List Int}{cs:Array Value}{n:Nat}(h:Blk w b cs)(hc:cs=(iv xs).toArray)(hn:n=xs.length)(hx:∀x∈xs,I64 x)(hl:xs.length≤maxLen):IsInts w (.slice (some ⟨b,0,none⟩) n n) xs:=by
 subst hn hc;refine⟨_,_,rfl,hl,hx,fun hne=>⟨b,0,rfl,h.lt,fun i x hi=> ?_⟩⟩
 rw [h.cell,Nat.zero_add];simp [iv,hi]
theorem lie_rows {w:World}{b:Nat}{xs:List RwV}{cs:Array Value}{n:Nat}{l:List Rw}(h:Blk w b cs)(hc:cs=(xs.flatMap rwC).toArray)(hl:l=xs.map RwV.r)(hn:n=xs.length)(hx:∀x∈xs,IsInts w x.sv x.r.of∧I64 x.r.kind∧I64 x.r.to∧CapOK x.sv)(hm:xs.length≤maxLen):IsRows w (.slice (some ⟨b,0,none⟩) n n) l:=by
 subst hn hc hl;refine⟨_,_,by rw [List.length_map],by rw [List.length_map];exact Nat.le_refl _,hm,fun hne=>⟨b,0,rfl,h.lt,fun i r hi=> ?_⟩⟩
 rw [List.getElem?_map]at hi
 rcases hy:xs[i]? with _ | y
 ·rw [hy]at hi;cases hi
 ·rw [hy]at hi
  simp at hi;subst hi;have h0:=flat_get rwC_len xs i y hy 0 (by omega)
  have h1:=flat_get rwC_len xs i y hy 1 (by omega)
  have h2:=flat_get rwC_len xs i y hy 2 (by omega)
  obtain⟨h6,h7⟩:=hx y (List.mem_of_getElem? hy);refine⟨y.sv,?_,?_,?_,h6,h7⟩
  ·rw [h.cell,Nat.zero_add];rw [show(rwC y)[0]? =some _ from rfl]at h0;simpa using h0
  ·rw [h.cell,Nat.zero_add];rw [show(rwC y)[1]? =some _ from rfl]at h1;simpa using h1
  ·rw [h.cell,Nat.zero_add];rw [show(rwC y)[2]? =some _ from rfl]at h2;simpa using h2
theorem lie_row {w:World}{b:Nat}(xs:List Int)(k t:Int){cs:Array Value}(h:Blk w b cs)(hc:cs=(iv xs).toArray)(hx:∀x∈xs,fitI x)(hl:xs.length≤12)(hk:fitI k)(ht:fitI t)(n:Nat)(hn:n=xs.length):
  IsInts w (.slice (some ⟨b,0,none⟩) n n) xs∧I64 k∧I64 t∧CapOK (.slice (some ⟨b,0,none⟩) n n):=by
 have h64:∀x,fitI x→I64 x:=fun x h=>by unfold fitI at h;unfold I64;omega
 exact⟨lie_ints h hc hn (fun x h=>h64 x (hx x h)) (by unfold maxLen;omega),h64 _ hk,h64 _ ht,_,_,_,rfl,Nat.le_refl _⟩
def cRows:List Rw:= [⟨[2],1,1⟩,⟨[-2],1,-1⟩]
theorem doC_A:((doC cRows [true] 2000).st,(doC cRows [true] 2000).pt.length,(doC cRows [true] 2000).steps.length,(doC cRows [true] 2000).f)=(2,0,6,(0,0)):=by kernel_rfl
theorem doC_B:doC cRows [false] 2000=⟨1,[⟨1,2⟩],[],(0,0)⟩:=by kernel_rfl
theorem lie_bool {w:World}{b:Nat}{x:Bool}(h:Blk w b #[.bool x]):IsBools w (.slice (some ⟨b,0,none⟩) 1 1) [x]:=⟨_,1,rfl,Nat.le_refl _,by unfold maxLen;omega,fun _=>⟨b,0,rfl,h.lt,fun i y hi=>by
 rcases i with _ | i
 ·cases hi;exact h.cell 0
 ·simp at hi⟩⟩
theorem cutFact_any (w:World):Calls Tryz.prog 8 #[] w fun e w'=>e= .returned (.bool true)∧Keep NoS w w':=by
 have CA:=fun w' v vi (h:IsRows w' v cRows) (hi:IsBools w' vi [true])=>zh (cutDo_any w' v vi cRows [true] 2000 h hi (by unfold I64;omega))
 have CB:=fun w' v vi (h:IsRows w' v cRows) (hi:IsBools w' vi [false])=>zh (cutDo_any w' v vi cRows [false] 2000 h hi (by unfold I64;omega))
 rw [doC_B]at CB;have hA:=doC_A;generalize doC cRows [true] 2000=RA at *;obtain⟨st,pt,stp,f1,f2⟩:=RA;simp only [Prod.mk.injEq]at hA;obtain⟨rfl,hpt,hst,rfl,rfl⟩:=hA;unfold DoP fV at CA CB;simp only at CA CB;go_enter Tryz.func8,Tryz.ntmps8;go_wp2_with fail;refine(CA _ _ _ (lie_rows (b:=w.heap.size+1+1) (xs:= [⟨.slice (some ⟨w.heap.size,0,none⟩) 1 1,⟨[2],1,1⟩⟩,⟨.slice (some ⟨w.heap.size+1,0,none⟩) 1 1,⟨[-2],1,-1⟩⟩]) kc rfl rfl rfl ?_ (by simp [maxLen])) (lie_bool (b:=w.heap.size+1+1+1) kc)).out.mono ?_
 ·intro x hx
  simp at hx
  rcases hx with rfl | rfl
  ·exact lie_row (b:=w.heap.size) [2] 1 1 kc rfl (by decide) (by decide) (by decide) (by decide) 1 rfl
  ·exact lie_row (b:=w.heap.size+1) [-2] 1 (-1) kc rfl (by decide) (by decide) (by decide) (by decide) 1 rfl
 rintro e w1 ⟨u,t,rfl,hu,ht,hk1⟩;have K1:Hid (Keep NoS w w1):=zh (Keep.both kp hk1);obtain⟨ou,cu,rfl,_,_⟩:=hu.len;obtain⟨ot,ct,rfl⟩:=ht.len;rw [hpt,hst];clear hk1 hu CA ht hpt hst;have HB4:Hid (Blk (w1.alloc (.cells #[.int .i64 0,.int .i64 0] 28)) w1.heap.size #[.int .i64 0,.int .i64 0]):=zh (blk_at _ _ rfl);have K2:=zh (K1.out.alloc (.cells #[.int .i64 0,.int .i64 0] 28));go_upto_region 2 with fail
 generalize w1.alloc (.cells #[.int .i64 0,.int .i64 0] 28)=w2 at *;generalize w1.heap.size=b4 at *;clear K1;go_wp2_with fail;refine(CB _ _ _ (lie_rows (b:=w2.heap.size+1+1) (xs:= [⟨.slice (some ⟨w2.heap.size,0,none⟩) 1 1,⟨[2],1,1⟩⟩,⟨.slice (some ⟨w2.heap.size+1,0,none⟩) 1 1,⟨[-2],1,-1⟩⟩]) kc rfl rfl rfl ?_ (by simp [maxLen])) (lie_bool (b:=w2.heap.size+1+1+1) kc)).out.mono ?_
 ·intro x hx
  simp at hx
  rcases hx with rfl | rfl
  ·exact lie_row (b:=w2.heap.size) [2] 1 1 kc rfl (by decide) (by decide) (by decide) (by decide) 1 rfl
  ·exact lie_row (b:=w2.heap.size+1) [-2] 1 (-1) kc rfl (by decide) (by decide) (by decide) (by decide) 1 rfl
 rintro e w3 ⟨u,t,rfl,hu,ht,hk3⟩;have K3:Hid (Keep NoS w2 w3):=zh (Keep.both kp hk3);obtain⟨ou',cu',rfl,_,_⟩:=hu.len;obtain⟨ot',ct',rfl⟩:=ht.len;have HU:=zh hu;simp only [List.length_nil,List.length_cons]at *;clear hk3 hu CB ht;have HB8:Hid (Blk (w3.alloc (.cells #[.int .i64 0,.int .i64 0] 28)) w3.heap.size #[.int .i64 0,.int .i64 0]):=zh (blk_at _ _ rfl);have k4:Keep NoS w3 (w3.alloc (.cells #[.int .i64 0,.int .i64 0] 28)):=(Keep.refl _ _).alloc _;have K4:=zh ((K2.out.both K3.out).both k4);have HB4:=zh (HB4.out.keep (K3.out.both k4));have HU:=zh (HU.out.keep k4);go_upto_region 3 with fail
 generalize w3.alloc (.cells #[.int .i64 0,.int .i64 0] 28)=w4 at *;generalize w3.heap.size=b8 at *;obtain⟨bu,ou1,rfl,hbu,d0,d1⟩:=HU.out.at (k:=0) (by decide)
 simp at d0 d1;obtain⟨s0,s1,_,_,sl⟩:=HB4.out.two;obtain⟨t0,t1,_,_,tl⟩:=HB8.out.two;clear k4 K2 K3;go_wp2;go_ret;exact⟨rfl,K4.out⟩
open Go.ChangeShapes Go.WideShapes Go.ChangeAt Go.RowKit Go.Joins Go.Deep
section
variable {H:Type} {enc:TypeId × Value→H} {W:World} {base:Nat} {d:DataW H} {p:List MemPlace} {v:Value}
theorem in_bools (hv:Value.okWide Tryz.prog W .any base 23 v)(h:DataW.Trod enc Tryz.prog W 0 (fun _=>true) true 23 v d p):∃l,IsBools W v l:=by
 obtain⟨a0,len,cap,rfl⟩:=okWide_slice Tryz.underlying23 hv;obtain⟨fuel,hf⟩:=h
 rcases open_bools Tryz.underlying23 Tryz.underlying4 (by kernel_rfl) hf with⟨hcs,_⟩ | ⟨⟨b,off,spot⟩,len',cap',B,hcs,_,hl,hm,_,hc⟩
 ·simp [Value.cells]at hcs
  obtain⟨rfl,rfl,rfl⟩:=hcs;exact⟨[],none,0,rfl,by simp,by simp,fun h=>absurd rfl h⟩
 ·simp [Value.cells]at hcs
  obtain⟨rfl,rfl,rfl⟩:=hcs;refine⟨(List.range len).map B,some ⟨b,off,spot⟩,cap,by simp,by simpa using hl,hm,fun hne=> ?_⟩
  have hp:0<len:=by
   rcases len with _ | n
   ·simp at hne
   ·omega
  have hs:spot=none:=by simpa [Addr.add]using World.cell?_spot (hc 0 (by omega))
  subst hs;have hq:∀i,i<cap→W.cell? ⟨b,off+i,none⟩=some (.bool (B i)):=fun i hi=>by rw [← Go.WideShapes.add_plain];exact hc i hi
  refine⟨b,off,rfl,cell_lt (hq 0 (by omega)),fun i x hx=> ?_⟩
  obtain⟨hi,hx⟩:=List.getElem?_eq_some_iff.1 hx;simp at hi;rw [hq i (by omega),←hx]
  simp
end
end Go.Proofs.YtaiffmebphhdaaaGreat
