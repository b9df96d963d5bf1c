/- Package cut: refuted. -/
import Derived.Test.YtaiffmebphhdaaaGreatCuH
import Derived.Test.YtaiffmebphhdaaaGreatExAA
import Derived.Test.YtaiffmebphhdaaaGreatOwGG
import Derived.Test.YtaiffmebphhdaaaGreatOwGG
namespace Go.Proofs.YtaiffmebphhdaaaGreat
set_option maxRecDepth 100000
set_option maxHeartbeats 16000000
set_option linter.unusedSimpArgs false
set_option linter.unusedVariables false
open Go.ChangeShapes Go.WideShapes Go.RowKit
variable {P:Nat→Prop}
theorem Vg {v:Value}{q:Rat}(h:bO v q)(w:World):Calls Tryz.prog 43 #[v] w fun e w'=>e= .returned (.int .i64 q.num.sign)∧Keep au w w':=by
 obtain⟨d,rfl,_⟩:=h;exact Et w q.num d
def F3 (times:List Rat)(ids:List Int)(k:Nat):List (Int × Fq):=bH (times.take k) (ids.take k)
theorem Eu (times:List Rat)(ids:List Int):F3 times ids 0= []:=by simp [F3,bH]
theorem Vh {times:List Rat}{ids:List Int}{k:Nat}(h1:k<times.length)(h2:k<ids.length):F3 times ids (k+1)=F3 times ids k++(if times[k]=0 then []else [(-ids[k],cZ times[k])]):=by
 unfold F3 bH;rw [List.take_succ_eq_append_getElem h1,List.take_succ_eq_append_getElem h2,List.zip_append (by rw [List.length_take,List.length_take];omega),List.filter_append,List.map_append];by_cases h:times[k]=0
 ·rw [if_pos h];simp [h]
 rw [if_neg h];simp [h]
theorem Yq {times:List Rat}{ids:List Int}{n:Nat}(h1:times.length=n)(h2:ids.length=n):F3 times ids n=bH times ids:=by
 unfold F3;rw [List.take_of_length_le om,List.take_of_length_le om]
theorem Yr (times:List Rat)(ids:List Int)(k:Nat):(F3 times ids k).length≤k:=by
 unfold F3 bH;rw [List.length_map];refine Nat.le_trans (List.length_filter_le _ _) ?_;rw [List.length_zip,List.length_take];omega
theorem Rx {qs:List Rat}{k n:Nat}(hk:k<qs.length)(hn:qs.length=n)(h:¬Fits qs[k]):allFit qs n=false:=by
 unfold allFit;rw [List.take_of_length_le om];by_cases ha:(qs.all fun q=>decide (Fits q))=true
 ·rw [List.all_eq_true]at ha;exact absurd (of_decide_eq_true (ha _ (List.getElem_mem hk))) h
 simpa using ha
theorem Ry {q:Rat}(h:q=0):Fits q:=by subst h;exact⟨dc,dc⟩
theorem Ko {times:List Rat}{ids:List Int}(hid:∀i∈ids,0≤i∧i≤1000):∀x∈(bH times ids).map (·.1),x.natAbs≤1000000:=by
 intro x hx;obtain⟨p,hp,rfl⟩:=List.mem_map.1 hx;unfold bH at hp;obtain⟨r,hr,rfl⟩:=List.mem_map.1 hp;have:=hid _ (List.of_mem_zip (List.mem_filter.1 hr).1).2;simp only;omega
theorem Rz (P:List (Int × Fq)):(P.map (·.1)).zip (P.map (·.2))=P:=by
 induction P with
 | nil=>rfl
 | cons x l ih=>simp [ih]
def pvI (vA vB vI:Value)(b8:Nat)(i x:Int)(aI:Addr)(N D:Int):Nat→Value→Prop
 | 0,v=>v= .pointer (some ⟨b8,1,none⟩)
 | 1,v=>v=vA
 | 2,v=>v=vI
 | 3,v=>v= .int .i64 i
 | 4,v=>v= .pointer (some aI)
 | 5,v=>v= .int .i64 x
 | 6,v=>v= .int .i64 (-x)
 | 9,v=>v= .pointer (some ⟨b8,2,none⟩)
 | 10,v=>v=vB
 | 11,v=>v= .agg #[.int .i64 N,.int .i64 D]
 | 14,v=>v= .pointer (some ⟨b8,1,none⟩)
 | 16,v=>v= .pointer (some ⟨b8,2,none⟩)
 | _,_=>True
theorem Kq (w0 w:World)(bS:Nat)(vr vi:Value)(s:jh)(v zbC:Value)(times:List Rat)(ids:List Int)(n:Nat)(h:BO P w0 w bS vr vi s)(hT:jQ w v times)(hN:∀q∈times,NB 1000 q)(hI:aW w zbC ids)(e1:times.length=n)(e2:ids.length=n)(hn:n≤64)(hid:∀i∈ids,0≤i∧i≤1000)(hnd:((bH times ids).map (·.1)).Nodup)(hne:bH times ids≠ [])(hsl:s.steps.length≤50000):
  Calls Tryz.prog 60 #[.pointer (some ⟨bS,0,none⟩),v,zbC] w fun e w'=>(allFit times n=true→∃u,e= .returned (.tuple #[u,.bool true])∧bD w' w0.heap.size u ((cO (bH times ids)).map (·.1))∧BO P w0 w' bS vr vi {s with steps:=s.steps++ [⟨4,(cO (bH times ids)).map (·.1),(cO (bH times ids)).map (·.2),wU⟩]})∧(allFit times n=false→e= .returned (.tuple #[.slice none 0 0,.bool false])∧BO P w0 w' bS vr vi s)∧KT P w w':=by
 obtain⟨va,vt,vp,xs,ys,hc⟩:=h;obtain⟨⟨oa,ca,rfl⟩,⟨ot,ct,rfl⟩,op,cp,rfl⟩:=hc.forms;have HC:=zh hc;have HT:=zh hT;have DY:=zh hN;have HI:=zh hI;have FU:=zh e1;have HE2:=zh e2;have HID:=zh hid;have Rn:=zh hnd;have gV:=zh hne;have hpos:0<n:=by
  rcases Nat.eq_zero_or_pos n with h | h
  ·exfalso;rw [h]at e1;rw [List.eq_nil_of_length_eq_zero e1]at hne;exact hne (by simp [bH])
  exact h
 obtain⟨ot',ct',hv1,_,hmt⟩:=hT.len;obtain⟨oi',ci',hv2,_⟩:=hI.len;rw [e1]at hv1;rw [e2]at hv2;subst hv1 hv2;unfold maxLen at hmt;have XJ:Hid (∀k (hk:k<n),∃bi oi,oi'=some ⟨bi,oi,none⟩∧bi<w.heap.size∧w.cell? ⟨bi,oi+k,none⟩=some (.int .i64 (ids.getD k 0))):=zh fun k hk=>by
  obtain⟨b,o,c,hv,hb,hcc⟩:=hI.at (k:=k) om;injection hv with q1 _ _;refine⟨b,o,q1,hb,?_⟩;rw [dX,fG om];exact hcc
 have lS:=lt_of_heap hc.b;clear hc hT hN hI e1 e2 hid hnd hne;go_enter Tryz.func60,Tryz.ntmps60;go_upto_region 2 with fail;have k1:Keep au w (w.alloc (.cells #[.int .i64 4,.slice none 0 0,.slice none 0 0,.int .i64 0,.int .i64 0,.int .i64 0,.slice none 0 0,.int .i64 0,.int .i64 0] sD)):=(Keep.refl _ _).alloc _;have HB1:Hid ((w.alloc (.cells #[.int .i64 4,.slice none 0 0,.slice none 0 0,.int .i64 0,.int .i64 0,.int .i64 0,.slice none 0 0,.int .i64 0,.int .i64 0] sD)).heap[w.heap.size]? =some (.cells #[.int .i64 4,.slice none 0 0,.slice none 0 0,.int .i64 0,.int .i64 0,.int .i64 0,.slice none 0 0,.int .i64 0,.int .i64 0] sD (0,0))):=zh (aX _ _ _ rfl);have K1:=zh k1;clear k1;generalize w.alloc (.cells #[.int .i64 4,.slice none 0 0,.slice none 0 0,.int .i64 0,.int .i64 0,.int .i64 0,.slice none 0 0,.int .i64 0,.int .i64 0] sD)=w1 at *;obtain⟨b8,hb8⟩:∃b8,w.heap.size=b8:=⟨_,rfl⟩;rw [hb8]at HB1 ⊢;have Nk:Hid (w.heap.size≤b8):=zh (Nat.le_of_eq hb8);clear hb8;go_wp2;go_loopw [16] (fun s wr=>∃(k m:Nat) (vA vB:Value),k≤n∧s= .int .i64 k∧m=(F3 times ids k).length∧Keep au w wr∧wr.heap[b8]? =some (.cells #[.int .i64 4,vA,vB,.int .i64 0,.int .i64 0,.int .i64 0,.slice none 0 0,.int .i64 0,.int .i64 0] sD (0,0))∧wr.ownsRow w.heap.size TI 1 vA m (iv ((F3 times ids k).map (·.1)))∧wr.ownsRow w.heap.size TF 2 vB m (((F3 times ids k).map (·.2)).flatMap Ud)∧allFit times k=true) (fun s _=>(n-intOf s).toNat)
 case atStart=>exact⟨0,0,_,_,om,rfl,by rw [Eu];rfl,K1.out,HB1.out,by rw [Eu];exact World.ownsRow_nil _ _ _ _,by rw [Eu];exact World.ownsRow_nil _ _ _ _,by simp [allFit]⟩
 obtain⟨k,m,vA,vB,hk,rfl,hm,hkr,hb8,ha,hf,hfit⟩:=hrel;have KR:=zh hkr;have mh:=zh hb8;obtain⟨oA,cA,rfl⟩:=dL ha;obtain⟨oB,cB,rfl⟩:=dL hf;have HA:=zh ha;have HF:=zh hf;have HM:=zh hm;have hml:m≤k:=by rw [hm];exact Yr _ _ _
 have zax:=zh hfit;have l8:=lt_of_heap hb8;clear hkr hb8 ha hf hm hfit;by_cases hkn:k<n
 case pos=>
  have hlt:(k:Int)<(n:Int):=om;have hkt:k<times.length:=by rw [FU.out];exact hkn
  have hki:k<ids.length:=by rw [HE2.out];exact hkn
  have Vi:=zh (Vh hkt hki);have HFS:=zh (BS hkt);have Io:=zh (Rx hkt FU.out);obtain⟨b,o,rfl,hb,xb,xS,xc,xU,p0,p1,p2,p3,hx⟩:=(HT.out.keep KR.out).at hkt;have CS:=fun w=>zh (Vg hx w);have CF:=fun w=>zh (Ev w _ _ hx (DY.out _ (List.getElem_mem hkt)));rw [GI]at CF;have HIK:Hid (ids.getD k 0=ids[k]):=zh (by rw [dX,fG hki];rfl);generalize times[k]=t at *;clear hx;by_cases ht:t=0
  case pos=>
   have e3:t.num.sign=0:=by rw [ht];rfl
   have Vi:Hid (F3 times ids (k+1)=F3 times ids k):=zh (by rw [Vi.out,if_pos ht,List.append_nil]);have HFS:Hid (allFit times (k+1)=true):=zh (by rw [HFS.out,zax.out,decide_eq_true (Ry ht)];rfl);rw [e3]at CS;clear ht e3 CF Io HIK;go_wp2_with fail;refine(CS _).out.mono ?_;rintro e w4 ⟨rfl,hk4⟩;have k4:Keep au wr w4:=Keep.trans kp hk4 fun _ _ _ h=>h;have K4:=zh k4;clear hk4 k4 p0 p1 p2 p3 CS;go_wp2;go_roundw
   case rel=>exact⟨k+1,m,_,_,om,gn,by rw [Vi.out];exact HM.out,KR.out.both K4.out,(K4.out.block b8 l8 fun _ h=>h).trans mh.out,by rw [Vi.out];exact fD HA.out K4.out,by rw [Vi.out];exact fD HF.out K4.out,HFS.out⟩
   simp [intOf];omega
  have e3:(t.num.sign==0)=false:=by
   rw [beq_eq_false_iff_ne];intro h0;exact ht (by rwa [Int.sign_eq_zero_iff_zero,Rat.num_eq_zero]at h0)
  have Vi:Hid (F3 times ids (k+1)=F3 times ids k++ [(-ids[k],cZ t)]):=zh (by rw [Vi.out,if_neg ht]);clear ht;generalize t.num.sign=sg at *;go_wp2_with fail;refine(CS _).out.mono ?_;rintro e w4 ⟨rfl,hk4⟩;have k4:Keep au wr w4:=Keep.trans kp hk4 fun _ _ _ h=>h;have K4:=zh k4;have hb10:=zh (aL.keep (aP (w:=wr) #[.bool xb,.string xS,.bool xc,.string xU] 93 rfl) hk4);clear hk4 k4 p0 p1 p2 p3 CS;obtain⟨y0,y1,y2,y3,_,_,_,_,yl⟩:=hb10.out.four;by_cases hft:Fits t
  case neg=>
   rw [decide_eq_false hft]at CF;have Io:=zh (Io.out hft);clear hft Vi HFS;go_wp2_with fail;refine(CF _).out.mono ?_;rintro e w5 ⟨rfl,hk5⟩;have K5:Hid (Keep au w w5):=zh ((KR.out.both K4.out).both (Keep.trans kp hk5 fun _ _ _ h=>h));clear hk5 y0 y1 y2 y3 CF;generalize (cZ t).N=fn at *;generalize (cZ t).D=fd at *;go_wp2;refine bodyPost_ret (by simp [results,Tryz.results60,go_sem];rfl) rfl ?_;have KE:=K5.out.alloc (.cells #[.int .i64 fn,.int .i64 fd] TF);exact⟨fun h=>absurd h (by rw [Io.out];decide),fun _=>⟨rfl,_,_,_,_,_,HC.out.keep KE⟩,KT.of KE⟩
  rw [decide_eq_true hft]at CF;have HFS:Hid (allFit times (k+1)=true):=zh (by rw [HFS.out,zax.out,decide_eq_true hft];rfl);clear hft Io;go_wp2_with fail;refine(CF _).out.mono ?_;rintro e w5 ⟨rfl,hk5⟩;have k5:Keep au w4 w5:=Keep.trans kp hk5 fun _ _ _ h=>h;have k6:Keep au wr (w5.alloc (.cells #[.int .i64 (cZ t).N,.int .i64 (cZ t).D] TF)):=(K4.out.both k5).alloc _;have zbD:Hid ((w5.alloc (.cells #[.int .i64 (cZ t).N,.int .i64 (cZ t).D] TF)).heap[w5.heap.size]? =some (.cells #[.int .i64 (cZ t).N,.int .i64 (cZ t).D] TF (0,0))):=zh (aX _ _ _ rfl);have HKY:Hid (Keep au w (w5.alloc (.cells #[.int .i64 (cZ t).N,.int .i64 (cZ t).D] TF))):=zh (KR.out.both k6);have mh:Hid ((w5.alloc (.cells #[.int .i64 (cZ t).N,.int .i64 (cZ t).D] TF)).heap[b8]? =_):=zh ((k6.block b8 l8 fun _ h=>h).trans mh.out);have HA:=zh (fD HA.out k6);have HF:=zh (fD HF.out k6);obtain⟨bi,oi,hoi,lI,xi⟩:=XJ.out k hkn;subst hoi;rw [HIK.out]at xi;have xI:=zh xi;have HIB:=zh (HID.out _ (List.getElem_mem hki));clear hk5 k5 k6 y0 y1 y2 y3 yl hb10 xi CF HIK K4;generalize ids[k]=x at *;have hx0:fT (-x):=by have:=HIB.out;unfold fT;omega
  have HW:Hid (IntKind.i64.wrap (-x)= -x):=zh (by have:=HIB.out;simp [IntKind.wrap,IntKind.bits,IntKind.signed];omega);go_upto_region 9 with fail;generalize w5.alloc (.cells #[.int .i64 (cZ t).N,.int .i64 (cZ t).D] TF)=wy at *;obtain⟨b11,hb11⟩:∃b11,w5.heap.size=b11:=⟨_,rfl⟩;rw [hb11]at zbD ⊢;clear hb11;refine jX (fun S σ w'=>kM w TI 1 m TF 2 m (.slice oA m cA) (.slice oB m cB) (iv ((F3 times ids k).map (·.1))) [.int .i64 (-x)] (((F3 times ids k).map (·.2)).flatMap Ud) [.int .i64 (cZ t).N,.int .i64 (cZ t).D] b8 sD (fun a b=> #[.int .i64 4,a,b,.int .i64 0,.int .i64 0,.int .i64 0,.slice none 0 0,.int .i64 0,.int .i64 0]) b11 (.cells #[.int .i64 (cZ t).N,.int .i64 (cZ t).D] TF (0,0)) (S 7) (S 8) (S 12) (S 13) (S 15) (S 17) (σ 7) (σ 8) (σ 12) (σ 13) w'∧True) (fun S d v w=>pvI (.slice oA m cA) (.slice oB m cB) (.slice (some ⟨bi,oi,none⟩) n ci') b8 k x ⟨bi,oi+k,none⟩ (cZ t).N (cZ t).D d v) kr kr kr kr (fun S σ hS=>⟨kM.start (hS 7) (hS 8) (hS 12) (hS 13) (hS 15) (hS 17) (⟨HKY.out.size,HKY.out,HA.out,HF.out,mh.out,zbD.out⟩),trivial⟩) _ (fun σ=>by
   show dA _ σ [0,1,2,3,4,5,6,7,8,9,10,11,12,13,14,15,16,17] _=_;simp only [dA,zl0,zl1,zl2,Act.put,List.setIfInBounds_toArray,List.set_cons_zero,List.set_cons_succ];rfl) ?_ ?_
  ·intro S σ wz hC hall e he HK;have he:e<18:=he;obtain rfl | rfl | rfl | rfl | rfl | rfl | rfl | rfl | rfl | rfl | rfl | rfl | rfl | rfl | rfl | rfl | rfl | rfl:e=0∨e=1∨e=2∨e=3∨e=4∨e=5∨e=6∨e=7∨e=8∨e=9∨e=10∨e=11∨e=12∨e=13∨e=14∨e=15∨e=16∨e=17:=om
   ·refine ay rfl rfl fun K hK=> ?_;go_simp;exact hK _ _ ⟨_,hC,fun d _ _ h=>h,rfl,rfl⟩
   ·have h0:σ 0= .pointer (some ⟨b8,1,none⟩):=HK.post 0 kr;rw [h0];have m0:wz.cell? ⟨b8,1,none⟩=some (.slice oA m cA):=by
     have h:=cell_of_heap (o:=1) hC.1.blk rfl;rw [HK.down 15 kr]at h;exact h
    refine ay rfl rfl fun K hK=> ?_;go_simp;exact hK _ _ ⟨_,hC,fun d _ _ h=>h,rfl,rfl⟩
   ·refine ay rfl rfl fun K hK=> ?_;go_simp;exact hK _ _ ⟨_,hC,fun d _ _ h=>h,rfl,rfl⟩
   ·refine ay rfl rfl fun K hK=> ?_;go_simp;exact hK _ _ ⟨_,hC,fun d _ _ h=>h,rfl,rfl⟩
   ·have h2:σ 2=(.slice (some ⟨bi,oi,none⟩) n ci'):=HK.post 2 kr;rw [h2];have h3:σ 3= .int .i64 (k:Int):=HK.post 3 kr;rw [h3];refine ay rfl rfl fun K hK=> ?_;go_simp;exact hK _ _ ⟨_,hC,fun d _ _ h=>h,rfl,rfl⟩
   ·have h4:σ 4= .pointer (some ⟨bi,oi+k,none⟩):=HK.post 4 kr;rw [h4];have m0:=(hC.1.k.cell lI).trans xI.out;refine ay rfl rfl fun K hK=> ?_;go_simp;exact hK _ _ ⟨_,hC,fun d _ _ h=>h,rfl,rfl⟩
   ·have h5:σ 5= .int .i64 x:=HK.post 5 kr;rw [h5];refine ay rfl rfl fun K hK=> ?_;go_simp;exact hK _ _ ⟨_,hC,fun d _ _ h=>h,rfl,congrArg (Value.int IntKind.i64) HW.out⟩
   ·have h6:σ 6= .int .i64 (-x):=HK.post 6 kr;rw [h6];refine ay rfl rfl fun K hK=> ?_;go_simp;exact hK _ _ ⟨_,⟨hC.1.buildA ((Keep.refl _ _).alloc _) (b:=wz.heap.size) (aP _ _ rfl) (Nat.le_refl _),hC.2⟩,fun d _ _ h=>h,rfl,trivial⟩
   ·obtain ⟨v',w2,hr,hc2⟩:=hC.1.appA Dl dc dc (fun A f h=>absurd (Obj.cells.inj h).2.1 dc) rfl (by intro u hu;simp at hu;subst hu;rfl) om (HK.up 7 kr) HK.self (HK.down 15 kr);have h1:σ 1=(.slice oA m cA):=HK.post 1 kr;rw [h1];refine ay rfl rfl fun K hK=> ?_;refine dM _ _ 38 _ _ rfl rfl rfl hr ?_;exact hK _ _ ⟨_,⟨hc2,trivial⟩,fun d _ _ h=>h,rfl,trivial⟩
   ·refine ay rfl rfl fun K hK=> ?_;go_simp;exact hK _ _ ⟨_,hC,fun d _ _ h=>h,rfl,rfl⟩
   ·have h9:σ 9= .pointer (some ⟨b8,2,none⟩):=HK.post 9 kr;rw [h9];have m0:wz.cell? ⟨b8,2,none⟩=some (.slice oB m cB):=by
     have h:=cell_of_heap (o:=2) hC.1.blk rfl;rw [HK.down 17 kr]at h;exact h
    refine ay rfl rfl fun K hK=> ?_;go_simp;exact hK _ _ ⟨_,hC,fun d _ _ h=>h,rfl,rfl⟩
   ·have hx:=hC.1.x (HK.down 13 kr);have m0:=cell_of_heap (o:=0) hx rfl;have m1:=cell_of_heap (o:=1) hx rfl;have m2:=lt_of_heap hx;refine ay rfl rfl fun K hK=> ?_;go_simp;exact hK _ _ ⟨_,hC,fun d _ _ h=>h,rfl,rfl⟩
   ·have h11:σ 11= .agg #[.int .i64 (cZ t).N,.int .i64 (cZ t).D]:=HK.post 11 kr;rw [h11];refine ay rfl rfl fun K hK=> ?_;go_simp;exact hK _ _ ⟨_,⟨hC.1.buildB ((Keep.refl _ _).alloc _) (b:=wz.heap.size) (aP _ _ rfl) (Nat.le_refl _),hC.2⟩,fun d _ _ h=>h,rfl,trivial⟩
   ·obtain ⟨v',w2,hr,hc2⟩:=hC.1.appB Pp dc dc rfl (by intro u hu;simp at hu;rcases hu with rfl | rfl<;>rfl) om (HK.up 12 kr) HK.self (HK.down 17 kr);have h10:σ 10=(.slice oB m cB):=HK.post 10 kr;rw [h10];refine ay rfl rfl fun K hK=> ?_;refine dM _ _ 25 _ _ rfl rfl rfl hr ?_;exact hK _ _ ⟨_,⟨hc2,trivial⟩,fun d _ _ h=>h,rfl,trivial⟩
   ·refine ay rfl rfl fun K hK=> ?_;go_simp;exact hK _ _ ⟨_,hC,fun d _ _ h=>h,rfl,rfl⟩
   ·obtain ⟨o',c',hv⟩:=dL (hC.1.a1 (HK.up 8 kr));have h14:σ 14= .pointer (some ⟨b8,1,none⟩):=HK.post 14 kr;rw [h14];rw [hv];have m0:=cell_of_heap (o:=1) hC.1.blk rfl;have m1:=aL.free (A:=_) ⟨_,hC.1.blk⟩ 1;refine ay rfl rfl fun K hK=> ?_;go_simp;exact hK _ _ ⟨undef,⟨hC.1.set dc dc Nk.out (HK.up 8 kr) (HK.up 13 kr) (by rw [← hv];rfl),trivial⟩,fun d _ _ h=>h,rfl,trivial⟩
   ·refine ay rfl rfl fun K hK=> ?_;go_simp;exact hK _ _ ⟨_,hC,fun d _ _ h=>h,rfl,rfl⟩
   obtain⟨o',c',hv⟩:=dL (hC.1.b1 (HK.up 13 kr));have h16:σ 16= .pointer (some ⟨b8,2,none⟩):=HK.post 16 kr;rw [h16];rw [hv];have m0:=cell_of_heap (o:=2) hC.1.blk rfl;have m1:=aL.free (A:=_) ⟨_,hC.1.blk⟩ 2;refine ay rfl rfl fun K hK=> ?_;go_simp;exact hK _ _ ⟨undef,⟨hC.1.set dc dc Nk.out (HK.up 8 kr) (HK.up 13 kr) (by rw [← hv];rfl),trivial⟩,fun d _ _ h=>h,rfl,trivial⟩
  intro S σ w9 Ej hS hP;have hT:=Ej.1.done (hS 7 (show 7<18 from om)) (hS 8 (show 8<18 from om)) (hS 12 (show 12<18 from om)) (hS 13 (show 13<18 from om));obtain⟨oA,cA',UQ⟩:=dL hT.a;obtain⟨oB,cB',hvB⟩:=dL hT.b;refine NoPanic.normal ?_;have HBE:Hid (w9.heap[b8]? =some (.cells #[.int .i64 4,.slice oA (m+1) cA',.slice oB (m+1) cB',.int .i64 0,.int .i64 0,.int .i64 0,.slice none 0 0,.int .i64 0,.int .i64 0] sD (0,0))):=zh (by
   have h:=Ej.1.blk;rw [hS 15 (show 15<18 from om),hS 17 (show 17<18 from om),UQ,hvB]at h;exact h)
  have K9:=zh hT.k;have Ue:Hid (w9.ownsRow w.heap.size TI 1 (.slice oA (m+1) cA') (m+1) (iv ((F3 times ids (k+1)).map (·.1)))):=zh (by rw [Vi.out,List.map_append,D9,←UQ];exact hT.a);have HF9:Hid (w9.ownsRow w.heap.size TF 2 (.slice oB (m+1) cB') (m+1) (((F3 times ids (k+1)).map (·.2)).flatMap Ud)):=zh (by rw [Vi.out,List.map_append,List.flatMap_append,←hvB];exact hT.b);have Vj:Hid (m+1=(F3 times ids (k+1)).length):=zh (by rw [Vi.out,List.length_append,HM.out];rfl);clear hT UQ hvB hP hS Ej;go_wp2;go_roundw
  case rel=>exact⟨k+1,m+1,_,_,om,gn,Vj.out,K9.out,HBE.out,Ue.out,HF9.out,HFS.out⟩
  simp [intOf];omega
 have hlt:¬(k:Int)<(n:Int):=om;obtain rfl:n=k:=om;have HPA:=zh (Yq FU.out HE2.out);have Vj:Hid ((bH times ids).length=m):=zh (by rw [HM.out,HPA.out]);have hm0:0<m:=by
  rw [← Vj.out];exact List.length_pos_iff.2 gV.out
 have HAI:Hid (bD wr w.heap.size (.slice oA m cA) ((bH times ids).map (·.1))):=zh (by
  have h:=HA.out;rw [HPA.out]at h;unfold bD;rw [List.length_map,Vj.out];exact h)
 have wE:Hid (pK wr w.heap.size (.slice oB m cB) ((bH times ids).map (·.2))):=zh (by
  have h:=HF.out;rw [HPA.out]at h;unfold pK dR;rw [List.length_map,Vj.out];exact h)
 have CSS:=IJ w wr b8 m _ _ (.int .i64 4) _ _ _ _ _ _ _ _ KR.out Nk.out mh.out HAI.out wE.out (by rw [List.length_map,Vj.out]) (by rw [List.length_map,Vj.out]) hm0 om (Ko HID.out) Rn.out;rw [Rz]at CSS;clear HA HF HAI wE HT DY HI XJ;have zbE:Hid (∀x∈(cO (bH times ids)).map (·.1),fT x):=zh fun x hx=>by
  obtain⟨p,hp,rfl⟩:=List.mem_map.1 hx;have:=Ko HID.out _ (List.mem_map_of_mem ((ko _).mem_iff.1 hp));unfold fT;omega
 have Nl:Hid ((cO (bH times ids)).length≤900000):=zh (by rw [(ko _).length_eq,Vj.out];omega);clear gV HPA Vj HM HID Rn;obtain⟨L,hP⟩:∃L,cO (bH times ids)=L:=⟨_,rfl⟩;rw [hP]at CSS zbE Nl;have HP:=zh hP;clear hP;go_wp2_with fail;refine CSS.mono ?_;rintro e w3 ⟨rfl,UA,vn',hk3,hB3,hl3,hn3⟩;have K3:=zh hk3;have HB3:=zh hB3;have XO:=zh hl3;have HN3:=zh hn3;obtain⟨ol,cl,hvl⟩:=hl3.len;obtain⟨on,cn,UE,_⟩:=hn3.len;rw [List.length_map]at hvl UE;subst hvl UE;have ZV:=zh (HC.out.keep hk3);have zbF:Hid (∀k,(Value.slice ot s.steps.length ct).ownBlock=some k→k≠b8):=zh fun k hk e=>by have:=HC.out.t.lt k hk;have:=Nk.out;omega
 have Yt:Hid (b8≠bS):=zh fun e=>by have:=Nk.out;omega
 obtain⟨t0,t1,t2,t3,t4,t5,t6,lS3⟩:=lQ ZV.out.blk;have l83:=lt_of_heap hB3;clear hk3 hB3 hl3 hn3 CSS KR mh;go_upto_region 12 with fail;refine aD (fun w'=>Keep au w3 w') [0,7,8,9,10] [([0,1,2,3,4,5],6),([],7),([8,9],10)] [] kr kr kp ?_;intro X W hne hF hcl;have aQ:=zh hcl;have z4:=fun x=>((hF x).cell lS3).trans t4;have zl:=fun x=>dJ lS3 (hF x).size;have d0:=fun x=>((hF x).cell l83).trans (cell_of_heap (o:=0) HB3.out rfl);have d1:=fun x=>((hF x).cell l83).trans (cell_of_heap (o:=1) HB3.out rfl);have d2:=fun x=>((hF x).cell l83).trans (cell_of_heap (o:=2) HB3.out rfl);have d3:=fun x=>((hF x).cell l83).trans (cell_of_heap (o:=3) HB3.out rfl);have d4:=fun x=>((hF x).cell l83).trans (cell_of_heap (o:=4) HB3.out rfl);have d5:=fun x=>((hF x).cell l83).trans (cell_of_heap (o:=5) HB3.out rfl);have d6:=fun x=>((hF x).cell l83).trans (cell_of_heap (o:=6) HB3.out rfl);have d7:=fun x=>((hF x).cell l83).trans (cell_of_heap (o:=7) HB3.out rfl);have d8:=fun x=>((hF x).cell l83).trans (cell_of_heap (o:=8) HB3.out rfl);have zm:=fun x=>dJ l83 (hF x).size;clear hF hcl t0 t1 t2 t3 t4 t5 t6;simp only [aO,aJ,zl0,zl1,zl2,aR,Bool.false_eq_true,if_false]
 (repeat(quiet_step (fail)));refine wpQuiet_nil ?_
 refine ay rfl rfl fun K hK=> ?_;go_simp;have k8:Keep au w3 (w3.alloc (.cells #[.int .i64 4,.slice ol L.length cl,.slice on L.length cn,.int .i64 0,.int .i64 0,.int .i64 0,.slice none 0 0,.int .i64 0,.int .i64 0] sD)).drew:=((Keep.refl _ _).alloc _).drew;refine hK _ _ ⟨fun _=>aQ.out _ k8,?_⟩;have sz3:w0.heap.size≤w.heap.size:=HC.out.k.size;obtain⟨v9,w9,hr9,hv9,hc9,kt9,hb9,hg9⟩:=(ZV.out.keep k8).pushT (y:=⟨.slice ol L.length cl,.slice on L.length cn,.slice none 0 0,⟨4,L.map fun(x:Int × Fq)=>x.1,L.map fun(x:Int × Fq)=>x.2,wU⟩⟩) ⟨World.ownsRow_mono (XO.out.keep k8) sz3,World.ownsRow_mono (HN3.out.keep k8) sz3,bD.nil _ _⟩ (b:=w3.heap.size) (aL.keep (aP _ _ rfl) (Keep.refl _ _).drew) (by show s.steps.length≤_;omega);obtain⟨o9,c9,rfl⟩:=hv9;have xZ:aL w9 bS #[vr,vi,.int .i64 (s.fuel:Int),.slice oa s.atoms.length ca,.slice ot s.steps.length ct,.slice op s.point.length cp,.bool s.much]:=⟨_,hb9.trans (ZV.out.keep k8).b⟩;have g4:=xZ.cell 4;have g4f:=xZ.free 4;have gl:=xZ.lt;have HC9:=zh hc9;have HK9:=zh ((KT.of (K3.out.both k8)).trans kt9);have mh:Hid ((w9.setCell ⟨bS,4,none⟩ (.slice o9 (s.steps.length+1) c9)).heap[b8]? =some (.cells #[.int .i64 4,.slice ol L.length cl,.slice on L.length cn,.int .i64 0,.int .i64 0,.int .i64 0,.slice none 0 0,.int .i64 0,.int .i64 0] sD (0,0))):=zh (by
  rw [heap_setCell_other _ _ _ _ Yt.out,hg9.block b8 (lt_of_heap ((k8.block b8 l83 fun _ h=>h).trans HB3.out)) fun e=>zbF.out _ e.symm rfl];exact(k8.block b8 l83 fun _ h=>h).trans HB3.out)
 have HL9:=zh (kt9.ints (XO.out.keep k8));clear hK k8 hc9 hb9 xZ kt9 aQ hg9 ZV XO HN3 HB3 zbF Yt
 (repeat(quiet_step (fail)));refine wpQuiet_nil ?_
 refine ay rfl rfl fun K hK=> ?_;refine dM _ _ 26 _ _ rfl rfl rfl hr9 ?_;refine hK _ _ ⟨fun h=>(by simp at h),?_⟩;clear hK hr9
 (repeat(quiet_step (fail)));refine wpQuiet_nil ?_
 refine ay rfl rfl fun K hK=> ?_;go_simp;refine hK _ _ ⟨fun h=>(by simp at h),?_⟩;clear hK
 (repeat(quiet_step (fail)));refine wpQuiet_nil ?_
 refine NoPanic.normal ?_;clear hne z4 zl d0 d1 d2 d3 d4 d5 d6 d7 d8 zm lS3 l83 W X g4 g4f gl;generalize w9.setCell ⟨bS,4,none⟩ (.slice o9 (s.steps.length+1) c9)=wz at *;have d1:=cell_of_heap (o:=1) mh.out rfl;have dl:=lt_of_heap mh.out;have XK:Hid (aW wz (.slice ol L.length cl) (L.map (·.1))):=zh (HL9.out.ints zbE.out);have CL:=zh (BU wz _ _ XK.out (by rw [List.length_map];exact Nl.out));go_wp2_with fail;refine CL.out.mono ?_;rintro e w8 ⟨u,rfl,hu,hk8⟩;have HU:=zh hu;have K8:=zh hk8;clear hu hk8 CL d1;go_wp2;refine bodyPost_ret (by simp [results,Tryz.results60,go_sem];rfl) rfl ?_;rw [HP.out];refine⟨fun _=>⟨u,rfl,World.ownsRow_mono HU.out (Nat.le_trans HC9.out.k.size (Nat.le_refl _)),_,_,_,_,_,HC9.out.keep K8.out⟩,fun h=>absurd zax.out (by rw [h];decide),HK9.out.trans (KT.of K8.out)⟩
end Go.Proofs.YtaiffmebphhdaaaGreat
