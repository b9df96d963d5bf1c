/- Package cut: refuted. -/
import Derived.Test.YtaiffmebphhdaaaGreatCuH
import Derived.Test.YtaiffmebphhdaaaGreatExAA
import Derived.Test.YtaiffmebphhdaaaGreatFqO
import Derived.Test.YtaiffmebphhdaaaGreatTbL
namespace Go.Proofs.YtaiffmebphhdaaaGreat
set_option maxRecDepth 100000
set_option maxHeartbeats 16000000
set_option linter.unusedSimpArgs false
set_option linter.unusedVariables false
open Go.ChangeShapes Go.WideShapes Go.RowKit
variable {P:Nat→Prop}
theorem Ue {v:Value}{q:Rat}(h:bM v q)(w:World):Calls Tryz.prog 43 #[v] w fun e w'=>e= .returned (.int .i64 q.num.sign)∧Keep au w w':=by
 obtain⟨d,rfl,_⟩:=h;exact Ep w q.num d
def FX (times:List Rat)(ids:List Int)(k:Nat):List (Int × Fq):=dB (times.take k) (ids.take k)
theorem Er (times:List Rat)(ids:List Int):FX times ids 0= []:=by simp [FX,dB]
theorem Uf {times:List Rat}{ids:List Int}{k:Nat}(h1:k<times.length)(h2:k<ids.length):FX times ids (k+1)=FX times ids k++(if times[k]=0 then []else [(-ids[k],dQ times[k])]):=by
 unfold FX dB;rw [List.take_succ_eq_append_getElem h1,List.take_succ_eq_append_getElem h2,List.zip_append (by rw [List.length_take,List.length_take];omega),List.filter_append,List.map_append]
 by_cases h:times[k]=0
 ·rw [if_pos h];simp [h]
 ·rw [if_neg h];simp [h]
theorem Xa {times:List Rat}{ids:List Int}{n:Nat}(h1:times.length=n)(h2:ids.length=n):FX times ids n=dB times ids:=by
 unfold FX;rw [List.take_of_length_le (by omega),List.take_of_length_le (by omega)]
theorem Xb (times:List Rat)(ids:List Int)(k:Nat):(FX times ids k).length≤k:=by
 unfold FX dB;rw [List.length_map];refine Nat.le_trans (List.length_filter_le _ _) ?_;rw [List.length_zip,List.length_take];omega
theorem Qt {qs:List Rat}{k n:Nat}(hk:k<qs.length)(hn:qs.length=n)(h:¬Fits qs[k]):allFit qs n=false:=by
 unfold allFit;rw [List.take_of_length_le (by omega)]
 by_cases ha:(qs.all fun q=>decide (Fits q))=true
 ·rw [List.all_eq_true]at ha
  exact absurd (of_decide_eq_true (ha _ (List.getElem_mem hk))) h
 ·simpa using ha
theorem Qu {q:Rat}(h:q=0):Fits q:=by subst h;exact⟨by decide,by decide⟩
theorem Kg {times:List Rat}{ids:List Int}(hid:∀i∈ids,0≤i∧i≤1000):∀x∈(dB times ids).map (·.1),x.natAbs≤1000000:=by
 intro x hx;obtain⟨p,hp,rfl⟩:=List.mem_map.1 hx;unfold dB at hp;obtain⟨r,hr,rfl⟩:=List.mem_map.1 hp;have:=hid _ (List.of_mem_zip (List.mem_filter.1 hr).1).2;simp only;omega
theorem Qv (P:List (Int × Fq)):(P.map (·.1)).zip (P.map (·.2))=P:=by
 induction P with
 | nil=>rfl
 | cons x l ih=>simp [ih]
def pvI (vA vB vI:Value)(b8:Nat)(i x:Int)(aI:Addr)(N D:Int):Nat→Value→Prop
 | 0,v=>v= .pointer (some ⟨b8,1,none⟩)
 | 1,v=>v=vA
 | 2,v=>v=vI
 | 3,v=>v= .int .i64 i
 | 4,v=>v= .pointer (some aI)
 | 5,v=>v= .int .i64 x
 | 6,v=>v= .int .i64 (-x)
 | 9,v=>v= .pointer (some ⟨b8,2,none⟩)
 | 10,v=>v=vB
 | 11,v=>v= .agg #[.int .i64 N,.int .i64 D]
 | 14,v=>v= .pointer (some ⟨b8,1,none⟩)
 | 16,v=>v= .pointer (some ⟨b8,2,none⟩)
 | _,_=>True
theorem Kh (w0 w:World)(bS:Nat)(vr vi:Value)(s:jm)(v zba:Value)(times:List Rat)(ids:List Int)(n:Nat)(h:BI P w0 w bS vr vi s)(hT:jN w v times)(hN:∀q∈times,NB 1000 q)(hI:bC w zba ids)(e1:times.length=n)(e2:ids.length=n)(hn:n≤64)(hid:∀i∈ids,0≤i∧i≤1000)(hnd:((dB times ids).map (·.1)).Nodup)(hne:dB times ids≠ [])(hsl:s.steps.length≤50000):
  Calls Tryz.prog 60 #[.pointer (some ⟨bS,0,none⟩),v,zba] w fun e w'=>(allFit times n=true→∃u,e= .returned (.tuple #[u,.bool true])∧bD w' w0.heap.size u ((gD (dB times ids)).map (·.1))∧BI P w0 w' bS vr vi {s with steps:=s.steps++ [⟨4,(gD (dB times ids)).map (·.1),(gD (dB times ids)).map (·.2),xK⟩]})∧(allFit times n=false→e= .returned (.tuple #[.slice none 0 0,.bool false])∧BI P w0 w' bS vr vi s)∧KT P w w':=by
 obtain⟨va,vt,vp,xs,ys,hc⟩:=h;obtain⟨⟨oa,ca,rfl⟩,⟨ot,ct,rfl⟩,op,cp,rfl⟩:=hc.forms;have HC:=zh hc;have HT:=zh hT;have DJ:=zh hN;have HI:=zh hI;have Ir:=zh e1;have HE2:=zh e2;have HID:=zh hid;have Qj:=zh hnd;have gV:=zh hne;have hpos:0<n:=by
  rcases Nat.eq_zero_or_pos n with h | h
  ·exfalso
   rw [h]at e1;rw [List.eq_nil_of_length_eq_zero e1]at hne;exact hne (by simp [dB])
  ·exact h
 obtain⟨ot',ct',hv1,_,hmt⟩:=hT.len;obtain⟨oi',ci',hv2,_⟩:=hI.len;rw [e1]at hv1;rw [e2]at hv2;subst hv1 hv2;unfold maxLen at hmt;have Wh:Hid (∀k (hk:k<n),∃bi oi,oi'=some ⟨bi,oi,none⟩∧bi<w.heap.size∧w.cell? ⟨bi,oi+k,none⟩=some (.int .i64 (ids.getD k 0))):=zh fun k hk=>by
  obtain⟨b,o,c,hv,hb,hcc⟩:=hI.at (k:=k) (by omega)
  injection hv with q1 _ _
  refine⟨b,o,q1,hb,?_⟩;rw [eG,iw (by omega)]
  exact hcc
 have lS:=lt_of_heap hc.b;clear hc hT hN hI e1 e2 hid hnd hne;go_enter Tryz.func60,Tryz.ntmps60;go_upto_region 2 with fail
 have k1:Keep au w (w.alloc (.cells #[.int .i64 4,.slice none 0 0,.slice none 0 0,.int .i64 0,.int .i64 0,.int .i64 0,.slice none 0 0,.int .i64 0,.int .i64 0] Da)):=(Keep.refl _ _).alloc _;have HB1:Hid ((w.alloc (.cells #[.int .i64 4,.slice none 0 0,.slice none 0 0,.int .i64 0,.int .i64 0,.int .i64 0,.slice none 0 0,.int .i64 0,.int .i64 0] Da)).heap[w.heap.size]? =some (.cells #[.int .i64 4,.slice none 0 0,.slice none 0 0,.int .i64 0,.int .i64 0,.int .i64 0,.slice none 0 0,.int .i64 0,.int .i64 0] Da (0,0))):=zh (aZ _ _ _ rfl);have K1:=zh k1;clear k1;generalize w.alloc (.cells #[.int .i64 4,.slice none 0 0,.slice none 0 0,.int .i64 0,.int .i64 0,.int .i64 0,.slice none 0 0,.int .i64 0,.int .i64 0] Da)=w1 at *;obtain⟨b8,hb8⟩:∃b8,w.heap.size=b8:=⟨_,rfl⟩;rw [hb8]at HB1 ⊢;have MC:Hid (w.heap.size≤b8):=zh (Nat.le_of_eq hb8);clear hb8;go_wp2;go_loopw [16] (fun s wr=>∃(k m:Nat) (vA vB:Value),k≤n∧s= .int .i64 k∧m=(FX times ids k).length∧Keep au w wr∧wr.heap[b8]? =some (.cells #[.int .i64 4,vA,vB,.int .i64 0,.int .i64 0,.int .i64 0,.slice none 0 0,.int .i64 0,.int .i64 0] Da (0,0))∧wr.ownsRow w.heap.size TI 1 vA m (iv ((FX times ids k).map (·.1)))∧wr.ownsRow w.heap.size TF 2 vB m (((FX times ids k).map (·.2)).flatMap R4)∧allFit times k=true) (fun s _=>(n-intOf s).toNat)
 case atStart=>exact⟨0,0,_,_,by omega,rfl,by rw [Er];rfl,K1.out,HB1.out,by rw [Er];exact World.ownsRow_nil _ _ _ _,by rw [Er];exact World.ownsRow_nil _ _ _ _,by simp [allFit]⟩
 case round=>
  obtain⟨k,m,vA,vB,hk,rfl,hm,hkr,hb8,ha,hf,hfit⟩:=hrel;have KR:=zh hkr;have lZ:=zh hb8;obtain⟨oA,cA,rfl⟩:=dx ha;obtain⟨oB,cB,rfl⟩:=dx hf;have HA:=zh ha;have HF:=zh hf;have HM:=zh hm;have hml:m≤k:=by rw [hm];exact Xb _ _ _
  have ZW:=zh hfit;have l8:=lt_of_heap hb8;clear hkr hb8 ha hf hm hfit
  by_cases hkn:k<n
  case pos=>
   have hlt:(k:Int)<(n:Int):=by omega
   have hkt:k<times.length:=by rw [Ir.out];exact hkn
   have hki:k<ids.length:=by rw [HE2.out];exact hkn
   have Ug:=zh (Uf hkt hki);have ZX:=zh (BJ hkt);have Ib:=zh (Qt hkt Ir.out);obtain⟨b,o,rfl,hb,xb,xS,xc,xU,p0,p1,p2,p3,hx⟩:=(HT.out.keep KR.out).at hkt;have CS:=fun w=>zh (Ue hx w)
   have CF:=fun w=>zh (Es w _ _ hx (DJ.out _ (List.getElem_mem hkt)))
   rw [Gx]at CF;have HIK:Hid (ids.getD k 0=ids[k]):=zh (by rw [eG,iw hki];rfl)
   generalize times[k]=t at *;clear hx
   by_cases ht:t=0
   case pos=>
    have e3:t.num.sign=0:=by rw [ht];rfl
    have Ug:Hid (FX times ids (k+1)=FX times ids k):=zh (by rw [Ug.out,if_pos ht,List.append_nil])
    have ZX:Hid (allFit times (k+1)=true):=zh (by rw [ZX.out,ZW.out,decide_eq_true (Qu ht)];rfl)
    rw [e3]at CS;clear ht e3 CF Ib HIK;go_wp2_with fail;refine(CS _).out.mono ?_;rintro e w4 ⟨rfl,hk4⟩;have k4:Keep au wr w4:=Keep.trans kp hk4 fun _ _ _ h=>h
    have K4:=zh k4;clear hk4 k4 p0 p1 p2 p3 CS;go_wp2;go_roundw
    case rel=>exact⟨k+1,m,_,_,by omega,by go_num,by rw [Ug.out];exact HM.out,KR.out.both K4.out,(K4.out.block b8 l8 fun _ h=>h).trans lZ.out,by rw [Ug.out];exact fq HA.out K4.out,by rw [Ug.out];exact fq HF.out K4.out,ZX.out⟩
    case measure=>simp [intOf];omega
   case neg=>
    have e3:(t.num.sign==0)=false:=by
     rw [beq_eq_false_iff_ne];intro h0;exact ht (by rwa [Int.sign_eq_zero_iff_zero,Rat.num_eq_zero]at h0)
    have Ug:Hid (FX times ids (k+1)=FX times ids k++ [(-ids[k],dQ t)]):=zh (by rw [Ug.out,if_neg ht])
    clear ht;generalize t.num.sign=sg at *;go_wp2_with fail;refine(CS _).out.mono ?_;rintro e w4 ⟨rfl,hk4⟩;have k4:Keep au wr w4:=Keep.trans kp hk4 fun _ _ _ h=>h
    have K4:=zh k4;have hb10:=zh (aL.keep (aR (w:=wr) #[.bool xb,.string xS,.bool xc,.string xU] 93 rfl) hk4);clear hk4 k4 p0 p1 p2 p3 CS;obtain⟨y0,y1,y2,y3,_,_,_,_,yl⟩:=hb10.out.four
    by_cases hft:Fits t
    case neg=>
     rw [decide_eq_false hft]at CF;have Ib:=zh (Ib.out hft);clear hft Ug ZX;go_wp2_with fail;refine(CF _).out.mono ?_;rintro e w5 ⟨rfl,hk5⟩;have K5:Hid (Keep au w w5):=zh ((KR.out.both K4.out).both (Keep.trans kp hk5 fun _ _ _ h=>h))
     clear hk5 y0 y1 y2 y3 CF;generalize (dQ t).N=fn at *;generalize (dQ t).D=fd at *;go_wp2;refine bodyPost_ret (by simp [results,Tryz.results60,go_sem];rfl) rfl ?_
     have KE:=K5.out.alloc (.cells #[.int .i64 fn,.int .i64 fd] TF);exact⟨fun h=>absurd h (by rw [Ib.out];decide),fun _=>⟨rfl,_,_,_,_,_,HC.out.keep KE⟩,KT.of KE⟩
    case pos=>
     rw [decide_eq_true hft]at CF;have ZX:Hid (allFit times (k+1)=true):=zh (by rw [ZX.out,ZW.out,decide_eq_true hft];rfl)
     clear hft Ib;go_wp2_with fail;refine(CF _).out.mono ?_;rintro e w5 ⟨rfl,hk5⟩;have k5:Keep au w4 w5:=Keep.trans kp hk5 fun _ _ _ h=>h
     have k6:Keep au wr (w5.alloc (.cells #[.int .i64 (dQ t).N,.int .i64 (dQ t).D] TF)):=(K4.out.both k5).alloc _;have zbb:Hid ((w5.alloc (.cells #[.int .i64 (dQ t).N,.int .i64 (dQ t).D] TF)).heap[w5.heap.size]? =some (.cells #[.int .i64 (dQ t).N,.int .i64 (dQ t).D] TF (0,0))):=zh (aZ _ _ _ rfl);have HKY:Hid (Keep au w (w5.alloc (.cells #[.int .i64 (dQ t).N,.int .i64 (dQ t).D] TF))):=zh (KR.out.both k6);have lZ:Hid ((w5.alloc (.cells #[.int .i64 (dQ t).N,.int .i64 (dQ t).D] TF)).heap[b8]? =_):=zh ((k6.block b8 l8 fun _ h=>h).trans lZ.out)
     have HA:=zh (fq HA.out k6);have HF:=zh (fq HF.out k6);obtain⟨bi,oi,hoi,lI,xi⟩:=Wh.out k hkn;subst hoi;rw [HIK.out]at xi;have xI:=zh xi;have HIB:=zh (HID.out _ (List.getElem_mem hki));clear hk5 k5 k6 y0 y1 y2 y3 yl hb10 xi CF HIK K4;generalize ids[k]=x at *;have hx0:fK (-x):=by have:=HIB.out;unfold fK;omega
     have HW:Hid (IntKind.i64.wrap (-x)= -x):=zh (by have:=HIB.out;simp [IntKind.wrap,IntKind.bits,IntKind.signed];omega)
     go_upto_region 9 with fail
     generalize w5.alloc (.cells #[.int .i64 (dQ t).N,.int .i64 (dQ t).D] TF)=wy at *;obtain⟨b11,hb11⟩:∃b11,w5.heap.size=b11:=⟨_,rfl⟩;rw [hb11]at zbb ⊢;clear hb11;refine jg (fun S σ w'=>kF w TI 1 m TF 2 m (.slice oA m cA) (.slice oB m cB) (iv ((FX times ids k).map (·.1))) [.int .i64 (-x)] (((FX times ids k).map (·.2)).flatMap R4) [.int .i64 (dQ t).N,.int .i64 (dQ t).D] b8 Da (fun a b=> #[.int .i64 4,a,b,.int .i64 0,.int .i64 0,.int .i64 0,.slice none 0 0,.int .i64 0,.int .i64 0]) b11 (.cells #[.int .i64 (dQ t).N,.int .i64 (dQ t).D] TF (0,0)) (S 7) (S 8) (S 12) (S 13) (S 15) (S 17) (σ 7) (σ 8) (σ 12) (σ 13) w'∧True) (fun S d v w=>pvI (.slice oA m cA) (.slice oB m cB) (.slice (some ⟨bi,oi,none⟩) n ci') b8 k x ⟨bi,oi+k,none⟩ (dQ t).N (dQ t).D d v) (by kernel_rfl) (by kernel_rfl) (by kernel_rfl) (by kernel_rfl) (fun S σ hS=>⟨kF.start (hS 7) (hS 8) (hS 12) (hS 13) (hS 15) (hS 17) (⟨HKY.out.size,HKY.out,HA.out,HF.out,lZ.out,zbb.out⟩),trivial⟩) _ (fun σ=>by
      show bV _ σ [0,1,2,3,4,5,6,7,8,9,10,11,12,13,14,15,16,17] _=_;simp only [bV,zl0,zl1,zl2,Act.put,List.setIfInBounds_toArray,List.set_cons_zero,List.set_cons_succ];rfl) ?_ ?_
     ·intro S σ wz hC hall e he HK
      have he:e<18:=he;obtain rfl | rfl | rfl | rfl | rfl | rfl | rfl | rfl | rfl | rfl | rfl | rfl | rfl | rfl | rfl | rfl | rfl | rfl:e=0∨e=1∨e=2∨e=3∨e=4∨e=5∨e=6∨e=7∨e=8∨e=9∨e=10∨e=11∨e=12∨e=13∨e=14∨e=15∨e=16∨e=17:=by omega
      ·refine ay rfl rfl fun K hK=> ?_
       go_simp;exact hK _ _ ⟨_,hC,fun d _ _ h=>h,rfl,rfl⟩
      ·have h0:σ 0= .pointer (some ⟨b8,1,none⟩):=HK.post 0 (by kernel_rfl)
       rw [h0];have m0:wz.cell? ⟨b8,1,none⟩=some (.slice oA m cA):=by
        have h:=cell_of_heap (o:=1) hC.1.blk rfl;rw [HK.down 15 (by kernel_rfl)]at h
        exact h
       refine ay rfl rfl fun K hK=> ?_
       go_simp;exact hK _ _ ⟨_,hC,fun d _ _ h=>h,rfl,rfl⟩
      ·refine ay rfl rfl fun K hK=> ?_
       go_simp;exact hK _ _ ⟨_,hC,fun d _ _ h=>h,rfl,rfl⟩
      ·refine ay rfl rfl fun K hK=> ?_
       go_simp;exact hK _ _ ⟨_,hC,fun d _ _ h=>h,rfl,rfl⟩
      ·have h2:σ 2=(.slice (some ⟨bi,oi,none⟩) n ci'):=HK.post 2 (by kernel_rfl)
       rw [h2];have h3:σ 3= .int .i64 (k:Int):=HK.post 3 (by kernel_rfl)
       rw [h3];refine ay rfl rfl fun K hK=> ?_
       go_simp;exact hK _ _ ⟨_,hC,fun d _ _ h=>h,rfl,rfl⟩
      ·have h4:σ 4= .pointer (some ⟨bi,oi+k,none⟩):=HK.post 4 (by kernel_rfl)
       rw [h4];have m0:=(hC.1.k.cell lI).trans xI.out;refine ay rfl rfl fun K hK=> ?_
       go_simp;exact hK _ _ ⟨_,hC,fun d _ _ h=>h,rfl,rfl⟩
      ·have h5:σ 5= .int .i64 x:=HK.post 5 (by kernel_rfl)
       rw [h5];refine ay rfl rfl fun K hK=> ?_
       go_simp;exact hK _ _ ⟨_,hC,fun d _ _ h=>h,rfl,congrArg (Value.int IntKind.i64) HW.out⟩
      ·have h6:σ 6= .int .i64 (-x):=HK.post 6 (by kernel_rfl)
       rw [h6];refine ay rfl rfl fun K hK=> ?_
       go_simp;exact hK _ _ ⟨_,⟨hC.1.buildA ((Keep.refl _ _).alloc _) (b:=wz.heap.size) (aR _ _ rfl) (Nat.le_refl _),hC.2⟩,fun d _ _ h=>h,rfl,trivial⟩
      ·obtain ⟨v',w2,hr,hc2⟩:=hC.1.appA Db (by decide) (by decide) (fun A f h=>absurd (Obj.cells.inj h).2.1 (by decide)) rfl (by intro u hu;simp at hu;subst hu;rfl) (by omega) (HK.up 7 (by kernel_rfl)) HK.self (HK.down 15 (by kernel_rfl))
       have h1:σ 1=(.slice oA m cA):=HK.post 1 (by kernel_rfl)
       rw [h1];refine ay rfl rfl fun K hK=> ?_
       refine bZ _ _ 38 _ _ rfl rfl rfl hr ?_;exact hK _ _ ⟨_,⟨hc2,trivial⟩,fun d _ _ h=>h,rfl,trivial⟩
      ·refine ay rfl rfl fun K hK=> ?_
       go_simp;exact hK _ _ ⟨_,hC,fun d _ _ h=>h,rfl,rfl⟩
      ·have h9:σ 9= .pointer (some ⟨b8,2,none⟩):=HK.post 9 (by kernel_rfl)
       rw [h9];have m0:wz.cell? ⟨b8,2,none⟩=some (.slice oB m cB):=by
        have h:=cell_of_heap (o:=2) hC.1.blk rfl;rw [HK.down 17 (by kernel_rfl)]at h
        exact h
       refine ay rfl rfl fun K hK=> ?_
       go_simp;exact hK _ _ ⟨_,hC,fun d _ _ h=>h,rfl,rfl⟩
      ·have hx:=hC.1.x (HK.down 13 (by kernel_rfl))
       have m0:=cell_of_heap (o:=0) hx rfl;have m1:=cell_of_heap (o:=1) hx rfl;have m2:=lt_of_heap hx;refine ay rfl rfl fun K hK=> ?_
       go_simp;exact hK _ _ ⟨_,hC,fun d _ _ h=>h,rfl,rfl⟩
      ·have h11:σ 11= .agg #[.int .i64 (dQ t).N,.int .i64 (dQ t).D]:=HK.post 11 (by kernel_rfl)
       rw [h11];refine ay rfl rfl fun K hK=> ?_
       go_simp;exact hK _ _ ⟨_,⟨hC.1.buildB ((Keep.refl _ _).alloc _) (b:=wz.heap.size) (aR _ _ rfl) (Nat.le_refl _),hC.2⟩,fun d _ _ h=>h,rfl,trivial⟩
      ·obtain ⟨v',w2,hr,hc2⟩:=hC.1.appB OD (by decide) (by decide) rfl (by intro u hu;simp at hu;rcases hu with rfl | rfl<;>rfl) (by omega) (HK.up 12 (by kernel_rfl)) HK.self (HK.down 17 (by kernel_rfl))
       have h10:σ 10=(.slice oB m cB):=HK.post 10 (by kernel_rfl)
       rw [h10];refine ay rfl rfl fun K hK=> ?_
       refine bZ _ _ 25 _ _ rfl rfl rfl hr ?_;exact hK _ _ ⟨_,⟨hc2,trivial⟩,fun d _ _ h=>h,rfl,trivial⟩
      ·refine ay rfl rfl fun K hK=> ?_
       go_simp;exact hK _ _ ⟨_,hC,fun d _ _ h=>h,rfl,rfl⟩
      ·obtain ⟨o',c',hv⟩:=dx (hC.1.a1 (HK.up 8 (by kernel_rfl)))
       have h14:σ 14= .pointer (some ⟨b8,1,none⟩):=HK.post 14 (by kernel_rfl)
       rw [h14];rw [hv];have m0:=cell_of_heap (o:=1) hC.1.blk rfl;have m1:=aL.free (A:=_) ⟨_,hC.1.blk⟩ 1;refine ay rfl rfl fun K hK=> ?_
       go_simp;exact hK _ _ ⟨undef,⟨hC.1.set (by decide) (by decide) MC.out (HK.up 8 (by kernel_rfl)) (HK.up 13 (by kernel_rfl)) (by rw [← hv];rfl),trivial⟩,fun d _ _ h=>h,rfl,trivial⟩
      ·refine ay rfl rfl fun K hK=> ?_
       go_simp;exact hK _ _ ⟨_,hC,fun d _ _ h=>h,rfl,rfl⟩
      ·obtain ⟨o',c',hv⟩:=dx (hC.1.b1 (HK.up 13 (by kernel_rfl)))
       have h16:σ 16= .pointer (some ⟨b8,2,none⟩):=HK.post 16 (by kernel_rfl)
       rw [h16];rw [hv];have m0:=cell_of_heap (o:=2) hC.1.blk rfl;have m1:=aL.free (A:=_) ⟨_,hC.1.blk⟩ 2;refine ay rfl rfl fun K hK=> ?_
       go_simp;exact hK _ _ ⟨undef,⟨hC.1.set (by decide) (by decide) MC.out (HK.up 8 (by kernel_rfl)) (HK.up 13 (by kernel_rfl)) (by rw [← hv];rfl),trivial⟩,fun d _ _ h=>h,rfl,trivial⟩
     ·intro S σ w9 Ap hS hP
      have hT:=Ap.1.done (hS 7 (show 7<18 by omega)) (hS 8 (show 8<18 by omega)) (hS 12 (show 12<18 by omega)) (hS 13 (show 13<18 by omega))
      obtain⟨oA,cA',Tw⟩:=dx hT.a;obtain⟨oB,ZI,hvB⟩:=dx hT.b;refine NoPanic.normal ?_;have HBE:Hid (w9.heap[b8]? =some (.cells #[.int .i64 4,.slice oA (m+1) cA',.slice oB (m+1) ZI,.int .i64 0,.int .i64 0,.int .i64 0,.slice none 0 0,.int .i64 0,.int .i64 0] Da (0,0))):=zh (by
       have h:=Ap.1.blk;rw [hS 15 (show 15<18 by omega),hS 17 (show 17<18 by omega),Tw,hvB]at h
       exact h)
      have K9:=zh hT.k;have R5:Hid (w9.ownsRow w.heap.size TI 1 (.slice oA (m+1) cA') (m+1) (iv ((FX times ids (k+1)).map (·.1)))):=zh (by rw [Ug.out,List.map_append,DZ,←Tw];exact hT.a)
      have HF9:Hid (w9.ownsRow w.heap.size TF 2 (.slice oB (m+1) ZI) (m+1) (((FX times ids (k+1)).map (·.2)).flatMap R4)):=zh (by rw [Ug.out,List.map_append,List.flatMap_append,←hvB];exact hT.b)
      have Uh:Hid (m+1=(FX times ids (k+1)).length):=zh (by rw [Ug.out,List.length_append,HM.out];rfl)
      clear hT Tw hvB hP hS Ap;go_wp2;go_roundw
      case rel=>exact⟨k+1,m+1,_,_,by omega,by go_num,Uh.out,K9.out,HBE.out,R5.out,HF9.out,ZX.out⟩
      case measure=>simp [intOf];omega
  case neg=>
   have hlt:¬(k:Int)<(n:Int):=by omega
   obtain rfl:n=k:=by omega
   have ZL:=zh (Xa Ir.out HE2.out);have Uh:Hid ((dB times ids).length=m):=zh (by rw [HM.out,ZL.out])
   have hm0:0<m:=by
    rw [← Uh.out];exact List.length_pos_iff.2 gV.out
   have HAI:Hid (bD wr w.heap.size (.slice oA m cA) ((dB times ids).map (·.1))):=zh (by
    have h:=HA.out;rw [ZL.out]at h;unfold bD;rw [List.length_map,Uh.out];exact h)
   have vP:Hid (jl wr w.heap.size (.slice oB m cB) ((dB times ids).map (·.2))):=zh (by
    have h:=HF.out;rw [ZL.out]at h;unfold jl dO;rw [List.length_map,Uh.out];exact h)
   have CSS:=IE w wr b8 m _ _ (.int .i64 4) _ _ _ _ _ _ _ _ KR.out MC.out lZ.out HAI.out vP.out (by rw [List.length_map,Uh.out]) (by rw [List.length_map,Uh.out]) hm0 (by omega) (Kg HID.out) Qj.out
   rw [Qv]at CSS;clear HA HF HAI vP HT DJ HI Wh;have zbc:Hid (∀x∈(gD (dB times ids)).map (·.1),fK x):=zh fun x hx=>by
    obtain⟨p,hp,rfl⟩:=List.mem_map.1 hx;have:=Kg HID.out _ (List.mem_map_of_mem ((pI _).mem_iff.1 hp));unfold fK;omega
   have ME:Hid ((gD (dB times ids)).length≤900000):=zh (by rw [(pI _).length_eq,Uh.out];omega)
   clear gV ZL Uh HM HID Qj;obtain⟨L,hP⟩:∃L,gD (dB times ids)=L:=⟨_,rfl⟩;rw [hP]at CSS zbc ME;have HP:=zh hP;clear hP;go_wp2_with fail;refine CSS.mono ?_;rintro e w3 ⟨rfl,SG,vn',hk3,hB3,hl3,hn3⟩;have K3:=zh hk3;have HB3:=zh hB3;have Wm:=zh hl3;have HN3:=zh hn3;obtain⟨ol,cl,hvl⟩:=hl3.len;obtain⟨on,cn,RY,_⟩:=hn3.len;rw [List.length_map]at hvl RY;subst hvl RY;have YG:=zh (HC.out.keep hk3);have zbd:Hid (∀k,(Value.slice ot s.steps.length ct).ownBlock=some k→k≠b8):=zh fun k hk e=>by have:=HC.out.t.lt k hk;have:=MC.out;omega
   have Xc:Hid (b8≠bS):=zh fun e=>by have:=MC.out;omega
   obtain⟨t0,t1,t2,t3,t4,t5,t6,ZH⟩:=lM YG.out.blk;have l83:=lt_of_heap hB3;clear hk3 hB3 hl3 hn3 CSS KR lZ;go_upto_region 12 with fail
   refine aD (fun w'=>Keep au w3 w') [0,7,8,9,10] [([0,1,2,3,4,5],6),([],7),([8,9],10)] [] (by kernel_rfl) (by kernel_rfl) kp ?_
   intro X W hne hF hcl;have aQ:=zh hcl;have z4:=fun x=>((hF x).cell ZH).trans t4
   have zl:=fun x=>dY ZH (hF x).size
   have d0:=fun x=>((hF x).cell l83).trans (cell_of_heap (o:=0) HB3.out rfl)
   have d1:=fun x=>((hF x).cell l83).trans (cell_of_heap (o:=1) HB3.out rfl)
   have d2:=fun x=>((hF x).cell l83).trans (cell_of_heap (o:=2) HB3.out rfl)
   have d3:=fun x=>((hF x).cell l83).trans (cell_of_heap (o:=3) HB3.out rfl)
   have d4:=fun x=>((hF x).cell l83).trans (cell_of_heap (o:=4) HB3.out rfl)
   have d5:=fun x=>((hF x).cell l83).trans (cell_of_heap (o:=5) HB3.out rfl)
   have d6:=fun x=>((hF x).cell l83).trans (cell_of_heap (o:=6) HB3.out rfl)
   have d7:=fun x=>((hF x).cell l83).trans (cell_of_heap (o:=7) HB3.out rfl)
   have d8:=fun x=>((hF x).cell l83).trans (cell_of_heap (o:=8) HB3.out rfl)
   have zm:=fun x=>dY l83 (hF x).size
   clear hF hcl t0 t1 t2 t3 t4 t5 t6;simp only [aO,aJ,zl0,zl1,zl2,aV,Bool.false_eq_true,if_false]
   (repeat(quiet_step (fail)));refine wpQuiet_nil ?_
   refine ay rfl rfl fun K hK=> ?_
   go_simp;have k8:Keep au w3 (w3.alloc (.cells #[.int .i64 4,.slice ol L.length cl,.slice on L.length cn,.int .i64 0,.int .i64 0,.int .i64 0,.slice none 0 0,.int .i64 0,.int .i64 0] Da)).drew:=((Keep.refl _ _).alloc _).drew;refine hK _ _ ⟨fun _=>aQ.out _ k8,?_⟩
   have sz3:w0.heap.size≤w.heap.size:=HC.out.k.size;obtain⟨v9,w9,hr9,hv9,hc9,kt9,hb9,hg9⟩:=(YG.out.keep k8).pushT (y:=⟨.slice ol L.length cl,.slice on L.length cn,.slice none 0 0,⟨4,L.map fun(x:Int × Fq)=>x.1,L.map fun(x:Int × Fq)=>x.2,xK⟩⟩) ⟨World.ownsRow_mono (Wm.out.keep k8) sz3,World.ownsRow_mono (HN3.out.keep k8) sz3,bD.nil _ _⟩ (b:=w3.heap.size) (aL.keep (aR _ _ rfl) (Keep.refl _ _).drew) (by show s.steps.length≤_;omega)
   obtain⟨o9,c9,rfl⟩:=hv9;have Ay:aL w9 bS #[vr,vi,.int .i64 (s.fuel:Int),.slice oa s.atoms.length ca,.slice ot s.steps.length ct,.slice op s.point.length cp,.bool s.much]:=⟨_,hb9.trans (YG.out.keep k8).b⟩;have g4:=Ay.cell 4;have ZY:=Ay.free 4;have gl:=Ay.lt;have Z0:=zh hc9;have HK9:=zh ((KT.of (K3.out.both k8)).trans kt9);have lZ:Hid ((w9.setCell ⟨bS,4,none⟩ (.slice o9 (s.steps.length+1) c9)).heap[b8]? =some (.cells #[.int .i64 4,.slice ol L.length cl,.slice on L.length cn,.int .i64 0,.int .i64 0,.int .i64 0,.slice none 0 0,.int .i64 0,.int .i64 0] Da (0,0))):=zh (by
    rw [heap_setCell_other _ _ _ _ Xc.out,hg9.block b8 (lt_of_heap ((k8.block b8 l83 fun _ h=>h).trans HB3.out)) fun e=>zbd.out _ e.symm rfl]
    exact(k8.block b8 l83 fun _ h=>h).trans HB3.out)
   have HL9:=zh (kt9.ints (Wm.out.keep k8));clear hK k8 hc9 hb9 Ay kt9 aQ hg9 YG Wm HN3 HB3 zbd Xc
   (repeat(quiet_step (fail)));refine wpQuiet_nil ?_
   refine ay rfl rfl fun K hK=> ?_
   refine bZ _ _ 26 _ _ rfl rfl rfl hr9 ?_;refine hK _ _ ⟨fun h=>(by simp at h),?_⟩
   clear hK hr9
   (repeat(quiet_step (fail)));refine wpQuiet_nil ?_
   refine ay rfl rfl fun K hK=> ?_
   go_simp;refine hK _ _ ⟨fun h=>(by simp at h),?_⟩
   clear hK
   (repeat(quiet_step (fail)));refine wpQuiet_nil ?_
   refine NoPanic.normal ?_;clear hne z4 zl d0 d1 d2 d3 d4 d5 d6 d7 d8 zm ZH l83 W X g4 ZY gl;generalize w9.setCell ⟨bS,4,none⟩ (.slice o9 (s.steps.length+1) c9)=wz at *;have d1:=cell_of_heap (o:=1) lZ.out rfl;have dl:=lt_of_heap lZ.out;have Wj:Hid (bC wz (.slice ol L.length cl) (L.map (·.1))):=zh (HL9.out.ints zbc.out)
   have CL:=zh (BK wz _ _ Wj.out (by rw [List.length_map];exact ME.out))
   go_wp2_with fail;refine CL.out.mono ?_;rintro e w8 ⟨u,rfl,hu,hk8⟩;have HU:=zh hu;have K8:=zh hk8;clear hu hk8 CL d1;go_wp2;refine bodyPost_ret (by simp [results,Tryz.results60,go_sem];rfl) rfl ?_
   rw [HP.out];refine⟨fun _=>⟨u,rfl,World.ownsRow_mono HU.out (Nat.le_trans Z0.out.k.size (Nat.le_refl _)),_,_,_,_,_,Z0.out.keep K8.out⟩,fun h=>absurd ZW.out (by rw [h];decide),HK9.out.trans (KT.of K8.out)⟩
end Go.Proofs.YtaiffmebphhdaaaGreat
