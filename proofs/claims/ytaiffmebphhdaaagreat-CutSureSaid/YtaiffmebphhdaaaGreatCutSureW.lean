/- The law CutSure: its walk. -/
import Derived.Test.YtaiffmebphhdaaaGreatCuDD
import Derived.Test.YtaiffmebphhdaaaGreatCuMM
namespace Go.Proofs.YtaiffmebphhdaaaGreat
set_option maxRecDepth 100000
set_option maxHeartbeats 16000000
set_option linter.unusedSimpArgs false
set_option linter.unusedVariables false
open Go.ChangeShapes Go.WideShapes Go.RowKit
abbrev TBo:TypeId:=4
theorem Ym:(Tryz.prog.info? TBo).map (fun i=>(i.zero,i.size,i.bytes))=some (some (.bool false),1,1):=by kernel_rfl
def BB (w:World)(b N k:Nat):Prop:=∃A,w.heap[b]? =some (.cells A TBo (0,0))∧∀i,i<N→A[i]? =some (Value.bool (decide (i<k)))
theorem Mr (n i:Nat)(hi:i<n):(madeCells (Value.bool false).cells (n*1)).toList[i]? =some (Value.bool false):=by
 have hm:i%1=0:=Nat.mod_one i;simp [madeCells,Value.cells,hi,hm]
theorem Yn (w:World)(n:Nat)(hn:n≤1000000):∃w',(Instr.makeSlice 23 (.int .i64 (n:Int)) (.int .i64 (n:Int))).run Tryz.prog w= .ok (.slice (some ⟨w.heap.size,0,none⟩) n n) w'∧BB w' w.heap.size n 0∧Keep au w w':=by
 obtain⟨i0,hi0,hz0,hz1,hz2⟩:=info_parts Ym;obtain⟨w',hr,ho,hg⟩:=run_make_full (P:=Tryz.prog) w w.heap.size 23 TBo i0 (.bool false) 1 Tryz.underlying23 hi0 hz0 hz1 .i64 .i64 n (by rw [hz2];omega) (by unfold maxLen;omega) (Nat.le_refl _)
 refine⟨w',hr,?_,Keep.of_below (cK hg w.heap.size (Nat.le_refl _) (by simp)) (Nat.le_refl _)⟩
 obtain⟨hl,h | ⟨g,cap,cur,hv,hbb,hg',hl',hm,hs,ht⟩⟩:=ho
 ·cases h.1
 ·cases hv
  refine⟨_,hg',fun i hi=> ?_⟩
  have h1:=Mr n i hi;rw [← ht,List.getElem?_take_of_lt (by omega)]at h1
  simpa using h1
theorem BB.set {w:World}{b N k:Nat}(h:BB w b N k)(hk:k<N):BB (w.setCell ⟨b,k,none⟩ (.bool true)) b N (k+1):=by
 obtain⟨A,h1,h2⟩:=h;refine⟨_,heap_setCell_same k _ h1,fun i hi=> ?_⟩
 rw [Array.getElem?_setIfInBounds];have hs:k<A.size:=by
  have:=h2 k hk;rw [Array.getElem?_eq_some_iff]at this;exact this.1
 by_cases e:k=i
 ·subst e;simp [hs]
 ·rw [if_neg e,h2 i hi]
  have:(i<k)↔(i<k+1):=by omega
  simp [this]
theorem BB.bools {w:World}{b N:Nat}(h:BB w b N N)(hN:N≤1000):gI w (.slice (some ⟨b,0,none⟩) N N) (List.replicate N true):=by
 obtain⟨A,h1,h2⟩:=h;refine⟨_,N,by rw [List.length_replicate],by rw [List.length_replicate];exact Nat.le_refl _,by unfold maxLen;omega,fun _=>⟨b,0,rfl,lt_of_heap h1,fun i x hx=> ?_⟩⟩
 obtain⟨hi,hx⟩:=List.getElem?_eq_some_iff.1 hx;simp at hi hx;subst hx;have:=h2 i hi;rw [decide_eq_true hi]at this;rw [Nat.zero_add];exact cell_of_heap h1 this
theorem Ms (w:World)(oa:Option Addr)(ca:Nat)(rows:List Rw)(n:Int)(hn:fK n)(h:bW w (.slice oa rows.length ca) rows):
  Calls Tryz.prog 5 #[.slice oa rows.length ca,.int .i64 n] w fun e w'=>e= .returned (.bool true)∧Keep au w w':=by
 have CR:=fun w' (k:Keep au w w')=>zh (Md w' _ rows n (h.keep k) hn)
 have HR:=zh h;clear h;unfold fV at CR
 by_cases hn0:n<0
 case pos=>
  go_enter Tryz.func5,Tryz.ntmps5;go_wp2_with fail;refine(qI _).mono ?_;rintro e w1 ⟨rfl,hk⟩;have K1:Hid (Keep au w w1):=zh (Keep.both kp hk);clear hk CR;go_wp2;go_ret;exact⟨rfl,K1.out⟩
 case neg=>
 by_cases hl:(jW rows n).1=0
 case neg=>
  generalize jW rows n=cf at *;obtain⟨c1,c2⟩:=cf;simp only at hl CR;have e1:(c1 != 0)=true:=by rw [bne_iff_ne];exact hl
  clear hl;go_enter Tryz.func5,Tryz.ntmps5;go_wp2_with fail;refine(qI _).mono ?_;rintro e w1 ⟨rfl,hk⟩;have K1:Hid (Keep au w w1):=zh (Keep.both kp hk);clear hk;go_wp2_with fail;refine(CR _ K1.out).out.mono ?_;rintro e w3 ⟨rfl,hk⟩;have K3:=zh (K1.out.both hk);clear hk CR;go_wp2;go_ret;exact⟨rfl,K3.out⟩
 case pos=>
 have hl0:=(oO hl).1;have hn12:=(oO hl).2.2.1;rw [hl0]at CR;obtain⟨N,rfl⟩:∃N:Nat,n=(N:Int):=⟨n.toNat,by omega⟩
 have HL:=zh hl0;have CB:=zh (fun w' (k:Keep au w w')=>ES w' _ rows N (by omega) (HR.out.keep k))
 simp only at CR;clear hl hl0 hn0;go_enter Tryz.func5,Tryz.ntmps5;go_wp2_with fail;refine(qI _).mono ?_;rintro e w1 ⟨rfl,hk⟩;have K1:Hid (Keep au w w1):=zh (Keep.both kp hk);clear hk;go_wp2_with fail;refine(CR _ K1.out).out.mono ?_;rintro e w2 ⟨rfl,hk⟩;have K2:=zh (K1.out.both hk);clear hk CR K1;go_wp2_with fail;refine(CB.out _ K2.out).mono ?_;rintro e w3 ⟨b,rfl,hb,hk⟩;have K3:=zh (K2.out.both hk);clear hk CB K2
 rcases b with _ | _
 case false=>
  go_wp2;go_ret;exact⟨rfl,K3.out⟩
 case true=>
 obtain⟨hn2,hm9,hsm,hlh⟩:=hb rfl;obtain⟨st,pt,T,hdo,hst⟩:=RP HL.out hn2 hm9 hsm hlh;have HST:=zh hst;have CD:=zh (fun w' vi (k:Keep au w w') (hJ:gI w' vi (List.replicate N true))=>Bg w' _ vi rows (List.replicate N true) 2000 (HR.out.keep k) hJ (by unfold fK;omega))
 have CSM:=zh (fun w' (k:Keep au w w')=>KV w' _ rows N hn2 (HR.out.keep k))
 rw [hdo]at CD;unfold DoP fV at CD;simp only at CD;clear hb hm9 hsm hlh hdo hst;obtain⟨w4,hr4,hbb4,hk4⟩:=Yn w3 N (by omega)
 have K4:=zh (K3.out.both hk4);have zb7:=zh hbb4;have HS3:Hid (w.heap.size≤w3.heap.size):=zh K3.out.size;clear hk4 hbb4 K3;go_upto_region 7 with fail
 generalize w3.heap.size=b6 at *;clear hr4;go_wp2;go_loopw [7] (fun s wr=>∃k:Nat,k≤N∧s= .int .i64 k∧BB wr b6 N k∧Keep au w wr) (fun s _=>(N-intOf s).toNat)
 case atStart=>exact⟨0,by omega,rfl,zb7.out,K4.out⟩
 case round=>
 obtain⟨k,hk,rfl,hbb,hkr⟩:=hrel;have SB:=zh hbb;have KR:=zh hkr;clear hbb hkr K4 zb7
 by_cases hkN:k<N
 case pos=>
  have hlt:(k:Int)<(N:Int):=by omega
  obtain⟨A,hA,hA2⟩:=SB.out;have lA:=lt_of_heap hA;have fA:wr.frozen? ⟨b6,k,none⟩=false:=aL.free (A:=A) ⟨_,hA⟩ k;have cA:=cell_of_heap hA (hA2 k hkN);clear hA hA2;go_wp2;go_roundw
  case rel=>exact⟨k+1,by omega,by go_num,SB.out.set hkN,jX KR.out _ HS3.out⟩
  case measure=>simp [intOf];omega
 case neg=>
  have hlt:¬(k:Int)<(N:Int):=by omega
  obtain rfl:N=k:=by omega
  have C:=CD.out wr _ KR.out (SB.out.bools (by omega))
  have C:=zh C;clear CD SB;go_wp2_with fail;refine C.out.mono ?_;rintro e w5 ⟨u,t,rfl,_,_,hk⟩;have ka:Keep au w5 (w5.alloc (.cells #[.int .i64 0,.int .i64 0] 28)):=(Keep.refl _ _).alloc _;have zc8:Hid (aL (w5.alloc (.cells #[.int .i64 0,.int .i64 0] 28)) w5.heap.size #[.int .i64 0,.int .i64 0]):=zh (aR _ _ rfl);have K6:=zh ((KR.out.both hk).both ka);clear hk ka C KR;go_upto_region 12 with fail
  generalize w5.alloc (.cells #[.int .i64 0,.int .i64 0] 28)=w6 at *;generalize w5.heap.size=b11 at *;obtain⟨p0,p1,_,_,pl⟩:=zc8.out.two;go_wp2_with fail;refine(CSM.out _ K6.out).mono ?_;rintro e w7 ⟨b,rfl,hb1,hb2,hk⟩;have K7:=zh (K6.out.both hk);clear hk CSM p0 p1 pl
  rcases b with _ | _
  case false=>
   have h2:st=2:=by
    rcases HST.out with⟨_,x,y,hx,hy,h⟩ | ⟨h,_⟩
    ·rw [hb2 rfl x y hx hy]at h;cases h
    ·exact h
   subst h2;clear hb1 hb2 HST;go_wp2;go_ret;exact⟨rfl,K7.out⟩
  case true=>
   have h1:st=1:=by
    rcases HST.out with⟨h,_⟩ | ⟨_,h⟩
    ·exact h
    ·obtain ⟨x,y,_,_,h3⟩:=hb1 rfl
     rw [h x y]at h3;cases h3
   subst h1;clear hb1 hb2 HST;go_wp2;go_ret;exact⟨rfl,K7.out⟩
theorem Jf (w:World)(v:Value)(rows:List Rw)(n:Int)(h:bW w v rows)(hn:fK n):
  Calls Tryz.prog 5 #[v,.int .i64 n] w fun e w'=>e= .returned (.bool true)∧Below w.heap.size w w':=by
 obtain⟨oa,ca,rfl,_,_⟩:=h.len;exact(Ms w oa ca rows n hn h).mono fun e w' ⟨h1,h2⟩=>⟨h1,h2.below (Nat.le_refl _) fun _ _ h=>h.elim⟩
end Go.Proofs.YtaiffmebphhdaaaGreat
