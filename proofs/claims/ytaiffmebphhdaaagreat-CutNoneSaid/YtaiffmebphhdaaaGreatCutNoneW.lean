/- The law CutNone: its walk. -/
import Derived.Test.YtaiffmebphhdaaaGreatCuDD
import Derived.Test.YtaiffmebphhdaaaGreatCutNoneL
import Derived.Test.YtaiffmebphhdaaaGreatSpJ
import Derived.Test.YtaiffmebphhdaaaGreatCuDD
namespace Go.Proofs.YtaiffmebphhdaaaGreat
set_option maxRecDepth 100000
set_option maxHeartbeats 16000000
set_option linter.unusedSimpArgs false
set_option linter.unusedVariables false
open Go.ChangeShapes Go.WideShapes Go.RowKit
theorem infoBo:(Tryz.prog.info? 4).map (fun i=>(i.zero,i.size,i.bytes))=some (some (.bool false),1,1):=by kernel_rfl
theorem made_bools (n:Nat):(madeCells (Value.bool false).cells (n*1)).toList=List.replicate n (Value.bool false):=by
 apply List.ext_getElem?
 intro i
 by_cases hi:i<n
 ·have hm:i%1=0:=Nat.mod_one i
  simp [madeCells,Value.cells,hi,hm]
 ·rw [List.getElem?_eq_none (by simp [madeCells];omega),List.getElem?_eq_none (by simp;omega)]
theorem make_bools (w:World)(n:Nat)(hn:n≤1000000):∃w',(Instr.makeSlice 23 (.int .i64 (n:Int)) (.int .i64 (n:Int))).run Tryz.prog w= .ok (.slice (some ⟨w.heap.size,0,none⟩) n n) w'∧IsBools w' (.slice (some ⟨w.heap.size,0,none⟩) n n) (List.replicate n false)∧Keep NoS w w':=by
 obtain⟨i0,hi0,hz0,hz1,hz2⟩:=info_parts infoBo;obtain⟨w',hr,ho,hg⟩:=run_make_full (P:=Tryz.prog) w w.heap.size 23 4 i0 (.bool false) 1 Tryz.underlying23 hi0 hz0 hz1 .i64 .i64 n (by rw [hz2];omega) (by unfold maxLen;omega) (Nat.le_refl _)
 refine⟨w',hr,?_,Keep.of_below (grown_keep hg w.heap.size (Nat.le_refl _) (by simp)) (Nat.le_refl _)⟩
 rw [made_bools]at ho;obtain⟨hl,h | ⟨g,cap,cur,hv,hbb,hg',hl',hm,hs,ht⟩⟩:=ho
 ·cases h.1
 ·cases hv
  refine⟨_,n,by rw [List.length_replicate],by rw [List.length_replicate];exact Nat.le_refl _,by unfold maxLen;omega,fun _=>⟨_,0,rfl,lt_of_heap hg',fun i x hx=> ?_⟩⟩
  obtain⟨hi,hx⟩:=List.getElem?_eq_some_iff.1 hx;simp at hi hx;subst hx;refine cell_of_heap hg' ?_;have h1:(cur.toList.take (n*1))[i]? =some (Value.bool false):=by rw [ht];simp [hi]
  rw [List.getElem?_take_of_lt (by omega)]at h1
  simpa using h1
theorem cutNone_any (w:World)(oa:Option Addr)(ca:Nat)(oi:Option Addr)(ci:Nat)(rows:List Rw)(ints:List Bool)(h:IsRows w (.slice oa rows.length ca) rows)(hi:IsBools w (.slice oi ints.length ci) ints):
  Calls Tryz.prog 7 #[.slice oa rows.length ca,.slice oi ints.length ci] w fun e w'=>e= .returned (.bool true)∧Keep NoS w w':=by
 have hn:I64 (ints.length:Int):=by
  obtain⟨_,_,_,h1,h2⟩:=hi.len;unfold maxLen at h2;unfold I64;omega
 have CS:=fun w' (k:Keep NoS w w')=>zh (refSmall_any w' _ rows ints.length (h.keep k))
 have CR:=fun w' (k:Keep NoS w w')=>zh (refRows_any w' _ rows ints.length (h.keep k) hn)
 have CD:=fun w' (k:Keep NoS w w')=>zh (spDo_any w' _ rows ints.length 2000 (h.keep k) hn (by unfold I64;omega))
 have CE:=fun w' vi J (k:Keep NoS w w') hJ=>zh (cutDo_any w' _ vi rows J 2000 (h.keep k) hJ (by unfold I64;omega))
 have HI:=zh hi;clear h hi;unfold fV at CR CD;unfold DoP fV at CE;go_enter Tryz.func7,Tryz.ntmps7;go_wp2_with fail;refine(cutFact_any _).mono ?_;rintro e w1 ⟨rfl,hk⟩;have K1:Hid (Keep NoS w w1):=zh (Keep.both kp hk);clear hk;go_wp2_with fail;refine(CS _ K1.out).out.mono ?_;rintro e w2 ⟨b,rfl,hb,hk⟩;have K2:=zh (K1.out.both hk);clear hk CS K1
 rcases b with _ | _
 case false=>
  go_wp2;go_ret;exact⟨rfl,K2.out⟩
 case true=>
 obtain⟨hn3,hm8,hsm⟩:=hb rfl
 by_cases hl:(listF rows ints.length).1=0
 case neg=>
  clear hb hsm;generalize listF rows ints.length=cf at *;obtain⟨c1,c2⟩:=cf;simp only at hl CR;have e1:(c1 != 0)=true:=by rw [bne_iff_ne];exact hl
  clear hl;go_wp2_with fail;refine(CR _ K2.out).out.mono ?_;rintro e w3 ⟨rfl,hk⟩;have K3:=zh (K2.out.both hk);clear hk CR;go_wp2;go_ret;exact⟨rfl,K3.out⟩
 case pos=>
 obtain⟨st,hst,⟨pt,tm,e1⟩,⟨pt',T',e2⟩,hno⟩:=none_told hl (by omega) hm8 hsm
 have C1:=fun w' vi (k:Keep NoS w w') hJ=>CE w' vi (List.replicate ints.length false) k hJ
 have C2:=fun w' (k:Keep NoS w w')=>CE w' _ ints k (HI.out.keep k)
 rw [e1]at CD;rw [e2]at C1;rw [(list_rows hl).1]at CR;have hln:ints.length≤3:=by omega
 clear hb hsm hl e1 e2 CE hn3;simp only at CR CD C1;obtain⟨R,hR⟩:∃R,doC rows ints 2000=R:=⟨_,rfl⟩;rw [hR]at C2 hno;obtain⟨st3,pt3,T3,f1,f2⟩:=R;clear hR;simp only at C2 hno;go_wp2_with fail;refine(CR _ K2.out).out.mono ?_;rintro e w3 ⟨rfl,hk⟩;have K3:=zh (K2.out.both hk);clear hk CR K2;go_wp2_with fail;refine(CD _ K3.out).out.mono ?_;rintro e w4 ⟨u,t,rfl,_,_,hk⟩;have HB10:Hid (Blk (w4.alloc (.cells #[.int .i64 0,.int .i64 0] 28)) w4.heap.size #[.int .i64 0,.int .i64 0]):=zh (blk_at _ _ rfl);have K4:=zh ((K3.out.both hk).alloc (.cells #[.int .i64 0,.int .i64 0] 28));clear hk CD K3;go_upto_region 8 with fail
 generalize w4.alloc (.cells #[.int .i64 0,.int .i64 0] 28)=w5 at *;generalize w4.heap.size=b10 at *;obtain⟨w6,hr6,hb6,hk6⟩:=make_bools w5 ints.length (by omega)
 have K6:=zh (K4.out.both hk6);have HB10:=zh (HB10.out.keep hk6);have C1:=C1 _ _ K6.out hb6;clear hk6 hb6 K4;go_wp2_with fail;refine C1.out.mono ?_;rintro e w7 ⟨u7,t7,rfl,_,_,hk⟩;have ka:Keep NoS w7 (w7.alloc (.cells #[.int .i64 0,.int .i64 0] 28)):=(Keep.refl _ _).alloc _;have HB14:Hid (Blk (w7.alloc (.cells #[.int .i64 0,.int .i64 0] 28)) w7.heap.size #[.int .i64 0,.int .i64 0]):=zh (blk_at _ _ rfl);have HB10:=zh ((HB10.out.keep hk).keep ka);have K8:=zh ((K6.out.both hk).both ka);clear hk ka C1 K6 hr6;go_upto_region 9 with fail
 generalize w7.alloc (.cells #[.int .i64 0,.int .i64 0] 28)=w8 at *;generalize w7.heap.size=b14 at *;go_wp2_with fail;refine(C2 _ K8.out).out.mono ?_;rintro e w9 ⟨u9,t9,rfl,_,_,hk⟩;have ka:Keep NoS w9 (w9.alloc (.cells #[.int .i64 f1,.int .i64 f2] 28)):=(Keep.refl _ _).alloc _;have HB18:Hid (Blk (w9.alloc (.cells #[.int .i64 f1,.int .i64 f2] 28)) w9.heap.size #[.int .i64 f1,.int .i64 f2]):=zh (blk_at _ _ rfl);have HB10:=zh ((HB10.out.keep hk).keep ka);have HB14:=zh ((HB14.out.keep hk).keep ka);have K9:=zh ((K8.out.both hk).both ka);clear hk ka C2 K8;go_upto_region 10 with fail
 generalize w9.alloc (.cells #[.int .i64 f1,.int .i64 f2] 28)=wz at *;generalize w9.heap.size=b18 at *;obtain⟨p0,p1,_,_,pl⟩:=HB10.out.two;obtain⟨q0,q1,_,_,ql⟩:=HB14.out.two;obtain⟨r0,r1,_,_,rl⟩:=HB18.out.two;obtain rfl | rfl:=hst
 case inl=>
  by_cases hf:f1=0
  ·subst hf
   go_wp2;go_ret;exact⟨rfl,K9.out⟩
  ·have e1:(f1 != 0)=true:=by rw [bne_iff_ne];exact hf
   clear hf;go_wp2;go_ret;exact⟨rfl,K9.out⟩
 case inr=>
  have e3:(st3 != 1)=true:=by rw [bne_iff_ne];exact hno rfl
  clear hno
  by_cases hf:f1=0
  ·subst hf
   go_wp2;go_ret;exact⟨rfl,K9.out⟩
  ·have e1:(f1 != 0)=true:=by rw [bne_iff_ne];exact hf
   clear hf;go_wp2;go_ret;exact⟨rfl,K9.out⟩
theorem cutNone_walk (w:World)(v:Value)(rows:List Rw)(vi:Value)(ints:List Bool)(h:IsRows w v rows)(hi:IsBools w vi ints):
  Calls Tryz.prog 7 #[v,vi] w fun e w'=>e= .returned (.bool true)∧Below w.heap.size w w':=by
 obtain⟨oa,ca,rfl,_,_⟩:=h.len;obtain⟨oi,ci,rfl,_,_⟩:=hi.len;exact(cutNone_any w oa ca oi ci rows ints h hi).mono fun e w' ⟨h1,h2⟩=>⟨h1,h2.below (Nat.le_refl _) fun _ _ h=>h.elim⟩
end Go.Proofs.YtaiffmebphhdaaaGreat
