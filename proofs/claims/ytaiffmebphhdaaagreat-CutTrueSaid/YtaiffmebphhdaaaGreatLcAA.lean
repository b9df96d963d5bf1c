/- Package exact's Floor and Small, package lattice's abs. Package lattice's less, scaled and ints. -/
import Derived.Test.YtaiffmebphhdaaaGreatFkAA
import Derived.Test.YtaiffmebphhdaaaGreatRegVV
namespace Go.Proofs.YtaiffmebphhdaaaGreat
set_option maxRecDepth 100000
set_option maxHeartbeats 8000000
set_option linter.unusedSimpArgs false
set_option linter.unusedVariables false
open Go.ChangeShapes Go.WideShapes Go.RowKit
theorem EK {S:Nat→Bool}{e:Nat}:mark S e e=true:=by unfold mark;rw [if_pos rfl]
theorem jF {S:Nat→Bool}{e d:Nat}(h:d≠e):mark S e d=S d:=by unfold mark;rw [if_neg h]
theorem aL.sameZ {w w':World}{b:Nat}{A:Array Value}(h:aL w b A)(e:w'.heap[b]? =w.heap[b]?):aL w' b A:=by
 obtain⟨t,h⟩:=h;exact⟨t,e.trans h⟩
def nT (t:Bool)(g:Nat)(v:Value)(w:World)(Z A:Array Value):Prop:=∃b,v= .pointer (some ⟨b,0,none⟩)∧g≤b∧b<w.heap.size∧(t=false→aL w b Z)∧(t=true→aL w b A)
theorem nT.keepM {S:Nat→Bool}{d e g:Nat}{v:Value}{w w':World}{Z A:Array Value}(h:nT (S d) g v w Z A)(he:e≠d)(k:Keep au w w'):nT (mark S e d) g v w' Z A:=by
 obtain⟨b,e1,h1,h2,h3,h4⟩:=h;rw [jF (Ne.symm he)];exact⟨b,e1,h1,dJ h2 k.size,fun hm=>(h3 hm).keep k,fun hm=>(h4 hm).keep k⟩
theorem nT.same {S:Nat→Bool}{d e g:Nat}{v:Value}{w w':World}{Z A:Array Value}(h:nT (S d) g v w Z A)(he:e≠d)(hs:w.heap.size≤w'.heap.size)(ho:∀b,v= .pointer (some ⟨b,0,none⟩)→w'.heap[b]? =w.heap[b]?):nT (mark S e d) g v w' Z A:=by
 obtain⟨b,e1,h1,h2,h3,h4⟩:=h;rw [jF (Ne.symm he)];exact⟨b,e1,h1,dJ h2 hs,fun hm=>(h3 hm).sameZ (ho b e1),fun hm=>(h4 hm).sameZ (ho b e1)⟩
theorem uH {S:Nat→Bool}{σ:Nat→Value}{e i j:Nat}{v:Value}(h0:i≠e)(h9:j≠e)(h:S i=true→S j=true→σ i≠σ j):mark S e i=true→mark S e j=true→upd σ e v i≠upd σ e v j:=by
 intro a b;rw [jF h0]at a;rw [jF h9]at b;unfold upd;rw [if_neg h0,if_neg h9];exact h a b
theorem Z7 {S:Nat→Bool}{σ:Nat→Value}{i j n:Nat}(hij:j≠i)(h:S j=true→∃b,σ j= .pointer (some ⟨b,0,none⟩)∧b<n):mark S i i=true→mark S i j=true→upd σ i (.pointer (some ⟨n,0,none⟩)) i≠upd σ i (.pointer (some ⟨n,0,none⟩)) j:=by
 intro _ hj e;rw [jF hij]at hj;obtain⟨b,e1,hb⟩:=h hj;unfold upd at e;rw [if_pos rfl,if_neg hij,e1]at e;cases e;omega
theorem zbP {S:Nat→Bool}{σ:Nat→Value}{i j n:Nat}(hij:j≠i)(h:S j=true→∃b,σ j= .pointer (some ⟨b,0,none⟩)∧b<n):mark S i j=true→mark S i i=true→upd σ i (.pointer (some ⟨n,0,none⟩)) j≠upd σ i (.pointer (some ⟨n,0,none⟩)) i:=fun a b e=>Z7 hij h b a e.symm
def EL (g:Nat)(pv av:Value)(nb eb qb rb:Bool)(nS eS qS rS:ByteArray)(S:Nat→Bool):Nat→Value→World→Prop
 | 0,v,w=>v=pv
 | 1,v,w=>v= .agg #[.bool nb,.string nS]
 | 2,v,w=>v=av
 | 3,v,w=>v= .agg #[.bool eb,.string eS]
 | 4,v,w=>v= .tuple #[.agg #[.bool qb,.string qS],.agg #[.bool rb,.string rS],.int .i64 0]
 | 5,v,w=>v= .tuple #[.agg #[.bool qb,.string qS],.agg #[.bool rb,.string rS],.int .i64 0]
 | 6,v,w=>v= .agg #[.bool qb,.string qS]
 | 7,v,w=>v= .agg #[.bool rb,.string rS]
 | 8,v,w=>v= .int .i64 0
 | 9,v,w=>nT (S 11) g v w #[.bool false,.string ⟨#[]⟩] #[.bool qb,.string qS]
 | 10,v,w=>nT (S 12) g v w #[.bool false,.string ⟨#[]⟩] #[.bool rb,.string rS]
 | 11,v,w=>True
 | 12,v,w=>True
 | 13,v,w=>v= .int .i64 0
 | _,_,_=>True
theorem fQ {g:Nat}{pv av:Value}{nb eb qb rb:Bool}{nS eS qS rS:ByteArray}{S:Nat→Bool}{w w':World}{e:Nat}(he:e≠11∧e≠12)(k:Keep au w w'):∀(d:Nat) (v:Value),EL g pv av nb eb qb rb nS eS qS rS S d v w→EL g pv av nb eb qb rb nS eS qS rS (mark S e) d v w'
 | 0,v,h=>h
 | 1,v,h=>h
 | 2,v,h=>h
 | 3,v,h=>h
 | 4,v,h=>h
 | 5,v,h=>h
 | 6,v,h=>h
 | 7,v,h=>h
 | 8,v,h=>h
 | 9,v,h=>h.keepM he.1 k
 | 10,v,h=>h.keepM he.2 k
 | 11,v,h=>h
 | 12,v,h=>h
 | 13,v,h=>h
 | n+14,v,h=>trivial
theorem R9 {g:Nat}{pv av:Value}{nb eb qb rb:Bool}{nS eS qS rS:ByteArray}{S:Nat→Bool}{w w':World}{σ:Nat→Value}{b7:Nat}(e0:σ 9= .pointer (some ⟨b7,0,none⟩))(hg:g≤b7)(hb:aL w' b7 #[.bool qb,.string qS])(hs:w.heap.size≤w'.heap.size)(ho:∀b,b≠b7→w'.heap[b]? =w.heap[b]?)(hne:S 10=true→σ 10≠σ 9):∀(d:Nat),d≠11→S d=true→EL g pv av nb eb qb rb nS eS qS rS S d (σ d) w→EL g pv av nb eb qb rb nS eS qS rS (mark S 11) d (σ d) w'
 | 0,_,_,h=>h
 | 1,_,_,h=>h
 | 2,_,_,h=>h
 | 3,_,_,h=>h
 | 4,_,_,h=>h
 | 5,_,_,h=>h
 | 6,_,_,h=>h
 | 7,_,_,h=>h
 | 8,_,_,h=>h
 | 9,_,_,h=>⟨b7,e0,hg,hb.lt,fun hm=>(by rw [EK]at hm;cases hm),fun _=>hb⟩
 | 10,_,hS,h=>nT.same h om hs fun b hb'=>ho b (fun e=>hne hS (by rw [hb',e0,e]))
 | 11,hd,_,_=>absurd rfl hd
 | 12,_,_,h=>h
 | 13,_,_,h=>h
 | n+14,_,_,h=>trivial
theorem Si {g:Nat}{pv av:Value}{nb eb qb rb:Bool}{nS eS qS rS:ByteArray}{S:Nat→Bool}{w w':World}{σ:Nat→Value}{b7:Nat}(e0:σ 10= .pointer (some ⟨b7,0,none⟩))(hg:g≤b7)(hb:aL w' b7 #[.bool rb,.string rS])(hs:w.heap.size≤w'.heap.size)(ho:∀b,b≠b7→w'.heap[b]? =w.heap[b]?)(hne:S 9=true→σ 9≠σ 10):∀(d:Nat),d≠12→S d=true→EL g pv av nb eb qb rb nS eS qS rS S d (σ d) w→EL g pv av nb eb qb rb nS eS qS rS (mark S 12) d (σ d) w'
 | 0,_,_,h=>h
 | 1,_,_,h=>h
 | 2,_,_,h=>h
 | 3,_,_,h=>h
 | 4,_,_,h=>h
 | 5,_,_,h=>h
 | 6,_,_,h=>h
 | 7,_,_,h=>h
 | 8,_,_,h=>h
 | 9,_,hS,h=>nT.same h om hs fun b hb'=>ho b (fun e=>hne hS (by rw [hb',e0,e]))
 | 10,_,_,h=>⟨b7,e0,hg,hb.lt,fun hm=>(by rw [EK]at hm;cases hm),fun _=>hb⟩
 | 11,_,_,h=>h
 | 12,hd,_,_=>absurd rfl hd
 | 13,_,_,h=>h
 | n+14,_,_,h=>trivial
theorem Lm (w:World)(va:Value)(a:Rat)(ha:bO va a)(na:NB 4000 a):Calls Tryz.prog 63 #[va] w fun e w'=>e= .returned (Aq (a.num/(a.den:Int)) 1)∧Keep au w w':=by
 obtain⟨da,rfl,hda⟩:=ha;have hza:=jm hda;have a1:=na.1;have a2:=na.2;have hd0:=a.den_pos;obtain⟨lK,lM,nE,-,-⟩:=aH a.num;obtain⟨lY,lZ,rA,-,-⟩:=aH da;obtain⟨XQ,XT,uQ,-,-⟩:=aH (a.den:Int);obtain⟨qb,qS,lq,-,-⟩:=aH (a.num/(a.den:Int));obtain⟨rb,rS,lr,-,-⟩:=aH (a.num%(a.den:Int));obtain⟨ob,oS,lo,-,-⟩:=aH 1;have C1:=fun w=>zh (iA w a.num da);rw [bF nE rA,hza,uQ]at C1;have C2:=fun w=>zh (pW w a.num (a.den:Int) om om om);rw [nE,uQ,lq,lr]at C2;have CO:=fun w=>zh (zu lo dc dc w);rw [bF nE rA,bF lq lo];clear nE rA uQ lq lr lo hza hda na a1 a2 hd0;go_enter Tryz.func63,Tryz.ntmps63;go_upto_region 1 with fail;have HB1:Hid (aL ((w.alloc (.cells #[.bool lK,.string lM,.bool lY,.string lZ] 93)).alloc (.cells #[.bool false,.string ⟨#[]⟩,.bool false,.string ⟨#[]⟩] 93)) w.heap.size #[.bool lK,.string lM,.bool lY,.string lZ]):=zh (aL.old (aP _ _ rfl) _);have HB2:Hid (aL ((w.alloc (.cells #[.bool lK,.string lM,.bool lY,.string lZ] 93)).alloc (.cells #[.bool false,.string ⟨#[]⟩,.bool false,.string ⟨#[]⟩] 93)) (w.heap.size+1) #[.bool false,.string ⟨#[]⟩,.bool false,.string ⟨#[]⟩]):=zh (aP _ _ sm);have KW:Hid (Keep au w ((w.alloc (.cells #[.bool lK,.string lM,.bool lY,.string lZ] 93)).alloc (.cells #[.bool false,.string ⟨#[]⟩,.bool false,.string ⟨#[]⟩] 93))):=zh (((Keep.refl _ _).alloc _).alloc _);have HS2:Hid (w.heap.size≤w.heap.size+1):=zh om;generalize ((w.alloc (.cells #[.bool lK,.string lM,.bool lY,.string lZ] 93)).alloc (.cells #[.bool false,.string ⟨#[]⟩,.bool false,.string ⟨#[]⟩] 93))=wr at *;generalize w.heap.size+1=b2 at *;generalize hb1:w.heap.size=b1 at HB1 ⊢;clear hb1;refine jX (fun S σ w'=>Keep au wr w'∧(S 9=true→S 10=true→σ 9≠σ 10)) (EL wr.heap.size (Value.pointer (some ⟨b1,0,none⟩)) (.agg #[.bool lK,.string lM,.bool lY,.string lZ]) lK XQ qb rb lM XT qS rS) kr kr kr kr (fun S σ hS=>⟨by exact kp,fun h=>by rw [hS 9]at h;cases h⟩) _ (fun σ=>by
  show dA _ σ [0,1,2,3,4,5,6,7,8,9,10,11,12,13] _=_;simp only [dA,zl0,zl1,zl2,Act.put,List.setIfInBounds_toArray,List.set_cons_zero,List.set_cons_succ];rfl) ?_ ?_
 ·intro S σ w1 Ej hall e he HK;have he:e<14:=he;obtain⟨hC,hR⟩:=Ej;obtain rfl | rfl | rfl | rfl | rfl | rfl | rfl | rfl | rfl | rfl | rfl | rfl | rfl | rfl:e=0∨e=1∨e=2∨e=3∨e=4∨e=5∨e=6∨e=7∨e=8∨e=9∨e=10∨e=11∨e=12∨e=13:=om
  ·refine ay rfl rfl fun K hK=> ?_;go_simp;exact hK _ _ ⟨_,⟨hC,uH om om hR⟩,fun d hd hs h=>fQ dc (Keep.refl _ _) d _ h,rfl,rfl⟩
  ·have h0:σ 0=Value.pointer (some ⟨b1,0,none⟩):=HK.post 0 kr;rw [h0];obtain⟨s0,s1,s2,s3,_,_,_,_,sl⟩:=(HB1.out.keep hC).four;refine ay rfl rfl fun K hK=> ?_;go_simp;exact hK _ _ ⟨_,⟨hC,uH om om hR⟩,fun d hd hs h=>fQ dc (Keep.refl _ _) d _ h,rfl,rfl⟩
  ·obtain ⟨s0,s1,s2,s3,_,_,_,_,sl⟩:=(HB1.out.keep hC).four;refine ay rfl rfl fun K hK=> ?_;go_simp;exact hK _ _ ⟨_,⟨hC,uH om om hR⟩,fun d hd hs h=>fQ dc (Keep.refl _ _) d _ h,rfl,rfl⟩
  ·have h2:σ 2=Value.agg #[.bool lK,.string lM,.bool lY,.string lZ]:=HK.post 2 kr;rw [h2];refine ay rfl rfl fun K hK=> ?_;go_simp;refine(C1 _).out.mono ?_;rintro e w2 ⟨rfl,hk2⟩;exact hK _ _ ⟨_,⟨hC.both hk2,uH om om hR⟩,fun d hd hs h=>fQ dc (hk2) d _ h,rfl,rfl⟩
  ·have h1:σ 1=Value.agg #[.bool lK,.string lM]:=HK.post 1 kr;rw [h1];have h3:σ 3=Value.agg #[.bool XQ,.string XT]:=HK.post 3 kr;rw [h3];refine ay rfl rfl fun K hK=> ?_;go_simp;refine(C2 _).out.mono ?_;rintro e w2 ⟨rfl,hk2⟩;exact hK _ _ ⟨_,⟨hC.both hk2,uH om om hR⟩,fun d hd hs h=>fQ dc (hk2) d _ h,rfl,rfl⟩
  ·have h4:σ 4=Value.tuple #[.agg #[.bool qb,.string qS],.agg #[.bool rb,.string rS],.int .i64 0]:=HK.post 4 kr;rw [h4];refine ay rfl rfl fun K hK=> ?_;go_simp;exact hK _ _ ⟨_,⟨hC,uH om om hR⟩,fun d hd hs h=>fQ dc (Keep.refl _ _) d _ h,rfl,rfl⟩
  ·have h5:σ 5=Value.tuple #[.agg #[.bool qb,.string qS],.agg #[.bool rb,.string rS],.int .i64 0]:=HK.post 5 kr;rw [h5];refine ay rfl rfl fun K hK=> ?_;go_simp;exact hK _ _ ⟨_,⟨hC,uH om om hR⟩,fun d hd hs h=>fQ dc (Keep.refl _ _) d _ h,rfl,rfl⟩
  ·have h5:σ 5=Value.tuple #[.agg #[.bool qb,.string qS],.agg #[.bool rb,.string rS],.int .i64 0]:=HK.post 5 kr;rw [h5];refine ay rfl rfl fun K hK=> ?_;go_simp;exact hK _ _ ⟨_,⟨hC,uH om om hR⟩,fun d hd hs h=>fQ dc (Keep.refl _ _) d _ h,rfl,rfl⟩
  ·have h5:σ 5=Value.tuple #[.agg #[.bool qb,.string qS],.agg #[.bool rb,.string rS],.int .i64 0]:=HK.post 5 kr;rw [h5];refine ay rfl rfl fun K hK=> ?_;go_simp;exact hK _ _ ⟨_,⟨hC,uH om om hR⟩,fun d hd hs h=>fQ dc (Keep.refl _ _) d _ h,rfl,rfl⟩
  ·refine ay rfl rfl fun K hK=> ?_;go_simp;exact hK _ _ ⟨_,⟨hC.alloc _,Z7 om fun hs=>(by
    obtain⟨b,e1,_,e2,_⟩:=(show nT (S 12) wr.heap.size (σ 10) w1 #[.bool false,.string ⟨#[]⟩] #[.bool rb,.string rS]from hall 10 hs);exact⟨b,e1,e2⟩)⟩,fun d hd hs h=>fQ dc ((Keep.refl _ _).alloc _) d _ h,rfl,⟨w1.heap.size,rfl,hC.size,sm,fun _=>aP _ _ rfl,fun hm=>by rw [jF om,HK.down 11 kr]at hm;cases hm⟩⟩
  ·refine ay rfl rfl fun K hK=> ?_;go_simp;exact hK _ _ ⟨_,⟨hC.alloc _,zbP om fun hs=>(by
    obtain⟨b,e1,_,e2,_⟩:=(show nT (S 11) wr.heap.size (σ 9) w1 #[.bool false,.string ⟨#[]⟩] #[.bool qb,.string qS]from hall 9 hs);exact⟨b,e1,e2⟩)⟩,fun d hd hs h=>fQ dc ((Keep.refl _ _).alloc _) d _ h,rfl,⟨w1.heap.size,rfl,hC.size,sm,fun _=>aP _ _ rfl,fun hm=>by rw [jF om,HK.down 12 kr]at hm;cases hm⟩⟩
  ·have h6:σ 6=Value.agg #[.bool qb,.string qS]:=HK.post 6 kr;rw [h6];obtain⟨b7,e0,hg7,_,hz7,_⟩:=(show nT (S 11) wr.heap.size (σ 9) w1 #[.bool false,.string ⟨#[]⟩] #[.bool qb,.string qS]from HK.post 9 kr);have hz7:=hz7 HK.self;rw [e0];obtain⟨s0,s1,f0,f1,sl⟩:=hz7.two;refine ay rfl rfl fun K hK=> ?_;go_simp;exact hK _ _ ⟨undef,⟨aV hC hg7 _ _,uH om om hR⟩,R9 (w:=w1) e0 hg7 (hz7.set2 _ _) sm (fun b hb=>by rw [heap_setCell_other _ _ _ _ hb,heap_setCell_other _ _ _ _ hb]) (fun hs=>(hR (HK.up 9 kr) hs).symm),rfl,trivial⟩
  ·have h7:σ 7=Value.agg #[.bool rb,.string rS]:=HK.post 7 kr;rw [h7];obtain⟨b7,e0,hg7,_,hz7,_⟩:=(show nT (S 12) wr.heap.size (σ 10) w1 #[.bool false,.string ⟨#[]⟩] #[.bool rb,.string rS]from HK.post 10 kr);have hz7:=hz7 HK.self;rw [e0];obtain⟨s0,s1,f0,f1,sl⟩:=hz7.two;refine ay rfl rfl fun K hK=> ?_;go_simp;exact hK _ _ ⟨undef,⟨aV hC hg7 _ _,uH om om hR⟩,Si (w:=w1) e0 hg7 (hz7.set2 _ _) sm (fun b hb=>by rw [heap_setCell_other _ _ _ _ hb,heap_setCell_other _ _ _ _ hb]) (fun hs=>hR hs (HK.up 10 kr)),rfl,trivial⟩
  have h8:σ 8=Value.int .i64 0:=HK.post 8 kr;rw [h8];refine ay rfl rfl fun K hK=> ?_;go_simp;exact hK _ _ ⟨_,⟨hC,uH om om hR⟩,fun d hd hs h=>fQ dc (Keep.refl _ _) d _ h,rfl,rfl⟩
 intro S σ w5 Ej hS hP;obtain⟨hC,_⟩:=Ej;obtain⟨bq,e9,hgq,_,_,hbq⟩:=(show nT (S 11) wr.heap.size (σ 9) w5 #[.bool false,.string ⟨#[]⟩] #[.bool qb,.string qS]from hP 9 dc);obtain⟨bs,e10,hgs,_⟩:=(show nT (S 12) wr.heap.size (σ 10) w5 #[.bool false,.string ⟨#[]⟩] #[.bool rb,.string rS]from hP 10 dc);have h13:σ 13=Value.int .i64 0:=hP 13 dc;have HBQ:=zh (hbq (hS 11 dc));rw [e9,e10,h13];refine NoPanic.normal ?_;have K5:=zh (KW.out.both hC);have HB2:=zh (HB2.out.keep hC);clear hP hS hC e9 e10 hgq hgs hbq h13 C1 C2 HB1;go_upto_region 2 with fail;refine aD (fun w'=>Keep au w5 w') [3] [([0],1),([2],3)] [] kr kr kp ?_;intro X W hne hF hcls;have aQ:=zh hcls;have z0:=fun x=>(HBQ.out.keep (hF x)).two;clear hF hcls;simp only [aO,aJ,zl0,zl1,zl2,aR,Bool.false_eq_true,if_false]
 (repeat(quiet_step (fail)));refine wpQuiet_nil ?_
 refine ay rfl rfl fun K hK=> ?_;go_simp;refine(CO _).out.mono ?_;rintro e w6 ⟨rfl,hk⟩;have k6:Keep au w5 w6:=Keep.trans kp hk fun _ _ _ h=>h;refine hK _ _ ⟨fun _=>aQ.out _ k6,?_⟩;clear hK K hk;have HB2:=zh (HB2.out.keep k6);have K6:=zh (K5.out.both k6);obtain⟨r0,r1,r2,r3,f0,f1,f2,f3,rl⟩:=HB2.out.four
 (repeat(quiet_step (fail)));refine wpQuiet_nil ?_
 refine ay rfl rfl fun K hK=> ?_;go_simp;refine hK _ _ ⟨fun h=>(by simp at h),?_⟩;have HB2:=zh (HB2.out.set4 (.bool qb) (.string qS) (.bool ob) (.string oS));have K7:Hid (Keep au w ((((w6.setCell ⟨b2,0,none⟩ (.bool qb)).setCell ⟨b2,1,none⟩ (.string qS)).setCell ⟨b2,2,none⟩ (.bool ob)).setCell ⟨b2,3,none⟩ (.string oS))):=zh (iL K6.out HS2.out _ _ _ _);clear hK K r0 r1 r2 r3 f0 f1 f2 f3 rl k6 z0;generalize (((w6.setCell ⟨b2,0,none⟩ (.bool qb)).setCell ⟨b2,1,none⟩ (.string qS)).setCell ⟨b2,2,none⟩ (.bool ob)).setCell ⟨b2,3,none⟩ (.string oS)=w7 at *;obtain⟨r0,r1,r2,r3,_,_,_,_,rl⟩:=HB2.out.four
 (repeat(quiet_step (fail)));refine wpQuiet_nil ?_
 refine NoPanic.normal ?_;go_wp2;refine bodyPost_ret (by simp [results,Tryz.results63,go_sem,r0,r1,r2,r3,rl];rfl) rfl ?_;exact⟨rfl,K7.out⟩
def vT (a:Rat):Value:= .tuple #[.int .i64 (if is64 a.num then a.num else 0),.bool (decide (is64 a.num)&&decide (a.den=1))]
theorem Ce (w:World)(va:Value)(a:Rat)(ha:bO va a)(na:NB 4000 a):Calls Tryz.prog 91 #[va] w fun e w'=>e= .returned (vT a)∧Keep au w w':=by
 have CW:=fun w=>zh (Cg w va a ha na);obtain⟨da,rfl,hda⟩:=ha;have a1:=na.1;obtain⟨lK,lM,nE,-,-⟩:=aH a.num;obtain⟨lY,lZ,rA,-,-⟩:=aH da;have C1:=fun w=>zh (qW w a.num om);rw [nE]at C1;rw [bF nE rA]at CW ⊢;unfold small64 at C1;clear nE rA hda na a1;have HS:Hid (vT a= .tuple #[.int .i64 (if is64 a.num then a.num else 0),.bool (decide (is64 a.num)&&decide (a.den=1))]):=zh rfl;by_cases h1:is64 a.num
 ·rw [if_pos h1]at C1;have HR:Hid (vT a= .tuple #[.int .i64 a.num,.bool (decide (a.den=1))]):=zh (by rw [HS.out,if_pos h1,decide_eq_true h1,Bool.true_and]);rw [HR.out];generalize decide (a.den=1)=bw at *;generalize a.num=n at *;clear h1 HS HR;go_enter Tryz.func91,Tryz.ntmps91;go_wp2_with fail;refine(C1 _).out.mono ?_;rintro e w1 ⟨rfl,hk1⟩;have B0:aL w1 w.heap.size #[.bool lK,.string lM,.bool lY,.string lZ]:=aL.keep kb hk1;have K1:Hid (Keep au w w1):=zh (Keep.both kp hk1);clear hk1 C1;obtain⟨p0,p1,p2,p3,_,_,_,_,pl⟩:=B0.four;go_wp2_with fail;refine(CW _).out.mono ?_;rintro e w2 ⟨rfl,hk2⟩;have K2:=zh (K1.out.both hk2);clear hk2 p0 p1 p2 p3 pl CW;go_wp2;go_ret2;exact⟨rfl,K2.out⟩
 rw [if_neg h1]at C1;have HR:Hid (vT a= .tuple #[.int .i64 0,.bool false]):=zh (by rw [HS.out,if_neg h1,decide_eq_false h1,Bool.false_and]);rw [HR.out];clear h1 HS HR CW;go_enter Tryz.func91,Tryz.ntmps91;go_wp2_with fail;refine(C1 _).out.mono ?_;rintro e w1 ⟨rfl,hk1⟩;have K1:Hid (Keep au w w1):=zh (Keep.both kp hk1);clear hk1 C1;go_wp2;go_ret2;exact⟨rfl,K1.out⟩
def q4 (w:World)(g o:Nat)(x:NV):World:=(((w.setCell ⟨g,o,none⟩ (.bool x.nb)).setCell ⟨g,o+1,none⟩ (.string x.nS)).setCell ⟨g,o+2,none⟩ (.bool x.db)).setCell ⟨g,o+3,none⟩ (.string x.dS)
theorem bE.sameZ {w w':World}{g:Nat}{qs:List Rat}(h:bE w g qs)(e:w'.heap[g]? =w.heap[g]?):bE w' g qs:=by
 obtain⟨A,l,h,h'⟩:=h;exact⟨A,l,h.sameZ e,h'⟩
theorem nO.lower {w:World}{base base':Nat}{v:Value}{qs:List Rat}(h:nO w base v qs)(hb:base'≤base):nO w base' v qs:=by
 obtain⟨l,hA,hl,h⟩:=h;refine⟨l,hA,hl,?_⟩;rcases h with h | ⟨g,cap,cur,hv,hb',hr⟩
 ·exact .inl h
 exact .inr ⟨g,cap,cur,hv,Nat.le_trans hb hb',hr⟩
end Go.Proofs.YtaiffmebphhdaaaGreat
