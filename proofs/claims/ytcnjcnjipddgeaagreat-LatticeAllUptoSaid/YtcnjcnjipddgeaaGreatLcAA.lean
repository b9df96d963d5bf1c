/- Package exact's Floor and Small, package lattice's abs. Package lattice's less, scaled and ints. -/
import Derived.Test.YtcnjcnjipddgeaaGreatFkAA
import Derived.Test.YtcnjcnjipddgeaaGreatRegVV
namespace Go.Proofs.YtcnjcnjipddgeaaGreat
set_option maxRecDepth 100000
set_option maxHeartbeats 32000000
set_option linter.unusedSimpArgs false
set_option linter.unusedVariables false
open Go.ChangeShapes Go.WideShapes Go.RowKit
theorem markZ_self {S:Nat→Bool}{e:Nat}:mark S e e=true:=by unfold mark;rw [if_pos rfl]
theorem markZ_other {S:Nat→Bool}{e d:Nat}(h:d≠e):mark S e d=S d:=by unfold mark;rw [if_neg h]
theorem Blk.sameZ {w w':World}{b:Nat}{A:Array Value}(h:Blk w b A)(e:w'.heap[b]? =w.heap[b]?):Blk w' b A:=by
 obtain⟨t,h⟩:=h;exact⟨t,e.trans h⟩
def ZCell (t:Bool)(g:Nat)(v:Value)(w:World)(Z A:Array Value):Prop:=∃b,v= .pointer (some ⟨b,0,none⟩)∧g≤b∧b<w.heap.size∧(t=false→Blk w b Z)∧(t=true→Blk w b A)
theorem ZCell.keepM {S:Nat→Bool}{d e g:Nat}{v:Value}{w w':World}{Z A:Array Value}(h:ZCell (S d) g v w Z A)(he:e≠d)(k:Keep NoS w w'):ZCell (mark S e d) g v w' Z A:=by
 obtain⟨b,e1,h1,h2,h3,h4⟩:=h;rw [markZ_other (Ne.symm he)];exact⟨b,e1,h1,Nat.lt_of_lt_of_le h2 k.size,fun hm=>(h3 hm).keep k,fun hm=>(h4 hm).keep k⟩
theorem ZCell.same {S:Nat→Bool}{d e g:Nat}{v:Value}{w w':World}{Z A:Array Value}(h:ZCell (S d) g v w Z A)(he:e≠d)(hs:w.heap.size≤w'.heap.size)(ho:∀b,v= .pointer (some ⟨b,0,none⟩)→w'.heap[b]? =w.heap[b]?):ZCell (mark S e d) g v w' Z A:=by
 obtain⟨b,e1,h1,h2,h3,h4⟩:=h;rw [markZ_other (Ne.symm he)];exact⟨b,e1,h1,Nat.lt_of_lt_of_le h2 hs,fun hm=>(h3 hm).sameZ (ho b e1),fun hm=>(h4 hm).sameZ (ho b e1)⟩
theorem rlZ_o {S:Nat→Bool}{σ:Nat→Value}{e i j:Nat}{v:Value}(h0:i≠e)(h9:j≠e)(h:S i=true→S j=true→σ i≠σ j):mark S e i=true→mark S e j=true→upd σ e v i≠upd σ e v j:=by
 intro a b;rw [markZ_other h0]at a;rw [markZ_other h9]at b;unfold upd;rw [if_neg h0,if_neg h9];exact h a b
theorem rlZ_l {S:Nat→Bool}{σ:Nat→Value}{i j n:Nat}(hij:j≠i)(h:S j=true→∃b,σ j= .pointer (some ⟨b,0,none⟩)∧b<n):mark S i i=true→mark S i j=true→upd σ i (.pointer (some ⟨n,0,none⟩)) i≠upd σ i (.pointer (some ⟨n,0,none⟩)) j:=by
 intro _ hj e;rw [markZ_other hij]at hj;obtain⟨b,e1,hb⟩:=h hj;unfold upd at e;rw [if_pos rfl,if_neg hij,e1]at e
 cases e
 omega
theorem rlZ_r {S:Nat→Bool}{σ:Nat→Value}{i j n:Nat}(hij:j≠i)(h:S j=true→∃b,σ j= .pointer (some ⟨b,0,none⟩)∧b<n):mark S i j=true→mark S i i=true→upd σ i (.pointer (some ⟨n,0,none⟩)) j≠upd σ i (.pointer (some ⟨n,0,none⟩)) i:=fun a b e=>rlZ_l hij h b a e.symm
def pstFl (g:Nat)(pv av:Value)(nb eb qb rb:Bool)(nS eS qS rS:ByteArray)(S:Nat→Bool):Nat→Value→World→Prop
 | 0,v,w=>v=pv
 | 1,v,w=>v= .agg #[.bool nb,.string nS]
 | 2,v,w=>v=av
 | 3,v,w=>v= .agg #[.bool eb,.string eS]
 | 4,v,w=>v= .tuple #[.agg #[.bool qb,.string qS],.agg #[.bool rb,.string rS],.int .i64 0]
 | 5,v,w=>v= .tuple #[.agg #[.bool qb,.string qS],.agg #[.bool rb,.string rS],.int .i64 0]
 | 6,v,w=>v= .agg #[.bool qb,.string qS]
 | 7,v,w=>v= .agg #[.bool rb,.string rS]
 | 8,v,w=>v= .int .i64 0
 | 9,v,w=>ZCell (S 11) g v w #[.bool false,.string ⟨#[]⟩] #[.bool qb,.string qS]
 | 10,v,w=>ZCell (S 12) g v w #[.bool false,.string ⟨#[]⟩] #[.bool rb,.string rS]
 | 11,v,w=>True
 | 12,v,w=>True
 | 13,v,w=>v= .int .i64 0
 | _,_,_=>True
theorem pstFl_keep {g:Nat}{pv av:Value}{nb eb qb rb:Bool}{nS eS qS rS:ByteArray}{S:Nat→Bool}{w w':World}{e:Nat}(he:e≠11∧e≠12)(k:Keep NoS w w'):∀(d:Nat) (v:Value),pstFl g pv av nb eb qb rb nS eS qS rS S d v w→pstFl g pv av nb eb qb rb nS eS qS rS (mark S e) d v w'
 | 0,v,h=>h
 | 1,v,h=>h
 | 2,v,h=>h
 | 3,v,h=>h
 | 4,v,h=>h
 | 5,v,h=>h
 | 6,v,h=>h
 | 7,v,h=>h
 | 8,v,h=>h
 | 9,v,h=>h.keepM he.1 k
 | 10,v,h=>h.keepM he.2 k
 | 11,v,h=>h
 | 12,v,h=>h
 | 13,v,h=>h
 | n+14,v,h=>trivial
theorem pstFl_s11 {g:Nat}{pv av:Value}{nb eb qb rb:Bool}{nS eS qS rS:ByteArray}{S:Nat→Bool}{w w':World}{σ:Nat→Value}{b7:Nat}(e0:σ 9= .pointer (some ⟨b7,0,none⟩))(hg:g≤b7)(hb:Blk w' b7 #[.bool qb,.string qS])(hs:w.heap.size≤w'.heap.size)(ho:∀b,b≠b7→w'.heap[b]? =w.heap[b]?)(hne:S 10=true→σ 10≠σ 9):∀(d:Nat),d≠11→S d=true→pstFl g pv av nb eb qb rb nS eS qS rS S d (σ d) w→pstFl g pv av nb eb qb rb nS eS qS rS (mark S 11) d (σ d) w'
 | 0,_,_,h=>h
 | 1,_,_,h=>h
 | 2,_,_,h=>h
 | 3,_,_,h=>h
 | 4,_,_,h=>h
 | 5,_,_,h=>h
 | 6,_,_,h=>h
 | 7,_,_,h=>h
 | 8,_,_,h=>h
 | 9,_,_,h=>⟨b7,e0,hg,hb.lt,fun hm=>(by rw [markZ_self]at hm;cases hm),fun _=>hb⟩
 | 10,_,hS,h=>ZCell.same h (by omega) hs fun b hb'=>ho b (fun e=>hne hS (by rw [hb',e0,e]))
 | 11,hd,_,_=>absurd rfl hd
 | 12,_,_,h=>h
 | 13,_,_,h=>h
 | n+14,_,_,h=>trivial
theorem pstFl_s12 {g:Nat}{pv av:Value}{nb eb qb rb:Bool}{nS eS qS rS:ByteArray}{S:Nat→Bool}{w w':World}{σ:Nat→Value}{b7:Nat}(e0:σ 10= .pointer (some ⟨b7,0,none⟩))(hg:g≤b7)(hb:Blk w' b7 #[.bool rb,.string rS])(hs:w.heap.size≤w'.heap.size)(ho:∀b,b≠b7→w'.heap[b]? =w.heap[b]?)(hne:S 9=true→σ 9≠σ 10):∀(d:Nat),d≠12→S d=true→pstFl g pv av nb eb qb rb nS eS qS rS S d (σ d) w→pstFl g pv av nb eb qb rb nS eS qS rS (mark S 12) d (σ d) w'
 | 0,_,_,h=>h
 | 1,_,_,h=>h
 | 2,_,_,h=>h
 | 3,_,_,h=>h
 | 4,_,_,h=>h
 | 5,_,_,h=>h
 | 6,_,_,h=>h
 | 7,_,_,h=>h
 | 8,_,_,h=>h
 | 9,_,hS,h=>ZCell.same h (by omega) hs fun b hb'=>ho b (fun e=>hne hS (by rw [hb',e0,e]))
 | 10,_,_,h=>⟨b7,e0,hg,hb.lt,fun hm=>(by rw [markZ_self]at hm;cases hm),fun _=>hb⟩
 | 11,_,_,h=>h
 | 12,hd,_,_=>absurd rfl hd
 | 13,_,_,h=>h
 | n+14,_,_,h=>trivial
theorem exFloor_any (w:World)(va:Value)(a:Rat)(ha:IsNum va a)(na:NB 4000 a):Calls Tryz.prog 74 #[va] w fun e w'=>e= .returned (numV (a.num/(a.den:Int)) 1)∧Keep NoS w w':=by
 obtain⟨da,rfl,hda⟩:=ha;have hza:=denZ_of hda;have a1:=na.1;have a2:=na.2;have hd0:=a.den_pos;obtain⟨anb,anS,lan,-,-⟩:=longV_agg a.num;obtain⟨adb,adS,lad,-,-⟩:=longV_agg da;obtain⟨aeb,aeS,lae,-,-⟩:=longV_agg (a.den:Int);obtain⟨qb,qS,lq,-,-⟩:=longV_agg (a.num/(a.den:Int));obtain⟨rb,rS,lr,-,-⟩:=longV_agg (a.num%(a.den:Int));obtain⟨ob,oS,lo,-,-⟩:=longV_agg 1;have C1:=fun w=>zh (exDen_any w a.num da)
 rw [numV_form lan lad,hza,lae]at C1;have C2:=fun w=>zh (longDivMod_any w a.num (a.den:Int) (by omega) (by omega) (by omega))
 rw [lan,lae,lq,lr]at C2;have CO:=fun w=>zh (of_form lo (by decide) (by decide) w)
 rw [numV_form lan lad,numV_form lq lo];clear lan lad lae lq lr lo hza hda na a1 a2 hd0;go_enter Tryz.func74,Tryz.ntmps74;go_upto_region 1 with fail
 have HB1:Hid (Blk ((w.alloc (.cells #[.bool anb,.string anS,.bool adb,.string adS] 57)).alloc (.cells #[.bool false,.string ⟨#[]⟩,.bool false,.string ⟨#[]⟩] 57)) w.heap.size #[.bool anb,.string anS,.bool adb,.string adS]):=zh (Blk.old (blk_at _ _ rfl) _);have HB2:Hid (Blk ((w.alloc (.cells #[.bool anb,.string anS,.bool adb,.string adS] 57)).alloc (.cells #[.bool false,.string ⟨#[]⟩,.bool false,.string ⟨#[]⟩] 57)) (w.heap.size+1) #[.bool false,.string ⟨#[]⟩,.bool false,.string ⟨#[]⟩]):=zh (blk_at _ _ (by simp))
 have KW:Hid (Keep NoS w ((w.alloc (.cells #[.bool anb,.string anS,.bool adb,.string adS] 57)).alloc (.cells #[.bool false,.string ⟨#[]⟩,.bool false,.string ⟨#[]⟩] 57))):=zh (((Keep.refl _ _).alloc _).alloc _);have HS2:Hid (w.heap.size≤w.heap.size+1):=zh (by omega)
 generalize ((w.alloc (.cells #[.bool anb,.string anS,.bool adb,.string adS] 57)).alloc (.cells #[.bool false,.string ⟨#[]⟩,.bool false,.string ⟨#[]⟩] 57))=wr at *;generalize w.heap.size+1=b2 at *;generalize hb1:w.heap.size=b1 at HB1 ⊢;clear hb1;refine wp_region_rel (fun S σ w'=>Keep NoS wr w'∧(S 9=true→S 10=true→σ 9≠σ 10)) (pstFl wr.heap.size (Value.pointer (some ⟨b1,0,none⟩)) (.agg #[.bool anb,.string anS,.bool adb,.string adS]) anb aeb qb rb anS aeS qS rS) (by kernel_rfl) (by kernel_rfl) (by kernel_rfl) (by kernel_rfl) (fun S σ hS=>⟨by exact kp,fun h=>by rw [hS 9]at h;cases h⟩) _ (fun σ=>by
  show putAll _ σ [0,1,2,3,4,5,6,7,8,9,10,11,12,13] _=_;simp only [putAll,zl0,zl1,zl2,Act.put,List.setIfInBounds_toArray,List.set_cons_zero,List.set_cons_succ];rfl) ?_ ?_
 ·intro S σ w1 hCC hall e he HK
  have he:e<14:=he;obtain⟨hC,hR⟩:=hCC;obtain rfl | rfl | rfl | rfl | rfl | rfl | rfl | rfl | rfl | rfl | rfl | rfl | rfl | rfl:e=0∨e=1∨e=2∨e=3∨e=4∨e=5∨e=6∨e=7∨e=8∨e=9∨e=10∨e=11∨e=12∨e=13:=by omega
  ·refine wpAt rfl rfl fun K hK=> ?_
   go_simp;exact hK _ _ ⟨_,⟨hC,rlZ_o (by omega) (by omega) hR⟩,fun d hd hs h=>pstFl_keep (by decide) (Keep.refl _ _) d _ h,rfl,rfl⟩
  ·have h0:σ 0=Value.pointer (some ⟨b1,0,none⟩):=HK.post 0 (by kernel_rfl)
   rw [h0];obtain⟨s0,s1,s2,s3,_,_,_,_,sl⟩:=(HB1.out.keep hC).four;refine wpAt rfl rfl fun K hK=> ?_
   go_simp;exact hK _ _ ⟨_,⟨hC,rlZ_o (by omega) (by omega) hR⟩,fun d hd hs h=>pstFl_keep (by decide) (Keep.refl _ _) d _ h,rfl,rfl⟩
  ·obtain ⟨s0,s1,s2,s3,_,_,_,_,sl⟩:=(HB1.out.keep hC).four
   refine wpAt rfl rfl fun K hK=> ?_
   go_simp;exact hK _ _ ⟨_,⟨hC,rlZ_o (by omega) (by omega) hR⟩,fun d hd hs h=>pstFl_keep (by decide) (Keep.refl _ _) d _ h,rfl,rfl⟩
  ·have h2:σ 2=Value.agg #[.bool anb,.string anS,.bool adb,.string adS]:=HK.post 2 (by kernel_rfl)
   rw [h2];refine wpAt rfl rfl fun K hK=> ?_
   go_simp;refine(C1 _).out.mono ?_;rintro e w2 ⟨rfl,hk2⟩;exact hK _ _ ⟨_,⟨hC.both hk2,rlZ_o (by omega) (by omega) hR⟩,fun d hd hs h=>pstFl_keep (by decide) (hk2) d _ h,rfl,rfl⟩
  ·have h1:σ 1=Value.agg #[.bool anb,.string anS]:=HK.post 1 (by kernel_rfl)
   rw [h1];have h3:σ 3=Value.agg #[.bool aeb,.string aeS]:=HK.post 3 (by kernel_rfl)
   rw [h3];refine wpAt rfl rfl fun K hK=> ?_
   go_simp;refine(C2 _).out.mono ?_;rintro e w2 ⟨rfl,hk2⟩;exact hK _ _ ⟨_,⟨hC.both hk2,rlZ_o (by omega) (by omega) hR⟩,fun d hd hs h=>pstFl_keep (by decide) (hk2) d _ h,rfl,rfl⟩
  ·have h4:σ 4=Value.tuple #[.agg #[.bool qb,.string qS],.agg #[.bool rb,.string rS],.int .i64 0]:=HK.post 4 (by kernel_rfl)
   rw [h4];refine wpAt rfl rfl fun K hK=> ?_
   go_simp;exact hK _ _ ⟨_,⟨hC,rlZ_o (by omega) (by omega) hR⟩,fun d hd hs h=>pstFl_keep (by decide) (Keep.refl _ _) d _ h,rfl,rfl⟩
  ·have h5:σ 5=Value.tuple #[.agg #[.bool qb,.string qS],.agg #[.bool rb,.string rS],.int .i64 0]:=HK.post 5 (by kernel_rfl)
   rw [h5];refine wpAt rfl rfl fun K hK=> ?_
   go_simp;exact hK _ _ ⟨_,⟨hC,rlZ_o (by omega) (by omega) hR⟩,fun d hd hs h=>pstFl_keep (by decide) (Keep.refl _ _) d _ h,rfl,rfl⟩
  ·have h5:σ 5=Value.tuple #[.agg #[.bool qb,.string qS],.agg #[.bool rb,.string rS],.int .i64 0]:=HK.post 5 (by kernel_rfl)
   rw [h5];refine wpAt rfl rfl fun K hK=> ?_
   go_simp;exact hK _ _ ⟨_,⟨hC,rlZ_o (by omega) (by omega) hR⟩,fun d hd hs h=>pstFl_keep (by decide) (Keep.refl _ _) d _ h,rfl,rfl⟩
  ·have h5:σ 5=Value.tuple #[.agg #[.bool qb,.string qS],.agg #[.bool rb,.string rS],.int .i64 0]:=HK.post 5 (by kernel_rfl)
   rw [h5];refine wpAt rfl rfl fun K hK=> ?_
   go_simp;exact hK _ _ ⟨_,⟨hC,rlZ_o (by omega) (by omega) hR⟩,fun d hd hs h=>pstFl_keep (by decide) (Keep.refl _ _) d _ h,rfl,rfl⟩
  ·refine wpAt rfl rfl fun K hK=> ?_
   go_simp;exact hK _ _ ⟨_,⟨hC.alloc _,rlZ_l (by omega) fun hs=>(by
    obtain⟨b,e1,_,e2,_⟩:=(show ZCell (S 12) wr.heap.size (σ 10) w1 #[.bool false,.string ⟨#[]⟩] #[.bool rb,.string rS]from hall 10 hs)
    exact⟨b,e1,e2⟩)⟩,fun d hd hs h=>pstFl_keep (by decide) ((Keep.refl _ _).alloc _) d _ h,rfl,⟨w1.heap.size,rfl,hC.size,by simp,fun _=>blk_at _ _ rfl,fun hm=>by rw [markZ_other (by omega),HK.down 11 (by kernel_rfl)]at hm;cases hm⟩⟩
  ·refine wpAt rfl rfl fun K hK=> ?_
   go_simp;exact hK _ _ ⟨_,⟨hC.alloc _,rlZ_r (by omega) fun hs=>(by
    obtain⟨b,e1,_,e2,_⟩:=(show ZCell (S 11) wr.heap.size (σ 9) w1 #[.bool false,.string ⟨#[]⟩] #[.bool qb,.string qS]from hall 9 hs)
    exact⟨b,e1,e2⟩)⟩,fun d hd hs h=>pstFl_keep (by decide) ((Keep.refl _ _).alloc _) d _ h,rfl,⟨w1.heap.size,rfl,hC.size,by simp,fun _=>blk_at _ _ rfl,fun hm=>by rw [markZ_other (by omega),HK.down 12 (by kernel_rfl)]at hm;cases hm⟩⟩
  ·have h6:σ 6=Value.agg #[.bool qb,.string qS]:=HK.post 6 (by kernel_rfl)
   rw [h6];obtain⟨b7,e0,hg7,_,hz7,_⟩:=(show ZCell (S 11) wr.heap.size (σ 9) w1 #[.bool false,.string ⟨#[]⟩] #[.bool qb,.string qS]from HK.post 9 (by kernel_rfl))
   have hz7:=hz7 HK.self;rw [e0];obtain⟨s0,s1,f0,f1,sl⟩:=hz7.two;refine wpAt rfl rfl fun K hK=> ?_
   go_simp;exact hK _ _ ⟨undef,⟨keep_set2 hC hg7 _ _,rlZ_o (by omega) (by omega) hR⟩,pstFl_s11 (w:=w1) e0 hg7 (hz7.set2 _ _) (by simp) (fun b hb=>by rw [heap_setCell_other _ _ _ _ hb,heap_setCell_other _ _ _ _ hb]) (fun hs=>(hR (HK.up 9 (by kernel_rfl)) hs).symm),rfl,trivial⟩
  ·have h7:σ 7=Value.agg #[.bool rb,.string rS]:=HK.post 7 (by kernel_rfl)
   rw [h7];obtain⟨b7,e0,hg7,_,hz7,_⟩:=(show ZCell (S 12) wr.heap.size (σ 10) w1 #[.bool false,.string ⟨#[]⟩] #[.bool rb,.string rS]from HK.post 10 (by kernel_rfl))
   have hz7:=hz7 HK.self;rw [e0];obtain⟨s0,s1,f0,f1,sl⟩:=hz7.two;refine wpAt rfl rfl fun K hK=> ?_
   go_simp;exact hK _ _ ⟨undef,⟨keep_set2 hC hg7 _ _,rlZ_o (by omega) (by omega) hR⟩,pstFl_s12 (w:=w1) e0 hg7 (hz7.set2 _ _) (by simp) (fun b hb=>by rw [heap_setCell_other _ _ _ _ hb,heap_setCell_other _ _ _ _ hb]) (fun hs=>hR hs (HK.up 10 (by kernel_rfl))),rfl,trivial⟩
  ·have h8:σ 8=Value.int .i64 0:=HK.post 8 (by kernel_rfl)
   rw [h8];refine wpAt rfl rfl fun K hK=> ?_
   go_simp;exact hK _ _ ⟨_,⟨hC,rlZ_o (by omega) (by omega) hR⟩,fun d hd hs h=>pstFl_keep (by decide) (Keep.refl _ _) d _ h,rfl,rfl⟩
 ·intro S σ w5 hCC hS hP
  obtain⟨hC,_⟩:=hCC;obtain⟨bq,e9,hgq,_,_,hbq⟩:=(show ZCell (S 11) wr.heap.size (σ 9) w5 #[.bool false,.string ⟨#[]⟩] #[.bool qb,.string qS]from hP 9 (by decide))
  obtain⟨bs,e10,hgs,_⟩:=(show ZCell (S 12) wr.heap.size (σ 10) w5 #[.bool false,.string ⟨#[]⟩] #[.bool rb,.string rS]from hP 10 (by decide))
  have h13:σ 13=Value.int .i64 0:=hP 13 (by decide)
  have HBQ:=zh (hbq (hS 11 (by decide)))
  rw [e9,e10,h13];refine NoPanic.normal ?_;have K5:=zh (KW.out.both hC);have HB2:=zh (HB2.out.keep hC);clear hP hS hC e9 e10 hgq hgs hbq h13 C1 C2 HB1;go_upto_region 2 with fail
  refine wp_region_by (fun w'=>Keep NoS w5 w') [3] [([0],1),([2],3)] [] (by kernel_rfl) (by kernel_rfl) kp ?_
  intro X W hne hF hcls;have HCL:=zh hcls;have z0:=fun x=>(HBQ.out.keep (hF x)).two
  clear hF hcls;simp only [wpPlan,pickOps,zl0,zl1,zl2,clsOf,Bool.false_eq_true,if_false]
  (repeat(quiet_step (fail)));refine wpQuiet_nil ?_
  refine wpAt rfl rfl fun K hK=> ?_
  go_simp;refine(CO _).out.mono ?_;rintro e w6 ⟨rfl,hk⟩;have k6:Keep NoS w5 w6:=Keep.trans kp hk fun _ _ _ h=>h
  refine hK _ _ ⟨fun _=>HCL.out _ k6,?_⟩
  clear hK K hk;have HB2:=zh (HB2.out.keep k6);have K6:=zh (K5.out.both k6);obtain⟨r0,r1,r2,r3,f0,f1,f2,f3,rl⟩:=HB2.out.four
  (repeat(quiet_step (fail)));refine wpQuiet_nil ?_
  refine wpAt rfl rfl fun K hK=> ?_
  go_simp;refine hK _ _ ⟨fun h=>(by simp at h),?_⟩
  have HB2:=zh (HB2.out.set4 (.bool qb) (.string qS) (.bool ob) (.string oS));have K7:Hid (Keep NoS w ((((w6.setCell ⟨b2,0,none⟩ (.bool qb)).setCell ⟨b2,1,none⟩ (.string qS)).setCell ⟨b2,2,none⟩ (.bool ob)).setCell ⟨b2,3,none⟩ (.string oS))):=zh (keep_set4 K6.out HS2.out _ _ _ _);clear hK K r0 r1 r2 r3 f0 f1 f2 f3 rl k6 z0;generalize (((w6.setCell ⟨b2,0,none⟩ (.bool qb)).setCell ⟨b2,1,none⟩ (.string qS)).setCell ⟨b2,2,none⟩ (.bool ob)).setCell ⟨b2,3,none⟩ (.string oS)=w7 at *;obtain⟨r0,r1,r2,r3,_,_,_,_,rl⟩:=HB2.out.four
  (repeat(quiet_step (fail)));refine wpQuiet_nil ?_
  refine NoPanic.normal ?_;go_wp2;refine bodyPost_ret (by simp [results,Tryz.results74,go_sem,r0,r1,r2,r3,rl];rfl) rfl ?_
  exact⟨rfl,K7.out⟩
def smallV (a:Rat):Value:= .tuple #[.int .i64 (if is64 a.num then a.num else 0),.bool (decide (is64 a.num)&&decide (a.den=1))]
theorem exSmall_any (w:World)(va:Value)(a:Rat)(ha:IsNum va a)(na:NB 4000 a):Calls Tryz.prog 52 #[va] w fun e w'=>e= .returned (smallV a)∧Keep NoS w w':=by
 have CW:=fun w=>zh (exWhole_gen w va a ha na)
 obtain⟨da,rfl,hda⟩:=ha;have a1:=na.1;obtain⟨anb,anS,lan,-,-⟩:=longV_agg a.num;obtain⟨adb,adS,lad,-,-⟩:=longV_agg da;have C1:=fun w=>zh (longSmall_any w a.num (by omega))
 rw [lan]at C1;rw [numV_form lan lad]at CW ⊢;unfold small64 at C1;clear lan lad hda na a1;have HS:Hid (smallV a= .tuple #[.int .i64 (if is64 a.num then a.num else 0),.bool (decide (is64 a.num)&&decide (a.den=1))]):=zh rfl
 by_cases h1:is64 a.num
 ·rw [if_pos h1]at C1
  have HR:Hid (smallV a= .tuple #[.int .i64 a.num,.bool (decide (a.den=1))]):=zh (by rw [HS.out,if_pos h1,decide_eq_true h1,Bool.true_and])
  rw [HR.out];generalize decide (a.den=1)=bw at *;generalize a.num=n at *;clear h1 HS HR;go_enter Tryz.func52,Tryz.ntmps52;go_wp2_with fail;refine(C1 _).out.mono ?_;rintro e w1 ⟨rfl,hk1⟩;have B0:Blk w1 w.heap.size #[.bool anb,.string anS,.bool adb,.string adS]:=Blk.keep kb hk1;have K1:Hid (Keep NoS w w1):=zh (Keep.both kp hk1);clear hk1 C1;obtain⟨p0,p1,p2,p3,_,_,_,_,pl⟩:=B0.four;go_wp2_with fail;refine(CW _).out.mono ?_;rintro e w2 ⟨rfl,hk2⟩;have K2:=zh (K1.out.both hk2);clear hk2 p0 p1 p2 p3 pl CW;go_wp2;go_ret2;exact⟨rfl,K2.out⟩
 ·rw [if_neg h1]at C1
  have HR:Hid (smallV a= .tuple #[.int .i64 0,.bool false]):=zh (by rw [HS.out,if_neg h1,decide_eq_false h1,Bool.false_and])
  rw [HR.out];clear h1 HS HR CW;go_enter Tryz.func52,Tryz.ntmps52;go_wp2_with fail;refine(C1 _).out.mono ?_;rintro e w1 ⟨rfl,hk1⟩;have K1:Hid (Keep NoS w w1):=zh (Keep.both kp hk1);clear hk1 C1;go_wp2;go_ret2;exact⟨rfl,K1.out⟩
def absQ (a:Rat):Rat:=if a<0 then -a else a
theorem num_sign_lt {a:Rat}:a.num.sign<0↔a<0:=by
 rw [show a.num.sign<0↔¬0≤a.num.sign from by omega,Int.sign_nonneg_iff,Rat.num_nonneg,Rat.not_le]
theorem ltAbs_any (w:World)(va:Value)(a:Rat)(ha:IsNum va a)(na:NB 4000 a):Calls Tryz.prog 72 #[va] w fun e w'=>∃z,e= .returned z∧IsNum z (absQ a)∧Keep NoS w w':=by
 have CS:=fun w=>zh (exSign_num ha w)
 have CN:=fun w=>zh (exNeg_gen w va a ha)
 obtain⟨⟨xb,xS,xc,xU⟩,hx,hxn⟩:=numQ_nv (-a);rw [hx]at CN;have HA0:=zh ha;obtain⟨⟨ab,aS,ac,aU⟩,rfl⟩:=isNum_nv ha;unfold NV.v at CS CN;simp only at CS CN;have HX:=zh hxn;have HAB:Hid (absQ a=if a<0 then -a else a):=zh rfl
 have HSG:Hid (a.num.sign<0↔a<0):=zh num_sign_lt;clear ha hx hxn na;generalize a.num.sign=s at *;unfold NV.v;simp only;go_enter Tryz.func72,Tryz.ntmps72;go_wp2_with fail;refine(CS _).out.mono ?_;rintro e w1 ⟨rfl,hk1⟩;have B0:Blk w1 w.heap.size #[.bool ab,.string aS,.bool ac,.string aU]:=Blk.keep kb hk1;have B1:Blk w1 (w.heap.size+1) #[.bool false,.string ⟨#[]⟩,.bool false,.string ⟨#[]⟩]:=Blk.keep kb hk1;have K1:Hid (Keep NoS w w1):=zh (Keep.both kp hk1);have HB0:=zh B0;have HB1:=zh B1;have HS1:Hid (w.heap.size≤w.heap.size+1):=zh (by omega)
 clear hk1 CS B0 B1;generalize w.heap.size+1=b1 at *;generalize hb0:w.heap.size=b0 at HB0 HB1 ⊢;clear hb0;obtain⟨p0,p1,p2,p3,_,_,_,_,pl⟩:=HB0.out.four
 by_cases hs:s<0
 ·go_wp2_with fail
  refine(CN _).out.mono ?_;rintro e w2 ⟨rfl,hk2⟩;have K2:=zh (K1.out.both hk2);have HB2:=zh (HB1.out.keep hk2);obtain⟨r0,r1,r2,r3,f0,f1,f2,f3,rl⟩:=HB2.out.four;clear hk2 p0 p1 p2 p3 pl CN HB0 HB1;go_simp
  repeat go_step
  refine bodyPost_ret (by simp [results,Tryz.results72,go_sem,r0,r1,r2,r3,rl];rfl) rfl ?_
  exact⟨_,rfl,by rw [HAB.out,if_pos (HSG.out.1 hs)];exact HX.out,keep_set4 K2.out HS1.out _ _ _ _⟩
 ·obtain ⟨r0,r1,r2,r3,f0,f1,f2,f3,rl⟩:=HB1.out.four
  go_simp
  repeat go_step
  refine bodyPost_ret (by simp [results,Tryz.results72,go_sem,r0,r1,r2,r3,rl];rfl) rfl ?_
  exact⟨_,rfl,by rw [HAB.out,if_neg (fun h=>hs (HSG.out.2 h))];exact HA0.out,keep_set4 K1.out HS1.out _ _ _ _⟩
def OnlyG (g:Nat):Nat→Nat→Prop:=fun b _=>b=g
def q4 (w:World)(g o:Nat)(x:NV):World:=(((w.setCell ⟨g,o,none⟩ (.bool x.nb)).setCell ⟨g,o+1,none⟩ (.string x.nS)).setCell ⟨g,o+2,none⟩ (.bool x.db)).setCell ⟨g,o+3,none⟩ (.string x.dS)
theorem q4_only {w0 w:World}{g o:Nat}{x:NV}(h:Keep (OnlyG g) w0 w):Keep (OnlyG g) w0 (q4 w g o x):=by
 unfold q4;exact(((h.setCell _ fun _=>rfl).setCell _ fun _=>rfl).setCell _ fun _=>rfl).setCell _ fun _=>rfl
theorem q4_other {w:World}{g o:Nat}{x:NV}{b:Nat}(h:b≠g):(q4 w g o x).heap[b]? =w.heap[b]? :=by
 unfold q4;rw [heap_setCell_other _ _ _ _ h,heap_setCell_other _ _ _ _ h,heap_setCell_other _ _ _ _ h,heap_setCell_other _ _ _ _ h]
theorem q4_keep {w0 w:World}{g o:Nat}{x:NV}(h:Keep NoS w0 w)(hg:w0.heap.size≤g):Keep NoS w0 (q4 w g o x):=by
 unfold q4;exact(((h.setCell _ fun hh=>absurd hh (by omega)).setCell _ fun hh=>absurd hh (by omega)).setCell _ fun hh=>absurd hh (by omega)).setCell _ fun hh=>absurd hh (by omega)
theorem NumBlk.setQ {w:World}{g:Nat}{qs:List Rat}(h:NumBlk w g qs){k:Nat}{x:NV}{q:Rat}(hq:IsNum x.v q):NumBlk (q4 w g (k*4) x) g (qs.set k q):=h.set hq
theorem NumBlk.sameZ {w w':World}{g:Nat}{qs:List Rat}(h:NumBlk w g qs)(e:w'.heap[g]? =w.heap[g]?):NumBlk w' g qs:=by
 obtain⟨A,l,h,h'⟩:=h;exact⟨A,l,h.sameZ e,h'⟩
theorem Keep.sameG {g:Nat}{w w':World}(h:Keep (OnlyG g) w w'){b:Nat}(hb:b<w.heap.size)(hne:b≠g):w'.heap[b]? =w.heap[b]? :=h.block b hb fun o ho=>hne ho
theorem Keep.onlyG {g:Nat}{a b c:World}(h:Keep (OnlyG g) a b)(k:Keep NoS b c):Keep (OnlyG g) a c:=h.trans k fun _ _ _ h=>h.elim
theorem ratZ {l:List Rat}{i:Nat}(h:i<l.length):l.getD i 0=l[i]:=by rw [List.getD_eq_getElem?_getD,List.getElem?_eq_getElem h];rfl
theorem OwnN.lower {w:World}{base base':Nat}{v:Value}{qs:List Rat}(h:OwnN w base v qs)(hb:base'≤base):OwnN w base' v qs:=by
 obtain⟨l,hA,hl,h⟩:=h;refine⟨l,hA,hl,?_⟩
 rcases h with h | ⟨g,cap,cur,hv,hb',hr⟩
 ·exact .inl h
 ·exact .inr ⟨g,cap,cur,hv,Nat.le_trans hb hb',hr⟩
def lessL (q row:List Rat)(c:Rat)(j:Nat):List Rat:=(List.range q.length).map fun k=>if k<j then q.getD k 0-row.getD k 0*c else q.getD k 0
def lessQ (q row:List Rat)(c:Rat):List Rat:=(List.range q.length).map fun k=>q.getD k 0-row.getD k 0*c
theorem lessL_len {q row:List Rat}{c:Rat}{j:Nat}:(lessL q row c j).length=q.length:=by simp [lessL]
theorem lessQ_len {q row:List Rat}{c:Rat}:(lessQ q row c).length=q.length:=by simp [lessQ]
theorem lessL_zero {q row:List Rat}{c:Rat}:lessL q row c 0=q:=by
 apply List.ext_getElem
 ·simp [lessL]
 ·intro i h1 h2
  simp only [lessL,List.getElem_map,List.getElem_range,Nat.not_lt_zero,if_false,ratZ h2]
theorem lessL_all {q row:List Rat}{c:Rat}:lessL q row c q.length=lessQ q row c:=by
 unfold lessL lessQ
 apply List.map_congr_left
 intro k hk;rw [if_pos (List.mem_range.1 hk)]
theorem lessL_at {q row:List Rat}{c:Rat}{j:Nat}(hk:j<q.length):(lessL q row c j)[j]'(by rw [lessL_len];exact hk)=q[j]:=by
 simp only [lessL,List.getElem_map,List.getElem_range,Nat.lt_irrefl,if_false,ratZ hk]
theorem lessL_step {q row:List Rat}{c:Rat}{j:Nat}(hj:j<q.length)(hr:j<row.length):(lessL q row c j).set j (q[j]-row[j]*c)=lessL q row c (j+1):=by
 apply List.ext_getElem
 ·simp [lessL]
 ·intro i h1 h2
  have hi:i<q.length:=by simpa [lessL]using h2
  rw [List.getElem_set];simp only [lessL,List.getElem_map,List.getElem_range]
  by_cases e:j=i
  ·subst e
   rw [if_pos rfl,if_pos (Nat.lt_succ_self j),ratZ hj,ratZ hr]
  ·rw [if_neg e]
   by_cases h1:i<j
   ·rw [if_pos h1,if_pos (by omega)]
   ·rw [if_neg h1,if_neg (by omega)]
theorem nb2_divInt {k l:Nat}{x y:Int}(hx:dl x≤k)(hy:dl y≤l)(h0:y≠0):dl (Rat.divInt x y).num≤k∧dl ((Rat.divInt x y).den:Int)≤l:=by
 have ha:∀z:Int,∀g:Nat,(z.tdiv g).natAbs≤z.natAbs:=natAbs_tdiv_le
 rcases Int.lt_or_le y 0 with h | h
 ·obtain ⟨h1,h2⟩:=rat_neg x y h
  refine⟨?_,?_⟩
  ·rw [h1,dl_neg];exact Nat.le_trans (dl_mono (ha _ _)) hx
  ·rw [h2,dl_neg];exact Nat.le_trans (dl_mono (ha _ _)) hy
 ·obtain ⟨h1,h2⟩:=rat_pos x y (by omega)
  refine⟨?_,?_⟩
  ·rw [h1];exact Nat.le_trans (dl_mono (ha _ _)) hx
  ·rw [h2];exact Nat.le_trans (dl_mono (ha _ _)) hy
theorem dl_rmul (a b:Rat):dl (a*b).num≤dl a.num+dl b.num∧dl ((a*b).den:Int)≤dl (a.den:Int)+dl (b.den:Int):=by
 rw [← rat_mul];exact nb2_divInt (dl_mul _ _) (dl_mul _ _) (Int.mul_ne_zero (den_ne a) (den_ne b))
theorem ltLess_any (w:World)(gl cl gr cr:Nat)(q row:List Rat)(vc:Value)(c:Rat)(hq:NumBlk w gl q)(hr:NumBlk w gr row)(hc:IsNum vc c)(hlen:row.length=q.length)(hK:q.length≤1000)
  (hcl:q.length≤cl∧cl≤maxLen) (hcr:row.length≤cr∧cr≤maxLen) (n1:gr≠gl) (nq:∀x∈q,dl x.num≤4000∧dl (x.den:Int)≤90) (nr:∀x∈row,dl x.num+dl c.num≤4000∧dl (x.den:Int)+dl (c.den:Int)≤90):
  Calls Tryz.prog 42 #[.slice (some ⟨gl,0,none⟩) q.length cl,.slice (some ⟨gr,0,none⟩) row.length cr,vc] w fun e w'=>e= .returned (.tuple #[])∧NumBlk w' gl (lessQ q row c)∧Keep (OnlyG gl) w w':=by
 obtain⟨⟨cb,cS,cc,cU⟩,rfl⟩:=isNum_nv hc;have HLEN:=zh hlen;have HC:=zh hc;have HNQ:=zh nq;have HNR:=zh nr;unfold maxLen at hcl hcr;unfold NV.v;simp only;have ka:Keep NoS w (w.alloc (.cells #[.bool cb,.string cS,.bool cc,.string cU] 57)):=(Keep.refl _ _).alloc _;have HB0:Hid (Blk (w.alloc (.cells #[.bool cb,.string cS,.bool cc,.string cU] 57)) w.heap.size #[.bool cb,.string cS,.bool cc,.string cU]):=zh (blk_at _ _ rfl);have HQ0:=zh (hq.keep ka);have HR0:=zh (hr.keep ka);have HK0:Hid (Keep (OnlyG gl) w (w.alloc (.cells #[.bool cb,.string cS,.bool cc,.string cU] 57))):=zh (Keep.onlyG (Keep.refl _ _) ka);have hglw:gl≠w.heap.size:=by have:=hq.lt;omega
 clear hc hq hr nq nr hlen;go_enter Tryz.func42,Tryz.ntmps42;go_upto_region 1 with fail
 clear ka;generalize w.alloc (.cells #[.bool cb,.string cS,.bool cc,.string cU] 57)=w1 at *;generalize hb5:w.heap.size=b5 at *;clear hb5;go_wp2;go_loopw [9] (fun s wr=>∃j:Nat,j≤q.length∧s= .int .i64 j∧NumBlk wr gl (lessL q row c j)∧NumBlk wr gr row∧Blk wr b5 #[.bool cb,.string cS,.bool cc,.string cU]∧Keep (OnlyG gl) w wr) (fun s _=>(q.length-intOf s).toNat)
 case atStart=>exact⟨0,by omega,rfl,by rw [lessL_zero];exact HQ0.out,HR0.out,HB0.out,HK0.out⟩
 case round=>
  obtain⟨j,hj,rfl,hq',hr',hb',hk'⟩:=hrel;have HQ:=zh hq';have HR:=zh hr';have HB:=zh hb';have HK:=zh hk';clear hq' hr' hb' hk' HQ0 HR0 HB0 HK0
  by_cases hjl:j<q.length
  case neg=>
   have hlt:¬(j:Int)<(q.length:Int):=by omega
   obtain rfl:j=q.length:=by omega
   have HSA:=zh (lessL_all (q:=q) (row:=row) (c:=c));go_simp
   repeat go_step
   refine bodyPost_end (by simp [results,Tryz.results42,go_sem];rfl) rfl ?_
   exact⟨rfl,by rw [← HSA.out];exact HQ.out,HK.out⟩
  case pos=>
   have hlt:(j:Int)<(q.length:Int):=by omega
   have hjr:j<row.length:=by have:=HLEN.out;omega
   have hltr:(j:Int)<(row.length:Int):=by have:=HLEN.out;omega
   have hjq:j<(lessL q row c j).length:=by rw [lessL_len];exact hjl
   obtain⟨xb,xS,xc,xU,p0,p1,p2,p3,hx,_⟩:=HR.out.at (k:=j) hjr;obtain⟨yb,yS,yc,yU,m0,m1,m2,m3,hy,_⟩:=HQ.out.at (k:=j) hjq;rw [lessL_at hjl]at hy;have hgr:=HR.out.lt;have hgl:=HQ.out.lt;have nX:=HNR.out _ (List.getElem_mem hjr);have nY:=HNQ.out _ (List.getElem_mem hjl);have nZ:=dl_rmul row[j] c;have CT:=fun w=>zh (exTimes_gen w _ _ hx _ c HC.out (by omega))
   obtain⟨⟨tb,tS,tc,tU⟩,htq,htn⟩:=numQ_nv (row[j]*c);rw [htq]at CT;have CP:=fun w=>zh (exMinus_gen w _ _ hy _ _ htn (by omega))
   obtain⟨⟨rb,rS,rc,rU⟩,hrq,hrn⟩:=numQ_nv (q[j]-row[j]*c);rw [hrq]at CP;have HRN:=zh hrn;unfold NV.v at CT CP;simp only at CT CP;have HJQ:=zh hjq;have HSTEP:=zh (lessL_step (c:=c) hjl hjr);clear hx hy nX nY nZ htq htn hrq hrn;go_upto_region 4 with fail
   refine wp_region_by (fun w'=>Keep NoS wr w') [14] [([0,1,2,3,4,5,6,7,8,9,10],11),([],12),([13],14)] [] (by kernel_rfl) (by kernel_rfl) kp ?_
   intro X W hne' hF hcls;have HCL:=zh hcls;have y0:=fun x=>((hF x).cell hgl).trans m0
   have y1:=fun x=>((hF x).cell hgl).trans m1
   have y2:=fun x=>((hF x).cell hgl).trans m2
   have y3:=fun x=>((hF x).cell hgl).trans m3
   have x0:=fun x=>((hF x).cell hgr).trans p0
   have x1:=fun x=>((hF x).cell hgr).trans p1
   have x2:=fun x=>((hF x).cell hgr).trans p2
   have x3:=fun x=>((hF x).cell hgr).trans p3
   have z0:=fun x=>(HB.out.keep (hF x)).four
   clear hF hcls p0 p1 p2 p3 m0 m1 m2 m3;simp only [wpPlan,pickOps,zl0,zl1,zl2,clsOf,Bool.false_eq_true,if_false]
   (repeat(go_big_quiet_step (fail)));refine wpQuiet_nil ?_
   refine wpAt rfl rfl fun K hK=> ?_
   go_simp;refine(CT _).out.mono ?_;rintro e w5 ⟨rfl,hk⟩;have k5:Keep NoS wr w5:=Keep.trans kp hk fun _ _ _ h=>h
   refine hK _ _ ⟨fun _=>HCL.out _ k5,?_⟩
   clear hK K hk CT
   (repeat(go_big_quiet_step (fail)));refine wpQuiet_nil ?_
   refine wpAt rfl rfl fun K hK=> ?_
   go_simp;refine(CP _).out.mono ?_;rintro e w6 ⟨rfl,hk⟩;have k6:Keep NoS wr w6:=k5.both hk;refine hK _ _ ⟨fun _=>HCL.out _ k6,?_⟩
   clear hK K hk CP k5;have HQ6:=zh (HQ.out.keep k6);have HR6:=zh (HR.out.keep k6);have HB6:=zh (HB.out.keep k6);have K6:=zh (HK.out.onlyG k6);obtain⟨_,_,_,_,g0,g1,g2,g3,_,f0,f1,f2,f3⟩:=HQ6.out.at (k:=j) HJQ.out;have hg6:=HQ6.out.lt
   (repeat(go_big_quiet_step (fail)));refine wpQuiet_nil ?_
   refine wpAt rfl rfl fun K hK=> ?_
   go_simp;refine hK _ _ ⟨fun h=>(by simp at h),?_⟩
   clear hK K y0 y1 y2 y3 z0 x0 x1 x2 x3;have HQ7:Hid (NumBlk (q4 w6 gl (j*4) ⟨rb,rS,rc,rU⟩) gl (lessL q row c (j+1))):=zh (by rw [← HSTEP.out];exact HQ6.out.setQ HRN.out)
   have K7:Hid (Keep (OnlyG gl) w (q4 w6 gl (j*4) ⟨rb,rS,rc,rU⟩)):=zh (q4_only K6.out);have HR7:=zh (HR6.out.sameZ (q4_other (w:=w6) (o:=j*4) (x:=⟨rb,rS,rc,rU⟩) n1));have HB7:=zh (HB6.out.sameZ (q4_other (w:=w6) (o:=j*4) (x:=⟨rb,rS,rc,rU⟩) (Ne.symm hglw)));rw [show((((w6.setCell ⟨gl,j*4,none⟩ (.bool rb)).setCell ⟨gl,j*4+1,none⟩ (.string rS)).setCell ⟨gl,j*4+2,none⟩ (.bool rc)).setCell ⟨gl,j*4+3,none⟩ (.string rU))=q4 w6 gl (j*4) ⟨rb,rS,rc,rU⟩from rfl]
   generalize q4 w6 gl (j*4) ⟨rb,rS,rc,rU⟩=w7 at *;clear g0 g1 g2 g3 f0 f1 f2 f3 hg6 HQ6 HR6 HB6 K6
   (repeat(go_big_quiet_step (fail)));refine wpQuiet_nil ?_
   refine NoPanic.normal ?_;go_wp2;go_roundw
   case rel=>exact⟨j+1,by omega,by go_num,HQ7.out,HR7.out,HB7.out,K7.out⟩
   case measure=>simp [intOf];omega
theorem scaled_any (w:World)(v vc:Value)(l:List Rat)(c:Rat)(h:IsNums w v l)(hc:IsNum vc c)(nl:∀x∈l,dl x.num+dl c.num≤4096∧dl (x.den:Int)+dl (c.den:Int)≤4096)(hl:l.length≤1000):
  Calls Tryz.prog 45 #[v,vc] w fun e w'=>∃u,e= .returned u∧OwnN w' w.heap.size u (l.map (· *c))∧Keep NoS w w':=by
 obtain⟨⟨cb,cS,cc,cU⟩,rfl⟩:=isNum_nv hc;have HN:=zh h;have HC:=zh hc;have HNL:=zh nl;obtain⟨oa,ca,rfl,hca,hma⟩:=h.len;unfold NV.v;simp only;have ka:Keep NoS w (w.alloc (.cells #[.bool cb,.string cS,.bool cc,.string cU] 57)):=(Keep.refl _ _).alloc _;have HB0:Hid (Blk (w.alloc (.cells #[.bool cb,.string cS,.bool cc,.string cU] 57)) w.heap.size #[.bool cb,.string cS,.bool cc,.string cU]):=zh (blk_at _ _ rfl);have KA:=zh ka;have HS1:Hid ((w.alloc (.cells #[.bool cb,.string cS,.bool cc,.string cU] 57)).heap.size=w.heap.size+1):=zh (by simp)
 clear h hca hma hc nl;go_enter Tryz.func45,Tryz.ntmps45;go_upto_region 1 with fail
 clear ka;generalize w.alloc (.cells #[.bool cb,.string cS,.bool cc,.string cU] 57)=w1 at *;have HSB:Hid (w.heap.size=w.heap.size):=zh rfl;generalize hb3:w.heap.size=b3 at HB0 HSB ⊢;go_wp2;go_loopw [10,5] (fun s u wr=>∃k:Nat,k≤l.length∧s= .int .i64 k∧OwnN wr w1.heap.size u ((l.take k).map (· *c))∧Keep NoS w1 wr) (fun s _ _=>(l.length-intOf s).toNat)
 case atStart=>exact⟨0,by omega,rfl,OwnN.nil _ _,Keep.refl _ _⟩
 case round=>
  obtain⟨k,hk,rfl,hou,hkr⟩:=hrel;have HOU:=zh hou;have HKR:=zh hkr;clear hkr;have hlj:((l.take k).map (· *c)).length=k:=by rw [List.length_map,List.length_take];omega
  obtain⟨ob,cb',hu⟩:=hou.len;rw [hlj]at hu;subst hu;clear hou
  by_cases hkl:k<l.length
  ·have hlt:(k:Int)<(l.length:Int):=by omega
   obtain⟨b,o,rfl,hbl,xb,xS,yb,yS,p0,p1,p2,p3,hx⟩:=((HN.out.keep KA.out).keep HKR.out).at hkl;have CC:=fun w=>zh (exTimes_gen w _ _ hx _ c HC.out (HNL.out _ (List.getElem_mem hkl)))
   have HS:Hid ((l.take k).map (· *c)++ [l[k]*c]=(l.take (k+1)).map (· *c)):=zh (by rw [List.take_succ_eq_append_getElem hkl,List.map_append];rfl)
   obtain⟨⟨zb,zS,zc,zU⟩,hz,hzn⟩:=numQ_nv (l[k]*c);rw [hz]at CC;unfold NV.v at CC;simp only at CC;have HZN:=zh hzn;generalize l[k]*c=q at *;have kb:Keep NoS wr (wr.alloc (.cells #[.bool xb,.string xS,.bool yb,.string yS] 57)):=(Keep.refl _ _).alloc _;have HB7:Hid (Blk (wr.alloc (.cells #[.bool xb,.string xS,.bool yb,.string yS] 57)) wr.heap.size #[.bool xb,.string xS,.bool yb,.string yS]):=zh (blk_at _ _ rfl);clear hx hz hzn;go_upto_region 5 with fail
   have HKX:=zh (HKR.out.both kb);have HOX:=zh (HOU.out.keep kb);clear kb p0 p1 p2 p3 hbl HOU HKR;generalize wr.alloc (.cells #[.bool xb,.string xS,.bool yb,.string yS] 57)=wx at *;generalize wr.heap.size=b7 at *;obtain⟨s0,s1,s2,s3,_,_,_,_,sl⟩:=HB7.out.four;obtain⟨t0,t1,t2,t3,_,_,_,_,tl⟩:=(HB0.out.keep HKX.out).four;go_wp2_with fail;refine(CC _).out.mono ?_;rintro e w4 ⟨rfl,hk4⟩;have k4:Keep NoS wx w4:=Keep.trans kp hk4 fun _ _ _ h=>h
   have k5:Keep NoS wx (w4.alloc (.cells #[.bool zb,.string zS,.bool zc,.string zU] 57)):=k4.alloc _;have hs5:w1.heap.size≤(w4.alloc (.cells #[.bool zb,.string zS,.bool zc,.string zU] 57)).heap.size:=Nat.le_trans HKX.out.size k5.size;have hb5:Blk (w4.alloc (.cells #[.bool zb,.string zS,.bool zc,.string zU] 57)) w4.heap.size #[.bool zb,.string zS,.bool zc,.string zU]:=blk_at _ _ rfl;obtain⟨v',w',hr,ho',hg⟩:=app_num (HOX.out.keep k5) (x:=⟨zb,zS,zc,zU⟩) hb5 HZN.out (by rw [hlj];omega) hs5
   have K':=zh ((HKX.out.both k5).grown hg fun k hk=>HOX.out.block k hk)
   rw [HS.out]at ho';have HO':=zh ho';clear hg hk4 k4 k5 hs5 hb5 s0 s1 s2 s3 sl t0 t1 t2 t3 tl ho';go_wp2_with (at_builtin;refine wpList_app_run _ _ 49 _ _ rfl rfl rfl rfl hr ?_);go_roundw
   case rel=>exact⟨k+1,by omega,by go_num,HO'.out,K'.out⟩
   case measure=>simp [intOf];omega
  ·have hlt:¬(k:Int)<(l.length:Int):=by omega
   obtain rfl:k=l.length:=by omega
   have HO:Hid (OwnN wr w1.heap.size (.slice ob l.length cb') (l.map (· *c))):=zh (by have:=HOU.out;rwa [List.take_length]at this)
   go_wp2;go_ret;exact⟨_,rfl,OwnN.lower HO.out (by rw [HS1.out];omega),KA.out.both HKR.out⟩
def okI (a:Rat):Bool:=decide (is64 a.num∧a.den=1∧ -1000000≤a.num∧a.num≤1000000)
theorem ltInts_any (w:World)(v:Value)(l:List Rat)(h:IsNums w v l)(nl:∀x∈l,NB 4000 x)(hl:l.length≤1000):
  Calls Tryz.prog 22 #[v] w fun e w'=>∃u,e= .returned (.tuple #[u,.bool (l.all okI)])∧(l.all okI=true→OwnI w' w.heap.size u (l.map Rat.num))∧Keep NoS w w':=by
 have HN:=zh h;have HNL:=zh nl;obtain⟨oa,ca,rfl,hca,hma⟩:=h.len;clear h hca hma nl;go_enter Tryz.func22,Tryz.ntmps22;go_wp2;go_loopw [11,4] (fun s u wr=>∃k:Nat,k≤l.length∧s= .int .i64 k∧(∀i (h:i<l.length),i<k→okI l[i]=true)∧OwnI wr w.heap.size u ((l.take k).map Rat.num)∧Keep NoS w wr) (fun s _ _=>(l.length-intOf s).toNat)
 case atStart=>exact⟨0,by omega,rfl,fun i h h'=>absurd h' (by omega),OwnI.nil _ _,Keep.refl _ _⟩
 case round=>
  obtain⟨k,hk,rfl,hgood,hou,hkr⟩:=hrel;have HG:=zh hgood;have HOU:=zh hou;have HKR:=zh hkr;clear hkr hgood;have hlj:((l.take k).map Rat.num).length=k:=by rw [List.length_map,List.length_take];omega
  obtain⟨ob,cb',hu⟩:=hou.len;rw [hlj]at hu;subst hu;clear hou
  by_cases hkl:k<l.length
  ·have hlt:(k:Int)<(l.length:Int):=by omega
   obtain⟨b,o,rfl,hbl,xb,xS,yb,yS,p0,p1,p2,p3,hx⟩:=(HN.out.keep HKR.out).at hkl;have CS:=fun w=>zh (exSmall_any w _ _ hx ((HNL.out _ (List.getElem_mem hkl)).mono (by omega)))
   have HALL:Hid (okI l[k]=false→l.all okI=false):=zh fun h=>by
    rw [List.all_eq_false];exact⟨_,List.getElem_mem hkl,by rw [h];simp⟩
   have kb:Keep NoS wr (wr.alloc (.cells #[.bool xb,.string xS,.bool yb,.string yS] 57)):=(Keep.refl _ _).alloc _;have HB7:Hid (Blk (wr.alloc (.cells #[.bool xb,.string xS,.bool yb,.string yS] 57)) wr.heap.size #[.bool xb,.string xS,.bool yb,.string yS]):=zh (blk_at _ _ rfl);have HS:Hid ((l.take k).map Rat.num++ [(l[k]).num]=(l.take (k+1)).map Rat.num):=zh (by rw [List.take_succ_eq_append_getElem hkl,List.map_append];rfl)
   clear hx
   by_cases hok:is64 (l[k]).num∧(l[k]).den=1
   ·have e1:smallV l[k]= .tuple #[.int .i64 (l[k]).num,.bool true]:=by unfold smallV;rw [if_pos hok.1,decide_eq_true hok.1,decide_eq_true hok.2];rfl
    rw [e1]at CS;have HOK:=zh hok
    by_cases h1:(l[k]).num< -1000000
    ·have HBAD:Hid (okI l[k]=false):=zh (decide_eq_false fun h=>by omega)
     clear hok e1;generalize (l[k]).num=m at *;go_upto_region 5 with fail
     have HKX:=zh (HKR.out.both kb);have HOX:=zh (HOU.out.keep kb);clear kb p0 p1 p2 p3 hbl HOU HKR;generalize wr.alloc (.cells #[.bool xb,.string xS,.bool yb,.string yS] 57)=wx at *;generalize wr.heap.size=b7 at *;obtain⟨s0,s1,s2,s3,_,_,_,_,sl⟩:=HB7.out.four;go_wp2_with fail;refine(CS _).out.mono ?_;rintro e w4 ⟨rfl,hk4⟩;have K2:=zh (HKX.out.both hk4);have HO2:=zh (HOX.out.keep hk4);clear hk4 s0 s1 s2 s3 sl CS HB7 HOX HKX;go_simp
     repeat go_step
     refine bodyPost_ret (by simp [results,Tryz.results22,go_sem];rfl) rfl ?_
     exact⟨_,by rw [HALL.out HBAD.out],fun h=>(by rw [HALL.out HBAD.out]at h;cases h),K2.out⟩
    ·by_cases h2:1000000<(l[k]).num
     ·have HBAD:Hid (okI l[k]=false):=zh (decide_eq_false fun h=>by omega)
      clear hok e1;generalize (l[k]).num=m at *;go_upto_region 5 with fail
      have HKX:=zh (HKR.out.both kb);have HOX:=zh (HOU.out.keep kb);clear kb p0 p1 p2 p3 hbl HOU HKR;generalize wr.alloc (.cells #[.bool xb,.string xS,.bool yb,.string yS] 57)=wx at *;generalize wr.heap.size=b7 at *;obtain⟨s0,s1,s2,s3,_,_,_,_,sl⟩:=HB7.out.four;go_wp2_with fail;refine(CS _).out.mono ?_;rintro e w4 ⟨rfl,hk4⟩;have K2:=zh (HKX.out.both hk4);have HO2:=zh (HOX.out.keep hk4);clear hk4 s0 s1 s2 s3 sl CS HB7 HOX HKX;go_simp
      repeat go_step
      refine bodyPost_ret (by simp [results,Tryz.results22,go_sem];rfl) rfl ?_
      exact⟨_,by rw [HALL.out HBAD.out],fun h=>(by rw [HALL.out HBAD.out]at h;cases h),K2.out⟩
     ·have HGK:Hid (okI l[k]=true):=zh (decide_eq_true ⟨hok.1,hok.2,by omega,by omega⟩)
      clear hok e1;generalize (l[k]).num=m at *;go_upto_region 5 with fail
      have HKX:=zh (HKR.out.both kb);have HOX:=zh (HOU.out.keep kb);clear kb p0 p1 p2 p3 hbl HOU HKR;generalize wr.alloc (.cells #[.bool xb,.string xS,.bool yb,.string yS] 57)=wx at *;generalize wr.heap.size=b7 at *;obtain⟨s0,s1,s2,s3,_,_,_,_,sl⟩:=HB7.out.four;go_wp2_with fail;refine(CS _).out.mono ?_;rintro e w4 ⟨rfl,hk4⟩;have K2:=zh (HKX.out.both hk4);have HO2:=zh (HOX.out.keep hk4);clear hk4 s0 s1 s2 s3 sl CS HB7 HOX HKX;have k5:Keep NoS w (w4.alloc (.cells #[.int .i64 m] TI)):=K2.out.alloc _;obtain⟨v',w',hr,ho',hg⟩:=app_ints (HO2.out.keep ((Keep.refl NoS w4).alloc (.cells #[.int .i64 m] TI))) (one_int w4 m (by unfold I64;omega)) (by rw [hlj];simp;omega) (by have:=K2.out.size;simp;omega)
      have K':=zh (k5.grown hg fun k hk=>HO2.out.block k hk)
      rw [HS.out]at ho';have HO':=zh ho';clear hg k5 ho';go_wp2_with (at_builtin;refine wpList_app_run _ _ 24 _ _ rfl rfl rfl rfl hr ?_);go_roundw
      case rel=>exact⟨k+1,by omega,by go_num,fun i hi hik=>(by
       by_cases e:i=k
       ·subst e;exact HGK.out
       ·exact HG.out i hi (by omega)),HO'.out,K'.out⟩
      case measure=>simp [intOf];omega
   ·obtain ⟨m,e1⟩:∃m:Int,smallV l[k]= .tuple #[.int .i64 m,.bool false]:=⟨_,by
     unfold smallV;rw [show(decide (is64 (l[k]).num)&&decide ((l[k]).den=1))=false by rw [Bool.and_eq_false_iff];rcases Decidable.not_and_iff_or_not.1 hok with h | h;exact .inl (decide_eq_false h);exact .inr (decide_eq_false h)]⟩
    rw [e1]at CS;have HBAD:Hid (okI l[k]=false):=zh (decide_eq_false fun h=>hok ⟨h.1,h.2.1⟩)
    clear hok e1;go_upto_region 5 with fail
    have HKX:=zh (HKR.out.both kb);have HOX:=zh (HOU.out.keep kb);clear kb p0 p1 p2 p3 hbl HOU HKR;generalize wr.alloc (.cells #[.bool xb,.string xS,.bool yb,.string yS] 57)=wx at *;generalize wr.heap.size=b7 at *;obtain⟨s0,s1,s2,s3,_,_,_,_,sl⟩:=HB7.out.four;go_wp2_with fail;refine(CS _).out.mono ?_;rintro e w4 ⟨rfl,hk4⟩;have K2:=zh (HKX.out.both hk4);have HO2:=zh (HOX.out.keep hk4);clear hk4 s0 s1 s2 s3 sl CS HB7 HOX HKX;go_simp
    repeat go_step
    refine bodyPost_ret (by simp [results,Tryz.results22,go_sem];rfl) rfl ?_
    exact⟨_,by rw [HALL.out HBAD.out],fun h=>(by rw [HALL.out HBAD.out]at h;cases h),K2.out⟩
  ·have hlt:¬(k:Int)<(l.length:Int):=by omega
   obtain rfl:k=l.length:=by omega
   have HO:Hid (OwnI wr w.heap.size (.slice ob l.length cb') (l.map Rat.num)):=zh (by have:=HOU.out;rwa [List.take_length]at this)
   have HALL:Hid (l.all okI=true):=zh (by
    rw [List.all_eq_true];intro x hx;obtain⟨i,hi,rfl⟩:=List.getElem_of_mem hx;exact HG.out i hi hi)
   go_wp2;go_ret2;exact⟨_,by rw [HALL.out];rfl,fun _=>HO.out,HKR.out⟩
end Go.Proofs.YtcnjcnjipddgeaaGreat
