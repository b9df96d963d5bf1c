/- The reference's wideJoin: the walk. -/
import Derived.Test.YtamjmcdlddocgaaGreatFmD
namespace Go.Proofs.YtamjmcdlddocgaaGreat
set_option maxRecDepth 100000
set_option maxHeartbeats 32000000
set_option linter.unusedSimpArgs false
set_option linter.unusedVariables false
open Go.ChangeShapes Go.WideShapes Go.RowKit
def jq (a b:WR)(k j:Nat):List Rat:=(List.range j).map fun i=> -b.c k*a.c i+a.c k*b.c i
theorem jq_succ {a b:WR}{k j:Nat}:jq a b k (j+1)=jq a b k j++ [-b.c k*a.c j+a.c k*b.c j]:=by
 unfold jq;rw [List.range_succ,List.map_append];rfl
theorem jq_len {a b:WR}{k j:Nat}:(jq a b k j).length=j:=by unfold jq;simp
theorem wideJoin_any (w:World)(n k:Nat)(va vb:Value)(a b:WR)(ha:IsWR w n va a)(hb:IsWR w n vb b)(hk:k<n)(hn:n≤12)(na:∀j,NB 300 (a.c j))(nb:∀j,NB 300 (b.c j))(nta:NB 300 a.tt)(ntb:NB 300 b.tt):
  Calls Tryz.prog 42 #[va,vb,.int .i64 (k:Int),.int .i64 (n:Int)] w fun e w'=>∃v,e= .returned v∧Keep NoS w w'∧IsWR w' n v (joinW n k a b):=by
 obtain⟨sa,bta,rfl,hpa,hla,hta⟩:=ha;obtain⟨sb,btb,rfl,hpb,hlb,htb⟩:=hb;obtain⟨oa,ca,rfl,hna,hma⟩:=hpa.len;obtain⟨ob,cb,rfl,hnb,hmb⟩:=hpb.len;unfold maxLen at hma hmb;rw [hla]at hna;rw [hlb]at hnb;simp only [hla]at hpa ⊢;simp only [hlb]at hpb ⊢;obtain⟨ga,xa,rfl,hga,hca⟩:=hpa.all hla (by omega)
 obtain⟨gb,xb,rfl,hgb,hcb⟩:=hpb.all hlb (by omega)
 have HCA:=zh hca;have HCB:=zh hcb;have HLA:=zh hla;have HLB:=zh hlb;have HTA:=zh hta;have HTB:=zh htb;have hki:(k:Int)<(n:Int):=by omega
 clear hpa hpb hla hlb hta htb hca hcb;have HJL:Hid ((joinW n k a b).less=(a.less || b.less)):=zh rfl
 generalize a.less=la at *;generalize b.less=lb at *;go_enter Tryz.func42,Tryz.ntmps42;go_upto_region 1 with fail
 have HK0:Hid (Keep NoS w (((w.alloc (.cells #[.slice (some ⟨ga,xa,none⟩) n ca,.pointer (some ⟨bta,0,none⟩),.bool la] 82)).alloc (.cells #[.slice (some ⟨gb,xb,none⟩) n cb,.pointer (some ⟨btb,0,none⟩),.bool lb] 82)).alloc (.cells #[.slice none 0 0,.pointer none,.bool false] 82))):=zh kp;have HB4:Hid (Blk (((w.alloc (.cells #[.slice (some ⟨ga,xa,none⟩) n ca,.pointer (some ⟨bta,0,none⟩),.bool la] 82)).alloc (.cells #[.slice (some ⟨gb,xb,none⟩) n cb,.pointer (some ⟨btb,0,none⟩),.bool lb] 82)).alloc (.cells #[.slice none 0 0,.pointer none,.bool false] 82)) w.heap.size #[.slice (some ⟨ga,xa,none⟩) n ca,.pointer (some ⟨bta,0,none⟩),.bool la]):=zh kc;have HB5:Hid (Blk (((w.alloc (.cells #[.slice (some ⟨ga,xa,none⟩) n ca,.pointer (some ⟨bta,0,none⟩),.bool la] 82)).alloc (.cells #[.slice (some ⟨gb,xb,none⟩) n cb,.pointer (some ⟨btb,0,none⟩),.bool lb] 82)).alloc (.cells #[.slice none 0 0,.pointer none,.bool false] 82)) (w.heap.size+1) #[.slice (some ⟨gb,xb,none⟩) n cb,.pointer (some ⟨btb,0,none⟩),.bool lb]):=zh kc;have HB8:Hid ((((w.alloc (.cells #[.slice (some ⟨ga,xa,none⟩) n ca,.pointer (some ⟨bta,0,none⟩),.bool la] 82)).alloc (.cells #[.slice (some ⟨gb,xb,none⟩) n cb,.pointer (some ⟨btb,0,none⟩),.bool lb] 82)).alloc (.cells #[.slice none 0 0,.pointer none,.bool false] 82)).heap[w.heap.size+1+1]? =some (.cells #[.slice none 0 0,.pointer none,.bool false] TWR (0,0))):=zh (heap_alloc_at _ _ _ (by simp))
 generalize ((w.alloc (.cells #[.slice (some ⟨ga,xa,none⟩) n ca,.pointer (some ⟨bta,0,none⟩),.bool la] 82)).alloc (.cells #[.slice (some ⟨gb,xb,none⟩) n cb,.pointer (some ⟨btb,0,none⟩),.bool lb] 82)).alloc (.cells #[.slice none 0 0,.pointer none,.bool false] 82)=w0 at *;have HS8:Hid (w.heap.size≤w.heap.size+1+1):=zh (by omega)
 generalize w.heap.size+1+1=b8 at HS8 HB8 ⊢;generalize w.heap.size+1=b5 at HB5 ⊢;generalize hb4:w.heap.size=b4 at HB4 ⊢;clear hb4;obtain⟨ba,hcak,hra⟩:=HCA.out k hk;obtain⟨bb,hcbk,hrb⟩:=HCB.out k hk;have HRA:=zh (hra.ofNewer HK0.out);have HRB:=zh (hrb.ofNewer HK0.out);have hcak:=(HK0.out.cell hga).trans hcak;have hcbk:=(HK0.out.cell hgb).trans hcbk;have hga0:=Nat.lt_of_lt_of_le hga HK0.out.size;have hgb0:=Nat.lt_of_lt_of_le hgb HK0.out.size;clear hra hrb;refine wp_region_by (fun w'=>Keep NoS w0 w') [] [([1,2,3,4,5,7,8,9,10,11],0),([],6)] [12,13] (by kernel_rfl) (by kernel_rfl) kp ?_
 intro X W hne hF hcl;have HCL:=zh hcl;have z4:=fun x=>(HB4.out.keep (hF x)).cell 0
 have z5:=fun x=>(HB5.out.keep (hF x)).cell 0
 have y4:=fun x=>(HB4.out.keep (hF x)).lt
 have y5:=fun x=>(HB5.out.keep (hF x)).lt
 have za:=fun x=>((hF x).cell hga0).trans hcak
 have zb:=fun x=>((hF x).cell hgb0).trans hcbk
 have ya:=fun x=>Nat.lt_of_lt_of_le hga0 (hF x).size
 have yb:=fun x=>Nat.lt_of_lt_of_le hgb0 (hF x).size
 clear hF hcl;simp only [wpPlan,pickOps,zl0,zl1,zl2,clsOf,Bool.false_eq_true,if_false]
 (repeat(quiet_step (fail)));refine wpQuiet_nil ?_
 refine wpAt rfl rfl fun K hK=> ?_
 go_simp;have k1:Keep NoS w0 (w0.alloc (.cells ratCells 62)).drew:=kp;refine hK _ _ ⟨fun _=>HCL.out _ k1,?_⟩
 clear hK;have HF:Hid (Fresh (w0.alloc (.cells ratCells 62)).drew w0.heap.size):=zh ((Fresh.new w0).keep ((Keep.refl _ _).drew));have HK1:=zh k1;clear k1;generalize (w0.alloc (.cells ratCells 62)).drew=w1 at*
 (repeat(quiet_step (fail)));refine wpQuiet_nil ?_
 refine wpAt rfl rfl fun K hK=> ?_
 go_simp;refine(wNegZ w1 w0.heap.size 0 bb 0 _ HF.out.rhdr (HRB.out.ofNewer HK1.out) ((nb k).mono (by omega))).mono ?_
 rintro e w2 ⟨rfl,hk2,hi2⟩;have HK2:=zh (HK1.out.newerR hk2 (Nat.le_refl _));refine hK _ _ ⟨fun _=>HCL.out _ HK2.out,?_⟩
 clear hK z4 z5 y4 y5 za zb ya yb hk2;have HX:Hid (IsRat w2 w0.heap.size 0 (-(b.c k))):=zh hi2;obtain⟨bx,hbx⟩:∃x,x=w0.heap.size:=⟨_,rfl⟩;rw [← hbx]at HX ⊢;clear hbx hi2 HF HK1
 (repeat(quiet_step (fail)));refine wpQuiet_nil ?_
 refine NoPanic.normal ?_;clear hne HCL W X;have HB4:=zh (HB4.out.keep HK2.out);have HB5:=zh (HB5.out.keep HK2.out);have HB8:=zh ((HK2.out.block _ (lt_of_heap HB8.out) fun _ h=>h).trans HB8.out)
 have HK3:=zh (HK0.out.both HK2.out);have HRA:Hid (IsRat w2 ba 0 (a.c k)):=zh (HRA.out.ofNewer HK2.out);have HTA:=zh (HTA.out.ofNewer HK3.out);have HTB:=zh (HTB.out.ofNewer HK3.out);have HCA:Hid (∀j,j<n→∃b,w2.cell? ⟨ga,xa+j,none⟩=some (.pointer (some ⟨b,0,none⟩))∧IsRat w2 b 0 (a.c j)):=zh (fun j hj=>by
  obtain⟨b,h1,h2⟩:=HCA.out j hj;exact⟨b,(HK3.out.cell hga).trans h1,h2.ofNewer HK3.out⟩)
 have HCB:Hid (∀j,j<n→∃b',w2.cell? ⟨gb,xb+j,none⟩=some (.pointer (some ⟨b',0,none⟩))∧IsRat w2 b' 0 (b.c j)):=zh (fun j hj=>by
  obtain⟨b,h1,h2⟩:=HCB.out j hj;exact⟨b,(HK3.out.cell hgb).trans h1,h2.ofNewer HK3.out⟩)
 have hga:=Nat.lt_of_lt_of_le hga HK3.out.size;have hgb:=Nat.lt_of_lt_of_le hgb HK3.out.size;clear HK0 HK2 HRB hcak hcbk hga0 hgb0;generalize w2=w0 at *;obtain⟨t0,t1,t2,_,_,_,tl⟩:=HB4.out.three;obtain⟨u0,u1,u2,_,_,_,ul⟩:=HB5.out.three;go_upto_region 2 with fail
 go_cut [11]from 25 to 31 (fun s wx=>∃b11,s= .pointer (some ⟨b11,0,none⟩)∧Keep NoS w0 wx∧w0.heap.size≤b11∧wx.heap[b11]? =some (.cells #[.slice none 0 0,.pointer none,.bool (la || lb)] TWR (0,0)))
 case first=>
  rcases la with _ | _
  all_goals
   go_wp2_with fail;go_meet;exact⟨_,rfl,kp,Nat.le_refl _,heap_alloc_at _ _ _ rfl⟩
 case rest=>
  obtain⟨b11,rfl,hk1,hb11,hs11⟩:=hcut;obtain⟨w1,rfl⟩:∃W:World,W=wc:=⟨_,rfl⟩;have HJ0:Hid (JC w0 w1 b11 bx (-(b.c k)) (.slice none 0 0) (.pointer none) (.slice none 0 0) (la || lb) []):=zh ⟨hk1,HX.out.ofNewer hk1,hs11,hb11,⟨_,_,_,rfl⟩,OwnP.nil _ _,by simp [Value.ownBlock]⟩
  generalize hle:(la || lb)=le at*
  have HLE:=zh hle;clear hle t0 t1 t2 u0 u1 u2 hk1 hs11 hb11;go_wp2;go_loopw [12] (fun s wr=>∃(j:Nat) (P:Value),j≤n∧s= .int .i64 j∧JC w0 wr b11 bx (-(b.c k)) P (.pointer none) P le (jq a b k j)) (fun s _=>(n-intOf s).toNat)
  case atStart=>exact⟨0,_,by omega,rfl,HJ0.out⟩
  case round=>
   obtain⟨j,P,hj,rfl,hjc⟩:=hrel;have HJ:=zh hjc;clear hjc HJ0
   by_cases hjn:j<n
   case neg=>
    have hlt:¬(j:Int)<(n:Int):=by omega
    go_upto_region 7 with fail
    obtain⟨op,np,cp,rfl⟩:=HJ.out.f;obtain rfl:j=n:=by omega
    have HNX:=zh ((nb k).neg.mono (k:=2000) (by omega))
    have HNY:=zh ((na k).mono (k:=2000) (by omega))
    have HNA:=zh (nta.mono (k:=2000) (by omega))
    have HNB:=zh (ntb.mono (k:=2000) (by omega))
    have HN1:=zh (((nb k).neg.mul nta).mono (k:=2000) (by omega))
    have HN2:=zh (((na k).mul ntb).mono (k:=2000) (by omega))
    refine wp_region_rel (fun S σ w'=>C7 w0 b11 bx (-(b.c k)) (.slice op np cp) (.pointer none) le (jq a b k j) S σ w') (pst7 w0.heap.size b4 b5 b11 bx ba (.slice (some ⟨ga,xa,none⟩) j ca) (.slice (some ⟨gb,xb,none⟩) j cb) (.slice op np cp) (.int .i64 (j:Int)) (Value.pointer (some ⟨ga,xa+j,none⟩)) (Value.pointer (some ⟨gb,xb+j,none⟩)) (Value.pointer (some ⟨bta,0,none⟩)) (Value.pointer (some ⟨btb,0,none⟩)) (-(b.c k)*a.tt) (a.c k*b.tt) (-(b.c k)*a.tt+a.c k*b.tt)) (by kernel_rfl) (by kernel_rfl) (by kernel_rfl) (by kernel_rfl) (fun S σ hS=>⟨by simp only [hS,Bool.false_eq_true,if_false];exact HJ.out.keep ((Keep.refl _ _).drew),fun i _ _ _ _ h _=>by rw [hS]at h;cases h⟩) _ (fun σ=>by
     show putAll _ σ [0,1,2,3,4,5,6,7,8,9,10,11,12,13] _=_;simp only [putAll,zl0,zl1,zl2,Act.put,List.setIfInBounds_toArray,List.set_cons_zero,List.set_cons_succ];rfl) ?_ ?_
    ·intro S σ w1 hC hall e he HK
     have he:e<14:=he;have hC:C7 w0 b11 bx (-(b.c k)) (.slice op np cp) (.pointer none) le (jq a b k j) S σ w1:=hC;obtain rfl | rfl | rfl | rfl | rfl | rfl | rfl | rfl | rfl | rfl | rfl | rfl | rfl | rfl:e=0∨e=1∨e=2∨e=3∨e=4∨e=5∨e=6∨e=7∨e=8∨e=9∨e=10∨e=11∨e=12∨e=13:=by omega
     ·have hp:∀i∈ [0,1,6],S i=true→∃b',σ i= .pointer (some ⟨b',0,none⟩)∧b'<w1.heap.size:=fun i hi hs=>by
       simp only [List.mem_cons,List.not_mem_nil,or_false]at hi
       rcases hi with rfl | rfl | rfl
       ·obtain ⟨b',e1,_,e2,_⟩:=(show PFq (S 11) w0.heap.size (σ 0) w1 from hall 0 hs)
        exact⟨b',e1,e2⟩
       ·obtain ⟨b',e1,_,e2,_⟩:=(show PFq (S 5) w0.heap.size (σ 1) w1 from hall 1 hs)
        exact⟨b',e1,e2⟩
       ·obtain ⟨b',e1,_,e2,_⟩:=(show PFq (S 10) w0.heap.size (σ 6) w1 from hall 6 hs)
        exact⟨b',e1,e2⟩
      refine wpAt rfl rfl fun K hK=> ?_
      go_simp;exact hK _ _ ⟨_,hC.new ((Keep.refl _ _).alloc _) (by decide) hp,fun d hd hs h=>pst7_keep ((Keep.refl _ _).alloc _) d _ h,rfl,⟨w1.heap.size,rfl,hC.1.k.size,by simp,fun _=>Fresh.new w1⟩⟩
     ·have hp:∀i∈ [0,1,6],S i=true→∃b',σ i= .pointer (some ⟨b',0,none⟩)∧b'<w1.heap.size:=fun i hi hs=>by
       simp only [List.mem_cons,List.not_mem_nil,or_false]at hi
       rcases hi with rfl | rfl | rfl
       ·obtain ⟨b',e1,_,e2,_⟩:=(show PFq (S 11) w0.heap.size (σ 0) w1 from hall 0 hs)
        exact⟨b',e1,e2⟩
       ·obtain ⟨b',e1,_,e2,_⟩:=(show PFq (S 5) w0.heap.size (σ 1) w1 from hall 1 hs)
        exact⟨b',e1,e2⟩
       ·obtain ⟨b',e1,_,e2,_⟩:=(show PFq (S 10) w0.heap.size (σ 6) w1 from hall 6 hs)
        exact⟨b',e1,e2⟩
      refine wpAt rfl rfl fun K hK=> ?_
      go_simp;exact hK _ _ ⟨_,hC.new ((Keep.refl _ _).alloc _) (by decide) hp,fun d hd hs h=>pst7_keep ((Keep.refl _ _).alloc _) d _ h,rfl,⟨w1.heap.size,rfl,hC.1.k.size,by simp,fun _=>Fresh.new w1⟩⟩
     ·refine wpAt rfl rfl fun K hK=> ?_
      go_simp;exact hK _ _ ⟨_,hC.q (Keep.refl _ _) (by decide),fun d hd hs h=>pst7_keep (Keep.refl _ _) d _ h,rfl,rfl⟩
     ·refine wpAt rfl rfl fun K hK=> ?_
      go_simp;exact hK _ _ ⟨_,hC.q (Keep.refl _ _) (by decide),fun d hd hs h=>pst7_keep (Keep.refl _ _) d _ h,rfl,rfl⟩
     ·have h3:σ 3=Value.pointer (some ⟨b4,1,none⟩):=HK.post 3 (by kernel_rfl)
      rw [h3];obtain⟨m0,m1,m2,_,_,_,ml⟩:=(HB4.out.keep hC.1.k).three;refine wpAt rfl rfl fun K hK=> ?_
      go_simp;exact hK _ _ ⟨_,hC.q (Keep.refl _ _) (by decide),fun d hd hs h=>pst7_keep (Keep.refl _ _) d _ h,rfl,rfl⟩
     ·have h2:σ 2=Value.pointer (some ⟨bx,0,none⟩):=HK.post 2 (by kernel_rfl)
      rw [h2];have h4:σ 4=Value.pointer (some ⟨bta,0,none⟩):=HK.post 4 (by kernel_rfl)
      rw [h4];obtain⟨bz,ez,hgz,_,hz⟩:=(show PFq (S 5) w0.heap.size (σ 1) w1 from HK.post 1 (by kernel_rfl))
      have hz:=hz HK.self;rw [ez];refine wpAt rfl rfl fun K hK=> ?_
      go_simp;refine(wMul_any w1 bz 0 bx 0 bta 0 _ _ hz.rhdr hC.1.x (HTA.out.ofNewer hC.1.k) HNX.out HNA.out).mono ?_;rintro e w2 ⟨rfl,hk2,hi2⟩;exact hK _ _ ⟨_,hC.at hz hgz hk2 (by decide) (HK.down 13 (by kernel_rfl)),fun d hd hs h=>pst7_st (StepJ.at hz hk2) d _ (fun ed b' hb hv=>by
       subst ed
       cases hb
       exact absurd (hv.trans ez.symm) (hC.2 0 (by decide) 1 (by decide) (by decide) hs (HK.up 1 (by kernel_rfl)))) (fun _ _ _ _=>rfl) (fun ed b' hb hv=>by
       subst ed
       cases hb
       exact absurd (hv.trans ez.symm) (hC.2 6 (by decide) 1 (by decide) (by decide) hs (HK.up 1 (by kernel_rfl)))) h,rfl,⟨bz,rfl,hgz,hi2⟩⟩
     ·have hp:∀i∈ [0,1,6],S i=true→∃b',σ i= .pointer (some ⟨b',0,none⟩)∧b'<w1.heap.size:=fun i hi hs=>by
       simp only [List.mem_cons,List.not_mem_nil,or_false]at hi
       rcases hi with rfl | rfl | rfl
       ·obtain ⟨b',e1,_,e2,_⟩:=(show PFq (S 11) w0.heap.size (σ 0) w1 from hall 0 hs)
        exact⟨b',e1,e2⟩
       ·obtain ⟨b',e1,_,e2,_⟩:=(show PFq (S 5) w0.heap.size (σ 1) w1 from hall 1 hs)
        exact⟨b',e1,e2⟩
       ·obtain ⟨b',e1,_,e2,_⟩:=(show PFq (S 10) w0.heap.size (σ 6) w1 from hall 6 hs)
        exact⟨b',e1,e2⟩
      refine wpAt rfl rfl fun K hK=> ?_
      go_simp;exact hK _ _ ⟨_,hC.new ((Keep.refl _ _).alloc _) (by decide) hp,fun d hd hs h=>pst7_keep ((Keep.refl _ _).alloc _) d _ h,rfl,⟨w1.heap.size,rfl,hC.1.k.size,by simp,fun _=>Fresh.new w1⟩⟩
     ·refine wpAt rfl rfl fun K hK=> ?_
      go_simp;exact hK _ _ ⟨_,hC.q (Keep.refl _ _) (by decide),fun d hd hs h=>pst7_keep (Keep.refl _ _) d _ h,rfl,rfl⟩
     ·refine wpAt rfl rfl fun K hK=> ?_
      go_simp;exact hK _ _ ⟨_,hC.q (Keep.refl _ _) (by decide),fun d hd hs h=>pst7_keep (Keep.refl _ _) d _ h,rfl,rfl⟩
     ·have h8:σ 8=Value.pointer (some ⟨b5,1,none⟩):=HK.post 8 (by kernel_rfl)
      rw [h8];obtain⟨m0,m1,m2,_,_,_,ml⟩:=(HB5.out.keep hC.1.k).three;refine wpAt rfl rfl fun K hK=> ?_
      go_simp;exact hK _ _ ⟨_,hC.q (Keep.refl _ _) (by decide),fun d hd hs h=>pst7_keep (Keep.refl _ _) d _ h,rfl,rfl⟩
     ·have h7:σ 7=Value.pointer (some ⟨ba,0,none⟩):=HK.post 7 (by kernel_rfl)
      rw [h7];have h9:σ 9=Value.pointer (some ⟨btb,0,none⟩):=HK.post 9 (by kernel_rfl)
      rw [h9];obtain⟨bz,ez,hgz,_,hz⟩:=(show PFq (S 10) w0.heap.size (σ 6) w1 from HK.post 6 (by kernel_rfl))
      have hz:=hz HK.self;rw [ez];refine wpAt rfl rfl fun K hK=> ?_
      go_simp;refine(wMul_any w1 bz 0 ba 0 btb 0 _ _ hz.rhdr (HRA.out.ofNewer hC.1.k) (HTB.out.ofNewer hC.1.k) HNY.out HNB.out).mono ?_;rintro e w2 ⟨rfl,hk2,hi2⟩;exact hK _ _ ⟨_,hC.at hz hgz hk2 (by decide) (HK.down 13 (by kernel_rfl)),fun d hd hs h=>pst7_st (StepJ.at hz hk2) d _ (fun ed b' hb hv=>by
       subst ed
       cases hb
       exact absurd (hv.trans ez.symm) (hC.2 0 (by decide) 6 (by decide) (by decide) hs (HK.up 6 (by kernel_rfl)))) (fun ed b' hb hv=>by
       subst ed
       cases hb
       exact absurd (hv.trans ez.symm) (hC.2 1 (by decide) 6 (by decide) (by decide) hs (HK.up 6 (by kernel_rfl)))) (fun _ _ _ _=>rfl) h,rfl,⟨bz,rfl,hgz,hi2⟩⟩
     ·obtain ⟨bu,eu,hgu,hu⟩:=(show PRat w0.heap.size (-(b.c k)*a.tt) (σ 5) w1 from HK.post 5 (by kernel_rfl))
      obtain⟨bt,et,hgt,ht⟩:=(show PRat w0.heap.size (a.c k*b.tt) (σ 10) w1 from HK.post 10 (by kernel_rfl))
      rw [eu,et];obtain⟨bz,ez,hgz,_,hz⟩:=(show PFq (S 11) w0.heap.size (σ 0) w1 from HK.post 0 (by kernel_rfl))
      have hz:=hz HK.self;rw [ez];refine wpAt rfl rfl fun K hK=> ?_
      go_simp;refine(wAdd_any w1 bz 0 bu 0 bt 0 _ _ hz.rhdr hu ht HN1.out HN2.out).mono ?_;rintro e w2 ⟨rfl,hk2,hi2⟩;exact hK _ _ ⟨_,hC.at hz hgz hk2 (by decide) (HK.down 13 (by kernel_rfl)),fun d hd hs h=>pst7_st (StepJ.at hz hk2) d _ (fun _ _ _ _=>rfl) (fun ed b' hb hv=>by
       subst ed
       cases hb
       exact absurd (hv.trans ez.symm) (hC.2 1 (by decide) 0 (by decide) (by decide) hs (HK.up 0 (by kernel_rfl)))) (fun ed b' hb hv=>by
       subst ed
       cases hb
       exact absurd (hv.trans ez.symm) (hC.2 6 (by decide) 0 (by decide) (by decide) hs (HK.up 0 (by kernel_rfl)))) h,rfl,⟨bz,rfl,hgz,hi2⟩⟩
     ·refine wpAt rfl rfl fun K hK=> ?_
      go_simp;exact hK _ _ ⟨_,hC.q (Keep.refl _ _) (by decide),fun d hd hs h=>pst7_keep (Keep.refl _ _) d _ h,rfl,rfl⟩
     ·have h12:σ 12=Value.pointer (some ⟨b11,1,none⟩):=HK.post 12 (by kernel_rfl)
      rw [h12];obtain⟨bz,ez,hgz,hiz⟩:=(show PRat w0.heap.size (-(b.c k)*a.tt+a.c k*b.tt) (σ 11) w1 from HK.post 11 (by kernel_rfl))
      have h26:=hC.store (v:=undef) HK.self;have hb:=hC.blk;rw [HK.self]at hb;simp only [Bool.false_eq_true,if_false]at hb;obtain⟨m0,m1,m2,f0,f1,f2,ml⟩:=(show Blk w1 b11 _ from⟨_,hb⟩).three
      have hst:StepJ w1 (w1.setCell ⟨b11,1,none⟩ (σ 11)) none:=StepJ.set hb ⟨_,_,_,rfl⟩;rw [ez]at h26 hst ⊢;refine wpAt rfl rfl fun K hK=> ?_
      go_simp;exact hK _ _ ⟨undef,h26,fun d hd hs h=>pst7_st hst d _ (fun _ _ h=>by cases h) (fun _ _ h=>by cases h) (fun _ _ h=>by cases h) h,rfl,trivial⟩
    ·intro S σ w2 hC hS hP
     have hC:C7 w0 b11 bx (-(b.c k)) (.slice op np cp) (.pointer none) le (jq a b k j) S σ w2:=hC;obtain⟨bz,e11,hgz,hiz⟩:=(show PRat w0.heap.size (-(b.c k)*a.tt+a.c k*b.tt) (σ 11) w2 from hP 11 (by decide))
     have hj2:=hC.fin fun e he=>hS e he
     rw [e11]at hj2;have HJ2:=zh hj2;have HIZ:=zh hiz;clear hP hS hC HJ hj2 hiz e11;refine NoPanic.normal ?_;obtain⟨m0,m1,m2,f0,f1,f2,ml⟩:=(show Blk w2 b11 _ from⟨_,HJ2.out.s⟩).three
     have HB82:=zh ((HJ2.out.k.block _ (lt_of_heap HB8.out) fun _ h=>h).trans HB8.out)
     obtain⟨n0,n1,n2,g0,g1,g2,nl⟩:=(show Blk w2 b8 _ from⟨_,HB82.out⟩).three
     go_wp2_with fail;refine bodyPost_ret (by simp [results,Tryz.results42,go_sem,n0,n1,n2,nl];rfl) rfl ?_
     have ho:∀i,i≠b8→(((w2.setCell ⟨b8,0,none⟩ (.slice op np cp)).setCell ⟨b8,1,none⟩ (.pointer (some ⟨bz,0,none⟩))).setCell ⟨b8,2,none⟩ (.bool le)).heap[i]? =w2.heap[i]? :=fun i hi=>by
      rw [heap_setCell_other _ _ _ _ hi,heap_setCell_other _ _ _ _ hi,heap_setCell_other _ _ _ _ hi]
     refine⟨_,rfl,?_,_,bz,?_,HJ2.out.o.prs.setWR HB82.out ⟨_,_,_,rfl⟩ ho,jq_len,HIZ.out.setWR HB82.out ⟨_,_,_,rfl⟩ ho⟩
     ·have k:=HK3.out.both HJ2.out.k
      exact((k.setCell _ fun hh=>absurd hh (Nat.not_lt.2 HS8.out)).setCell _ fun hh=>absurd hh (Nat.not_lt.2 HS8.out)).setCell _ fun hh=>absurd hh (Nat.not_lt.2 HS8.out)
     ·rw [HJL.out]
   case pos=>
    have hlt:(j:Int)<(n:Int):=by omega
    go_upto_region 6 with fail
    obtain⟨op,np,cp,rfl⟩:=HJ.out.f;obtain⟨pa,hcj,hrj⟩:=HCA.out j hjn;obtain⟨pb,hdj,hsj⟩:=HCB.out j hjn;have HRJ:=zh hrj;have HSJ:=zh hsj;clear hrj hsj;have HNX:=zh ((nb k).neg.mono (k:=2000) (by omega))
    have HNY:=zh ((na k).mono (k:=2000) (by omega))
    have HNA:=zh ((na j).mono (k:=2000) (by omega))
    have HNB:=zh ((nb j).mono (k:=2000) (by omega))
    have HN1:=zh (((nb k).neg.mul (na j)).mono (k:=2000) (by omega))
    have HN2:=zh (((na k).mul (nb j)).mono (k:=2000) (by omega))
    refine wp_region_rel (fun S σ w'=>C6 w0 b11 bx (-(b.c k)) (.slice op np cp) (.pointer none) le (jq a b k j) (-(b.c k)*a.c j+a.c k*b.c j) S σ w') (pst6 w0.heap.size b4 b5 b11 bx ba (.slice (some ⟨ga,xa,none⟩) n ca) (.slice (some ⟨gb,xb,none⟩) n cb) (.slice op np cp) (.int .i64 (j:Int)) (Value.pointer (some ⟨ga,xa+j,none⟩)) (Value.pointer (some ⟨gb,xb+j,none⟩)) (Value.pointer (some ⟨pa,0,none⟩)) (Value.pointer (some ⟨pb,0,none⟩)) (-(b.c k)*a.c j) (a.c k*b.c j) (-(b.c k)*a.c j+a.c k*b.c j)) (by kernel_rfl) (by kernel_rfl) (by kernel_rfl) (by kernel_rfl) (fun S σ hS=>⟨by simp only [hS,Bool.false_eq_true,if_false];exact HJ.out.keep ((Keep.refl _ _).drew),fun i _ _ _ _ h _=>by rw [hS]at h;cases h⟩) _ (fun σ=>by
     show putAll _ σ [0,1,2,3,4,5,6,7,8,9,10,11,12,13,14,15,16,17,18,19,20,21,22,23] _=_;simp only [putAll,zl0,zl1,zl2,Act.put,List.setIfInBounds_toArray,List.set_cons_zero,List.set_cons_succ];rfl) ?_ ?_
    ·intro S σ w1 hC hall e he HK
     have he:e<24:=he;have hC:C6 w0 b11 bx (-(b.c k)) (.slice op np cp) (.pointer none) le (jq a b k j) (-(b.c k)*a.c j+a.c k*b.c j) S σ w1:=hC;obtain rfl | rfl | rfl | rfl | rfl | rfl | rfl | rfl | rfl | rfl | rfl | rfl | rfl | rfl | rfl | rfl | rfl | rfl | rfl | rfl | rfl | rfl | rfl | rfl:e=0∨e=1∨e=2∨e=3∨e=4∨e=5∨e=6∨e=7∨e=8∨e=9∨e=10∨e=11∨e=12∨e=13∨e=14∨e=15∨e=16∨e=17∨e=18∨e=19∨e=20∨e=21∨e=22∨e=23:=by omega
     ·refine wpAt rfl rfl fun K hK=> ?_
      go_simp;exact hK _ _ ⟨_,hC.q (Keep.refl _ _) (by decide),fun d hd hs h=>pst6_keep (Keep.refl _ _) d _ h,rfl,rfl⟩
     ·have h0:σ 0=Value.pointer (some ⟨b11,0,none⟩):=HK.post 0 (by kernel_rfl)
      rw [h0];have hb:=hC.blk;rw [HK.down 23 (by kernel_rfl)]at hb
      simp only [Bool.false_eq_true,if_false]at hb;obtain⟨m0,m1,m2,f0,f1,f2,ml⟩:=(show Blk w1 b11 _ from⟨_,hb⟩).three
      refine wpAt rfl rfl fun K hK=> ?_
      go_simp;exact hK _ _ ⟨_,hC.q (Keep.refl _ _) (by decide),fun d hd hs h=>pst6_keep (Keep.refl _ _) d _ h,rfl,rfl⟩
     ·have hp:∀i∈ [2,3,11],S i=true→∃b',σ i= .pointer (some ⟨b',0,none⟩)∧b'<w1.heap.size:=fun i hi hs=>by
       simp only [List.mem_cons,List.not_mem_nil,or_false]at hi
       rcases hi with rfl | rfl | rfl
       ·obtain ⟨b',e1,_,e2,_⟩:=(show PFq (S 19) w0.heap.size (σ 2) w1 from hall 2 hs)
        exact⟨b',e1,e2⟩
       ·obtain ⟨b',e1,_,e2,_⟩:=(show PFq (S 10) w0.heap.size (σ 3) w1 from hall 3 hs)
        exact⟨b',e1,e2⟩
       ·obtain ⟨b',e1,_,e2,_⟩:=(show PFq (S 18) w0.heap.size (σ 11) w1 from hall 11 hs)
        exact⟨b',e1,e2⟩
      refine wpAt rfl rfl fun K hK=> ?_
      go_simp;exact hK _ _ ⟨_,hC.new ((Keep.refl _ _).alloc _) (by decide) hp,fun d hd hs h=>pst6_keep ((Keep.refl _ _).alloc _) d _ h,rfl,⟨w1.heap.size,rfl,hC.1.k.size,by simp,fun _=>Fresh.new w1⟩⟩
     ·have hp:∀i∈ [2,3,11],S i=true→∃b',σ i= .pointer (some ⟨b',0,none⟩)∧b'<w1.heap.size:=fun i hi hs=>by
       simp only [List.mem_cons,List.not_mem_nil,or_false]at hi
       rcases hi with rfl | rfl | rfl
       ·obtain ⟨b',e1,_,e2,_⟩:=(show PFq (S 19) w0.heap.size (σ 2) w1 from hall 2 hs)
        exact⟨b',e1,e2⟩
       ·obtain ⟨b',e1,_,e2,_⟩:=(show PFq (S 10) w0.heap.size (σ 3) w1 from hall 3 hs)
        exact⟨b',e1,e2⟩
       ·obtain ⟨b',e1,_,e2,_⟩:=(show PFq (S 18) w0.heap.size (σ 11) w1 from hall 11 hs)
        exact⟨b',e1,e2⟩
      refine wpAt rfl rfl fun K hK=> ?_
      go_simp;exact hK _ _ ⟨_,hC.new ((Keep.refl _ _).alloc _) (by decide) hp,fun d hd hs h=>pst6_keep ((Keep.refl _ _).alloc _) d _ h,rfl,⟨w1.heap.size,rfl,hC.1.k.size,by simp,fun _=>Fresh.new w1⟩⟩
     ·refine wpAt rfl rfl fun K hK=> ?_
      go_simp;exact hK _ _ ⟨_,hC.q (Keep.refl _ _) (by decide),fun d hd hs h=>pst6_keep (Keep.refl _ _) d _ h,rfl,rfl⟩
     ·refine wpAt rfl rfl fun K hK=> ?_
      go_simp;exact hK _ _ ⟨_,hC.q (Keep.refl _ _) (by decide),fun d hd hs h=>pst6_keep (Keep.refl _ _) d _ h,rfl,rfl⟩
     ·have h5:σ 5=Value.pointer (some ⟨b4,0,none⟩):=HK.post 5 (by kernel_rfl)
      rw [h5];obtain⟨m0,m1,m2,_,_,_,ml⟩:=(HB4.out.keep hC.1.k).three;refine wpAt rfl rfl fun K hK=> ?_
      go_simp;exact hK _ _ ⟨_,hC.q (Keep.refl _ _) (by decide),fun d hd hs h=>pst6_keep (Keep.refl _ _) d _ h,rfl,rfl⟩
     ·refine wpAt rfl rfl fun K hK=> ?_
      go_simp;exact hK _ _ ⟨_,hC.q (Keep.refl _ _) (by decide),fun d hd hs h=>pst6_keep (Keep.refl _ _) d _ h,rfl,rfl⟩
     ·have h6:σ 6=Value.slice (some ⟨ga,xa,none⟩) n ca:=HK.post 6 (by kernel_rfl)
      rw [h6];have h7:σ 7=Value.int .i64 (j:Int):=HK.post 7 (by kernel_rfl)
      rw [h7];refine wpAt rfl rfl fun K hK=> ?_
      go_simp;exact hK _ _ ⟨_,hC.q (Keep.refl _ _) (by decide),fun d hd hs h=>pst6_keep (Keep.refl _ _) d _ h,rfl,rfl⟩
     ·have h8:σ 8=Value.pointer (some ⟨ga,xa+j,none⟩):=HK.post 8 (by kernel_rfl)
      rw [h8];have m0:=(hC.1.k.cell hga).trans hcj;have ml:=Nat.lt_of_lt_of_le hga hC.1.k.size;refine wpAt rfl rfl fun K hK=> ?_
      go_simp;exact hK _ _ ⟨_,hC.q (Keep.refl _ _) (by decide),fun d hd hs h=>pst6_keep (Keep.refl _ _) d _ h,rfl,rfl⟩
     ·have h4:σ 4=Value.pointer (some ⟨bx,0,none⟩):=HK.post 4 (by kernel_rfl)
      rw [h4];have h9:σ 9=Value.pointer (some ⟨pa,0,none⟩):=HK.post 9 (by kernel_rfl)
      rw [h9];obtain⟨bz,ez,hgz,_,hz⟩:=(show PFq (S 10) w0.heap.size (σ 3) w1 from HK.post 3 (by kernel_rfl))
      have hz:=hz HK.self;rw [ez];refine wpAt rfl rfl fun K hK=> ?_
      go_simp;refine(wMul_any w1 bz 0 bx 0 pa 0 _ _ hz.rhdr hC.1.x (HRJ.out.ofNewer hC.1.k) HNX.out HNA.out).mono ?_;rintro e w2 ⟨rfl,hk2,hi2⟩;exact hK _ _ ⟨_,hC.at hz hgz hk2 (by decide),fun d hd hs h=>pst6_st (StepJ.at hz hk2) d _ (fun ed b' hb hv=>by
       subst ed
       cases hb
       exact absurd (hv.trans ez.symm) (hC.2 2 (by decide) 3 (by decide) (by decide) hs (HK.up 3 (by kernel_rfl)))) (fun _ _ _ _=>rfl) (fun ed b' hb hv=>by
       subst ed
       cases hb
       exact absurd (hv.trans ez.symm) (hC.2 11 (by decide) 3 (by decide) (by decide) hs (HK.up 3 (by kernel_rfl)))) (fun ed h=>by
       subst ed;rw [HK.down 20 (by kernel_rfl)]at hs
       cases hs) h,rfl,⟨bz,rfl,hgz,hi2⟩⟩
     ·have hp:∀i∈ [2,3,11],S i=true→∃b',σ i= .pointer (some ⟨b',0,none⟩)∧b'<w1.heap.size:=fun i hi hs=>by
       simp only [List.mem_cons,List.not_mem_nil,or_false]at hi
       rcases hi with rfl | rfl | rfl
       ·obtain ⟨b',e1,_,e2,_⟩:=(show PFq (S 19) w0.heap.size (σ 2) w1 from hall 2 hs)
        exact⟨b',e1,e2⟩
       ·obtain ⟨b',e1,_,e2,_⟩:=(show PFq (S 10) w0.heap.size (σ 3) w1 from hall 3 hs)
        exact⟨b',e1,e2⟩
       ·obtain ⟨b',e1,_,e2,_⟩:=(show PFq (S 18) w0.heap.size (σ 11) w1 from hall 11 hs)
        exact⟨b',e1,e2⟩
      refine wpAt rfl rfl fun K hK=> ?_
      go_simp;exact hK _ _ ⟨_,hC.new ((Keep.refl _ _).alloc _) (by decide) hp,fun d hd hs h=>pst6_keep ((Keep.refl _ _).alloc _) d _ h,rfl,⟨w1.heap.size,rfl,hC.1.k.size,by simp,fun _=>Fresh.new w1⟩⟩
     ·refine wpAt rfl rfl fun K hK=> ?_
      go_simp;exact hK _ _ ⟨_,hC.q (Keep.refl _ _) (by decide),fun d hd hs h=>pst6_keep (Keep.refl _ _) d _ h,rfl,rfl⟩
     ·refine wpAt rfl rfl fun K hK=> ?_
      go_simp;exact hK _ _ ⟨_,hC.q (Keep.refl _ _) (by decide),fun d hd hs h=>pst6_keep (Keep.refl _ _) d _ h,rfl,rfl⟩
     ·have h13:σ 13=Value.pointer (some ⟨b5,0,none⟩):=HK.post 13 (by kernel_rfl)
      rw [h13];obtain⟨m0,m1,m2,_,_,_,ml⟩:=(HB5.out.keep hC.1.k).three;refine wpAt rfl rfl fun K hK=> ?_
      go_simp;exact hK _ _ ⟨_,hC.q (Keep.refl _ _) (by decide),fun d hd hs h=>pst6_keep (Keep.refl _ _) d _ h,rfl,rfl⟩
     ·refine wpAt rfl rfl fun K hK=> ?_
      go_simp;exact hK _ _ ⟨_,hC.q (Keep.refl _ _) (by decide),fun d hd hs h=>pst6_keep (Keep.refl _ _) d _ h,rfl,rfl⟩
     ·have h14:σ 14=Value.slice (some ⟨gb,xb,none⟩) n cb:=HK.post 14 (by kernel_rfl)
      rw [h14];have h15:σ 15=Value.int .i64 (j:Int):=HK.post 15 (by kernel_rfl)
      rw [h15];refine wpAt rfl rfl fun K hK=> ?_
      go_simp;exact hK _ _ ⟨_,hC.q (Keep.refl _ _) (by decide),fun d hd hs h=>pst6_keep (Keep.refl _ _) d _ h,rfl,rfl⟩
     ·have h16:σ 16=Value.pointer (some ⟨gb,xb+j,none⟩):=HK.post 16 (by kernel_rfl)
      rw [h16];have m0:=(hC.1.k.cell hgb).trans hdj;have ml:=Nat.lt_of_lt_of_le hgb hC.1.k.size;refine wpAt rfl rfl fun K hK=> ?_
      go_simp;exact hK _ _ ⟨_,hC.q (Keep.refl _ _) (by decide),fun d hd hs h=>pst6_keep (Keep.refl _ _) d _ h,rfl,rfl⟩
     ·have h12:σ 12=Value.pointer (some ⟨ba,0,none⟩):=HK.post 12 (by kernel_rfl)
      rw [h12];have h17:σ 17=Value.pointer (some ⟨pb,0,none⟩):=HK.post 17 (by kernel_rfl)
      rw [h17];obtain⟨bz,ez,hgz,_,hz⟩:=(show PFq (S 18) w0.heap.size (σ 11) w1 from HK.post 11 (by kernel_rfl))
      have hz:=hz HK.self;rw [ez];refine wpAt rfl rfl fun K hK=> ?_
      go_simp;refine(wMul_any w1 bz 0 ba 0 pb 0 _ _ hz.rhdr (HRA.out.ofNewer hC.1.k) (HSJ.out.ofNewer hC.1.k) HNY.out HNB.out).mono ?_;rintro e w2 ⟨rfl,hk2,hi2⟩;exact hK _ _ ⟨_,hC.at hz hgz hk2 (by decide),fun d hd hs h=>pst6_st (StepJ.at hz hk2) d _ (fun ed b' hb hv=>by
       subst ed
       cases hb
       exact absurd (hv.trans ez.symm) (hC.2 2 (by decide) 11 (by decide) (by decide) hs (HK.up 11 (by kernel_rfl)))) (fun ed b' hb hv=>by
       subst ed
       cases hb
       exact absurd (hv.trans ez.symm) (hC.2 3 (by decide) 11 (by decide) (by decide) hs (HK.up 11 (by kernel_rfl)))) (fun _ _ _ _=>rfl) (fun ed h=>by
       subst ed;rw [HK.down 20 (by kernel_rfl)]at hs
       cases hs) h,rfl,⟨bz,rfl,hgz,hi2⟩⟩
     ·obtain ⟨bu,eu,hgu,hu⟩:=(show PRat w0.heap.size (-(b.c k)*a.c j) (σ 10) w1 from HK.post 10 (by kernel_rfl))
      obtain⟨bt,et,hgt,ht⟩:=(show PRat w0.heap.size (a.c k*b.c j) (σ 18) w1 from HK.post 18 (by kernel_rfl))
      rw [eu,et];obtain⟨bz,ez,hgz,_,hz⟩:=(show PFq (S 19) w0.heap.size (σ 2) w1 from HK.post 2 (by kernel_rfl))
      have hz:=hz HK.self;rw [ez];refine wpAt rfl rfl fun K hK=> ?_
      go_simp;refine(wAdd_any w1 bz 0 bu 0 bt 0 _ _ hz.rhdr hu ht HN1.out HN2.out).mono ?_;rintro e w2 ⟨rfl,hk2,hi2⟩;exact hK _ _ ⟨_,hC.at hz hgz hk2 (by decide),fun d hd hs h=>pst6_st (StepJ.at hz hk2) d _ (fun _ _ _ _=>rfl) (fun ed b' hb hv=>by
       subst ed
       cases hb
       exact absurd (hv.trans ez.symm) (hC.2 3 (by decide) 2 (by decide) (by decide) hs (HK.up 2 (by kernel_rfl)))) (fun ed b' hb hv=>by
       subst ed
       cases hb
       exact absurd (hv.trans ez.symm) (hC.2 11 (by decide) 2 (by decide) (by decide) hs (HK.up 2 (by kernel_rfl)))) (fun ed h=>by
       subst ed;rw [HK.down 20 (by kernel_rfl)]at hs
       cases hs) h,rfl,⟨bz,rfl,hgz,hi2⟩⟩
     ·obtain ⟨bz,ez,hgz,hiz⟩:=(show PRat w0.heap.size (-(b.c k)*a.c j+a.c k*b.c j) (σ 19) w1 from HK.post 19 (by kernel_rfl))
      rw [ez];refine wpAt rfl rfl fun K hK=> ?_
      go_simp;exact hK _ _ ⟨_,hC.q ((Keep.refl _ _).alloc _) (by decide),fun d hd hs h=>pst6_keep ((Keep.refl _ _).alloc _) d _ h,rfl,fun _=>⟨_,bz,rfl,blk_at _ _ rfl,hgz,hiz.ofNewer ((Keep.refl _ _).alloc _)⟩⟩
     ·have h1:σ 1=Value.slice op np cp:=HK.post 1 (by kernel_rfl)
      rw [h1];obtain⟨b',bz,e20,hbb,hgz,hiz⟩:=(show PBld (S 21) w0.heap.size (-(b.c k)*a.c j+a.c k*b.c j) (σ 20) w1 from HK.post 20 (by kernel_rfl)) HK.self
      rw [e20];obtain⟨v',w3,hr,ho,hg,hv⟩:=(hC.own HK.self).push hiz hgz hbb (by rw [jq_len];omega) hC.1.k.size
      refine wpAt rfl rfl fun K hK=> ?_
      refine wp_app_run _ _ 80 _ _ rfl rfl rfl hr ?_;exact hK _ _ ⟨_,hC.app HK.self (HK.down 23 (by kernel_rfl)) ho hg hv,fun d hd hs h=>pst6_st (StepJ.app (hC.own HK.self) hg) d _ (fun _ _ h=>by cases h) (fun _ _ h=>by cases h) (fun _ _ h=>by cases h) (fun _ _ hm=>by rw [mark_self2]at hm;cases hm) h,rfl,trivial⟩
     ·refine wpAt rfl rfl fun K hK=> ?_
      go_simp;exact hK _ _ ⟨_,hC.q (Keep.refl _ _) (by decide),fun d hd hs h=>pst6_keep (Keep.refl _ _) d _ h,rfl,rfl⟩
     ·have h22:σ 22=Value.pointer (some ⟨b11,0,none⟩):=HK.post 22 (by kernel_rfl)
      rw [h22];have h21:=HK.up 21 (by kernel_rfl)
      have hown:=hC.1.o;rw [h21]at hown;simp only [if_true]at hown;obtain⟨o9,L9,c9,e9⟩:∃o l c,σ 21= .slice o l c:=by
       obtain⟨o,c,h,_⟩:=hown.len;exact⟨_,_,_,h⟩
      have h26:=hC.store (v:=undef) h21 HK.self ⟨_,_,_,e9⟩;have hb:=hC.blk;rw [HK.self]at hb;simp only [Bool.false_eq_true,if_false]at hb;obtain⟨m0,m1,m2,f0,f1,f2,ml⟩:=(show Blk w1 b11 _ from⟨_,hb⟩).three
      have hst:StepJ w1 (w1.setCell ⟨b11,0,none⟩ (σ 21)) none:=StepJ.set hb ⟨_,_,_,rfl⟩;rw [e9]at h26 hst ⊢;refine wpAt rfl rfl fun K hK=> ?_
      go_simp;exact hK _ _ ⟨undef,h26,fun d hd hs h=>pst6_st hst d _ (fun _ _ h=>by cases h) (fun _ _ h=>by cases h) (fun _ _ h=>by cases h) (fun _ _ hm=>by rw [mark_off2 (by decide),h21]at hm;cases hm) h,rfl,trivial⟩
    ·intro S σ w2 hC hS hP
     have hC:C6 w0 b11 bx (-(b.c k)) (.slice op np cp) (.pointer none) le (jq a b k j) (-(b.c k)*a.c j+a.c k*b.c j) S σ w2:=hC;have HJ2:=zh (hC.fin fun e he=>hS e he)
     rw [← jq_succ]at HJ2;clear hP hS hC HJ;refine NoPanic.normal ?_;go_wp2;go_roundw
     case rel=>exact⟨j+1,_,by omega,by go_num,HJ2.out⟩
     case measure=>simp [intOf];omega
end Go.Proofs.YtamjmcdlddocgaaGreat
