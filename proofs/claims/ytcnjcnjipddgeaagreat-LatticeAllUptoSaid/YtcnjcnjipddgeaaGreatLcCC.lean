/- Package lattice's systemOf. Package lattice's system as it lies; what clear is to do. -/
import Derived.Test.YtcnjcnjipddgeaaGreatLcAA
import Derived.Test.YtcnjcnjipddgeaaGreatOwnG
namespace Go.Proofs.YtcnjcnjipddgeaaGreat
set_option maxRecDepth 100000
set_option maxHeartbeats 32000000
set_option linter.unusedSimpArgs false
set_option linter.unusedVariables false
open Go.ChangeShapes Go.WideShapes Go.RowKit
abbrev TYN:TypeId:=49
theorem infoYN:(Tryz.prog.info? TYN).map (fun i=>(i.zero,i.size,i.bytes))=some (some (.slice none 0 0),1,24):=by kernel_rfl
structure ColV where
 g:Nat
 q:List Rat
def ColV.sv (x:ColV):Value:= .slice (some ⟨x.g,0,none⟩) x.q.length x.q.length
def colC (x:ColV):List Value:= [x.sv]
theorem colC_len (x:ColV):(colC x).length=1:=rfl
theorem ownsRow_sameZ {w w':World}{base:Nat}{e:TypeId}{size:Nat}{v:Value}{n:Nat}{xs:List Value}(h:w.ownsRow base e size v n xs)(he:∀k,v.ownBlock=some k→w'.heap[k]? =w.heap[k]?):w'.ownsRow base e size v n xs:=by
 obtain⟨hl,h | ⟨g,cap,cur,hv,hb,hg,hl',hm,hs,ht⟩⟩:=h
 ·exact ⟨hl,.inl h⟩
 ·exact ⟨hl,.inr ⟨g,cap,cur,hv,hb,by rw [he g (by rw [hv];rfl)];exact hg,hl',hm,hs,ht⟩⟩
structure YS (w0 w:World)(bY:Nat)(vr:Value)(n:Nat)(vc:Value)(xs:List ColV):Prop where
 k:Keep NoS w0 w
 y:Blk w bY #[vr,.int .i64 n,vc]
 c:OwnG TYN 1 colC w w0.heap.size vc xs
 r:∀x∈xs,NumBlk w x.g x.q∧w0.heap.size≤x.g
 d:xs.Pairwise fun x y=>x.g≠y.g
 xb:∀x∈xs,vc.ownBlock≠some x.g∧x.g≠bY
 nb:vc.ownBlock≠some bY
 own:w0.heap.size≤bY
def YClear (c bY:Nat)(vc:Value)(xs:List ColV):Prop:=c≠bY∧vc.ownBlock≠some c∧∀x∈xs,x.g≠c
theorem YS.fresh {w0 w:World}{bY n:Nat}{vr vc:Value}{xs:List ColV}(h:YS w0 w bY vr n vc xs){c:Nat}(hc:w.heap.size≤c):YClear c bY vc xs:=
 ⟨fun e=>by have:=h.y.lt;omega,fun e=>by have:=h.c.lt c e;omega,fun x hx e=>by have:=(h.r x hx).1.lt;omega⟩
theorem YS.other {w0 w w':World}{bY n:Nat}{vr vc:Value}{xs:List ColV}(h:YS w0 w bY vr n vc xs)(hk:Keep NoS w0 w'){c:Nat}(ho:∀b,b<w.heap.size→b≠c→w'.heap[b]? =w.heap[b]?)(hc:YClear c bY vc xs):YS w0 w' bY vr n vc xs where
 k:=hk
 y:=h.y.sameZ (ho _ h.y.lt hc.1.symm)
 c:=ownsRow_sameZ h.c fun k hk=>ho k (h.c.lt k hk) fun e=>hc.2.1 (e ▸ hk)
 r:=fun x hx=>⟨(h.r x hx).1.sameZ (ho _ (h.r x hx).1.lt (hc.2.2 x hx)),(h.r x hx).2⟩
 d:=h.d
 xb:=h.xb
 nb:=h.nb
 own:=h.own
theorem YS.keep {w0 w w':World}{bY n:Nat}{vr vc:Value}{xs:List ColV}(h:YS w0 w bY vr n vc xs)(k:Keep NoS w w'):YS w0 w' bY vr n vc xs:=
 h.other (h.k.both k) (c:=w.heap.size) (fun b hb _=>k.block b hb fun _ h=>h) (h.fresh (Nat.le_refl _))
theorem YS.line {w0 w:World}{bY n:Nat}{vr vc:Value}{xs:List ColV}(h:YS w0 w bY vr n vc xs){g:Nat}{q:List Rat}(hq:NumBlk w g q)(hg:YClear g bY vc xs)(hg0:w0.heap.size≤g){b0:Nat}(hb0:Blk w b0 #[.slice (some ⟨g,0,none⟩) q.length q.length])(hl:xs.length≤100):
  ∃o l c w',(Builtin.append_ #[50,50] 50 #[vc,.slice (some ⟨b0,0,none⟩) 1 1]).run Tryz.prog w= .ok (.slice o l c) w'∧Blk w' bY #[vr,.int .i64 n,vc]∧YS w0 (w'.setCell ⟨bY,2,none⟩ (.slice o l c)) bY vr n (.slice o l c) (xs++ [⟨g,q⟩]):=by
 obtain⟨i0,hi0,hz0,hz1,hz2⟩:=info_parts infoYN;obtain⟨v',w',hr,ho,hgr,hv⟩:=OwnG.app colC_len Tryz.underlying50 hi0 hz0 hz1 hz2 rfl (by decide) h.c (x:=⟨g,q⟩) hb0 (by
  intro y hy;simp [colC]at hy;subst hy;rfl) (by unfold maxLen;omega) (by omega) h.k.size
 obtain⟨o,c,hvl,_⟩:=ho.len;subst hvl;have hblk:∀b,b<w.heap.size→vc.ownBlock≠some b→w'.heap[b]? =w.heap[b]? :=fun b hb hn=>hgr.block b hb fun e=>hn e.symm
 have hv':∀c',c'<w.heap.size→vc.ownBlock≠some c'→(Value.slice o (xs++ [(⟨g,q⟩:ColV)]).length c).ownBlock≠some c':=by
  intro c' hc hn e
  rcases hv with h1 | h1
  ·rw [h1]at e;exact hn e
  ·rw [h1]at e;cases e;omega
 have hy':Blk w' bY #[vr,.int .i64 n,vc]:=h.y.sameZ (hblk _ h.y.lt h.nb);have k':Keep NoS w0 w':=h.k.grown hgr fun k hk=>h.c.block k hk
 have hx':∀x∈xs++ [⟨g,q⟩],NumBlk w' x.g x.q∧w0.heap.size≤x.g∧(Value.slice o (xs++ [(⟨g,q⟩:ColV)]).length c).ownBlock≠some x.g∧x.g≠bY:=by
  intro x hx
  rcases List.mem_append.1 hx with hx | hx
  ·exact ⟨(h.r x hx).1.sameZ (hblk _ (h.r x hx).1.lt (h.xb x hx).1),(h.r x hx).2,hv' _ (h.r x hx).1.lt (h.xb x hx).1,(h.xb x hx).2⟩
  ·rw [List.mem_singleton.1 hx]
   exact⟨hq.sameZ (hblk _ hq.lt hg.2.1),hg0,hv' _ hq.lt hg.2.1,hg.1⟩
 have hset:∀b,b≠bY→(w'.setCell ⟨bY,2,none⟩ (.slice o (xs++ [(⟨g,q⟩:ColV)]).length c)).heap[b]? =w'.heap[b]? :=fun b hb=>heap_setCell_other _ _ _ _ hb
 refine⟨o,_,c,w',hr,hy',?_⟩;refine⟨k'.setCell _ fun hh=>absurd hh (Nat.not_lt.2 h.own),hy'.set 2 _,?_,fun x hx=> ?_,?_,fun x hx=>⟨(hx' x hx).2.2.1,(hx' x hx).2.2.2⟩,hv' _ h.y.lt h.nb,h.own⟩
 ·exact ownsRow_sameZ ho fun k hk=>hset k fun e=>hv' _ h.y.lt h.nb (e ▸ hk)
 ·exact ⟨(hx' x hx).1.sameZ (hset _ (hx' x hx).2.2.2),(hx' x hx).2.1⟩
 ·rw [List.pairwise_append]
  refine⟨h.d,by simp,fun x hx y hy=> ?_⟩
  rw [List.mem_singleton.1 hy];exact hg.2.2 x hx
theorem numIntZ (x:Int):∃y:NV,numV x 1=y.v∧IsNum y.v (x:Rat):=by
 have:=numQ_nv (x:Rat);rw [numQ_int]at this;exact this
def colJ (rows:List Rw)(K k j:Nat):List Rat:=(List.range K).map fun i=>if i<j then(((rows.getD i ⟨[],0,0⟩).of.getD k 0:Int):Rat)else 0
def colQ (rows:List Rw)(n k:Nat):List Rat:=(colJ rows (rows.length+n) k rows.length).set (rows.length+k) 1
theorem colJ_len {rows:List Rw}{K k j:Nat}:(colJ rows K k j).length=K:=by simp [colJ]
theorem colQ_len {rows:List Rw}{n k:Nat}:(colQ rows n k).length=rows.length+n:=by simp [colQ,colJ]
theorem colJ_zero {rows:List Rw}{K k:Nat}:colJ rows K k 0=List.replicate K 0:=by
 apply List.ext_getElem
 ·simp [colJ]
 ·intro i h1 h2;simp [colJ]
theorem colJ_in {rows:List Rw}{K k j:Nat}(hj:j<rows.length)(hk:k<rows[j].of.length):(colJ rows K k j).set j (((rows[j].of[k]):Int):Rat)=colJ rows K k (j+1):=by
 apply List.ext_getElem
 ·simp [colJ]
 ·intro i h1 h2
  rw [List.getElem_set];simp only [colJ,List.getElem_map,List.getElem_range]
  by_cases e:j=i
  ·subst e
   rw [if_pos rfl,if_pos (Nat.lt_succ_self j)];rw [List.getD_eq_getElem?_getD (l:=rows),List.getElem?_eq_getElem hj,Option.getD_some,List.getD_eq_getElem?_getD,List.getElem?_eq_getElem hk];rfl
  ·rw [if_neg e]
   by_cases h1:i<j
   ·rw [if_pos h1,if_pos (by omega)]
   ·rw [if_neg h1,if_neg (by omega)]
theorem colJ_out {rows:List Rw}{K k j:Nat}(hj:j<rows.length)(hk:¬k<rows[j].of.length):colJ rows K k j=colJ rows K k (j+1):=by
 apply List.ext_getElem
 ·simp [colJ]
 ·intro i h1 h2
  simp only [colJ,List.getElem_map,List.getElem_range]
  by_cases e:j=i
  ·subst e
   rw [if_neg (Nat.lt_irrefl j),if_pos (Nat.lt_succ_self j),List.getD_eq_getElem?_getD (l:=rows),List.getElem?_eq_getElem hj,Option.getD_some,List.getD_eq_getElem?_getD,List.getElem?_eq_none (by omega)]
   rfl
  ·by_cases h1:i<j
   ·rw [if_pos h1,if_pos (by omega)]
   ·rw [if_neg h1,if_neg (by omega)]
theorem systemOf_any (w:World)(vr:Value)(rows:List Rw)(n:Nat)(hr:IsRows w vr rows)(hok:∀r∈rows,RowOK r n)(hn:n≤12)(h40:rows.length≤40):
  Calls Tryz.prog 17 #[vr,.int .i64 (n:Int)] w fun e w'=>∃bY vc xs,e= .returned (.pointer (some ⟨bY,0,none⟩))∧YS w w' bY vr n vc xs∧xs.map ColV.q=(List.range n).map (colQ rows n):=by
 have HR:=zh hr;have HOK:=zh hok;obtain⟨oa,ca,hvr,_,_⟩:=hr.len;obtain⟨m,hm⟩:∃m,rows.length=m:=⟨_,rfl⟩;obtain⟨KN,hK⟩:∃KN,m+n=KN:=⟨_,rfl⟩;have HMM:=zh hm;have HKK:=zh hK;have hK52:KN≤52:=by omega
 have hm40:m≤40:=by omega
 rw [hm]at hvr;have HVR:=zh hvr;subst hvr;have eK:(m:Int)+(n:Int)=(KN:Int):=by omega
 have ew:IntKind.i64.wrap (KN:Int)=(KN:Int):=Go.IntWalk.i64_in _ (by omega)
 clear hr hok hm h40 hK;have ka:Keep NoS w (w.alloc (.cells #[.slice oa m ca,.int .i64 n,.slice none 0 0] 64)):=(Keep.refl _ _).alloc _;have HI:Hid (YS w (w.alloc (.cells #[.slice oa m ca,.int .i64 n,.slice none 0 0] 64)) w.heap.size (.slice oa m ca) n (.slice none 0 0) []):=zh ⟨ka,blk_at _ _ rfl,OwnG.nil _ _,by simp,List.Pairwise.nil,by simp,by simp [Value.ownBlock],Nat.le_refl _⟩
 go_enter Tryz.func17,Tryz.ntmps17;go_upto_region 2 with fail
 clear ka;generalize w.alloc (.cells #[.slice oa m ca,.int .i64 n,.slice none 0 0] 64)=w1 at *;generalize hbY:w.heap.size=bY at HI ⊢;clear hbY;go_wp2;go_loopw [15] (fun s wr=>∃(k:Nat) (vc:Value) (xs:List ColV),k≤n∧s= .int .i64 k∧YS w wr bY (.slice oa m ca) n vc xs∧xs.map ColV.q=(List.range k).map (colQ rows n)) (fun s _=>(n-intOf s).toNat)
 case atStart=>exact⟨0,_,[],by omega,rfl,HI.out,by simp⟩
 case round=>
  obtain⟨k,vc,xs,hk,rfl,hys,hxs⟩:=hrel;have HYS:=zh hys;have HXS:=zh hxs;clear hys hxs HI
  by_cases hkn:k<n
  case neg=>
   have hlt:¬(k:Int)<(n:Int):=by omega
   obtain rfl:k=n:=by omega
   go_wp2;go_ret;exact⟨bY,rfl,vc,xs,HYS.out,HXS.out⟩
  case pos=>
   have hlt:(k:Int)<(n:Int):=by omega
   obtain⟨wb,hrb,hnb,hkb⟩:=make_nums wr KN (by omega)
   have HCG:=zh (And.intro (HYS.out.fresh (Nat.le_refl wr.heap.size)) HYS.out.k.size);go_upto_region 6 with fail
   clear hrb;have HYS:=zh (HYS.out.keep hkb);have HQ:Hid (NumBlk wb wr.heap.size (colJ rows KN k 0)):=zh (by rw [colJ_zero];exact hnb)
   clear hnb hkb;generalize wr.heap.size=g at *;go_wp2;go_loopw [25] (fun s wr=>∃j:Nat,j≤m∧s= .int .i64 j∧YS w wr bY (.slice oa m ca) n vc xs∧NumBlk wr g (colJ rows KN k j)) (fun s _=>(m-intOf s).toNat)
   case atStart=>exact⟨0,by omega,rfl,HYS.out,HQ.out⟩
   case round=>
    obtain⟨j,hj,rfl,hys,hq⟩:=hrel;clear HYS HQ;have HYS:=zh hys;have HQ:=zh hq;clear hys hq
    by_cases hjm:j<m
    case pos=>
     have hltj:(j:Int)<(m:Int):=by omega
     have hjK:j<KN:=by have:=HKK.out;omega
     have hjKI:(j:Int)<(KN:Int):=by omega
     have hjr:j<rows.length:=by have:=HMM.out;omega
     obtain⟨b,o,rfl,hbl,hrow⟩:=HR.out.at hjr;have hok:=HOK.out _ (List.getElem_mem hjr);have HIN:=zh (colJ_in (K:=KN) (k:=k) hjr);have HOUT:=zh (colJ_out (K:=KN) (k:=k) hjr);generalize rows[j]=r at *;obtain⟨os,cs,p0,p1,p2,hrow⟩:=hrow.row;have p0:=(HYS.out.k.cell hbl).trans p0;have p1:=(HYS.out.k.cell hbl).trans p1;have p2:=(HYS.out.k.cell hbl).trans p2;have hblr:=Nat.lt_of_lt_of_le hbl HYS.out.k.size;have HFT:=zh hok.fit;have HIR:=zh hrow;clear hok hrow;have ka:Keep NoS wr (wr.alloc (.cells #[.slice os r.of.length cs,.int .i64 r.kind,.int .i64 r.to] 44)):=(Keep.refl _ _).alloc _;have HB9:Hid (Blk (wr.alloc (.cells #[.slice os r.of.length cs,.int .i64 r.kind,.int .i64 r.to] 44)) wr.heap.size #[.slice os r.of.length cs,.int .i64 r.kind,.int .i64 r.to]):=zh (blk_at _ _ rfl);go_upto_region 9 with fail
     have HYS:=zh (HYS.out.keep ka);have HQ:=zh (HQ.out.keep ka);clear ka p0 p1 p2 hblr;generalize wr.alloc (.cells #[.slice os r.of.length cs,.int .i64 r.kind,.int .i64 r.to] 44)=wa at *;generalize wr.heap.size=b9 at *;obtain⟨s0,s1,s2,_,_,_,l9⟩:=HB9.out.three;have HINT:Hid (IsInts w (.slice os r.of.length cs) r.of):=zh (by obtain⟨sv,hsv,h,_⟩:=HIR.out;cases hsv;exact h)
     by_cases hkr:k<r.of.length
     case pos=>
      have hltk:(k:Int)<(r.of.length:Int):=by omega
      obtain⟨bi,oi,ci,hsl,hbi,hc⟩:=HINT.out.at hkr
      cases hsl
      have p0:=(HYS.out.k.cell hbi).trans hc;have hbir:=Nat.lt_of_lt_of_le hbi HYS.out.k.size;have hfx:=HFT.out _ (List.getElem_mem hkr);have HST:=zh (HIN.out hkr);generalize r.of[k]=x at *;unfold fitI at hfx;have CI:=fun w=>zh (exInt_any w x (by omega) (by omega))
      obtain⟨⟨xb,xS,xc,xU⟩,hx,hxn⟩:=numIntZ x;rw [hx]at CI;unfold NV.v at CI;simp only at CI;have HXN:=zh hxn;clear hx hxn hc;go_wp2_with fail;refine(CI _).out.mono ?_;rintro e w2' ⟨rfl,hk2⟩;have HYS:=zh (HYS.out.keep hk2);have HQ:=zh (HQ.out.keep hk2);clear hk2 CI p0 hbir s0 s1 s2 l9;obtain⟨_,_,_,_,g0,g1,g2,g3,_,f0,f1,f2,f3⟩:=HQ.out.at (k:=j) (by rw [colJ_len];exact hjK)
      have hg6:=HQ.out.lt;go_wp2;have HQ2:Hid (NumBlk (q4 w2' g (j*4) ⟨xb,xS,xc,xU⟩) g (colJ rows KN k (j+1))):=zh (by rw [← HST.out];exact HQ.out.setQ HXN.out)
      have HYS2:Hid (YS w (q4 w2' g (j*4) ⟨xb,xS,xc,xU⟩) bY (.slice (some ⟨b,o,none⟩) m ca) n vc xs):=zh (HYS.out.other (q4_keep HYS.out.k HCG.out.2) (fun b _ hb=>q4_other hb) HCG.out.1)
      rw [show((((w2'.setCell ⟨g,j*4,none⟩ (.bool xb)).setCell ⟨g,j*4+1,none⟩ (.string xS)).setCell ⟨g,j*4+2,none⟩ (.bool xc)).setCell ⟨g,j*4+3,none⟩ (.string xU))=q4 w2' g (j*4) ⟨xb,xS,xc,xU⟩from rfl]
      go_roundw
      case rel=>exact⟨j+1,by omega,by go_num,HYS2.out,HQ2.out⟩
      case measure=>simp [intOf];omega
     case neg=>
      have hltk:¬(k:Int)<(r.of.length:Int):=by omega
      have HST:=zh (HOUT.out hkr);go_wp2;go_roundw
      case rel=>exact⟨j+1,by omega,by go_num,HYS.out,by rw [← HST.out];exact HQ.out⟩
      case measure=>simp [intOf];omega
    case neg=>
     have hltj:¬(j:Int)<(m:Int):=by omega
     obtain rfl:j=m:=by omega
     have hxl:xs.length=k:=by
      have:=congrArg List.length HXS.out
      simpa using this
     have HXL:=zh hxl;clear hxl;obtain⟨c,hc⟩:∃c,j+k=c:=⟨_,rfl⟩;have HCC:=zh hc;have ec:(j:Int)+(k:Int)=(c:Int):=by omega
     have ecw:IntKind.i64.wrap (c:Int)=(c:Int):=Go.IntWalk.i64_in _ (by omega)
     have hcK:c<KN:=by have:=HKK.out;omega
     have hcKI:(c:Int)<(KN:Int):=by omega
     have CI:=fun w=>zh (exInt_any w 1 (by omega) (by omega))
     obtain⟨⟨xb,xS,xc,xU⟩,hx,hxn⟩:=numIntZ 1;rw [hx]at CI;unfold NV.v at CI;simp only at CI;have HXN:=zh hxn;clear hx hxn hc;go_wp2_with fail;refine(CI _).out.mono ?_;rintro e w2 ⟨rfl,hk2⟩;have HYS:=zh (HYS.out.keep hk2);have HQ:=zh (HQ.out.keep hk2);clear hk2 CI;obtain⟨_,_,_,_,g0,g1,g2,g3,_,f0,f1,f2,f3⟩:=HQ.out.at (k:=c) (by rw [colJ_len];exact hcK)
     have hg6:=HQ.out.lt;go_upto_region 13 with fail
     have HQ2:Hid (NumBlk (q4 w2 g (c*4) ⟨xb,xS,xc,xU⟩) g (colQ rows n k)):=zh (by
      have h1:=HMM.out;have h2:=HKK.out;have h3:=HCC.out;have h4:=HQ.out.setQ (k:=c) (x:=⟨xb,xS,xc,xU⟩) HXN.out;unfold colQ;rw [h1,h2,h3];exact h4)
     have HYS2:Hid (YS w (q4 w2 g (c*4) ⟨xb,xS,xc,xU⟩) bY (.slice oa j ca) n vc xs):=zh (HYS.out.other (q4_keep HYS.out.k HCG.out.2) (fun b _ hb=>q4_other hb) HCG.out.1)
     rw [show((((w2.setCell ⟨g,c*4,none⟩ (.bool xb)).setCell ⟨g,c*4+1,none⟩ (.string xS)).setCell ⟨g,c*4+2,none⟩ (.bool xc)).setCell ⟨g,c*4+3,none⟩ (.string xU))=q4 w2 g (c*4) ⟨xb,xS,xc,xU⟩from rfl]
     generalize q4 w2 g (c*4) ⟨xb,xS,xc,xU⟩=w3 at *;clear g0 g1 g2 g3 f0 f1 f2 f3 hg6 HQ HYS;have hqln:(colQ rows n k).length=KN:=by rw [colQ_len,HMM.out,HKK.out]
     have ka:Keep NoS w3 (w3.alloc (.cells #[.slice (some ⟨g,0,none⟩) KN KN] 49)):=(Keep.refl _ _).alloc _;have hb0:Blk (w3.alloc (.cells #[.slice (some ⟨g,0,none⟩) KN KN] 49)) w3.heap.size #[.slice (some ⟨g,0,none⟩) KN KN]:=blk_at _ _ rfl;obtain⟨o4,l4,c4,w4,hr4,hy4,hys4⟩:=(HYS2.out.keep ka).line (HQ2.out.keep ka) HCG.out.1 HCG.out.2 (b0:=w3.heap.size) (by rw [hqln];exact hb0) (by have:=HXL.out;omega)
     have HYS4:=zh hys4;obtain⟨_,_,t2,_,_,_,tl⟩:=HYS2.out.y.three;obtain⟨_,_,u2,_,_,uf,ul⟩:=hy4.three;obtain⟨ov,cv,hvc,_⟩:=HYS2.out.c.len;clear hys4 hb0 ka hy4 hqln;rw [HXL.out]at hvc;subst hvc;go_wp2_with (at_builtin;refine wpList_app_run _ _ 50 _ _ rfl rfl rfl rfl hr4 ?_);go_roundw
     case rel=>exact⟨k+1,_,_,by omega,by go_num,HYS4.out,by rw [List.map_append,HXS.out,List.range_succ,List.map_append];rfl⟩
     case measure=>simp [intOf];omega
def Mid (lo hi:Nat):Nat→Nat→Prop:=fun b _=>lo≤b∧b<hi
theorem Keep.midN {lo hi:Nat}{a b c:World}(h:Keep (Mid lo hi) a b)(k:Keep NoS b c):Keep (Mid lo hi) a c:=h.trans k fun _ _ _ h=>h.elim
theorem Keep.mids {lo hi:Nat}{a b c:World}(h:Keep (Mid lo hi) a b)(k:Keep (Mid lo hi) b c):Keep (Mid lo hi) a c:=h.trans k fun _ _ _ h=>h
theorem Keep.onlyMid {lo hi g:Nat}{a b:World}(h:Keep (OnlyG g) a b)(h1:lo≤g)(h2:g<hi):Keep (Mid lo hi) a b:=h.mono fun b o _ e=>by unfold OnlyG at e;unfold Mid;omega
theorem Keep.above {lo hi:Nat}{a b:World}(h:Keep (Mid lo hi) a b){k:Nat}(hk:k<a.heap.size)(hh:hi≤k∨k<lo):b.heap[k]? =a.heap[k]? :=h.block k hk fun o ho=>by unfold Mid at ho;omega
def bdQ (q:Rat):Bool:=decide (q.den=1∧q.num.natAbs<4294967296^1500)
def bdC (c:List (List Rat)):Bool:=c.all (·.all bdQ)
theorem bdQ_dl {q:Rat}(h:bdQ q=true):dl q.num≤1500∧dl (q.den:Int)≤1∧q.den=1:=by
 obtain⟨h1,h2⟩:=of_decide_eq_true h;refine⟨dl_le h2,?_,h1⟩;rw [h1];exact dl_le (k:=1) (by decide)
structure YC (w0 w:World)(hi bY gc:Nat)(vr:Value)(n L cc:Nat)(xs:List ColV):Prop where
 k:Keep NoS w0 w
 hw:hi≤w.heap.size
 y:Blk w bY #[vr,.int .i64 n,.slice (some ⟨gc,0,none⟩) n cc]
 xl:xs.length=n
 ql:∀x∈xs,x.q.length=L
 c:∃A,Blk w gc A∧∀i (h:i<xs.length),A[i]? =some (xs[i].sv)
 cc:n≤cc∧cc≤maxLen
 r:∀x∈xs,NumBlk w x.g x.q∧w0.heap.size≤x.g∧x.g<hi
 d:∀i j (hi:i<xs.length) (hj:j<xs.length),i≠j→xs[i].g≠xs[j].g
 xb:∀x∈xs,x.g≠gc∧x.g≠bY
 yc:bY≠gc
 own:w0.heap.size≤bY∧bY<hi∧w0.heap.size≤gc∧gc<hi
theorem YC.keep {w0 w w':World}{hi bY gc n L cc:Nat}{vr:Value}{xs:List ColV}(h:YC w0 w hi bY gc vr n L cc xs)(k:Keep NoS w w'):YC w0 w' hi bY gc vr n L cc xs where
 k:=h.k.both k
 hw:=Nat.le_trans h.hw k.size
 y:=h.y.keep k
 xl:=h.xl
 ql:=h.ql
 c:=by obtain⟨A,h1,h2⟩:=h.c;exact⟨A,h1.keep k,h2⟩
 cc:=h.cc
 r:=fun x hx=>⟨(h.r x hx).1.keep k,(h.r x hx).2⟩
 d:=h.d
 xb:=h.xb
 yc:=h.yc
 own:=h.own
theorem YC.at {w0 w:World}{hi bY gc n L cc:Nat}{vr:Value}{xs:List ColV}(h:YC w0 w hi bY gc vr n L cc xs){i:Nat}(hi':i<n):
  ∃g q,(∃hx:i<xs.length,xs[i]=⟨g,q⟩)∧(xs.map ColV.q).getD i []=q∧w.cell? ⟨gc,i,none⟩=some (.slice (some ⟨g,0,none⟩) L L)∧w.frozen? ⟨gc,i,none⟩=false∧gc<w.heap.size∧NumBlk w g q∧q.length=L∧w0.heap.size≤g∧g<hi∧g≠gc∧g≠bY:=by
 have hx:i<xs.length:=by rw [h.xl];exact hi'
 have hm:=List.getElem_mem hx;obtain⟨A,h1,h2⟩:=h.c;refine⟨xs[i].g,xs[i].q,⟨hx,rfl⟩,by rw [List.getD_eq_getElem?_getD,List.getElem?_map,List.getElem?_eq_getElem hx];rfl,?_,h1.free _,h1.lt,(h.r _ hm).1,h.ql _ hm,(h.r _ hm).2.1,(h.r _ hm).2.2,h.xb _ hm⟩
 rw [h1.cell,h2 i hx];unfold ColV.sv;rw [h.ql _ hm]
theorem YC.put {w0 w w':World}{hi bY gc n L cc:Nat}{vr:Value}{xs:List ColV}(h:YC w0 w hi bY gc vr n L cc xs){i:Nat}{g:Nat}{q q':List Rat}(hx:∃hx:i<xs.length,xs[i]=⟨g,q⟩)(hk:Keep (OnlyG g) w w')(hq:NumBlk w' g q')(hl:q'.length=L):YC w0 w' hi bY gc vr n L cc (xs.set i ⟨g,q'⟩):=by
 obtain⟨hx,he⟩:=hx;have hm:=List.getElem_mem hx;have hg:xs[i].g=g:=by rw [he]
 have hr:=h.r _ hm;rw [hg]at hr;have hb:=h.xb _ hm;rw [hg]at hb;have hin:∀x∈xs.set i ⟨g,q'⟩,x=⟨g,q'⟩∨(x∈xs∧x.g≠g):=by
  intro x hx';obtain⟨j,hj,rfl⟩:=List.getElem_of_mem hx';rw [List.length_set]at hj;rw [List.getElem_set]
  by_cases e:i=j
  ·rw [if_pos e];exact .inl rfl
  ·rw [if_neg e];exact .inr ⟨List.getElem_mem hj,fun eg=>h.d j i hj hx (Ne.symm e) (eg.trans hg.symm)⟩
 refine⟨h.k.trans hk (fun b o hb ho=>by unfold OnlyG at ho;have:=hr.2.1;omega),Nat.le_trans h.hw hk.size,h.y.sameZ (hk.sameG h.y.lt hb.2.symm),by rw [List.length_set];exact h.xl,?_,?_,h.cc,?_,?_,?_,h.yc,h.own⟩
 ·intro x hx'
  rcases hin x hx' with rfl | ⟨h1,_⟩
  ·exact hl
  ·exact h.ql x h1
 ·obtain ⟨A,h1,h2⟩:=h.c
  refine⟨A,h1.sameZ (hk.sameG h1.lt hb.1.symm),fun j hj=> ?_⟩
  rw [List.length_set]at hj;rw [h2 j hj,List.getElem_set]
  by_cases e:i=j
  ·subst e
   rw [if_pos rfl];unfold ColV.sv;rw [h.ql _ hm,hl,hg]
  ·rw [if_neg e]
 ·intro x hx'
  rcases hin x hx' with rfl | ⟨h1,h2⟩
  ·exact ⟨hq,hr.2⟩
  ·exact ⟨(h.r x h1).1.sameZ (hk.sameG (h.r x h1).1.lt h2),(h.r x h1).2⟩
 ·intro a b ha hb' hab
  rw [List.length_set]at ha hb';rw [List.getElem_set,List.getElem_set]
  by_cases e:i=a
  ·subst e
   rw [if_pos rfl,if_neg hab];exact fun eg=>h.d i b ha hb' hab (hg.trans eg)
  ·rw [if_neg e]
   by_cases e':i=b
   ·subst e'
    rw [if_pos rfl];exact fun eg=>h.d a i ha hb' hab (eg.trans hg.symm)
   ·rw [if_neg e']
    exact h.d a b ha hb' hab
 ·intro x hx'
  rcases hin x hx' with rfl | ⟨h1,_⟩
  ·exact hb
  ·exact h.xb x h1
def swpL {α:Type}(l:List α)(a b:Nat)(ha:a<l.length)(hb:b<l.length):List α:=(l.set a l[b]).set b l[a]
theorem swpL_len {α:Type}{l:List α}{a b:Nat}{ha:a<l.length}{hb:b<l.length}:(swpL l a b ha hb).length=l.length:=by simp [swpL]
theorem swpL_at {α:Type}{l:List α}{a b:Nat}{ha:a<l.length}{hb:b<l.length}{i:Nat}(hi:i<l.length):(swpL l a b ha hb)[i]'(by rw [swpL_len];exact hi)=l[if i=b then a else if i=a then b else i]'(by split;exact ha;split;exact hb;exact hi):=by
 unfold swpL;rw [List.getElem_set,List.getElem_set]
 by_cases e:b=i
 ·subst e;simp
 ·rw [if_neg e]
  by_cases e':a=i
  ·subst e';simp [Ne.symm e]
  ·rw [if_neg e'];simp [Ne.symm e,Ne.symm e']
theorem swpL_mem {α:Type}{l:List α}{a b:Nat}{ha:a<l.length}{hb:b<l.length}{x:α}(hx:x∈swpL l a b ha hb):x∈l:=by
 obtain⟨i,hi,rfl⟩:=List.getElem_of_mem hx;rw [swpL_at (by rw [swpL_len]at hi;exact hi)]
 exact List.getElem_mem _
theorem swpL_map {α β:Type}(f:α→β){l:List α}{a b:Nat}{ha:a<l.length}{hb:b<l.length}:(swpL l a b ha hb).map f=swpL (l.map f) a b (by simpa using ha) (by simpa using hb):=by
 simp [swpL,List.map_set]
theorem YC.swap {w0 w:World}{hi bY gc n L cc:Nat}{vr:Value}{xs:List ColV}(h:YC w0 w hi bY gc vr n L cc xs){a b ga gb:Nat}{qa qb:List Rat}(ha:∃hx:a<xs.length,xs[a]=⟨ga,qa⟩)(hb:∃hx:b<xs.length,xs[b]=⟨gb,qb⟩):
  YC w0 ((w.setCell ⟨gc,a,none⟩ (.slice (some ⟨gb,0,none⟩) L L)).setCell ⟨gc,b,none⟩ (.slice (some ⟨ga,0,none⟩) L L)) hi bY gc vr n L cc (swpL xs a b ha.1 hb.1):=by
 obtain⟨ha,ea⟩:=ha;obtain⟨hb,eb⟩:=hb;have hs:∀k,k≠gc→((w.setCell ⟨gc,a,none⟩ (.slice (some ⟨gb,0,none⟩) L L)).setCell ⟨gc,b,none⟩ (.slice (some ⟨ga,0,none⟩) L L)).heap[k]? =w.heap[k]? :=fun k hk=>by
  rw [heap_setCell_other _ _ _ _ hk,heap_setCell_other _ _ _ _ hk]
 have hsa:xs[a].sv= .slice (some ⟨ga,0,none⟩) L L:=by
  have:=h.ql _ (List.getElem_mem ha);rw [ea]at this ⊢;unfold ColV.sv;rw [this]
 have hsb:xs[b].sv= .slice (some ⟨gb,0,none⟩) L L:=by
  have:=h.ql _ (List.getElem_mem hb);rw [eb]at this ⊢;unfold ColV.sv;rw [this]
 refine⟨(h.k.setCell _ fun hh=>absurd hh (by have:=h.own;omega)).setCell _ fun hh=>absurd hh (by have:=h.own;omega),by simpa using h.hw,h.y.sameZ (hs _ h.yc),by rw [swpL_len];exact h.xl,fun x hx=>h.ql x (swpL_mem hx),?_,h.cc,fun x hx=> ?_,?_,fun x hx=>h.xb x (swpL_mem hx),h.yc,h.own⟩
 ·obtain ⟨A,h1,h2⟩:=h.c
  refine⟨_,(h1.set a _).set b _,fun i hi0=> ?_⟩
  have hi':i<xs.length:=by have:=hi0;rwa [swpL_len]at this
  rw [swpL_at hi'];have hA:∀j (hj:j<xs.length),j<A.size:=fun j hj=>(Array.getElem?_eq_some_iff.1 (h2 j hj)).1
  by_cases e:i=b
  ·subst e
   simp only [if_true];rw [hsa];simp [Array.getElem?_setIfInBounds,hA i hi']
  ·by_cases e':i=a
   ·subst e'
    simp only [if_neg e,if_true];rw [hsb];simp [Array.getElem?_setIfInBounds,hA i hi',Ne.symm e]
   ·simp only [if_neg e,if_neg e']
    rw [← h2 i hi'];simp [Array.getElem?_setIfInBounds,Ne.symm e,Ne.symm e']
 ·have hm:=swpL_mem hx
  exact⟨(h.r x hm).1.sameZ (hs _ (h.xb x hm).1),(h.r x hm).2⟩
 ·intro i j hi' hj hij
  rw [swpL_len]at hi' hj;rw [swpL_at hi',swpL_at hj];refine h.d _ _ _ _ ?_
  split<;>split<;>(try split)<;>(try split)<;>omega
theorem YC.swapKeep {w0 w:World}{hi bY gc n L cc:Nat}{vr:Value}{xs:List ColV}(h:YC w0 w hi bY gc vr n L cc xs)(a b:Nat)(u v:Value):Keep (Mid w0.heap.size hi) w ((w.setCell ⟨gc,a,none⟩ u).setCell ⟨gc,b,none⟩ v):=
 ((Keep.refl _ _).setCell _ fun _=>⟨h.own.2.2.1,h.own.2.2.2⟩).setCell _ fun _=>⟨h.own.2.2.1,h.own.2.2.2⟩
def cellQ (c:List (List Rat))(k i:Nat):Rat:=(c.getD k []).getD i 0
def flQ (q:Rat):Rat:=((q.num/(q.den:Int):Int):Rat)
def scanS (c:List (List Rat))(i fr:Nat):Nat→Nat × Nat
 | 0=>(0,0)
 | d+1=>let s:=scanS c i fr d
  if cellQ c (fr+d) i=0 then s else(if s.2=0∨absQ (cellQ c (fr+d) i)<absQ (cellQ c s.1 i)then fr+d else s.1,s.2+1)
def bestI (s:Nat × Nat):Int:=if s.2=0 then -1 else(s.1:Int)
theorem scan_bd {c:List (List Rat)}{i fr:Nat}:∀d,(scanS c i fr d).2≤d∧((scanS c i fr d).2≠0→fr≤(scanS c i fr d).1∧(scanS c i fr d).1<fr+d∧cellQ c (scanS c i fr d).1 i≠0)
 | 0=>⟨Nat.le_refl _,fun h=>absurd rfl h⟩
 | d+1=>by
  obtain⟨h1,h2⟩:=scan_bd (c:=c) (i:=i) (fr:=fr) d;simp only [scanS]
  split
  ·exact ⟨by omega,fun h=>by have:=h2 h;exact⟨this.1,by omega,this.2.2⟩⟩
  ·rename_i hx
   refine⟨by simp only;omega,fun _=> ?_⟩
   simp only
   split
   ·exact ⟨by omega,by omega,hx⟩
   ·rename_i hs
    have:=h2 fun e=>hs (.inl e)
    exact⟨this.1,by omega,this.2.2⟩
def swpQ (c:List (List Rat))(a b:Nat):List (List Rat):=(c.set a (c.getD b [])).set b (c.getD a [])
theorem swpQ_eq {c:List (List Rat)}{a b:Nat}(ha:a<c.length)(hb:b<c.length):swpL c a b ha hb=swpQ c a b:=by
 unfold swpL swpQ;rw [List.getD_eq_getElem?_getD,List.getElem?_eq_getElem hb,List.getD_eq_getElem?_getD,List.getElem?_eq_getElem ha];rfl
def redK (c:List (List Rat))(i fr:Nat):Nat→List (List Rat)
 | 0=>c
 | d+1=>let r:=redK c i fr d
  if cellQ r (fr+1+d) i=0 then r else r.set (fr+1+d) (lessQ (r.getD (fr+1+d) []) (r.getD fr []) (flQ (cellQ r (fr+1+d) i/cellQ r fr i)))
def clearR (n i fr:Nat):Nat→List (List Rat)→Option (Bool × List (List Rat))
 | 0,_=>none
 | f+1,c=>let s:=scanS c i fr (n-fr)
  if s.2=0 then some (false,c)else
  let c1:=swpQ c fr s.1
  if s.2=1 then some (true,c1)else
  let c2:=redK c1 i fr (n-(fr+1))
  if bdC c2=true then clearR n i fr f c2 else none
theorem redK_len {c:List (List Rat)}{i fr:Nat}:∀d,(redK c i fr d).length=c.length
 | 0=>rfl
 | d+1=>by
  simp only [redK]
  split
  ·exact redK_len d
  ·rw [List.length_set];exact redK_len d
theorem redK_low {c:List (List Rat)}{i fr:Nat}:∀d k,k≤fr→(redK c i fr d).getD k []=c.getD k []
 | 0,k,_=>rfl
 | d+1,k,hk=>by
  simp only [redK]
  split
  ·exact redK_low d k hk
  ·rw [List.getD_eq_getElem?_getD,List.getElem?_set_ne (by omega),←List.getD_eq_getElem?_getD];exact redK_low d k hk
theorem redK_high {c:List (List Rat)}{i fr:Nat}:∀d k,fr+1+d≤k→(redK c i fr d).getD k []=c.getD k []
 | 0,k,_=>rfl
 | d+1,k,hk=>by
  simp only [redK]
  split
  ·exact redK_high d k (by omega)
  ·rw [List.getD_eq_getElem?_getD,List.getElem?_set_ne (by omega),←List.getD_eq_getElem?_getD];exact redK_high d k (by omega)
theorem redK_mid {c:List (List Rat)}{i fr:Nat}:∀D d k,d≤D→k<fr+1+d→(redK c i fr D).getD k []=(redK c i fr d).getD k []
 | 0,d,k,h,_=>by rw [Nat.le_zero.1 h]
 | D+1,d,k,h,hk=>by
  by_cases e:d=D+1
  ·rw [e]
  ·rw [← redK_mid D d k (by omega) hk]
   conv=>lhs;unfold redK
   simp only
   split
   ·rfl
   ·rw [List.getD_eq_getElem?_getD,List.getElem?_set_ne (by omega),←List.getD_eq_getElem?_getD]
theorem bdC_of {c:List (List Rat)}(h:∀k,k<c.length→(c.getD k []).all bdQ=true):bdC c=true:=by
 unfold bdC;rw [List.all_eq_true];intro l hl;obtain⟨k,hk,rfl⟩:=List.getElem_of_mem hl;have:=h k hk
 rwa [List.getD_eq_getElem?_getD,List.getElem?_eq_getElem hk]at this
theorem bdC_get {c:List (List Rat)}(h:bdC c=true)(k:Nat):(c.getD k []).all bdQ=true:=by
 by_cases hk:k<c.length
 ·rw [List.getD_eq_getElem?_getD,List.getElem?_eq_getElem hk]
  exact List.all_eq_true.1 h _ (List.getElem_mem hk)
 ·rw [List.getD_eq_getElem?_getD,List.getElem?_eq_none (by omega)];rfl
theorem redK_bd {c:List (List Rat)}{i fr D:Nat}(h1:bdC c=true)(h2:bdC (redK c i fr D)=true){d:Nat}(hd:d≤D):bdC (redK c i fr d)=true:=by
 refine bdC_of fun k _=> ?_
 by_cases hk:k<fr+1+d
 ·rw [← redK_mid D d k hd hk];exact bdC_get h2 k
 ·rw [redK_high d k (by omega)];exact bdC_get h1 k
theorem swpQ_bd {c:List (List Rat)}(h:bdC c=true){a b:Nat}:bdC (swpQ c a b)=true:=by
 unfold bdC swpQ;rw [List.all_eq_true];intro l hl
 rcases List.mem_or_eq_of_mem_set hl with hl | rfl
 ·rcases List.mem_or_eq_of_mem_set hl with hl | rfl
  ·exact List.all_eq_true.1 h l hl
  ·exact bdC_get h b
 ·exact bdC_get h a
end Go.Proofs.YtcnjcnjipddgeaaGreat
