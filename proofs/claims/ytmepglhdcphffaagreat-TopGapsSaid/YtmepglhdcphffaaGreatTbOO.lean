/- Package tableau's New: what lies in memory while it runs. Package tableau's New. Package tableau's New: the walk. -/
import Derived.Test.YtmepglhdcphffaaGreatTbMM
import Derived.Test.YtmepglhdcphffaaGreatOwGG
namespace Go.Proofs.YtmepglhdcphffaaGreat
set_option maxRecDepth 100000
set_option maxHeartbeats 32000000
set_option linter.unusedSimpArgs false
set_option linter.unusedVariables false
open Go.ChangeShapes Go.WideShapes Go.RowKit Go.Maps
abbrev TLN:TypeId:=86
theorem zbP:(Tryz.prog.info? TLN).map (fun i=>(i.zero,i.size,i.bytes))=some (some (.slice none 0 0),1,24):=kr
structure II where
 g:Nat
 q:List Rat
def II.sv (x:II):Value:= .slice (some ⟨x.g,0,none⟩) x.q.length x.q.length
def nmC (x:II):List Value:= [x.sv]
theorem Qm (x:II):(nmC x).length=1:=rfl
theorem dO {w w':World}{base:Nat}{e:TypeId}{size:Nat}{v:Value}{n:Nat}{xs:List Value}(h:w.ownsRow base e size v n xs)(he:∀k,v.ownBlock=some k→w'.heap[k]? =w.heap[k]?):w'.ownsRow base e size v n xs:=by
 obtain⟨hl,h | ⟨g,cap,cur,hv,hb,hg,hl',hm,hs,ht⟩⟩:=h
 ·exact ⟨hl,.inl h⟩
 exact⟨hl,.inr ⟨g,cap,cur,hv,hb,by rw [he g (by rw [hv];rfl)];exact hg,hl',hm,hs,ht⟩⟩
structure NS (w0 w:World)(bT gm gv n m kb km:Nat)(vb vc:Value)(xs:List II):Prop where
 k:Keep au w0 w
 b:bC w w0.heap.size vb ((List.range kb).map fun i=>((n+i:Nat):Int))
 c:aO TLN 1 nmC w w0.heap.size vc xs
 r:∀x∈xs,bD w x.g x.q∧w0.heap.size≤x.g
 d:xs.Pairwise fun x y=>x.g≠y.g
 v:bD w gv (gJ (List.replicate (n+m) pr0))
 mp:zX w gm km ((List.range km).map fun i=>n+i)
 bc:Apart vb vc
 xb:∀x∈xs,vb.ownBlock≠some x.g∧vc.ownBlock≠some x.g∧x.g≠gv∧x.g≠gm∧x.g≠bT
 nb:vb.ownBlock≠some gv∧vb.ownBlock≠some gm∧vb.ownBlock≠some bT
 nc:vc.ownBlock≠some gv∧vc.ownBlock≠some gm∧vc.ownBlock≠some bT
 ap:bT≠gv∧bT≠gm∧gv≠gm
 own:w0.heap.size≤bT∧w0.heap.size≤gv∧w0.heap.size≤gm
 lt:bT<w.heap.size
def Dv (c gm gv:Nat)(vb vc:Value)(xs:List II):Prop:=c≠gv∧c≠gm∧vb.ownBlock≠some c∧vc.ownBlock≠some c∧∀x∈xs,x.g≠c
theorem NS.clearT {w0 w:World}{bT gm gv n m kb km:Nat}{vb vc:Value}{xs:List II}(h:NS w0 w bT gm gv n m kb km vb vc xs):Dv bT gm gv vb vc xs:=
 ⟨h.ap.1,h.ap.2.1,h.nb.2.2,h.nc.2.2,fun x hx=>(h.xb x hx).2.2.2.2⟩
theorem NS.fresh {w0 w:World}{bT gm gv n m kb km:Nat}{vb vc:Value}{xs:List II}(h:NS w0 w bT gm gv n m kb km vb vc xs){c:Nat}(hc:w.heap.size≤c):Dv c gm gv vb vc xs:=
 ⟨fun e=>by have:=h.v.lt;omega,fun e=>by have:=h.mp.lt;omega,fun e=>by have:=(World.ownsRow.lt h.b c e).2;omega,fun e=>by have:=h.c.lt c e;omega,fun x hx e=>by have:=(h.r x hx).1.lt;omega⟩
theorem NS.other {w0 w w':World}{bT gm gv n m kb km:Nat}{vb vc:Value}{xs:List II}(h:NS w0 w bT gm gv n m kb km vb vc xs)(hk:Keep au w0 w')(hs:w.heap.size≤w'.heap.size){c:Nat}(ho:∀b,b<w.heap.size→b≠c→w'.heap[b]? =w.heap[b]?)(hc:Dv c gm gv vb vc xs):
  NS w0 w' bT gm gv n m kb km vb vc xs where
 k:=hk
 b:=dO h.b fun k hk=>ho k (World.ownsRow.lt h.b k hk).2 fun e=>hc.2.2.1 (e ▸ hk)
 c:=dO h.c fun k hk=>ho k (h.c.lt k hk) fun e=>hc.2.2.2.1 (e ▸ hk)
 r:=fun x hx=>⟨(h.r x hx).1.same (ho _ (h.r x hx).1.lt (hc.2.2.2.2 x hx)),(h.r x hx).2⟩
 d:=h.d
 v:=h.v.same (ho _ h.v.lt hc.1.symm)
 mp:=h.mp.same (ho _ h.mp.lt hc.2.1.symm)
 bc:=h.bc
 xb:=h.xb
 nb:=h.nb
 nc:=h.nc
 ap:=h.ap
 own:=h.own
 lt:=bJ h.lt hs
theorem NS.keep {w0 w w':World}{bT gm gv n m kb km:Nat}{vb vc:Value}{xs:List II}(h:NS w0 w bT gm gv n m kb km vb vc xs)(k:Keep au w w'):NS w0 w' bT gm gv n m kb km vb vc xs:=
 h.other (h.k.both k) k.size (c:=w.heap.size) (fun b hb _=>k.block b hb fun _ h=>h) (h.fresh (Nat.le_refl _))
theorem NS.line {w0 w:World}{bT gm gv n m kb km:Nat}{vb vc:Value}{xs:List II}(h:NS w0 w bT gm gv n m kb km vb vc xs){g:Nat}{q:List Rat}(hq:bD w g q)(hg:Dv g gm gv vb vc xs)(hgT:g≠bT)(hg0:w0.heap.size≤g){b0:Nat}(hb0:aL w b0 #[.slice (some ⟨g,0,none⟩) q.length q.length])(hl:xs.length≤100):
  ∃v' w',(Builtin.append_ #[140,140] 140 #[vc,.slice (some ⟨b0,0,none⟩) 1 1]).run Tryz.prog w= .ok v' w'∧NS w0 w' bT gm gv n m kb km vb v' (xs++ [⟨g,q⟩])∧w.grownBy w' vc.ownBlock:=by
 obtain⟨i0,hi0,hz0,hz1,hz2⟩:=info_parts zbP;obtain⟨v',w',hr,ho,hgr,hv⟩:=aO.app Qm Tryz.underlying140 hi0 hz0 hz1 hz2 rfl dc h.c (x:=⟨g,q⟩) hb0 (by
  intro y hy;simp [nmC]at hy;subst hy;rfl) (by unfold maxLen;omega) om h.k.size
 have hblk:∀b,b<w.heap.size→vc.ownBlock≠some b→w'.heap[b]? =w.heap[b]? :=fun b hb hn=>hgr.block b hb fun e=>hn e.symm;have hv':∀c,c<w.heap.size→vc.ownBlock≠some c→v'.ownBlock≠some c:=by
  intro c hc hn e;rcases hv with h1 | h1
  ·rw [h1]at e;exact hn e
  rw [h1]at e;cases e;omega
 refine⟨v',w',hr,⟨h.k.grown hgr fun k hk=>(h.c.block k hk),?_,ho,?_,?_,?_,?_,?_,?_,h.nb,?_,h.ap,h.own,bJ h.lt hgr.size⟩,hgr⟩
 ·exact dO h.b fun k hk=>hblk k (World.ownsRow.lt h.b k hk).2 (h.bc k hk)
 ·intro x hx;rcases List.mem_append.1 hx with hx | hx
  ·exact ⟨(h.r x hx).1.same (hblk _ (h.r x hx).1.lt (h.xb x hx).2.1),(h.r x hx).2⟩
  rw [List.mem_singleton.1 hx];exact⟨hq.same (hblk _ hq.lt hg.2.2.2.1),hg0⟩
 ·rw [List.pairwise_append];refine⟨h.d,sm,fun x hx y hy=> ?_⟩;rw [List.mem_singleton.1 hy];exact hg.2.2.2.2 x hx
 ·exact h.v.same (hblk _ h.v.lt h.nc.1)
 ·exact h.mp.same (hblk _ h.mp.lt h.nc.2.1)
 ·exact h.bc.step (fun k hk=>(World.ownsRow.lt h.b k hk).2) hv
 ·intro x hx;rcases List.mem_append.1 hx with hx | hx
  ·obtain ⟨a1,a2,a3⟩:=h.xb x hx;exact⟨a1,hv' _ (h.r x hx).1.lt a2,a3⟩
  rw [List.mem_singleton.1 hx];exact⟨hg.2.2.1,hv' _ hq.lt hg.2.2.2.1,hg.1,hg.2.1,hgT⟩
 exact⟨hv' _ h.v.lt h.nc.1,hv' _ h.mp.lt h.nc.2.1,hv' _ h.lt h.nc.2.2⟩
theorem NS.basic {w0 w:World}{bT gm gv n m kb km:Nat}{vb vc:Value}{xs:List II}(h:NS w0 w bT gm gv n m kb km vb vc xs){b0:Nat}(hb0:aL w b0 #[.int .i64 ((n+kb:Nat):Int)])(hl:n+kb≤100):
  ∃v' w',(Builtin.append_ #[22,22] 22 #[vb,.slice (some ⟨b0,0,none⟩) 1 1]).run Tryz.prog w= .ok v' w'∧NS w0 w' bT gm gv n m (kb+1) km v' vc xs∧w.grownBy w' vb.ownBlock:=by
 obtain⟨i0,hi0,hz0,hz1,hz2⟩:=info_parts Fy;obtain⟨v',w',hr,ho,hgr,_,hv⟩:=run_append_own_at (P:=Tryz.prog) w w0.heap.size 22 22 TI i0 (.int .i64 0) 1 8 Tryz.underlying22 hi0 hz0 hz1 hz2 rfl dc vb kb (iv ((List.range kb).map fun i=>((n+i:Nat):Int))) (by have:=h.b;unfold bC at this;simpa using this) ⟨b0,0,none⟩ 1 1 [.int .i64 ((n+kb:Nat):Int)] rfl
  (fun j u hj=>by rw [add_plain,Nat.zero_add,hb0.cell j];simpa using hj) (by intro u hu;rw [List.mem_singleton.1 hu];rfl) (by unfold maxLen;omega) om h.k.size
 have hblk:∀b,b<w.heap.size→vb.ownBlock≠some b→w'.heap[b]? =w.heap[b]? :=fun b hb hn=>hgr.block b hb fun e=>hn e.symm;have hv':∀c,c<w.heap.size→vb.ownBlock≠some c→v'.ownBlock≠some c:=by
  intro c hc hn e;rcases hv with h1 | h1
  ·rw [h1]at e;exact hn e
  rw [h1]at e;cases e;omega
 refine⟨v',w',hr,⟨h.k.grown hgr fun k hk=>(World.ownsRow.lt h.b k hk).1,?_,?_,?_,h.d,?_,?_,?_,?_,?_,h.nc,h.ap,h.own,bJ h.lt hgr.size⟩,hgr⟩
 ·unfold bC;rw [List.range_succ,List.map_append,Dn];simpa [iv]using ho
 ·exact dO h.c fun k hk=>hblk k (h.c.lt k hk) fun e=>h.bc k e hk
 ·exact fun x hx=>⟨(h.r x hx).1.same (hblk _ (h.r x hx).1.lt (h.xb x hx).1),(h.r x hx).2⟩
 ·exact h.v.same (hblk _ h.v.lt h.nb.1)
 ·exact h.mp.same (hblk _ h.mp.lt h.nb.2.1)
 ·exact (h.bc.symm.step (fun k hk=>h.c.lt k hk) hv).symm
 ·intro x hx;obtain⟨a1,a2,a3⟩:=h.xb x hx;exact⟨hv' _ (h.r x hx).1.lt a1,a2,a3⟩
 exact⟨hv' _ h.v.lt h.nb.1,hv' _ h.mp.lt h.nb.2.1,hv' _ h.lt h.nb.2.2⟩
theorem NS.mapped {w0 w w':World}{bT gm gv n m kb km:Nat}{vb vc:Value}{xs:List II}(h:NS w0 w bT gm gv n m kb km vb vc xs){D:DataW Unit}(hD:∀i (h:i<((List.range km).map fun i=>n+i).length),D.atKey (.int .i64 (((List.range km).map fun i=>n+i)[i]:Int)) (.lit (.int .i64 0))= .lit (.int .i64 (i:Int)))(hm:IsMap D)
  (ho:w'.ownsMap Tryz.prog 3 (plainElem Tryz.prog 3) gm (km+1) (D.put (.int .i64 ((n+km:Nat):Int)) (.lit (.int .i64 (km:Int))))) (hg:w.grownBy w' (some gm)):NS w0 w' bT gm gv n m kb (km+1) vb vc xs:=by
 have hblk:∀b,b<w.heap.size→b≠gm→w'.heap[b]? =w.heap[b]? :=fun b hb hn=>hg.block b hb fun e=>hn (Option.some.inj e);refine⟨h.k.grown hg fun k hk=>(by cases hk;exact h.own.2.2),?_,?_,?_,h.d,?_,?_,h.bc,h.xb,h.nb,h.nc,h.ap,h.own,bJ h.lt hg.size⟩
 ·exact dO h.b fun k hk=>hblk k (World.ownsRow.lt h.b k hk).2 fun e=>h.nb.2.1 (e ▸ hk)
 ·exact dO h.c fun k hk=>hblk k (h.c.lt k hk) fun e=>h.nc.2.1 (e ▸ hk)
 ·exact fun x hx=>⟨(h.r x hx).1.same (hblk _ (h.r x hx).1.lt (h.xb x hx).2.2.2.1),(h.r x hx).2⟩
 ·exact h.v.same (hblk _ h.v.lt h.ap.2.2)
 refine⟨_,ho,fun i hi=> ?_⟩;have hi':i<km+1:=by simpa using hi
 rw [List.getElem_map,List.getElem_range];by_cases e:i=km
 ·subst e;exact Maps.atKey_put_same hm (show WideAt.IsKeyLit (.int .i64 ((n+i:Nat):Int))from by simp [WideAt.IsKeyLit]) _ _
 rw [Maps.atKey_put_other (by intro h;injection h with _ h;omega)];have:=hD i (by simp;omega);rw [List.getElem_map,List.getElem_range]at this;exact this
theorem NS.done {w0 w:World}{bT gm gv n:Nat}{vb vc vr:Value}{xs:List II}{rows:List Rw}(h:NS w0 w bT gm gv n rows.length rows.length rows.length vb vc xs)(hx:xs.map II.q=(TS.start n rows).cells)(ht:vZ w bT n vr vb (.map (some gm)) vc (.slice (some ⟨gv,0,none⟩) (n+rows.length) (n+rows.length)) (.slice none 0 0))(hr:iH w0 vr rows)(hn:n≤12)(h40:rows.length≤64):
  EW w0 w bT rows.length (TS.start n rows):=by
 have hxl:xs.length=rows.length:=by have:=congrArg List.length hx;simpa [TS.start]using this
 have hxa:∀i (hi:i<xs.length) (hi':i<(TS.start n rows).cells.length),(TS.start n rows).cells[i]=xs[i].q:=by
  intro i hi hi';have:(TS.start n rows).cells[i]? =some xs[i].q:=by rw [← hx];simp [hi]
  rw [eD hi']at this;exact Option.some.inj this
 obtain⟨ob,cb,hvb,hcb1,hcb2,hbI⟩:∃ob cb,vb= .slice ob rows.length cb∧rows.length≤cb∧cb≤maxLen∧(0<rows.length→∃g,ob=some ⟨g,0,none⟩∧vb.ownBlock=some g∧w0.heap.size≤g∧zY w g (TS.start n rows).basic):=by
  obtain⟨hl,h' | ⟨g,cap,cur,hv,hb,hg,hl',hm,hs,ht⟩⟩:=h.b
  ·obtain ⟨e1,e2⟩:=h';have e3:rows.length=0:=by simpa using e2
   exact⟨none,0,by rw [e1,e3],om,sm,fun h0=>absurd h0 om⟩
  have e3:((List.range rows.length).map fun i=>((n+i:Nat):Int)).length=rows.length:=sm;rw [e3]at hv hl' ht;refine⟨_,cap,hv,hl',hm,fun _=>⟨g,rfl,by rw [hv];rfl,hb,cur,⟨_,hg⟩,fun i hi=> ?_⟩⟩;have hi':i<rows.length:=by simpa [TS.start]using hi
  have h1:(cur.toList.take (rows.length*1))[i]? =(iv ((List.range rows.length).map fun i=>((n+i:Nat):Int)))[i]? :=by rw [ht]
  rw [List.getElem?_take,if_pos om,Ot]at h1;simp [hi']at h1;simp [TS.start,h1]
 obtain⟨oc,cc,EX,hcc1,hcc2,hcI⟩:∃oc cc,vc= .slice oc rows.length cc∧rows.length≤cc∧cc≤maxLen∧(0<rows.length→∃g,oc=some ⟨g,0,none⟩∧vc.ownBlock=some g∧w0.heap.size≤g∧zZ w g (TS.start n rows).cells (fun i=>(xs.getD i ⟨0,[]⟩).g) (fun i=>(xs.getD i ⟨0,[]⟩).q.length)):=by
  obtain⟨hl,h' | ⟨g,cap,cur,hv,hb,hg,hl',hm,hs,ht⟩⟩:=h.c
  ·obtain ⟨e1,e2⟩:=h';have e3:rows.length=0:=om;exact⟨none,0,by rw [e1,e3],om,sm,fun h0=>absurd h0 om⟩
  rw [hxl]at hv hl' ht;refine⟨_,cap,hv,hl',hm,fun _=>⟨g,rfl,by rw [hv];rfl,hb,cur,⟨_,hg⟩,fun i hi=> ?_⟩⟩;have hi':i<xs.length:=by rw [hxl];simpa [TS.start]using hi
  have h1:=flat_get Qm xs i xs[i] (eD hi') 0 dc;rw [← ht,List.getElem?_take,if_pos om,Nat.mul_one,Nat.add_zero]at h1;have h2:xs.getD i ⟨0,[]⟩=xs[i]:=by rw [dV,eD hi'];rfl
  simp only [h2];rw [hxa i hi' hi,←Array.getElem?_toList,h1];rfl
 have hbig:∀ {c:Nat},w.heap.size≤c→Dv c gm gv vb vc xs:=fun hc=>h.fresh hc;obtain⟨gb,hgb⟩:∃gb,(0<rows.length→ob=some ⟨gb,0,none⟩∧vb.ownBlock=some gb∧zY w gb (TS.start n rows).basic)∧w0.heap.size≤gb∧(rows.length=0→gb=w.heap.size+1):=by
  by_cases h0:0<rows.length
  ·obtain ⟨g,h1,h2,h3,h4⟩:=hbI h0;exact⟨g,fun _=>⟨h1,h2,h4⟩,h3,fun e=>om⟩
  exact⟨w.heap.size+1,fun h=>absurd h h0,by have:=h.k.size;omega,fun _=>rfl⟩
 obtain⟨gc,hgc⟩:∃gc,(0<rows.length→oc=some ⟨gc,0,none⟩∧vc.ownBlock=some gc∧zZ w gc (TS.start n rows).cells (fun i=>(xs.getD i ⟨0,[]⟩).g) (fun i=>(xs.getD i ⟨0,[]⟩).q.length))∧w0.heap.size≤gc∧(rows.length=0→gc=w.heap.size+2):=by
  by_cases h0:0<rows.length
  ·obtain ⟨g,h1,h2,h3,h4⟩:=hcI h0;exact⟨g,fun _=>⟨h1,h2,h4⟩,h3,fun e=>om⟩
  exact⟨w.heap.size+2,fun h=>absurd h h0,by have:=h.k.size;omega,fun _=>rfl⟩
 have hgl:=h.v.lt;have hml:=h.mp.lt;have htl:=h.lt;have hB:gb≠gv∧gb≠gm∧gb≠bT∧∀x∈xs,x.g≠gb:=by
  by_cases h0:0<rows.length
  ·have e:=(hgb.1 h0).2.1;exact⟨fun e'=>h.nb.1 (e' ▸ e),fun e'=>h.nb.2.1 (e' ▸ e),fun e'=>h.nb.2.2 (e' ▸ e),fun x hx e'=>(h.xb x hx).1 (e'.symm ▸ e)⟩
  have e:=hgb.2.2 om;exact⟨om,om,om,fun x hx=>absurd (List.length_pos_of_mem hx) om⟩
 have hC:gc≠gv∧gc≠gm∧gc≠bT∧∀x∈xs,x.g≠gc:=by
  by_cases h0:0<rows.length
  ·have e:=(hgc.1 h0).2.1;exact⟨fun e'=>h.nc.1 (e' ▸ e),fun e'=>h.nc.2.1 (e' ▸ e),fun e'=>h.nc.2.2 (e' ▸ e),fun x hx e'=>(h.xb x hx).2.1 (e'.symm ▸ e)⟩
  have e:=hgc.2.2 om;exact⟨om,om,om,fun x hx=>absurd (List.length_pos_of_mem hx) om⟩
 have hBC:gb≠gc:=by
  by_cases h0:0<rows.length
  ·have e1:=(hgb.1 h0).2.1;have e2:=(hgc.1 h0).2.1;exact fun e=>h.bc gb e1 (e ▸ e2)
  have e1:=hgb.2.2 om;have e2:=hgc.2.2 om;omega
 have hlc:(TS.start n rows).cells.length=rows.length:=by simp [TS.start]
 have hlb:(TS.start n rows).basic.length=rows.length:=by simp [TS.start]
 have hlv:(TS.start n rows).vals.length=n+rows.length:=by simp [TS.start]
 have Z7:∀i,i<rows.length→∃hi:i<xs.length,xs.getD i ⟨0,[]⟩=xs[i]:=by
  intro i hi;have hi':i<xs.length:=om;exact⟨hi',by rw [dV,eD hi'];rfl⟩
 have hql:∀i (hi:i<xs.length),xs[i].q.length=n+rows.length:=by
  intro i hi;rw [← hxa i hi om];simp [TS.start]
 refine⟨⟨gb,gc,gv,gm,fun i=>(xs.getD i ⟨0,[]⟩).g,ob,oc,cb,cc,n+rows.length,fun i=>(xs.getD i ⟨0,[]⟩).q.length,vr⟩,?_⟩;constructor
 ·exact h.k
 ·show vZ w bT n vr (.slice ob (TS.start n rows).basic.length cb) (.map (some gm)) (.slice oc (TS.start n rows).cells.length cc) (.slice (some ⟨gv,0,none⟩) (TS.start n rows).vals.length (n+rows.length)) (.slice none 0 0);rw [hlc,hlb,hlv,←hvb,←EX];exact ht
 ·exact hr
 ·intro hne;have h0:0<rows.length:=by rw [← hlb];exact List.length_pos_iff.2 hne
  exact⟨(hgb.1 h0).1,(hgb.1 h0).2.2⟩
 ·intro hne;have h0:0<rows.length:=by rw [← hlc];exact List.length_pos_iff.2 hne
  exact⟨(hgc.1 h0).1,(hgc.1 h0).2.2⟩
 ·intro i hi;obtain⟨hi',e⟩:=Z7 i om;have hq:=hql i hi';simp only [e];rw [hxa i hi' hi];exact⟨(h.r _ (List.getElem_mem hi')).1,Nat.le_refl _,by rw [hq];unfold maxLen;omega⟩
 ·exact h.v
 ·exact ⟨by rw [hlb];exact hcb1,hcb2⟩
 ·exact ⟨by rw [hlc];exact hcc1,hcc2⟩
 ·exact ⟨by rw [hlv];exact Nat.le_refl _,by show n+rows.length≤maxLen;unfold maxLen;omega⟩
 ·exact h.mp
 ·refine ⟨h.own.1,hgb.2.1,hgc.2.1,h.own.2.1,h.own.2.2,fun i hi=> ?_⟩;obtain⟨hi',e⟩:=Z7 i om;show _≤(xs.getD i ⟨0,[]⟩).g;rw [e];exact(h.r _ (List.getElem_mem hi')).2
 refine⟨hB.2.2.1.symm,hC.2.2.1.symm,h.ap.1,h.ap.2.1,hBC,hB.1,hB.2.1,hC.1,hC.2.1,h.ap.2.2,?_,?_,?_,?_,?_,?_⟩
 ·intro i hi;obtain⟨hi',e⟩:=Z7 i om;show(xs.getD i ⟨0,[]⟩).g≠bT;rw [e];exact(h.xb _ (List.getElem_mem hi')).2.2.2.2
 ·intro i hi;obtain⟨hi',e⟩:=Z7 i om;show(xs.getD i ⟨0,[]⟩).g≠gb;rw [e];exact hB.2.2.2 _ (List.getElem_mem hi')
 ·intro i hi;obtain⟨hi',e⟩:=Z7 i om;show(xs.getD i ⟨0,[]⟩).g≠gc;rw [e];exact hC.2.2.2 _ (List.getElem_mem hi')
 ·intro i hi;obtain⟨hi',e⟩:=Z7 i om;show(xs.getD i ⟨0,[]⟩).g≠gv;rw [e];exact(h.xb _ (List.getElem_mem hi')).2.2.1
 ·intro i hi;obtain⟨hi',e⟩:=Z7 i om;show(xs.getD i ⟨0,[]⟩).g≠gm;rw [e];exact(h.xb _ (List.getElem_mem hi')).2.2.2.1
 intro i j hi hj hij;obtain⟨hi',e1⟩:=Z7 i om;obtain⟨hj',e2⟩:=Z7 j om;show(xs.getD i ⟨0,[]⟩).g≠(xs.getD j ⟨0,[]⟩).g;rw [e1,e2];have hp:=List.pairwise_iff_getElem.1 h.d;rcases Nat.lt_or_gt_of_ne hij with hlt | hlt
 ·exact hp i j hi' hj' hlt
 exact(hp j i hj' hi' hlt).symm
abbrev zc9:TypeId:=147
theorem Z8:(Tryz.prog.info? zc9).map (fun i=>(i.zero,i.size,i.bytes))=some (some (.agg #[.bool false,.string ⟨#[]⟩,.bool false,.string ⟨#[]⟩,.bool false,.string ⟨#[]⟩,.bool false,.string ⟨#[]⟩]),8,96):=kr
theorem R6 (n:Nat):(madeCells (Value.agg #[.bool false,.string ⟨#[]⟩,.bool false,.string ⟨#[]⟩,.bool false,.string ⟨#[]⟩,.bool false,.string ⟨#[]⟩]).cells (n*8)).toList=GV (List.replicate (2*n) nv0):=by
 apply List.ext_getElem?;intro i;by_cases hi:i<n*8
 ·obtain ⟨k,j,hj,rfl⟩:∃k j,j<8∧i=k*8+j:=⟨i/8,i%8,om,om⟩;have hk:k<n:=om;obtain⟨c0,c1,c2,c3⟩:=rM (List.replicate (2*n) nv0) (2*k) nv0 (by rw [List.getElem?_replicate,if_pos om]);obtain⟨d0,d1,d2,d3⟩:=rM (List.replicate (2*n) nv0) (2*k+1) nv0 (by rw [List.getElem?_replicate,if_pos om]);rw [show 2*k*4=k*8 from om]at c0 c1 c2 c3;rw [show(2*k+1)*4=k*8+4 from om]at d0 d1 d2 d3;have hm:(k*8+j)%8=j:=om;rcases(by omega:j=0∨j=1∨j=2∨j=3∨j=4∨j=5∨j=6∨j=7)with rfl | rfl | rfl | rfl | rfl | rfl | rfl | rfl
  ·rw [Nat.add_zero]at *;rw [c0];simp [madeCells,Value.cells,hi,hm,nv0]
  ·rw [c1];simp [madeCells,Value.cells,hi,hm,nv0]
  ·rw [c2];simp [madeCells,Value.cells,hi,hm,nv0]
  ·rw [c3];simp [madeCells,Value.cells,hi,hm,nv0]
  ·rw [d0];simp [madeCells,Value.cells,hi,hm,nv0]
  ·rw [show k*8+5=k*8+4+1 from om,d1,show k*8+4+1=k*8+5 from om];simp [madeCells,Value.cells,hi,hm,nv0]
  ·rw [show k*8+6=k*8+4+2 from om,d2,show k*8+4+2=k*8+6 from om];simp [madeCells,Value.cells,hi,hm,nv0]
  rw [show k*8+7=k*8+4+3 from om,d3,show k*8+4+3=k*8+7 from om];simp [madeCells,Value.cells,hi,hm,nv0]
 rw [List.getElem?_eq_none (by simp [madeCells];omega),List.getElem?_eq_none (by rw [GX];simp;omega)]
theorem R7 (n:Nat):gJ (List.replicate n pr0)=List.replicate (2*n) 0:=by
 induction n with
 | zero=>rfl
 | succ n ih=>
  rw [List.replicate_succ,show gJ (pr0::List.replicate n pr0)=0::0::gJ (List.replicate n pr0)from rfl,ih,show 2*(n+1)=2*n+1+1 from om,List.replicate_succ,List.replicate_succ]
theorem R8 (w:World)(n:Nat)(hn:n≤100000):∃w',(Instr.makeSlice 139 (.int .i64 (n:Int)) (.int .i64 (n:Int))).run Tryz.prog w= .ok (.slice (some ⟨w.heap.size,0,none⟩) n n) w'∧bD w' w.heap.size (gJ (List.replicate n pr0))∧Keep au w w':=by
 obtain⟨i0,hi0,hz0,hz1,hz2⟩:=info_parts Z8;obtain⟨w',hr,ho,hg⟩:=run_make_full (P:=Tryz.prog) w w.heap.size 139 zc9 i0 (.agg #[.bool false,.string ⟨#[]⟩,.bool false,.string ⟨#[]⟩,.bool false,.string ⟨#[]⟩,.bool false,.string ⟨#[]⟩]) 8 Tryz.underlying139 hi0 hz0 hz1 .i64 .i64 n (by rw [hz2];omega) (by unfold maxLen;omega) (Nat.le_refl _);rw [R6]at ho;refine⟨w',hr,?_,Keep.of_below (dB hg w.heap.size (Nat.le_refl _) sm) (Nat.le_refl _)⟩;rw [R7];obtain⟨hl,h | ⟨g,cap,cur,hv,hb,hg',hl',hm,hs,ht⟩⟩:=ho
 ·exact absurd h.1 sm
 cases hv;refine⟨cur,List.replicate (2*n) nv0,⟨_,hg'⟩,rO.zeros (2*n),fun i x hx=> ?_⟩;have hi:i<2*n:=by have:=(List.getElem?_eq_some_iff.1 hx).1;simpa using this
 obtain⟨c0,c1,c2,c3⟩:=rM (List.replicate (2*n) nv0) i x hx;rw [← ht,List.getElem?_take,if_pos om,Array.getElem?_toList]at c0 c1 c2 c3;exact⟨c0,c1,c2,c3⟩
def mo (of:List Int)(K j:Nat):List Rat:=(List.range K).map fun k=>if k<j then((of.getD k 0:Int):Rat)else 0
theorem FU {of:List Int}{K j:Nat}:(mo of K j).length=K:=by simp [mo]
theorem Ou {of:List Int}{K:Nat}:mo of K 0=List.replicate K 0:=by
 apply List.ext_getElem
 ·simp [mo]
 intro i h1 h2;simp [mo]
theorem Ov {of:List Int}{K j:Nat}(hj:j<of.length)(hK:j<K):(mo of K j).set j ((of[j]:Int):Rat)=mo of K (j+1):=by
 apply List.ext_getElem
 ·simp [mo]
 intro i h1 h2;rw [List.getElem_set];simp only [mo,List.getElem_map,List.getElem_range];by_cases e:j=i
 ·subst e;rw [if_pos rfl,if_pos (Nat.lt_succ_self j),dV,eD hj];rfl
 rw [if_neg e];by_cases h1:i<j
 ·rw [if_pos h1,if_pos om]
 rw [if_neg h1,if_neg om]
theorem R9 {of:List Int}{K:Nat}:mo of K of.length=(List.range K).map fun k=>((of.getD k 0:Int):Rat):=by
 unfold mo;apply List.map_congr_left;intro k _;split
 ·rfl
 rename_i h;rw [dV,List.getElem?_eq_none om];rfl
theorem Ow {n:Nat}{rows:List Rw}{k:Nat}(hk:k<rows.length):(TS.start n rows).cells.take (k+1)=(TS.start n rows).cells.take k++ [mo rows[k].of (n+rows.length) rows[k].of.length]:=by
 have hl:(TS.start n rows).cells.length=rows.length:=by simp [TS.start]
 rw [List.take_succ_eq_append_getElem om,R9];simp [TS.start]
theorem NS.init {w w2:World}{n m:Nat}{A:Array Value}{t:TypeId}(hn2:bD w2 (w.heap.size+1) (gJ (List.replicate (n+m) pr0)))(hk2:Keep au (w.alloc (.map #[] 0)) w2):
  NS w (w2.alloc (.cells A t)) w2.heap.size w.heap.size (w.heap.size+1) n m 0 0 (.slice none 0 0) (.slice none 0 0) []:=by
 have k3:Keep au (w.alloc (.map #[] 0)) (w2.alloc (.cells A t)):=hk2.alloc _;have hlt:=hn2.lt;have hm:zX (w.alloc (.map #[] 0)) w.heap.size 0 ((List.range 0).map fun i=>n+i):=⟨.map [],World.ownsMap_made (H:=Unit) w Tryz.prog 3 (plainElem Tryz.prog 3),fun i hi=>absurd hi sm⟩;refine⟨((Keep.refl _ _).alloc _).both k3,bC.nil _ _,aO.nil _ _,sm,List.Pairwise.nil,hn2.keep ((Keep.refl _ _).alloc _),hm.keep k3,Si _,sm,?_,?_,⟨om,om,om⟩,⟨om,om,Nat.le_refl _⟩,sm⟩
 ·exact ⟨by simp [Value.ownBlock],by simp [Value.ownBlock],by simp [Value.ownBlock]⟩
 exact⟨by simp [Value.ownBlock],by simp [Value.ownBlock],by simp [Value.ownBlock]⟩
theorem Nt (w:World)(vr:Value)(rows:List Rw)(n:Nat)(hr:iH w vr rows)(hok:∀r∈rows,iA r n)(hn:n≤12)(h40:rows.length≤64):
  Calls Tryz.prog 30 #[vr,.int .i64 (n:Int)] w fun e w'=>∃bT,e= .returned (.pointer (some ⟨bT,0,none⟩))∧EW w w' bT rows.length (TS.start n rows):=by
 have HR:=zh hr;have mg:=zh hok;obtain⟨oa,ca,WJ,_,_⟩:=hr.len;obtain⟨m,hm⟩:∃m,rows.length=m:=⟨_,rfl⟩;obtain⟨KN,hK⟩:∃KN,n+m=KN:=⟨_,rfl⟩;have Og:=zh hm;have HKK:=zh hK;have HKE:Hid (KN=n+m):=zh hK.symm;have zbQ:KN≤76:=om;have hm40:m≤64:=om;rw [hm]at WJ;have HVR:=zh WJ;subst WJ;have eK:(n:Int)+(m:Int)=(KN:Int):=om;have ew:IntKind.i64.wrap (KN:Int)=(KN:Int):=Go.IntWalk.i64_in _ om;clear hr hok hm h40;have hmk:(Instr.makeMap 138 none).run Tryz.prog w= .ok (.map (some w.heap.size)) (w.alloc (.map #[] 0)):=rfl;obtain⟨w2,hr2,hn2,hk2⟩:=R8 (w.alloc (.map #[] 0)) KN om;rw [show(w.alloc (.map #[] 0)).heap.size=w.heap.size+1 from sm]at hr2 hn2;rw [← hK]at hn2;have HI:=zh (NS.init (A:= #[.int .i64 n,.slice oa m ca,.slice none 0 0,.map (some w.heap.size),.slice none 0 0,.slice (some ⟨w.heap.size+1,0,none⟩) KN KN,.slice none 0 0]) (t:=142) hn2 hk2);have HT:=zh (show vZ (w2.alloc (.cells #[.int .i64 n,.slice oa m ca,.slice none 0 0,.map (some w.heap.size),.slice none 0 0,.slice (some ⟨w.heap.size+1,0,none⟩) KN KN,.slice none 0 0] 142)) w2.heap.size n (.slice oa m ca) (.slice none 0 0) (.map (some w.heap.size)) (.slice none 0 0) (.slice (some ⟨w.heap.size+1,0,none⟩) KN KN) (.slice none 0 0)from aN _ _ rfl);clear hn2 hk2 hK;go_enter Tryz.func30,Tryz.ntmps30;go_upto_region 2 with fail;clear hr2 hmk;generalize w2.alloc (.cells #[.int .i64 n,.slice oa m ca,.slice none 0 0,.map (some w.heap.size),.slice none 0 0,.slice (some ⟨w.heap.size+1,0,none⟩) KN KN,.slice none 0 0] 142)=w3 at *;generalize w2.heap.size=bT at *;generalize hgm:w.heap.size=gm at *;have HWG:=zh hgm;clear hgm;go_wp2;go_loopw [23] (fun s wr=>∃(k:Nat) (vb vc:Value) (xs:List II),k≤m∧s= .int .i64 k∧NS w wr bT gm (gm+1) n m k k vb vc xs∧xs.map II.q=(TS.start n rows).cells.take k∧vZ wr bT n (.slice oa m ca) vb (.map (some gm)) vc (.slice (some ⟨gm+1,0,none⟩) KN KN) (.slice none 0 0)) (fun s _=>(m-intOf s).toNat)
 case atStart=>exact⟨0,_,_,[],om,rfl,HI.out,sm,HT.out⟩
 obtain⟨k,vb,vc,xs,hk,rfl,hns,hxs,htb⟩:=hrel;have zF:=zh hns;have HXS:=zh hxs;have EK:=zh htb;clear hns hxs htb HI HT;by_cases hkm:k<m
 case neg=>
  have hlt:¬(k:Int)<(m:Int):=om;obtain rfl:k=m:=om;have rR:Hid (EW w wr bT rows.length (TS.start n rows)):=zh (by
   have hm:=Og.out;have hkn:=HKK.out;have h1:=zF.out;have h2:=HXS.out;have h3:=EK.out;have h4:=HVR.out;clear zF HXS EK;subst hm;subst hkn;rw [List.take_of_length_le (by simp [TS.start])]at h2;exact h1.done h2 h3 HR.out hn hm40)
  go_wp2;go_ret;exact⟨bT,rfl,rR.out⟩
 have hlt:(k:Int)<(m:Int):=om;have hkr:k<rows.length:=by have:=Og.out;omega
 obtain⟨b,o,rfl,hbl,hrow⟩:=HR.out.at hkr;have hok:=mg.out _ (List.getElem_mem hkr);have G7:=zh (Ow (n:=n) hkr);generalize rows[k]=r at *;obtain⟨os,cs,p0,p1,p2,hrow⟩:=hrow.row;have p0:=(zF.out.k.cell hbl).trans p0;have p1:=(zF.out.k.cell hbl).trans p1;have p2:=(zF.out.k.cell hbl).trans p2;have zeL:=bJ hbl zF.out.k.size;have hrlen:r.of.length≤n:=by have:=hok.len;omega
 have HFT:=zh hok.fit;have HIR:=zh hrow;clear hok hrow;have ka:Keep au wr (wr.alloc (.cells #[.slice os r.of.length cs,.int .i64 r.kind,.int .i64 r.to] 34)):=(Keep.refl _ _).alloc _;have nu:Hid (aL (wr.alloc (.cells #[.slice os r.of.length cs,.int .i64 r.kind,.int .i64 r.to] 34)) wr.heap.size #[.slice os r.of.length cs,.int .i64 r.kind,.int .i64 r.to]):=zh (aN _ _ rfl);go_upto_region 5 with fail;have zF:=zh (zF.out.keep ka);have EK:=zh (EK.out.keep ka);clear ka p0 p1 p2 zeL;generalize wr.alloc (.cells #[.slice os r.of.length cs,.int .i64 r.kind,.int .i64 r.to] 34)=wa at *;generalize wr.heap.size=b7 at *;obtain⟨wb,hrb,hnb,hkb⟩:=zG wa KN om;go_upto_region 6 with fail;clear hrb;have nu:=zh (nu.out.keep hkb);have HCG:=zh (And.intro (zF.out.fresh (Nat.le_refl wa.heap.size)) (And.intro (show wa.heap.size≠bT by have:=zF.out.lt;omega) (show w.heap.size≤wa.heap.size from zF.out.k.size)));have zF:=zh (zF.out.keep hkb);have EK:=zh (EK.out.keep hkb);have HQ:Hid (bD wb wa.heap.size (mo r.of KN 0)):=zh (by rw [Ou];exact hnb);clear hnb hkb;generalize wa.heap.size=g at *;obtain⟨s0,s1,s2,_,_,_,l7⟩:=nu.out.three;go_wp2;clear s0 s1 s2 l7;have zH:Hid (aR w (.slice os r.of.length cs) r.of):=zh (by obtain⟨sv,hsv,h,_⟩:=HIR.out;cases hsv;exact h);go_loopw [36] (fun s wr=>∃j:Nat,j≤r.of.length∧s= .int .i64 j∧NS w wr bT gm (gm+1) n m k k vb vc xs∧vZ wr bT n (.slice (some ⟨b,o,none⟩) m ca) vb (.map (some gm)) vc (.slice (some ⟨gm+1,0,none⟩) KN KN) (.slice none 0 0)∧bD wr g (mo r.of KN j)) (fun s _=>(r.of.length-intOf s).toNat)
 case atStart=>exact⟨0,om,rfl,zF.out,EK.out,HQ.out⟩
 obtain⟨j,hj,rfl,hns,htb,hq⟩:=hrel;clear zF EK HQ nu;have zF:=zh hns;have EK:=zh htb;have HQ:=zh hq;clear hns htb hq;by_cases hjl:j<r.of.length
 case pos=>
  have zbI:(j:Int)<(r.of.length:Int):=om;have hjK:j<KN:=by have:=HKE.out;omega
  have hjKI:(j:Int)<(KN:Int):=om;obtain⟨bi,oi,ci,hsl,hbi,hc⟩:=zH.out.at hjl;cases hsl;have p0:=(zF.out.k.cell hbi).trans hc;have zeM:=bJ hbi zF.out.k.size;have hfx:=HFT.out _ (List.getElem_mem hjl);have HST:=zh (Ov hjl hjK);generalize r.of[j]=x at *;unfold fO at hfx;have CI:=fun w=>zh (iF w x om om);obtain⟨⟨xb,xS,xc,xU⟩,hx,hxn⟩:=uQ x;rw [hx]at CI;unfold NV.v at CI;simp only at CI;have Z9:=zh hxn;clear hx hxn hc;go_wp2_with fail;refine(CI _).out.mono ?_;rintro e w2' ⟨rfl,hk2⟩;have zF:=zh (zF.out.keep hk2);have EK:=zh (EK.out.keep hk2);have HQ:=zh (HQ.out.keep hk2);clear hk2 CI p0 zeM;obtain⟨_,_,_,_,g0,g1,g2,g3,_,f0,f1,f2,f3⟩:=HQ.out.at (k:=j) (by rw [FU];exact hjK);have hg6:=HQ.out.lt;go_wp2;have Qn:Hid (bD (w4 w2' g (j*4) ⟨xb,xS,xc,xU⟩) g (mo r.of KN (j+1))):=zh (by rw [← HST.out];exact HQ.out.set4 Z9.out);have HO:∀b,b≠g→(w4 w2' g (j*4) ⟨xb,xS,xc,xU⟩).heap[b]? =w2'.heap[b]? :=fun b hb=>iD hb;have hk4:Keep au w (w4 w2' g (j*4) ⟨xb,xS,xc,xU⟩):=sH zF.out.k HCG.out.2.2;have WK:=zh (zF.out.other hk4 (by simp [w4]) (fun b _ hb=>HO b hb) HCG.out.1);have Sj:=zh (aL.same EK.out (HO bT HCG.out.2.1.symm));clear HO hk4;rw [show((((w2'.setCell ⟨g,j*4,none⟩ (.bool xb)).setCell ⟨g,j*4+1,none⟩ (.string xS)).setCell ⟨g,j*4+2,none⟩ (.bool xc)).setCell ⟨g,j*4+3,none⟩ (.string xU))=w4 w2' g (j*4) ⟨xb,xS,xc,xU⟩from rfl];go_roundw
  case rel=>exact⟨j+1,om,gn,WK.out,Sj.out,Qn.out⟩
  simp [intOf];omega
 have zbI:¬(j:Int)<(r.of.length:Int):=om;obtain rfl:j=r.of.length:=om;have hxl:xs.length=k:=by
  have:=congrArg List.length HXS.out;rw [List.length_map,List.length_take]at this;have h2:(TS.start n rows).cells.length=rows.length:=by simp [TS.start]
  omega
 have HXL:=zh hxl;obtain⟨c,hc⟩:∃c,n+k=c:=⟨_,rfl⟩;have MS:=zh hc;have ec:(n:Int)+(k:Int)=(c:Int):=om;have ecw:IntKind.i64.wrap (c:Int)=(c:Int):=Go.IntWalk.i64_in _ om;have hc52:c≤76:=om;have ka:Keep au wr (wr.alloc (.cells #[.slice (some ⟨g,0,none⟩) KN KN] 86)):=(Keep.refl _ _).alloc _;have hb0:aL (wr.alloc (.cells #[.slice (some ⟨g,0,none⟩) KN KN] 86)) wr.heap.size #[.slice (some ⟨g,0,none⟩) KN KN]:=aN _ _ rfl;obtain⟨vc',w5,hr1,hns1,hg1⟩:=(zF.out.keep ka).line (HQ.out.keep ka) HCG.out.1 HCG.out.2.1 HCG.out.2.2 (b0:=wr.heap.size) (by rw [FU];exact hb0) om;obtain⟨WL,WM,cc',rfl⟩:∃o l c,vc'= .slice o l c:=by obtain⟨o,c,h,_⟩:=hns1.c.len;exact⟨o,_,c,h⟩
 have zaa:=zh hns1;have zbR:=zh (aL.same (EK.out.keep ka) (hg1.block bT (aL.lt (EK.out.keep ka)) fun e=>zF.out.nc.2.2 e.symm));obtain⟨_,_,_,_,t4,_,_,tl⟩:=EK.out.seven;obtain⟨_,_,_,_,q4,_,_,ql⟩:=zbR.out.seven;have qf:=zbR.out.free 4;obtain⟨ov,cv,EX,_,_⟩:=zF.out.c.len;clear hns1 hg1 hb0 hxl hc ka;have hkS:Keep au w (w5.setCell ⟨bT,4,none⟩ (.slice WL WM cc')):=zaa.out.k.setCell _ fun hh=>absurd hh (Nat.not_lt.2 zaa.out.own.1);have WK:=zh (zaa.out.other hkS sm (fun b _ hb=>heap_setCell_other _ _ _ _ hb) zaa.out.clearT);have Sj:Hid (vZ (w5.setCell ⟨bT,4,none⟩ (.slice WL WM cc')) bT n (.slice (some ⟨b,o,none⟩) m ca) vb (.map (some gm)) (.slice WL WM cc') (.slice (some ⟨gm+1,0,none⟩) KN KN) (.slice none 0 0)):=zh (zbR.out.set 4 (.slice WL WM cc'));have ka:Keep au (w5.setCell ⟨bT,4,none⟩ (.slice WL WM cc')) ((w5.setCell ⟨bT,4,none⟩ (.slice WL WM cc')).alloc (.cells #[.int .i64 (c:Int)] 3)):=(Keep.refl _ _).alloc _;have hb0:aL ((w5.setCell ⟨bT,4,none⟩ (.slice WL WM cc')).alloc (.cells #[.int .i64 (c:Int)] 3)) (w5.setCell ⟨bT,4,none⟩ (.slice WL WM cc')).heap.size #[.int .i64 (c:Int)]:=aN _ _ rfl;obtain⟨vb',w7,hr2,hns2,hg2⟩:=(WK.out.keep ka).basic (b0:=(w5.setCell ⟨bT,4,none⟩ (.slice WL WM cc')).heap.size) (by rw [MS.out];exact hb0) (by have:=MS.out;omega);obtain⟨ob',lb',cb',rfl⟩:∃o l c,vb'= .slice o l c:=by obtain⟨o,c,h⟩:=hns2.b.len;exact⟨o,_,c,h⟩
 have WO:=zh hns2;have Kw:=zh (aL.same (Sj.out.keep ka) (hg2.block bT (aL.lt (Sj.out.keep ka)) fun e=>WK.out.nb.2.2 e.symm));obtain⟨_,_,u2,_,_,_,_,ul⟩:=Sj.out.seven;obtain⟨_,_,q2,_,_,_,_,ql'⟩:=Kw.out.seven;have qf2:=Kw.out.free 2;have hkS:Keep au w (w7.setCell ⟨bT,2,none⟩ (.slice ob' lb' cb')):=WO.out.k.setCell _ fun hh=>absurd hh (Nat.not_lt.2 WO.out.own.1);have zbS:=zh (WO.out.other hkS sm (fun b _ hb=>heap_setCell_other _ _ _ _ hb) WO.out.clearT);have zab:Hid (vZ (w7.setCell ⟨bT,2,none⟩ (.slice ob' lb' cb')) bT n (.slice (some ⟨b,o,none⟩) m ca) (.slice ob' lb' cb') (.map (some gm)) (.slice WL WM cc') (.slice (some ⟨gm+1,0,none⟩) KN KN) (.slice none 0 0)):=zh (Kw.out.set 2 (.slice ob' lb' cb'));obtain⟨_,_,_,v3,_,_,_,vl⟩:=zab.out.seven;obtain⟨D,hown,hat⟩:=zbS.out.mp;have HAT:=zh hat;have hown0:=zh hown.isMap;have law:Keyed Tryz.prog 3:=int_keyed Tryz.underlying3;have hkc:keyOf Tryz.prog 3 (.int .i64 (c:Int))=some (.int .i64 (c:Int)):=keyOf_int_mk Tryz.underlying3 (WalkArith.wf_i64 om);have hval:plainElem Tryz.prog 3 (.int .i64 (k:Int))=some (.lit (.int .i64 (k:Int)),[]):=plainElem_int (H:=Unit) Tryz.underlying3 (a:=(k:Int)) (WalkArith.wf_i64 om);have zda:(w5.setCell ⟨bT,4,none⟩ (.slice WL WM cc')).heap.size=w5.heap.size:=sm;rw [zda]at hr2;have hkx:k<maxLen:=by unfold maxLen;omega
 clear hat hns2 hg2 hb0 ka hkS zda EX Kw WO Sj WK;go_wp2_with (first | (at_builtin;first | refine aV _ _ 140 _ _ rfl rfl rfl rfl hr1 ?_ | refine aV _ _ 22 _ _ rfl rfl rfl rfl hr2 ?_) | (at_mapUpdate;refine wpList_mapUpdate_own _ rfl _ _ _ 138 rfl 3 3 law Tryz.underlying138 _ gm k D rfl hown hkx _ _ (.int .i64 (c:Int)) rfl rfl hkc (.lit (.int .i64 (k:Int))) [] hval ?_;intro w9 hown1 hgrow1));have zeN:=zh (zbS.out.mapped HAT.out hown0.out (by rw [MS.out];exact hown1) hgrow1);have zeO:=zh (aL.same zab.out (hgrow1.block bT vl fun e=>zbS.out.ap.2.1 (Option.some.inj e)));have HX5:Hid ((xs++ [⟨g,mo r.of KN r.of.length⟩]:List II).map II.q=(TS.start n rows).cells.take (k+1)):=zh (by
  rw [G7.out,List.map_append,HXS.out,Og.out,←HKE.out];rfl)
 go_roundw
 case rel=>exact⟨k+1,_,_,_,om,gn,zeN.out,HX5.out,zeO.out⟩
 simp [intOf];omega
end Go.Proofs.YtmepglhdcphffaaGreat
