/- Package tableau's New: what lies in memory while it runs. Package tableau's New. Package tableau's New: the walk. -/
import Derived.Test.YtaiffmebphhdaaaGreatTbMM
import Derived.Test.YtaiffmebphhdaaaGreatOwGG
namespace Go.Proofs.YtaiffmebphhdaaaGreat
set_option maxRecDepth 100000
set_option maxHeartbeats 32000000
set_option linter.unusedSimpArgs false
set_option linter.unusedVariables false
open Go.ChangeShapes Go.WideShapes Go.RowKit Go.Maps
abbrev TLN:TypeId:=64
theorem zay:(Tryz.prog.info? TLN).map (fun i=>(i.zero,i.size,i.bytes))=some (some (.slice none 0 0),1,24):=kr
structure IU where
 g:Nat
 q:List Rat
def IU.sv (x:IU):Value:= .slice (some ⟨x.g,0,none⟩) x.q.length x.q.length
def nmC (x:IU):List Value:= [x.sv]
theorem Pz (x:IU):(nmC x).length=1:=rfl
theorem iW {w w':World}{base:Nat}{e:TypeId}{size:Nat}{v:Value}{n:Nat}{xs:List Value}(h:w.ownsRow base e size v n xs)(he:∀k,v.ownBlock=some k→w'.heap[k]? =w.heap[k]?):w'.ownsRow base e size v n xs:=by
 obtain⟨hl,h | ⟨g,cap,cur,hv,hb,hg,hl',hm,hs,ht⟩⟩:=h
 ·exact ⟨hl,.inl h⟩
 exact⟨hl,.inr ⟨g,cap,cur,hv,hb,by rw [he g (by rw [hv];rfl)];exact hg,hl',hm,hs,ht⟩⟩
structure NS (w0 w:World)(bT gm gv n m kb km:Nat)(vb vc:Value)(xs:List IU):Prop where
 k:Keep au w0 w
 b:bD w w0.heap.size vb ((List.range kb).map fun i=>((n+i:Nat):Int))
 c:dR TLN 1 nmC w w0.heap.size vc xs
 r:∀x∈xs,bE w x.g x.q∧w0.heap.size≤x.g
 d:xs.Pairwise fun x y=>x.g≠y.g
 v:bE w gv (iJ (List.replicate (n+m) pr0))
 mp:Am w gm km ((List.range km).map fun i=>n+i)
 bc:Apart vb vc
 xb:∀x∈xs,vb.ownBlock≠some x.g∧vc.ownBlock≠some x.g∧x.g≠gv∧x.g≠gm∧x.g≠bT
 nb:vb.ownBlock≠some gv∧vb.ownBlock≠some gm∧vb.ownBlock≠some bT
 nc:vc.ownBlock≠some gv∧vc.ownBlock≠some gm∧vc.ownBlock≠some bT
 ap:bT≠gv∧bT≠gm∧gv≠gm
 own:w0.heap.size≤bT∧w0.heap.size≤gv∧w0.heap.size≤gm
 lt:bT<w.heap.size
def Ey (c gm gv:Nat)(vb vc:Value)(xs:List IU):Prop:=c≠gv∧c≠gm∧vb.ownBlock≠some c∧vc.ownBlock≠some c∧∀x∈xs,x.g≠c
theorem NS.clearT {w0 w:World}{bT gm gv n m kb km:Nat}{vb vc:Value}{xs:List IU}(h:NS w0 w bT gm gv n m kb km vb vc xs):Ey bT gm gv vb vc xs:=
 ⟨h.ap.1,h.ap.2.1,h.nb.2.2,h.nc.2.2,fun x hx=>(h.xb x hx).2.2.2.2⟩
theorem NS.fresh {w0 w:World}{bT gm gv n m kb km:Nat}{vb vc:Value}{xs:List IU}(h:NS w0 w bT gm gv n m kb km vb vc xs){c:Nat}(hc:w.heap.size≤c):Ey c gm gv vb vc xs:=
 ⟨fun e=>by have:=h.v.lt;omega,fun e=>by have:=h.mp.lt;omega,fun e=>by have:=(World.ownsRow.lt h.b c e).2;omega,fun e=>by have:=h.c.lt c e;omega,fun x hx e=>by have:=(h.r x hx).1.lt;omega⟩
theorem NS.other {w0 w w':World}{bT gm gv n m kb km:Nat}{vb vc:Value}{xs:List IU}(h:NS w0 w bT gm gv n m kb km vb vc xs)(hk:Keep au w0 w')(hs:w.heap.size≤w'.heap.size){c:Nat}(ho:∀b,b<w.heap.size→b≠c→w'.heap[b]? =w.heap[b]?)(hc:Ey c gm gv vb vc xs):
  NS w0 w' bT gm gv n m kb km vb vc xs where
 k:=hk
 b:=iW h.b fun k hk=>ho k (World.ownsRow.lt h.b k hk).2 fun e=>hc.2.2.1 (e ▸ hk)
 c:=iW h.c fun k hk=>ho k (h.c.lt k hk) fun e=>hc.2.2.2.1 (e ▸ hk)
 r:=fun x hx=>⟨(h.r x hx).1.same (ho _ (h.r x hx).1.lt (hc.2.2.2.2 x hx)),(h.r x hx).2⟩
 d:=h.d
 v:=h.v.same (ho _ h.v.lt hc.1.symm)
 mp:=h.mp.same (ho _ h.mp.lt hc.2.1.symm)
 bc:=h.bc
 xb:=h.xb
 nb:=h.nb
 nc:=h.nc
 ap:=h.ap
 own:=h.own
 lt:=dJ h.lt hs
theorem NS.keep {w0 w w':World}{bT gm gv n m kb km:Nat}{vb vc:Value}{xs:List IU}(h:NS w0 w bT gm gv n m kb km vb vc xs)(k:Keep au w w'):NS w0 w' bT gm gv n m kb km vb vc xs:=
 h.other (h.k.both k) k.size (c:=w.heap.size) (fun b hb _=>k.block b hb fun _ h=>h) (h.fresh (Nat.le_refl _))
theorem NS.line {w0 w:World}{bT gm gv n m kb km:Nat}{vb vc:Value}{xs:List IU}(h:NS w0 w bT gm gv n m kb km vb vc xs){g:Nat}{q:List Rat}(hq:bE w g q)(hg:Ey g gm gv vb vc xs)(hgT:g≠bT)(hg0:w0.heap.size≤g){b0:Nat}(hb0:aL w b0 #[.slice (some ⟨g,0,none⟩) q.length q.length])(hl:xs.length≤100):
  ∃v' w',(Builtin.append_ #[87,87] 87 #[vc,.slice (some ⟨b0,0,none⟩) 1 1]).run Tryz.prog w= .ok v' w'∧NS w0 w' bT gm gv n m kb km vb v' (xs++ [⟨g,q⟩])∧w.grownBy w' vc.ownBlock:=by
 obtain⟨i0,hi0,hz0,hz1,hz2⟩:=info_parts zay;obtain⟨v',w',hr,ho,hgr,hv⟩:=dR.app Pz Tryz.underlying87 hi0 hz0 hz1 hz2 rfl dc h.c (x:=⟨g,q⟩) hb0 (by
  intro y hy;simp [nmC]at hy;subst hy;rfl) (by unfold maxLen;omega) om h.k.size
 have hblk:∀b,b<w.heap.size→vc.ownBlock≠some b→w'.heap[b]? =w.heap[b]? :=fun b hb hn=>hgr.block b hb fun e=>hn e.symm;have hv':∀c,c<w.heap.size→vc.ownBlock≠some c→v'.ownBlock≠some c:=by
  intro c hc hn e;rcases hv with h1 | h1
  ·rw [h1]at e;exact hn e
  rw [h1]at e;cases e;omega
 refine⟨v',w',hr,⟨h.k.grown hgr fun k hk=>(h.c.block k hk),?_,ho,?_,?_,?_,?_,?_,?_,h.nb,?_,h.ap,h.own,dJ h.lt hgr.size⟩,hgr⟩
 ·exact iW h.b fun k hk=>hblk k (World.ownsRow.lt h.b k hk).2 (h.bc k hk)
 ·intro x hx;rcases List.mem_append.1 hx with hx | hx
  ·exact ⟨(h.r x hx).1.same (hblk _ (h.r x hx).1.lt (h.xb x hx).2.1),(h.r x hx).2⟩
  rw [List.mem_singleton.1 hx];exact⟨hq.same (hblk _ hq.lt hg.2.2.2.1),hg0⟩
 ·rw [List.pairwise_append];refine⟨h.d,sm,fun x hx y hy=> ?_⟩;rw [List.mem_singleton.1 hy];exact hg.2.2.2.2 x hx
 ·exact h.v.same (hblk _ h.v.lt h.nc.1)
 ·exact h.mp.same (hblk _ h.mp.lt h.nc.2.1)
 ·exact h.bc.step (fun k hk=>(World.ownsRow.lt h.b k hk).2) hv
 ·intro x hx;rcases List.mem_append.1 hx with hx | hx
  ·obtain ⟨a1,a2,a3⟩:=h.xb x hx;exact⟨a1,hv' _ (h.r x hx).1.lt a2,a3⟩
  rw [List.mem_singleton.1 hx];exact⟨hg.2.2.1,hv' _ hq.lt hg.2.2.2.1,hg.1,hg.2.1,hgT⟩
 exact⟨hv' _ h.v.lt h.nc.1,hv' _ h.mp.lt h.nc.2.1,hv' _ h.lt h.nc.2.2⟩
theorem NS.basic {w0 w:World}{bT gm gv n m kb km:Nat}{vb vc:Value}{xs:List IU}(h:NS w0 w bT gm gv n m kb km vb vc xs){b0:Nat}(hb0:aL w b0 #[.int .i64 ((n+kb:Nat):Int)])(hl:n+kb≤100):
  ∃v' w',(Builtin.append_ #[38,38] 38 #[vb,.slice (some ⟨b0,0,none⟩) 1 1]).run Tryz.prog w= .ok v' w'∧NS w0 w' bT gm gv n m (kb+1) km v' vc xs∧w.grownBy w' vb.ownBlock:=by
 obtain⟨i0,hi0,hz0,hz1,hz2⟩:=info_parts J5;obtain⟨v',w',hr,ho,hgr,_,hv⟩:=run_append_own_at (P:=Tryz.prog) w w0.heap.size 38 38 TI i0 (.int .i64 0) 1 8 Tryz.underlying38 hi0 hz0 hz1 hz2 rfl dc vb kb (iv ((List.range kb).map fun i=>((n+i:Nat):Int))) (by have:=h.b;unfold bD at this;simpa using this) ⟨b0,0,none⟩ 1 1 [.int .i64 ((n+kb:Nat):Int)] rfl
  (fun j u hj=>by rw [add_plain,Nat.zero_add,hb0.cell j];simpa using hj) (by intro u hu;rw [List.mem_singleton.1 hu];rfl) (by unfold maxLen;omega) om h.k.size
 have hblk:∀b,b<w.heap.size→vb.ownBlock≠some b→w'.heap[b]? =w.heap[b]? :=fun b hb hn=>hgr.block b hb fun e=>hn e.symm;have hv':∀c,c<w.heap.size→vb.ownBlock≠some c→v'.ownBlock≠some c:=by
  intro c hc hn e;rcases hv with h1 | h1
  ·rw [h1]at e;exact hn e
  rw [h1]at e;cases e;omega
 refine⟨v',w',hr,⟨h.k.grown hgr fun k hk=>(World.ownsRow.lt h.b k hk).1,?_,?_,?_,h.d,?_,?_,?_,?_,?_,h.nc,h.ap,h.own,dJ h.lt hgr.size⟩,hgr⟩
 ·unfold bD;rw [List.range_succ,List.map_append,D9];simpa [iv]using ho
 ·exact iW h.c fun k hk=>hblk k (h.c.lt k hk) fun e=>h.bc k e hk
 ·exact fun x hx=>⟨(h.r x hx).1.same (hblk _ (h.r x hx).1.lt (h.xb x hx).1),(h.r x hx).2⟩
 ·exact h.v.same (hblk _ h.v.lt h.nb.1)
 ·exact h.mp.same (hblk _ h.mp.lt h.nb.2.1)
 ·exact (h.bc.symm.step (fun k hk=>h.c.lt k hk) hv).symm
 ·intro x hx;obtain⟨a1,a2,a3⟩:=h.xb x hx;exact⟨hv' _ (h.r x hx).1.lt a1,a2,a3⟩
 exact⟨hv' _ h.v.lt h.nb.1,hv' _ h.mp.lt h.nb.2.1,hv' _ h.lt h.nb.2.2⟩
theorem NS.mapped {w0 w w':World}{bT gm gv n m kb km:Nat}{vb vc:Value}{xs:List IU}(h:NS w0 w bT gm gv n m kb km vb vc xs){D:DataW Unit}(hD:∀i (h:i<((List.range km).map fun i=>n+i).length),D.atKey (.int .i64 (((List.range km).map fun i=>n+i)[i]:Int)) (.lit (.int .i64 0))= .lit (.int .i64 (i:Int)))(hm:IsMap D)
  (ho:w'.ownsMap Tryz.prog 3 (plainElem Tryz.prog 3) gm (km+1) (D.put (.int .i64 ((n+km:Nat):Int)) (.lit (.int .i64 (km:Int))))) (hg:w.grownBy w' (some gm)):NS w0 w' bT gm gv n m kb (km+1) vb vc xs:=by
 have hblk:∀b,b<w.heap.size→b≠gm→w'.heap[b]? =w.heap[b]? :=fun b hb hn=>hg.block b hb fun e=>hn (Option.some.inj e);refine⟨h.k.grown hg fun k hk=>(by cases hk;exact h.own.2.2),?_,?_,?_,h.d,?_,?_,h.bc,h.xb,h.nb,h.nc,h.ap,h.own,dJ h.lt hg.size⟩
 ·exact iW h.b fun k hk=>hblk k (World.ownsRow.lt h.b k hk).2 fun e=>h.nb.2.1 (e ▸ hk)
 ·exact iW h.c fun k hk=>hblk k (h.c.lt k hk) fun e=>h.nc.2.1 (e ▸ hk)
 ·exact fun x hx=>⟨(h.r x hx).1.same (hblk _ (h.r x hx).1.lt (h.xb x hx).2.2.2.1),(h.r x hx).2⟩
 ·exact h.v.same (hblk _ h.v.lt h.ap.2.2)
 refine⟨_,ho,fun i hi=> ?_⟩;have hi':i<km+1:=by simpa using hi
 rw [List.getElem_map,List.getElem_range];by_cases e:i=km
 ·subst e;exact Maps.atKey_put_same hm (show WideAt.IsKeyLit (.int .i64 ((n+i:Nat):Int))from by simp [WideAt.IsKeyLit]) _ _
 rw [Maps.atKey_put_other (by intro h;injection h with _ h;omega)];have:=hD i (by simp;omega);rw [List.getElem_map,List.getElem_range]at this;exact this
theorem NS.done {w0 w:World}{bT gm gv n:Nat}{vb vc vr:Value}{xs:List IU}{rows:List Rw}(h:NS w0 w bT gm gv n rows.length rows.length rows.length vb vc xs)(hx:xs.map IU.q=(TS.start n rows).cells)(ht:wS w bT n vr vb (.map (some gm)) vc (.slice (some ⟨gv,0,none⟩) (n+rows.length) (n+rows.length)) (.slice none 0 0))(hr:dD w0 vr rows)(hn:n≤12)(h40:rows.length≤64):
  DX w0 w bT rows.length (TS.start n rows):=by
 have hxl:xs.length=rows.length:=by have:=congrArg List.length hx;simpa [TS.start]using this
 have hxa:∀i (hi:i<xs.length) (hi':i<(TS.start n rows).cells.length),(TS.start n rows).cells[i]=xs[i].q:=by
  intro i hi hi';have:(TS.start n rows).cells[i]? =some xs[i].q:=by rw [← hx];simp [hi]
  rw [fG hi']at this;exact Option.some.inj this
 obtain⟨ob,cb,hvb,hcb1,hcb2,hbI⟩:∃ob cb,vb= .slice ob rows.length cb∧rows.length≤cb∧cb≤maxLen∧(0<rows.length→∃g,ob=some ⟨g,0,none⟩∧vb.ownBlock=some g∧w0.heap.size≤g∧Ar w g (TS.start n rows).basic):=by
  obtain⟨hl,h' | ⟨g,cap,cur,hv,hb,hg,hl',hm,hs,ht⟩⟩:=h.b
  ·obtain ⟨e1,e2⟩:=h';have e3:rows.length=0:=by simpa using e2
   exact⟨none,0,by rw [e1,e3],om,sm,fun h0=>absurd h0 om⟩
  have e3:((List.range rows.length).map fun i=>((n+i:Nat):Int)).length=rows.length:=sm;rw [e3]at hv hl' ht;refine⟨_,cap,hv,hl',hm,fun _=>⟨g,rfl,by rw [hv];rfl,hb,cur,⟨_,hg⟩,fun i hi=> ?_⟩⟩;have hi':i<rows.length:=by simpa [TS.start]using hi
  have h1:(cur.toList.take (rows.length*1))[i]? =(iv ((List.range rows.length).map fun i=>((n+i:Nat):Int)))[i]? :=by rw [ht]
  rw [List.getElem?_take,if_pos om,Nz]at h1;simp [hi']at h1;simp [TS.start,h1]
 obtain⟨oc,cc,Bw,hcc1,hcc2,hcI⟩:∃oc cc,vc= .slice oc rows.length cc∧rows.length≤cc∧cc≤maxLen∧(0<rows.length→∃g,oc=some ⟨g,0,none⟩∧vc.ownBlock=some g∧w0.heap.size≤g∧Au w g (TS.start n rows).cells (fun i=>(xs.getD i ⟨0,[]⟩).g) (fun i=>(xs.getD i ⟨0,[]⟩).q.length)):=by
  obtain⟨hl,h' | ⟨g,cap,cur,hv,hb,hg,hl',hm,hs,ht⟩⟩:=h.c
  ·obtain ⟨e1,e2⟩:=h';have e3:rows.length=0:=om;exact⟨none,0,by rw [e1,e3],om,sm,fun h0=>absurd h0 om⟩
  rw [hxl]at hv hl' ht;refine⟨_,cap,hv,hl',hm,fun _=>⟨g,rfl,by rw [hv];rfl,hb,cur,⟨_,hg⟩,fun i hi=> ?_⟩⟩;have hi':i<xs.length:=by rw [hxl];simpa [TS.start]using hi
  have h1:=flat_get Pz xs i xs[i] (fG hi') 0 dc;rw [← ht,List.getElem?_take,if_pos om,Nat.mul_one,Nat.add_zero]at h1;have h2:xs.getD i ⟨0,[]⟩=xs[i]:=by rw [dX,fG hi'];rfl
  simp only [h2];rw [hxa i hi' hi,←Array.getElem?_toList,h1];rfl
 have hbig:∀ {c:Nat},w.heap.size≤c→Ey c gm gv vb vc xs:=fun hc=>h.fresh hc;obtain⟨gb,hgb⟩:∃gb,(0<rows.length→ob=some ⟨gb,0,none⟩∧vb.ownBlock=some gb∧Ar w gb (TS.start n rows).basic)∧w0.heap.size≤gb∧(rows.length=0→gb=w.heap.size+1):=by
  by_cases h0:0<rows.length
  ·obtain ⟨g,h1,h2,h3,h4⟩:=hbI h0;exact⟨g,fun _=>⟨h1,h2,h4⟩,h3,fun e=>om⟩
  exact⟨w.heap.size+1,fun h=>absurd h h0,by have:=h.k.size;omega,fun _=>rfl⟩
 obtain⟨gc,hgc⟩:∃gc,(0<rows.length→oc=some ⟨gc,0,none⟩∧vc.ownBlock=some gc∧Au w gc (TS.start n rows).cells (fun i=>(xs.getD i ⟨0,[]⟩).g) (fun i=>(xs.getD i ⟨0,[]⟩).q.length))∧w0.heap.size≤gc∧(rows.length=0→gc=w.heap.size+2):=by
  by_cases h0:0<rows.length
  ·obtain ⟨g,h1,h2,h3,h4⟩:=hcI h0;exact⟨g,fun _=>⟨h1,h2,h4⟩,h3,fun e=>om⟩
  exact⟨w.heap.size+2,fun h=>absurd h h0,by have:=h.k.size;omega,fun _=>rfl⟩
 have hgl:=h.v.lt;have hml:=h.mp.lt;have htl:=h.lt;have hB:gb≠gv∧gb≠gm∧gb≠bT∧∀x∈xs,x.g≠gb:=by
  by_cases h0:0<rows.length
  ·have e:=(hgb.1 h0).2.1;exact⟨fun e'=>h.nb.1 (e' ▸ e),fun e'=>h.nb.2.1 (e' ▸ e),fun e'=>h.nb.2.2 (e' ▸ e),fun x hx e'=>(h.xb x hx).1 (e'.symm ▸ e)⟩
  have e:=hgb.2.2 om;exact⟨om,om,om,fun x hx=>absurd (List.length_pos_of_mem hx) om⟩
 have hC:gc≠gv∧gc≠gm∧gc≠bT∧∀x∈xs,x.g≠gc:=by
  by_cases h0:0<rows.length
  ·have e:=(hgc.1 h0).2.1;exact⟨fun e'=>h.nc.1 (e' ▸ e),fun e'=>h.nc.2.1 (e' ▸ e),fun e'=>h.nc.2.2 (e' ▸ e),fun x hx e'=>(h.xb x hx).2.1 (e'.symm ▸ e)⟩
  have e:=hgc.2.2 om;exact⟨om,om,om,fun x hx=>absurd (List.length_pos_of_mem hx) om⟩
 have hBC:gb≠gc:=by
  by_cases h0:0<rows.length
  ·have e1:=(hgb.1 h0).2.1;have e2:=(hgc.1 h0).2.1;exact fun e=>h.bc gb e1 (e ▸ e2)
  have e1:=hgb.2.2 om;have e2:=hgc.2.2 om;omega
 have hlc:(TS.start n rows).cells.length=rows.length:=by simp [TS.start]
 have hlb:(TS.start n rows).basic.length=rows.length:=by simp [TS.start]
 have hlv:(TS.start n rows).vals.length=n+rows.length:=by simp [TS.start]
 have Yu:∀i,i<rows.length→∃hi:i<xs.length,xs.getD i ⟨0,[]⟩=xs[i]:=by
  intro i hi;have hi':i<xs.length:=om;exact⟨hi',by rw [dX,fG hi'];rfl⟩
 have hql:∀i (hi:i<xs.length),xs[i].q.length=n+rows.length:=by
  intro i hi;rw [← hxa i hi om];simp [TS.start]
 refine⟨⟨gb,gc,gv,gm,fun i=>(xs.getD i ⟨0,[]⟩).g,ob,oc,cb,cc,n+rows.length,fun i=>(xs.getD i ⟨0,[]⟩).q.length,vr⟩,?_⟩;constructor
 ·exact h.k
 ·show wS w bT n vr (.slice ob (TS.start n rows).basic.length cb) (.map (some gm)) (.slice oc (TS.start n rows).cells.length cc) (.slice (some ⟨gv,0,none⟩) (TS.start n rows).vals.length (n+rows.length)) (.slice none 0 0);rw [hlc,hlb,hlv,←hvb,←Bw];exact ht
 ·exact hr
 ·intro hne;have h0:0<rows.length:=by rw [← hlb];exact List.length_pos_iff.2 hne
  exact⟨(hgb.1 h0).1,(hgb.1 h0).2.2⟩
 ·intro hne;have h0:0<rows.length:=by rw [← hlc];exact List.length_pos_iff.2 hne
  exact⟨(hgc.1 h0).1,(hgc.1 h0).2.2⟩
 ·intro i hi;obtain⟨hi',e⟩:=Yu i om;have hq:=hql i hi';simp only [e];rw [hxa i hi' hi];exact⟨(h.r _ (List.getElem_mem hi')).1,Nat.le_refl _,by rw [hq];unfold maxLen;omega⟩
 ·exact h.v
 ·exact ⟨by rw [hlb];exact hcb1,hcb2⟩
 ·exact ⟨by rw [hlc];exact hcc1,hcc2⟩
 ·exact ⟨by rw [hlv];exact Nat.le_refl _,by show n+rows.length≤maxLen;unfold maxLen;omega⟩
 ·exact h.mp
 ·refine ⟨h.own.1,hgb.2.1,hgc.2.1,h.own.2.1,h.own.2.2,fun i hi=> ?_⟩;obtain⟨hi',e⟩:=Yu i om;show _≤(xs.getD i ⟨0,[]⟩).g;rw [e];exact(h.r _ (List.getElem_mem hi')).2
 refine⟨hB.2.2.1.symm,hC.2.2.1.symm,h.ap.1,h.ap.2.1,hBC,hB.1,hB.2.1,hC.1,hC.2.1,h.ap.2.2,?_,?_,?_,?_,?_,?_⟩
 ·intro i hi;obtain⟨hi',e⟩:=Yu i om;show(xs.getD i ⟨0,[]⟩).g≠bT;rw [e];exact(h.xb _ (List.getElem_mem hi')).2.2.2.2
 ·intro i hi;obtain⟨hi',e⟩:=Yu i om;show(xs.getD i ⟨0,[]⟩).g≠gb;rw [e];exact hB.2.2.2 _ (List.getElem_mem hi')
 ·intro i hi;obtain⟨hi',e⟩:=Yu i om;show(xs.getD i ⟨0,[]⟩).g≠gc;rw [e];exact hC.2.2.2 _ (List.getElem_mem hi')
 ·intro i hi;obtain⟨hi',e⟩:=Yu i om;show(xs.getD i ⟨0,[]⟩).g≠gv;rw [e];exact(h.xb _ (List.getElem_mem hi')).2.2.1
 ·intro i hi;obtain⟨hi',e⟩:=Yu i om;show(xs.getD i ⟨0,[]⟩).g≠gm;rw [e];exact(h.xb _ (List.getElem_mem hi')).2.2.2.1
 intro i j hi hj hij;obtain⟨hi',e1⟩:=Yu i om;obtain⟨hj',e2⟩:=Yu j om;show(xs.getD i ⟨0,[]⟩).g≠(xs.getD j ⟨0,[]⟩).g;rw [e1,e2];have hp:=List.pairwise_iff_getElem.1 h.d;rcases Nat.lt_or_gt_of_ne hij with hlt | hlt
 ·exact hp i j hi' hj' hlt
 exact(hp j i hj' hi' hlt).symm
abbrev zbH:TypeId:=101
theorem Yv:(Tryz.prog.info? zbH).map (fun i=>(i.zero,i.size,i.bytes))=some (some (.agg #[.bool false,.string ⟨#[]⟩,.bool false,.string ⟨#[]⟩,.bool false,.string ⟨#[]⟩,.bool false,.string ⟨#[]⟩]),8,96):=kr
theorem RJ (n:Nat):(madeCells (Value.agg #[.bool false,.string ⟨#[]⟩,.bool false,.string ⟨#[]⟩,.bool false,.string ⟨#[]⟩,.bool false,.string ⟨#[]⟩]).cells (n*8)).toList=IV (List.replicate (2*n) nv0):=by
 apply List.ext_getElem?;intro i;by_cases hi:i<n*8
 ·obtain ⟨k,j,hj,rfl⟩:∃k j,j<8∧i=k*8+j:=⟨i/8,i%8,om,om⟩;have hk:k<n:=om;obtain⟨c0,c1,c2,c3⟩:=tF (List.replicate (2*n) nv0) (2*k) nv0 (by rw [List.getElem?_replicate,if_pos om]);obtain⟨d0,d1,d2,d3⟩:=tF (List.replicate (2*n) nv0) (2*k+1) nv0 (by rw [List.getElem?_replicate,if_pos om]);rw [show 2*k*4=k*8 from om]at c0 c1 c2 c3;rw [show(2*k+1)*4=k*8+4 from om]at d0 d1 d2 d3;have hm:(k*8+j)%8=j:=om;rcases(by omega:j=0∨j=1∨j=2∨j=3∨j=4∨j=5∨j=6∨j=7)with rfl | rfl | rfl | rfl | rfl | rfl | rfl | rfl
  ·rw [Nat.add_zero]at *;rw [c0];simp [madeCells,Value.cells,hi,hm,nv0]
  ·rw [c1];simp [madeCells,Value.cells,hi,hm,nv0]
  ·rw [c2];simp [madeCells,Value.cells,hi,hm,nv0]
  ·rw [c3];simp [madeCells,Value.cells,hi,hm,nv0]
  ·rw [d0];simp [madeCells,Value.cells,hi,hm,nv0]
  ·rw [show k*8+5=k*8+4+1 from om,d1,show k*8+4+1=k*8+5 from om];simp [madeCells,Value.cells,hi,hm,nv0]
  ·rw [show k*8+6=k*8+4+2 from om,d2,show k*8+4+2=k*8+6 from om];simp [madeCells,Value.cells,hi,hm,nv0]
  rw [show k*8+7=k*8+4+3 from om,d3,show k*8+4+3=k*8+7 from om];simp [madeCells,Value.cells,hi,hm,nv0]
 rw [List.getElem?_eq_none (by simp [madeCells];omega),List.getElem?_eq_none (by rw [IW];simp;omega)]
theorem RL (n:Nat):iJ (List.replicate n pr0)=List.replicate (2*n) 0:=by
 induction n with
 | zero=>rfl
 | succ n ih=>
  rw [List.replicate_succ,show iJ (pr0::List.replicate n pr0)=0::0::iJ (List.replicate n pr0)from rfl,ih,show 2*(n+1)=2*n+1+1 from om,List.replicate_succ,List.replicate_succ]
theorem RN (w:World)(n:Nat)(hn:n≤100000):∃w',(Instr.makeSlice 86 (.int .i64 (n:Int)) (.int .i64 (n:Int))).run Tryz.prog w= .ok (.slice (some ⟨w.heap.size,0,none⟩) n n) w'∧bE w' w.heap.size (iJ (List.replicate n pr0))∧Keep au w w':=by
 obtain⟨i0,hi0,hz0,hz1,hz2⟩:=info_parts Yv;obtain⟨w',hr,ho,hg⟩:=run_make_full (P:=Tryz.prog) w w.heap.size 86 zbH i0 (.agg #[.bool false,.string ⟨#[]⟩,.bool false,.string ⟨#[]⟩,.bool false,.string ⟨#[]⟩,.bool false,.string ⟨#[]⟩]) 8 Tryz.underlying86 hi0 hz0 hz1 .i64 .i64 n (by rw [hz2];omega) (by unfold maxLen;omega) (Nat.le_refl _);rw [RJ]at ho;refine⟨w',hr,?_,Keep.of_below (dH hg w.heap.size (Nat.le_refl _) sm) (Nat.le_refl _)⟩;rw [RL];obtain⟨hl,h | ⟨g,cap,cur,hv,hb,hg',hl',hm,hs,ht⟩⟩:=ho
 ·exact absurd h.1 sm
 cases hv;refine⟨cur,List.replicate (2*n) nv0,⟨_,hg'⟩,tH.zeros (2*n),fun i x hx=> ?_⟩;have hi:i<2*n:=by have:=(List.getElem?_eq_some_iff.1 hx).1;simpa using this
 obtain⟨c0,c1,c2,c3⟩:=tF (List.replicate (2*n) nv0) i x hx;rw [← ht,List.getElem?_take,if_pos om,Array.getElem?_toList]at c0 c1 c2 c3;exact⟨c0,c1,c2,c3⟩
def nR (of:List Int)(K j:Nat):List Rat:=(List.range K).map fun k=>if k<j then((of.getD k 0:Int):Rat)else 0
theorem GJ {of:List Int}{K j:Nat}:(nR of K j).length=K:=by simp [nR]
theorem NT {of:List Int}{K:Nat}:nR of K 0=List.replicate K 0:=by
 apply List.ext_getElem
 ·simp [nR]
 intro i h1 h2;simp [nR]
theorem NU {of:List Int}{K j:Nat}(hj:j<of.length)(hK:j<K):(nR of K j).set j ((of[j]:Int):Rat)=nR of K (j+1):=by
 apply List.ext_getElem
 ·simp [nR]
 intro i h1 h2;rw [List.getElem_set];simp only [nR,List.getElem_map,List.getElem_range];by_cases e:j=i
 ·subst e;rw [if_pos rfl,if_pos (Nat.lt_succ_self j),dX,fG hj];rfl
 rw [if_neg e];by_cases h1:i<j
 ·rw [if_pos h1,if_pos om]
 rw [if_neg h1,if_neg om]
theorem RO {of:List Int}{K:Nat}:nR of K of.length=(List.range K).map fun k=>((of.getD k 0:Int):Rat):=by
 unfold nR;apply List.map_congr_left;intro k _;split
 ·rfl
 rename_i h;rw [dX,List.getElem?_eq_none om];rfl
theorem NW {n:Nat}{rows:List Rw}{k:Nat}(hk:k<rows.length):(TS.start n rows).cells.take (k+1)=(TS.start n rows).cells.take k++ [nR rows[k].of (n+rows.length) rows[k].of.length]:=by
 have hl:(TS.start n rows).cells.length=rows.length:=by simp [TS.start]
 rw [List.take_succ_eq_append_getElem om,RO];simp [TS.start]
theorem NS.init {w w2:World}{n m:Nat}{A:Array Value}{t:TypeId}(hn2:bE w2 (w.heap.size+1) (iJ (List.replicate (n+m) pr0)))(hk2:Keep au (w.alloc (.map #[] 0)) w2):
  NS w (w2.alloc (.cells A t)) w2.heap.size w.heap.size (w.heap.size+1) n m 0 0 (.slice none 0 0) (.slice none 0 0) []:=by
 have k3:Keep au (w.alloc (.map #[] 0)) (w2.alloc (.cells A t)):=hk2.alloc _;have hlt:=hn2.lt;have hm:Am (w.alloc (.map #[] 0)) w.heap.size 0 ((List.range 0).map fun i=>n+i):=⟨.map [],World.ownsMap_made (H:=Unit) w Tryz.prog 3 (plainElem Tryz.prog 3),fun i hi=>absurd hi sm⟩;refine⟨((Keep.refl _ _).alloc _).both k3,bD.nil _ _,dR.nil _ _,sm,List.Pairwise.nil,hn2.keep ((Keep.refl _ _).alloc _),hm.keep k3,RP _,sm,?_,?_,⟨om,om,om⟩,⟨om,om,Nat.le_refl _⟩,sm⟩
 ·exact ⟨by simp [Value.ownBlock],by simp [Value.ownBlock],by simp [Value.ownBlock]⟩
 exact⟨by simp [Value.ownBlock],by simp [Value.ownBlock],by simp [Value.ownBlock]⟩
theorem NY (w:World)(vr:Value)(rows:List Rw)(n:Nat)(hr:dD w vr rows)(hok:∀r∈rows,eD r n)(hn:n≤12)(h40:rows.length≤64):
  Calls Tryz.prog 28 #[vr,.int .i64 (n:Int)] w fun e w'=>∃bT,e= .returned (.pointer (some ⟨bT,0,none⟩))∧DX w w' bT rows.length (TS.start n rows):=by
 have HR:=zh hr;have Dn:=zh hok;obtain⟨oa,ca,PD,_,_⟩:=hr.len;obtain⟨m,hm⟩:∃m,rows.length=m:=⟨_,rfl⟩;obtain⟨KN,hK⟩:∃KN,n+m=KN:=⟨_,rfl⟩;have QN:=zh hm;have HKK:=zh hK;have HKE:Hid (KN=n+m):=zh hK.symm;have zak:KN≤76:=om;have hm40:m≤64:=om;rw [hm]at PD;have HVR:=zh PD;subst PD;have eK:(n:Int)+(m:Int)=(KN:Int):=om;have ew:IntKind.i64.wrap (KN:Int)=(KN:Int):=Go.IntWalk.i64_in _ om;clear hr hok hm h40;have hmk:(Instr.makeMap 85 none).run Tryz.prog w= .ok (.map (some w.heap.size)) (w.alloc (.map #[] 0)):=rfl;obtain⟨w2,hr2,hn2,hk2⟩:=RN (w.alloc (.map #[] 0)) KN om;rw [show(w.alloc (.map #[] 0)).heap.size=w.heap.size+1 from sm]at hr2 hn2;rw [← hK]at hn2;have HI:=zh (NS.init (A:= #[.int .i64 n,.slice oa m ca,.slice none 0 0,.map (some w.heap.size),.slice none 0 0,.slice (some ⟨w.heap.size+1,0,none⟩) KN KN,.slice none 0 0]) (t:=89) hn2 hk2);have HT:=zh (show wS (w2.alloc (.cells #[.int .i64 n,.slice oa m ca,.slice none 0 0,.map (some w.heap.size),.slice none 0 0,.slice (some ⟨w.heap.size+1,0,none⟩) KN KN,.slice none 0 0] 89)) w2.heap.size n (.slice oa m ca) (.slice none 0 0) (.map (some w.heap.size)) (.slice none 0 0) (.slice (some ⟨w.heap.size+1,0,none⟩) KN KN) (.slice none 0 0)from aP _ _ rfl);clear hn2 hk2 hK;go_enter Tryz.func28,Tryz.ntmps28;go_upto_region 2 with fail;clear hr2 hmk;generalize w2.alloc (.cells #[.int .i64 n,.slice oa m ca,.slice none 0 0,.map (some w.heap.size),.slice none 0 0,.slice (some ⟨w.heap.size+1,0,none⟩) KN KN,.slice none 0 0] 89)=w3 at *;generalize w2.heap.size=bT at *;generalize hgm:w.heap.size=gm at *;have HWG:=zh hgm;clear hgm;go_wp2;go_loopw [23] (fun s wr=>∃(k:Nat) (vb vc:Value) (xs:List IU),k≤m∧s= .int .i64 k∧NS w wr bT gm (gm+1) n m k k vb vc xs∧xs.map IU.q=(TS.start n rows).cells.take k∧wS wr bT n (.slice oa m ca) vb (.map (some gm)) vc (.slice (some ⟨gm+1,0,none⟩) KN KN) (.slice none 0 0)) (fun s _=>(m-intOf s).toNat)
 case atStart=>exact⟨0,_,_,[],om,rfl,HI.out,sm,HT.out⟩
 obtain⟨k,vb,vc,xs,hk,rfl,hns,hxs,htb⟩:=hrel;have uP:=zh hns;have HXS:=zh hxs;have zZ:=zh htb;clear hns hxs htb HI HT;by_cases hkm:k<m
 case neg=>
  have hlt:¬(k:Int)<(m:Int):=om;obtain rfl:k=m:=om;have gQ:Hid (DX w wr bT rows.length (TS.start n rows)):=zh (by
   have hm:=QN.out;have hkn:=HKK.out;have h1:=uP.out;have h2:=HXS.out;have h3:=zZ.out;have h4:=HVR.out;clear uP HXS zZ;subst hm;subst hkn;rw [List.take_of_length_le (by simp [TS.start])]at h2;exact h1.done h2 h3 HR.out hn hm40)
  go_wp2;go_ret;exact⟨bT,rfl,gQ.out⟩
 have hlt:(k:Int)<(m:Int):=om;have hkr:k<rows.length:=by have:=QN.out;omega
 obtain⟨b,o,rfl,hbl,hrow⟩:=HR.out.at hkr;have hok:=Dn.out _ (List.getElem_mem hkr);have Es:=zh (NW (n:=n) hkr);generalize rows[k]=r at *;obtain⟨os,cs,p0,p1,p2,hrow⟩:=hrow.row;have p0:=(uP.out.k.cell hbl).trans p0;have p1:=(uP.out.k.cell hbl).trans p1;have p2:=(uP.out.k.cell hbl).trans p2;have NZ:=dJ hbl uP.out.k.size;have hrlen:r.of.length≤n:=by have:=hok.len;omega
 have HFT:=zh hok.fit;have HIR:=zh hrow;clear hok hrow;have ka:Keep au wr (wr.alloc (.cells #[.slice os r.of.length cs,.int .i64 r.kind,.int .i64 r.to] 40)):=(Keep.refl _ _).alloc _;have mO:Hid (aL (wr.alloc (.cells #[.slice os r.of.length cs,.int .i64 r.kind,.int .i64 r.to] 40)) wr.heap.size #[.slice os r.of.length cs,.int .i64 r.kind,.int .i64 r.to]):=zh (aP _ _ rfl);go_upto_region 5 with fail;have uP:=zh (uP.out.keep ka);have zZ:=zh (zZ.out.keep ka);clear ka p0 p1 p2 NZ;generalize wr.alloc (.cells #[.slice os r.of.length cs,.int .i64 r.kind,.int .i64 r.to] 40)=wa at *;generalize wr.heap.size=b7 at *;obtain⟨wb,hrb,hnb,hkb⟩:=Ai wa KN om;go_upto_region 6 with fail;clear hrb;have mO:=zh (mO.out.keep hkb);have HCG:=zh (And.intro (uP.out.fresh (Nat.le_refl wa.heap.size)) (And.intro (show wa.heap.size≠bT by have:=uP.out.lt;omega) (show w.heap.size≤wa.heap.size from uP.out.k.size)));have uP:=zh (uP.out.keep hkb);have zZ:=zh (zZ.out.keep hkb);have HQ:Hid (bE wb wa.heap.size (nR r.of KN 0)):=zh (by rw [NT];exact hnb);clear hnb hkb;generalize wa.heap.size=g at *;obtain⟨s0,s1,s2,_,_,_,l7⟩:=mO.out.three;go_wp2;clear s0 s1 s2 l7;have jV:Hid (aW w (.slice os r.of.length cs) r.of):=zh (by obtain⟨sv,hsv,h,_⟩:=HIR.out;cases hsv;exact h);go_loopw [36] (fun s wr=>∃j:Nat,j≤r.of.length∧s= .int .i64 j∧NS w wr bT gm (gm+1) n m k k vb vc xs∧wS wr bT n (.slice (some ⟨b,o,none⟩) m ca) vb (.map (some gm)) vc (.slice (some ⟨gm+1,0,none⟩) KN KN) (.slice none 0 0)∧bE wr g (nR r.of KN j)) (fun s _=>(r.of.length-intOf s).toNat)
 case atStart=>exact⟨0,om,rfl,uP.out,zZ.out,HQ.out⟩
 obtain⟨j,hj,rfl,hns,htb,hq⟩:=hrel;clear uP zZ HQ mO;have uP:=zh hns;have zZ:=zh htb;have HQ:=zh hq;clear hns htb hq;by_cases hjl:j<r.of.length
 case pos=>
  have UJ:(j:Int)<(r.of.length:Int):=om;have hjK:j<KN:=by have:=HKE.out;omega
  have hjKI:(j:Int)<(KN:Int):=om;obtain⟨bi,oi,ci,hsl,hbi,hc⟩:=jV.out.at hjl;cases hsl;have p0:=(uP.out.k.cell hbi).trans hc;have zbI:=dJ hbi uP.out.k.size;have hfx:=HFT.out _ (List.getElem_mem hjl);have HST:=zh (NU hjl hjK);generalize r.of[j]=x at *;unfold bZ at hfx;have CI:=fun w=>zh (jI w x om om);obtain⟨⟨xb,xS,xc,xU⟩,hx,hxn⟩:=qQ x;rw [hx]at CI;unfold NV.v at CI;simp only at CI;have X0:=zh hxn;clear hx hxn hc;go_wp2_with fail;refine(CI _).out.mono ?_;rintro e w2' ⟨rfl,hk2⟩;have uP:=zh (uP.out.keep hk2);have zZ:=zh (zZ.out.keep hk2);have HQ:=zh (HQ.out.keep hk2);clear hk2 CI p0 zbI;obtain⟨_,_,_,_,g0,g1,g2,g3,_,f0,f1,f2,f3⟩:=HQ.out.at (k:=j) (by rw [GJ];exact hjK);have hg6:=HQ.out.lt;go_wp2;have yQ:Hid (bE (w4 w2' g (j*4) ⟨xb,xS,xc,xU⟩) g (nR r.of KN (j+1))):=zh (by rw [← HST.out];exact HQ.out.set4 X0.out);have HO:∀b,b≠g→(w4 w2' g (j*4) ⟨xb,xS,xc,xU⟩).heap[b]? =w2'.heap[b]? :=fun b hb=>jc hb;have hk4:Keep au w (w4 w2' g (j*4) ⟨xb,xS,xc,xU⟩):=sG uP.out.k HCG.out.2.2;have Vk:=zh (uP.out.other hk4 (by simp [w4]) (fun b _ hb=>HO b hb) HCG.out.1);have RQ:=zh (aL.same zZ.out (HO bT HCG.out.2.1.symm));clear HO hk4;rw [show((((w2'.setCell ⟨g,j*4,none⟩ (.bool xb)).setCell ⟨g,j*4+1,none⟩ (.string xS)).setCell ⟨g,j*4+2,none⟩ (.bool xc)).setCell ⟨g,j*4+3,none⟩ (.string xU))=w4 w2' g (j*4) ⟨xb,xS,xc,xU⟩from rfl];go_roundw
  case rel=>exact⟨j+1,om,gn,Vk.out,RQ.out,yQ.out⟩
  simp [intOf];omega
 have UJ:¬(j:Int)<(r.of.length:Int):=om;obtain rfl:j=r.of.length:=om;have hxl:xs.length=k:=by
  have:=congrArg List.length HXS.out;rw [List.length_map,List.length_take]at this;have h2:(TS.start n rows).cells.length=rows.length:=by simp [TS.start]
  omega
 have HXL:=zh hxl;obtain⟨c,hc⟩:∃c,n+k=c:=⟨_,rfl⟩;have Ir:=zh hc;have ec:(n:Int)+(k:Int)=(c:Int):=om;have ecw:IntKind.i64.wrap (c:Int)=(c:Int):=Go.IntWalk.i64_in _ om;have hc52:c≤76:=om;have ka:Keep au wr (wr.alloc (.cells #[.slice (some ⟨g,0,none⟩) KN KN] 64)):=(Keep.refl _ _).alloc _;have hb0:aL (wr.alloc (.cells #[.slice (some ⟨g,0,none⟩) KN KN] 64)) wr.heap.size #[.slice (some ⟨g,0,none⟩) KN KN]:=aP _ _ rfl;obtain⟨vc',w5,hr1,hns1,hg1⟩:=(uP.out.keep ka).line (HQ.out.keep ka) HCG.out.1 HCG.out.2.1 HCG.out.2.2 (b0:=wr.heap.size) (by rw [GJ];exact hb0) om;obtain⟨Vl,Vm,cc',rfl⟩:∃o l c,vc'= .slice o l c:=by obtain⟨o,c,h,_⟩:=hns1.c.len;exact⟨o,_,c,h⟩
 have Yw:=zh hns1;have zaz:=zh (aL.same (zZ.out.keep ka) (hg1.block bT (aL.lt (zZ.out.keep ka)) fun e=>uP.out.nc.2.2 e.symm));obtain⟨_,_,_,_,t4,_,_,tl⟩:=zZ.out.seven;obtain⟨_,_,_,_,q4,_,_,ql⟩:=zaz.out.seven;have qf:=zaz.out.free 4;obtain⟨ov,cv,Bw,_,_⟩:=uP.out.c.len;clear hns1 hg1 hb0 hxl hc ka;have hkS:Keep au w (w5.setCell ⟨bT,4,none⟩ (.slice Vl Vm cc')):=Yw.out.k.setCell _ fun hh=>absurd hh (Nat.not_lt.2 Yw.out.own.1);have Vk:=zh (Yw.out.other hkS sm (fun b _ hb=>heap_setCell_other _ _ _ _ hb) Yw.out.clearT);have RQ:Hid (wS (w5.setCell ⟨bT,4,none⟩ (.slice Vl Vm cc')) bT n (.slice (some ⟨b,o,none⟩) m ca) vb (.map (some gm)) (.slice Vl Vm cc') (.slice (some ⟨gm+1,0,none⟩) KN KN) (.slice none 0 0)):=zh (zaz.out.set 4 (.slice Vl Vm cc'));have ka:Keep au (w5.setCell ⟨bT,4,none⟩ (.slice Vl Vm cc')) ((w5.setCell ⟨bT,4,none⟩ (.slice Vl Vm cc')).alloc (.cells #[.int .i64 (c:Int)] 3)):=(Keep.refl _ _).alloc _;have hb0:aL ((w5.setCell ⟨bT,4,none⟩ (.slice Vl Vm cc')).alloc (.cells #[.int .i64 (c:Int)] 3)) (w5.setCell ⟨bT,4,none⟩ (.slice Vl Vm cc')).heap.size #[.int .i64 (c:Int)]:=aP _ _ rfl;obtain⟨vb',w7,hr2,hns2,hg2⟩:=(Vk.out.keep ka).basic (b0:=(w5.setCell ⟨bT,4,none⟩ (.slice Vl Vm cc')).heap.size) (by rw [Ir.out];exact hb0) (by have:=Ir.out;omega);obtain⟨ob',lb',cb',rfl⟩:∃o l c,vb'= .slice o l c:=by obtain⟨o,c,h⟩:=hns2.b.len;exact⟨o,_,c,h⟩
 have Vn:=zh hns2;have JY:=zh (aL.same (RQ.out.keep ka) (hg2.block bT (aL.lt (RQ.out.keep ka)) fun e=>Vk.out.nb.2.2 e.symm));obtain⟨_,_,u2,_,_,_,_,ul⟩:=RQ.out.seven;obtain⟨_,_,q2,_,_,_,_,ql'⟩:=JY.out.seven;have qf2:=JY.out.free 2;have hkS:Keep au w (w7.setCell ⟨bT,2,none⟩ (.slice ob' lb' cb')):=Vn.out.k.setCell _ fun hh=>absurd hh (Nat.not_lt.2 Vn.out.own.1);have zaA:=zh (Vn.out.other hkS sm (fun b _ hb=>heap_setCell_other _ _ _ _ hb) Vn.out.clearT);have Yb:Hid (wS (w7.setCell ⟨bT,2,none⟩ (.slice ob' lb' cb')) bT n (.slice (some ⟨b,o,none⟩) m ca) (.slice ob' lb' cb') (.map (some gm)) (.slice Vl Vm cc') (.slice (some ⟨gm+1,0,none⟩) KN KN) (.slice none 0 0)):=zh (JY.out.set 2 (.slice ob' lb' cb'));obtain⟨_,_,_,v3,_,_,_,vl⟩:=Yb.out.seven;obtain⟨D,hown,hat⟩:=zaA.out.mp;have HAT:=zh hat;have hown0:=zh hown.isMap;have law:Keyed Tryz.prog 3:=int_keyed Tryz.underlying3;have hkc:keyOf Tryz.prog 3 (.int .i64 (c:Int))=some (.int .i64 (c:Int)):=keyOf_int_mk Tryz.underlying3 (WalkArith.wf_i64 om);have hval:plainElem Tryz.prog 3 (.int .i64 (k:Int))=some (.lit (.int .i64 (k:Int)),[]):=plainElem_int (H:=Unit) Tryz.underlying3 (a:=(k:Int)) (WalkArith.wf_i64 om);have zbJ:(w5.setCell ⟨bT,4,none⟩ (.slice Vl Vm cc')).heap.size=w5.heap.size:=sm;rw [zbJ]at hr2;have hkx:k<maxLen:=by unfold maxLen;omega
 clear hat hns2 hg2 hb0 ka hkS zbJ Bw JY Vn RQ Vk;go_wp2_with (first | (at_builtin;first | refine aY _ _ 87 _ _ rfl rfl rfl rfl hr1 ?_ | refine aY _ _ 38 _ _ rfl rfl rfl rfl hr2 ?_) | (at_mapUpdate;refine wpList_mapUpdate_own _ rfl _ _ _ 85 rfl 3 3 law Tryz.underlying85 _ gm k D rfl hown hkx _ _ (.int .i64 (c:Int)) rfl rfl hkc (.lit (.int .i64 (k:Int))) [] hval ?_;intro w9 hown1 hgrow1));have zcU:=zh (zaA.out.mapped HAT.out hown0.out (by rw [Ir.out];exact hown1) hgrow1);have zcV:=zh (aL.same Yb.out (hgrow1.block bT vl fun e=>zaA.out.ap.2.1 (Option.some.inj e)));have HX5:Hid ((xs++ [⟨g,nR r.of KN r.of.length⟩]:List IU).map IU.q=(TS.start n rows).cells.take (k+1)):=zh (by
  rw [Es.out,List.map_append,HXS.out,QN.out,←HKE.out];rfl)
 go_roundw
 case rel=>exact⟨k+1,_,_,_,om,gn,zcU.out,HX5.out,zcV.out⟩
 simp [intOf];omega
end Go.Proofs.YtaiffmebphhdaaaGreat
