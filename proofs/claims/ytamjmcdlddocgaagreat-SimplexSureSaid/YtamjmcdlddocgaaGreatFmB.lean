/- Rows of wide fractions, as they lie. -/
import Derived.Test.YtamjmcdlddocgaaGreatFmA
import Derived.Test.YtamjmcdlddocgaaGreatRatV
import Derived.Test.YtamjmcdlddocgaaGreatRegVV
import Derived.Test.YtamjmcdlddocgaaGreatOwnG
namespace Go.Proofs.YtamjmcdlddocgaaGreat
set_option linter.unusedSimpArgs false
set_option linter.unusedVariables false
open Go.ChangeShapes Go.WideShapes Go.RowKit
theorem IsRat.offB {w w':World}{b:Nat}{q:Rat}(h:IsRat w b 0 q){k:Nat}{c:Array Value}{t:TypeId}{fr:Nat × Nat}(hk:w.heap[k]? =some (.cells c t fr))(ht:t≠U32)(hc:∀z,c[0]? ≠some (.bool z))(ho:∀i,i<w.heap.size→i≠k→w'.heap[i]? =w.heap[i]?):IsRat w' b 0 q:=by
 have one:∀o z,(∃x,IsInt w b o z∧x=o)→(o=0∨o=2)→b≠k→IsInt w' b o z:=by
  rintro o z ⟨_,⟨neg,ds,⟨c1,t1,v1,hb,h1,h2,h3,g,cap,c2,fr2,e1,hg,h4,h5,h6,h7⟩,h8⟩,rfl⟩ _ hne;refine⟨neg,ds,⟨c1,t1,v1,(ho b (lt_of_heap hb) hne).trans hb,h1,h2,h3,g,cap,c2,fr2,e1,(ho g (lt_of_heap hg) ?_).trans hg,h4,h5,h6,h7⟩,h8⟩;rintro rfl;rw [hk]at hg
  cases hg
  exact ht rfl
 have hne:b≠k:=by
  rintro rfl;obtain⟨neg,ds,⟨c1,t1,v1,hb,h1,h2,h3,_⟩,_⟩:=h.1;rw [hk]at hb
  cases hb
  exact hc _ h2
 exact⟨one 0 _ ⟨_,h.1,rfl⟩ (.inl rfl) hne,one 2 _ ⟨_,h.2,rfl⟩ (.inr rfl) hne⟩
structure PtV where
 b:Nat
 q:Rat
def PtV.v (x:PtV):Value:= .pointer (some ⟨x.b,0,none⟩)
def ptC (x:PtV):List Value:= [x.v]
theorem ptC_len (x:PtV):(ptC x).length=1:=rfl
abbrev TPR:TypeId:=59
theorem infoPR:(Tryz.prog.info? TPR).map (fun i=>(i.zero,i.size,i.bytes))=some (some (.pointer none),1,8):=by kernel_rfl
def IsPR (w:World)(v:Value)(qs:List Rat):Prop:=
 ∃xs:List PtV,xs.map PtV.q=qs∧(∀x∈xs,IsRat w x.b 0 x.q)∧∃oa cap,v= .slice oa qs.length cap∧qs.length≤cap∧cap≤maxLen∧(qs≠ []→∃g o,oa=some ⟨g,o,none⟩∧(∃c fr,w.heap[g]? =some (.cells c TPR fr))∧∀i x,xs[i]? =some x→w.cell? ⟨g,o+i,none⟩=some x.v)
theorem IsPR.keep {w w':World}{v:Value}{qs:List Rat}(h:IsPR w v qs)(k:Keep NoS w w'):IsPR w' v qs:=by
 obtain⟨xs,h1,h2,oa,cap,h3,h4,h5,h6⟩:=h;refine⟨xs,h1,fun x hx=>(h2 x hx).ofNewer k,oa,cap,h3,h4,h5,fun hne=> ?_⟩
 obtain⟨g,o,e,⟨c,fr,hg⟩,hc⟩:=h6 hne;exact⟨g,o,e,⟨c,fr,(k.block g (lt_of_heap hg) fun _ h=>h).trans hg⟩,fun i x hi=>(k.cell (lt_of_heap hg)).trans (hc i x hi)⟩
theorem IsPR.len {w:World}{v:Value}{qs:List Rat}(h:IsPR w v qs):∃oa cap,v= .slice oa qs.length cap∧qs.length≤cap∧cap≤maxLen:=by
 obtain⟨_,_,_,oa,cap,h3,h4,h5,_⟩:=h;exact⟨oa,cap,h3,h4,h5⟩
theorem IsPR.at {w:World}{oa:Option Addr}{n cap:Nat}{qs:List Rat}(h:IsPR w (.slice oa n cap) qs){k:Nat}(hk:k<qs.length):∃g o b,oa=some ⟨g,o,none⟩∧g<w.heap.size∧w.cell? ⟨g,o+k,none⟩=some (.pointer (some ⟨b,0,none⟩))∧IsRat w b 0 qs[k]:=by
 obtain⟨xs,h1,h2,oa',cap',h3,h4,h5,h6⟩:=h
 cases h3
 obtain⟨g,o,e,⟨c,fr,hg⟩,hc⟩:=h6 (by rintro rfl;simp at hk)
 have hx:k<xs.length:=by rw [← h1,List.length_map]at hk;exact hk
 refine⟨g,o,xs[k].b,e,lt_of_heap hg,hc k _ (List.getElem?_eq_getElem hx),?_⟩;have:=h2 _ (List.getElem_mem hx);subst h1
 simpa using this
def IsWR (w:World)(n:Nat)(v:Value)(r:WR):Prop:=∃sv bt,v= .agg #[sv,.pointer (some ⟨bt,0,none⟩),.bool r.less]∧IsPR w sv r.of∧r.of.length=n∧IsRat w bt 0 r.tt
theorem IsWR.keep {w w':World}{n:Nat}{v:Value}{r:WR}(h:IsWR w n v r)(k:Keep NoS w w'):IsWR w' n v r:=by
 obtain⟨sv,bt,h1,h2,h3,h4⟩:=h;exact⟨sv,bt,h1,h2.keep k,h3,h4.ofNewer k⟩
def OwnP (w:World)(base:Nat)(v:Value)(qs:List Rat):Prop:=∃xs:List PtV,xs.map PtV.q=qs∧OwnG TPR 1 ptC w base v xs∧(∀x∈xs,IsRat w x.b 0 x.q∧base≤x.b)∧(xs= []→v= .slice none 0 0)
theorem OwnP.nil (w:World)(base:Nat):OwnP w base (.slice none 0 0) []:=⟨[],rfl,OwnG.nil _ _,by simp,fun _=>rfl⟩
theorem OwnP.keep {w w':World}{base:Nat}{v:Value}{qs:List Rat}(h:OwnP w base v qs)(k:Keep NoS w w'):OwnP w' base v qs:=by
 obtain⟨xs,h1,h2,h3,h4⟩:=h;exact⟨xs,h1,h2.keep k,fun x hx=>⟨(h3 x hx).1.ofNewer k,(h3 x hx).2⟩,h4⟩
theorem OwnP.len {w:World}{base:Nat}{v:Value}{qs:List Rat}(h:OwnP w base v qs):∃oa cap,v= .slice oa qs.length cap∧qs.length≤cap∧cap≤maxLen:=by
 obtain⟨xs,rfl,h2,_⟩:=h;rw [List.length_map];exact h2.len
theorem OwnP.lt {w:World}{base:Nat}{v:Value}{qs:List Rat}(h:OwnP w base v qs):∀k,v.ownBlock=some k→k<w.heap.size:=by
 obtain⟨_,_,h2,_⟩:=h;exact h2.lt
theorem OwnP.block {w:World}{base:Nat}{v:Value}{qs:List Rat}(h:OwnP w base v qs):∀k,v.ownBlock=some k→base≤k:=by
 obtain⟨_,_,h2,_⟩:=h;exact h2.block
theorem OwnP.prs {w:World}{base:Nat}{v:Value}{qs:List Rat}(h:OwnP w base v qs):IsPR w v qs:=by
 obtain⟨xs,rfl,h2,h3,_⟩:=h;have hty:∀g cap,v= .slice (some ⟨g,0,none⟩) xs.length cap→∃c fr,w.heap[g]? =some (.cells c TPR fr):=by
  intro g cap e;obtain⟨_,h' | ⟨g',cap',cur,hv,_,hgg,_⟩⟩:=h2
  ·rw [h'.1]at e;cases e
  ·rw [hv]at e;cases e;exact⟨_,_,hgg⟩
 obtain⟨oa,cap,e,h4,h5⟩:=h2.len;refine⟨xs,rfl,fun x hx=>(h3 x hx).1,oa,cap,by rw [List.length_map];exact e,by rw [List.length_map];exact h4,h5,fun hne=> ?_⟩
 obtain⟨g,cap',e',_,hlt,hc⟩:=OwnG.cells ptC_len h2 (by rintro rfl;simp at hne)
 rw [e]at e'
 cases e'
 exact⟨g,0,rfl,hty g _ e,fun i x hi=>by have:=hc i x hi 0 _ rfl;simpa using this⟩
theorem OwnP.hits {w w':World}{base:Nat}{v:Value}{qs:List Rat}(h:OwnP w base v qs)(hg:w.grownBy w' v.ownBlock){b:Nat}{q:Rat}(hr:IsRat w b 0 q):IsRat w' b 0 q:=by
 have none:v= .slice none 0 0→IsRat w' b 0 q:=fun e=>by
  subst e;exact hr.ofNewer ((Keep.refl _ _).grown hg fun k hk=>by cases hk)
 obtain⟨xs,_,⟨hl,h' | ⟨g,cap,cur,hv,hb,hgg,hl',hm,hs,ht⟩⟩,h3,h4⟩:=h
 ·exact none h'.1
 ·rcases xs with _ | ⟨x,r⟩
  ·exact none (h4 rfl)
  ·refine hr.offB hgg (by decide) (fun z e=> ?_) (fun i hi hne=>hg.block i hi fun e=>hne (by rw [hv]at e;exact Option.some.inj e))
   have h0:=flat_get ptC_len (x::r) 0 x rfl 0 (by decide)
   rw [← ht,List.getElem?_take,if_pos (by simp),Array.getElem?_toList]at h0
   rw [show 0*1+0=0 from rfl,e]at h0
   cases h0
theorem OwnP.push {w:World}{base:Nat}{v:Value}{qs:List Rat}(h:OwnP w base v qs){bz:Nat}{q:Rat}(hr:IsRat w bz 0 q)(hz:base≤bz){b:Nat}(hb:Blk w b #[.pointer (some ⟨bz,0,none⟩)])(hl:qs.length≤1000)(hbase:base≤w.heap.size):
  ∃v' w',(Builtin.append_ #[80,80] 80 #[v,.slice (some ⟨b,0,none⟩) 1 1]).run Tryz.prog w= .ok v' w'∧OwnP w' base v' (qs++ [q])∧w.grownBy w' v.ownBlock∧(v'.ownBlock=v.ownBlock∨v'.ownBlock=some w.heap.size):=by
 have hh:=h;obtain⟨xs,rfl,h2,h3,h4⟩:=h;rw [List.length_map]at hl;obtain⟨i0,hi0,hz0,hz1,hz2⟩:=info_parts infoPR;obtain⟨v',w',hr',ho,hg,hv⟩:=OwnG.app ptC_len Tryz.underlying80 hi0 hz0 hz1 hz2 rfl (by decide) h2 (x:=⟨bz,q⟩) hb (by
  intro y hy;simp [ptC]at hy;subst hy;rfl) (by unfold maxLen;omega) (by omega) hbase
 refine⟨v',w',hr',⟨xs++ [⟨bz,q⟩],by simp,ho,fun x hx=> ?_,fun e=>by simp at e⟩,hg,hv⟩
 rcases List.mem_append.1 hx with hx | hx
 ·exact ⟨hh.hits hg (h3 x hx).1,(h3 x hx).2⟩
 ·rw [List.mem_singleton.1 hx]
  exact⟨hh.hits hg hr,hz⟩
structure WV where
 sv:Value
 b:Nat
 r:WR
def WV.L (x:WV):List Value:= [x.sv,.pointer (some ⟨x.b,0,none⟩),.bool x.r.less]
theorem wvL_len (x:WV):(WV.L x).length=3:=rfl
abbrev TWR:TypeId:=82
theorem infoWR:(Tryz.prog.info? TWR).map (fun i=>(i.zero,i.size,i.bytes))=some (some (.agg #[.slice none 0 0,.pointer none,.bool false]),3,40):=by kernel_rfl
def WV.is (w:World)(n:Nat)(x:WV):Prop:=IsPR w x.sv x.r.of∧x.r.of.length=n∧IsRat w x.b 0 x.r.tt
theorem WV.is.keep {w w':World}{n:Nat}{x:WV}(h:x.is w n)(k:Keep NoS w w'):x.is w' n:=⟨h.1.keep k,h.2.1,h.2.2.ofNewer k⟩
def OwnWR (w:World)(base n:Nat)(v:Value)(rs:List WR):Prop:=∃xs:List WV,xs.map WV.r=rs∧OwnG TWR 3 WV.L w base v xs∧(∀x∈xs,x.is w n)∧(xs= []→v= .slice none 0 0)
theorem OwnWR.nil (w:World)(base n:Nat):OwnWR w base n (.slice none 0 0) []:=⟨[],rfl,OwnG.nil _ _,by simp,fun _=>rfl⟩
theorem OwnWR.keep {w w':World}{base n:Nat}{v:Value}{rs:List WR}(h:OwnWR w base n v rs)(k:Keep NoS w w'):OwnWR w' base n v rs:=by
 obtain⟨xs,h1,h2,h3,h4⟩:=h;exact⟨xs,h1,h2.keep k,fun x hx=>(h3 x hx).keep k,h4⟩
theorem OwnWR.len {w:World}{base n:Nat}{v:Value}{rs:List WR}(h:OwnWR w base n v rs):∃oa cap,v= .slice oa rs.length cap∧rs.length≤cap∧cap≤maxLen:=by
 obtain⟨xs,rfl,h2,_⟩:=h;rw [List.length_map];exact h2.len
theorem OwnWR.block {w:World}{base n:Nat}{v:Value}{rs:List WR}(h:OwnWR w base n v rs):∀k,v.ownBlock=some k→base≤k:=by
 obtain⟨_,_,h2,_⟩:=h;exact h2.block
theorem OwnWR.at {w:World}{base n:Nat}{oa:Option Addr}{m cap:Nat}{rs:List WR}(h:OwnWR w base n (.slice oa m cap) rs){k:Nat}(hk:k<rs.length):
  ∃g sv b,oa=some ⟨g,0,none⟩∧g<w.heap.size∧w.cell? ⟨g,k*3,none⟩=some sv∧w.cell? ⟨g,k*3+1,none⟩=some (.pointer (some ⟨b,0,none⟩))∧w.cell? ⟨g,k*3+2,none⟩=some (.bool rs[k].less)∧IsPR w sv rs[k].of∧rs[k].of.length=n∧IsRat w b 0 rs[k].tt:=by
 obtain⟨xs,rfl,h2,h3,_⟩:=h;have hx:k<xs.length:=by rwa [List.length_map]at hk
 obtain⟨g,cap',e,_,hlt,hc⟩:=OwnG.cells wvL_len h2 (by rintro rfl;simp at hx)
 cases e
 have hi:IsPR w xs[k].sv xs[k].r.of∧xs[k].r.of.length=n∧IsRat w xs[k].b 0 xs[k].r.tt:=h3 _ (List.getElem_mem hx);have c:=hc k _ (List.getElem?_eq_getElem hx);refine⟨g,xs[k].sv,xs[k].b,rfl,hlt,?_,?_,?_,?_⟩
 ·have:=c 0 _ rfl;simpa using this
 ·have:=c 1 _ rfl;simpa using this
 ·have:=c 2 _ rfl;simpa using this
 ·simpa using hi
theorem OwnWR.hits {w w':World}{base n:Nat}{v:Value}{rs:List WR}(h:OwnWR w base n v rs)(hg:w.grownBy w' v.ownBlock):(∀ {b:Nat} {q:Rat},IsRat w b 0 q→IsRat w' b 0 q)∧∀ {u:Value} {qs:List Rat},IsPR w u qs→IsPR w' u qs:=by
 have hR:∀ {b:Nat} {q:Rat},IsRat w b 0 q→IsRat w' b 0 q:=by
  intro b q hr;have none:v= .slice none 0 0→IsRat w' b 0 q:=fun e=>by
   subst e;exact hr.ofNewer ((Keep.refl _ _).grown hg fun k hk=>by cases hk)
  obtain⟨xs,_,⟨hl,h' | ⟨g,cap,cur,hv,hb,hgg,hl',hm,hs,ht⟩⟩,h3,h4⟩:=h
  ·exact none h'.1
  ·rcases xs with _ | ⟨x,r⟩
   ·exact none (h4 rfl)
   ·refine hr.offB hgg (by decide) (fun z e=> ?_) (fun i hi hne=>hg.block i hi fun e=>hne (by rw [hv]at e;exact Option.some.inj e))
    have h0:=flat_get wvL_len (x::r) 0 x rfl 0 (by decide)
    rw [← ht,List.getElem?_take,if_pos (by simp),Array.getElem?_toList]at h0
    rw [show 0*3+0=0 from rfl,e]at h0
    have h0:some (Value.bool z)=some x.sv:=h0;obtain⟨_,_,_,_,_,e',_⟩:=(h3 x (by simp)).1
    rw [e']at h0
    cases h0
 refine⟨hR,fun {u qs} hp=> ?_⟩
 obtain⟨ps,h1,h2,oa,cap,e,h5,h6,h7⟩:=hp;refine⟨ps,h1,fun x hx=>hR (h2 x hx),oa,cap,e,h5,h6,fun hne=> ?_⟩
 obtain⟨g,o,e1,⟨c,fr,hc⟩,h8⟩:=h7 hne;have hk:w'.heap[g]? =w.heap[g]? :=hg.block g (lt_of_heap hc) fun e2=>by
  obtain⟨xs,_,⟨_,h' | ⟨g',cap',cur,hv,_,hgg,_⟩⟩,_⟩:=h
  ·rw [h'.1]at e2;cases e2
  ·rw [hv]at e2
   cases e2
   rw [hc]at hgg
   cases hgg
 exact⟨g,o,e1,⟨c,fr,hk.trans hc⟩,fun i x hi=>(World.cell?_of_block (w:=w) hk).trans (h8 i x hi)⟩
theorem OwnWR.push {w:World}{base n:Nat}{v:Value}{rs:List WR}(h:OwnWR w base n v rs){x:WV}(hx:x.is w n){b:Nat}(hb:Blk w b #[x.sv,.pointer (some ⟨x.b,0,none⟩),.bool x.r.less])(hl:(rs.length+1)*40≤140737488355328)(hbase:base≤w.heap.size):
  ∃v' w',(Builtin.append_ #[78,78] 78 #[v,.slice (some ⟨b,0,none⟩) 1 1]).run Tryz.prog w= .ok v' w'∧OwnWR w' base n v' (rs++ [x.r])∧w.grownBy w' v.ownBlock:=by
 have hh:=h;obtain⟨xs,rfl,h2,h3,h4⟩:=h;rw [List.length_map]at hl;obtain⟨i0,hi0,hz0,hz1,hz2⟩:=info_parts infoWR;obtain⟨oa,cap,e,_⟩:=hx.1.len;obtain⟨v',w',hr',ho,hg,hv⟩:=OwnG.app wvL_len Tryz.underlying78 hi0 hz0 hz1 hz2 rfl (by decide) h2 (x:=x) hb (by
  intro y hy;simp [WV.L]at hy
  rcases hy with rfl | rfl | rfl
  ·rw [e];rfl
  ·rfl
  ·rfl) (by unfold maxLen;omega) hl hbase
 obtain⟨hR,hP⟩:=hh.hits hg;refine⟨v',w',hr',⟨xs++ [x],by simp,ho,fun y hy=> ?_,fun e=>by simp at e⟩,hg⟩
 rcases List.mem_append.1 hy with hy | hy
 ·exact ⟨hP (h3 y hy).1,(h3 y hy).2.1,hR (h3 y hy).2.2⟩
 ·rw [List.mem_singleton.1 hy]
  exact⟨hP hx.1,hx.2.1,hR hx.2.2⟩
end Go.Proofs.YtamjmcdlddocgaaGreat
