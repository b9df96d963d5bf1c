/- The reference's wideJoin: what lies in memory on its way. -/
import Derived.Test.YtamjmcdlddocgaaGreatFmB
namespace Go.Proofs.YtamjmcdlddocgaaGreat
set_option linter.unusedSimpArgs false
set_option linter.unusedVariables false
open Go.ChangeShapes Go.WideShapes Go.RowKit
theorem wNegZ (w:World)(bz oz bx ox:Nat)(x:Rat)(hz:IsRHdr w bz oz)(hx:IsRat w bx ox x)(nx:NB 2000 x):
  Calls Tryz.prog 86 #[.pointer (some ⟨bz,oz,none⟩),.pointer (some ⟨bx,ox,none⟩)] w fun e w'=>
   e= .returned (.pointer (some ⟨bz,oz,none⟩))∧Keep (AtR bz oz) w w'∧IsRat w' bz oz (-x):=
 ratNeg_of (Nat.le_refl _) setOK_any w bz oz bx ox x hz hx (nx.rb (by omega))
theorem IsPR.all {w:World}{oa:Option Addr}{n cap:Nat}{qs:List Rat}(h:IsPR w (.slice oa n cap) qs)(hl:qs.length=n)(hn:0<n):∃g o,oa=some ⟨g,o,none⟩∧g<w.heap.size∧∀j,j<n→∃b,w.cell? ⟨g,o+j,none⟩=some (.pointer (some ⟨b,0,none⟩))∧IsRat w b 0 (qs.getD j 0):=by
 obtain⟨g,o,_,e,hg,_⟩:=h.at (k:=0) (by omega)
 refine⟨g,o,e,hg,fun j hj=> ?_⟩
 have hj':j<qs.length:=by omega
 obtain⟨g',o',b,e',_,hc,hr⟩:=h.at hj';rw [e]at e'
 cases e'
 refine⟨b,hc,?_⟩;rw [List.getD_eq_getElem?_getD,List.getElem?_eq_getElem hj'];exact hr
structure JC (w0 w:World)(b11 bx:Nat)(xq:Rat)(c1 c2 P:Value)(le:Bool)(qs:List Rat):Prop where
 k:Keep NoS w0 w
 x:IsRat w bx 0 xq
 s:w.heap[b11]? =some (.cells #[c1,c2,.bool le] TWR (0,0))
 hb:w0.heap.size≤b11
 f:∃o n c,c1= .slice o n c
 o:OwnP w w0.heap.size P qs
 np:P.ownBlock≠some b11
section
variable {w0 w:World} {b11 bx:Nat} {xq:Rat} {c1 c2 P:Value} {le:Bool} {qs:List Rat}
theorem JC.keep {w':World}(h:JC w0 w b11 bx xq c1 c2 P le qs)(k:Keep NoS w w'):JC w0 w' b11 bx xq c1 c2 P le qs:=
 ⟨h.k.both k,h.x.ofNewer k,(k.block _ (lt_of_heap h.s) fun _ h=>h).trans h.s,h.hb,h.f,h.o.keep k,h.np⟩
theorem Fresh.ne_type {w:World}{b b':Nat}{c:Array Value}{t:TypeId}{fr:Nat × Nat}(h:Fresh w b)(h':w.heap[b']? =some (.cells c t fr))(ht:t≠62):b'≠b:=by
 rintro rfl;unfold Fresh at h;rw [h]at h'
 cases h'
 exact ht rfl
theorem atR_block {w w':World}{bz b:Nat}(k:Keep (AtR bz 0) w w')(hb:b<w.heap.size)(hne:b≠bz):w'.heap[b]? =w.heap[b]? :=k.block b hb fun o hs=>by rcases hs with hs | hs<;>exact hne hs.1
theorem OwnP.offR {w w':World}{base:Nat}{v:Value}{qs:List Rat}(h:OwnP w base v qs){bz:Nat}(hf:Fresh w bz)(k:Keep (AtR bz 0) w w'):OwnP w' base v qs:=by
 obtain⟨xs,h1,⟨hl,h2⟩,h3,h4⟩:=h;refine⟨xs,h1,⟨hl,?_⟩,fun x hx=>⟨(h3 x hx).1.off hf.rhdr ((h3 x hx).1.apart hf) k,(h3 x hx).2⟩,h4⟩
 rcases h2 with h2 | ⟨g,cap,cur,hv,hb,hg,hr⟩
 ·exact .inl h2
 ·exact .inr ⟨g,cap,cur,hv,hb,(atR_block k (lt_of_heap hg) (hf.ne_type hg (by decide))).trans hg,hr⟩
theorem JC.atR {w':World}(h:JC w0 w b11 bx xq c1 c2 P le qs){bz:Nat}(hf:Fresh w bz)(hz:w0.heap.size≤bz)(k:Keep (AtR bz 0) w w'):JC w0 w' b11 bx xq c1 c2 P le qs:=
 ⟨h.k.newerR k hz,h.x.off hf.rhdr (h.x.apart hf) k,(atR_block k (lt_of_heap h.s) (hf.ne_type h.s (by decide))).trans h.s,h.hb,h.f,h.o.offR hf k,h.np⟩
theorem JC.push {w':World}{R:Value}{q:Rat}(h:JC w0 w b11 bx xq c1 c2 P le qs)(ho:OwnP w' w0.heap.size R (qs++ [q]))(hg:w.grownBy w' P.ownBlock)(hv:R.ownBlock=P.ownBlock∨R.ownBlock=some w.heap.size):JC w0 w' b11 bx xq c1 c2 R le (qs++ [q]):=
 ⟨h.k.grown hg h.o.block,h.o.hits hg h.x,(hg.block _ (lt_of_heap h.s) fun e=>h.np e.symm).trans h.s,h.hb,h.f,ho,by
  rcases hv with e | e
  ·rw [e];exact h.np
  ·rw [e];intro e';cases e';have:=lt_of_heap h.s;omega⟩
theorem JC.set {c1' c2':Value}{i:Nat}{v:Value}(h:JC w0 w b11 bx xq c1 c2 P le qs)(hi:(#[c1,c2,.bool le]:Array Value).setIfInBounds i v= #[c1',c2',.bool le])(hf:∃o n c,c1'= .slice o n c):JC w0 (w.setCell ⟨b11,i,none⟩ v) b11 bx xq c1' c2' P le qs∧∀ {b:Nat} {q:Rat},IsRat w b 0 q→IsRat (w.setCell ⟨b11,i,none⟩ v) b 0 q:=by
 have ho:∀b,b≠b11→(w.setCell ⟨b11,i,none⟩ v).heap[b]? =w.heap[b]? :=fun b hb=>heap_setCell_other _ _ _ _ hb
 have hR:∀ {b:Nat} {q:Rat},IsRat w b 0 q→IsRat (w.setCell ⟨b11,i,none⟩ v) b 0 q:=fun {b q} hr=>hr.offB h.s (by decide) (fun z e=>by
  obtain⟨o,n,c,e'⟩:=h.f;have e:some c1=some (Value.bool z):=e;rw [e']at e
  cases e) (fun j _ hj=>ho j hj)
 refine⟨⟨h.k.setCell _ fun hh=>absurd hh (Nat.not_lt.2 h.hb),hR h.x,?_,h.hb,hf,?_,h.np⟩,hR⟩
 ·rw [← hi]
  exact heap_setCell_same _ _ h.s
 ·obtain ⟨xs,h1,h2,h3,h4⟩:=h.o
  refine⟨xs,h1,?_,fun x hx=>⟨hR (h3 x hx).1,(h3 x hx).2⟩,h4⟩
  obtain⟨hl,h2⟩:=h2;refine⟨hl,?_⟩
  rcases h2 with h2 | ⟨g,cap,cur,hv,hb,hg,hr⟩
  ·exact .inl h2
  ·exact .inr ⟨g,cap,cur,hv,hb,(ho g fun e=>h.np (by rw [hv,←e];rfl)).trans hg,hr⟩
end
end Go.Proofs.YtamjmcdlddocgaaGreat
