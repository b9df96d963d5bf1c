/- The reference's wideRows: what lies in memory on its way. -/
import Derived.Test.YtamjmcdlddocgaaGreatFmD
import Derived.Test.YtamjmcdlddocgaaGreatFkAA
namespace Go.Proofs.YtamjmcdlddocgaaGreat
set_option linter.unusedSimpArgs false
set_option linter.unusedVariables false
open Go.ChangeShapes Go.WideShapes Go.RowKit
def zq (f:Nat→Int)(n:Nat):List Rat:=(List.range n).map fun j=>((f j:Int):Rat)
theorem zq_succ {f:Nat→Int}{n:Nat}:zq f (n+1)=zq f n++ [((f n:Int):Rat)]:=by
 unfold zq;rw [List.range_succ,List.map_append];rfl
theorem zq_len {f:Nat→Int}{n:Nat}:(zq f n).length=n:=by unfold zq;simp
def wrX (n:Nat)(r:Rw):WR:=⟨zq (fun j=>r.of.getD j 0) n,(r.to:Rat),r.kind==2⟩
def wrY (n:Nat)(r:Rw):WR:=⟨zq (fun j=> -r.of.getD j 0) n,((-r.to:Int):Rat),false⟩
def rowsW (n:Nat)(l:List Rw):List WR:=l.flatMap fun r=>if r.kind=3 then [wrX n r,wrY n r]else [wrX n r]
theorem divInt_oneW (c:Int):Rat.divInt c 1=(c:Rat):=by
 rw [← Rat.num_divInt_den (c:Rat),Rat.num_intCast,Rat.den_intCast];rfl
theorem OwnWR.lt {w:World}{base n:Nat}{v:Value}{rs:List WR}(h:OwnWR w base n v rs):∀k,v.ownBlock=some k→k<w.heap.size:=by
 obtain⟨_,_,h2,_⟩:=h;exact h2.lt
structure XR (w0 w:World)(b bt:Nat)(c1 P:Value)(tt:Rat)(less:Bool)(qs:List Rat):Prop where
 s:w.heap[b]? =some (.cells #[c1,.pointer (some ⟨bt,0,none⟩),.bool less] TWR (0,0))
 hb:w0.heap.size≤b
 f:∃o n c,c1= .slice o n c
 t:IsRat w bt 0 tt
 o:OwnP w w0.heap.size P qs
section
variable {w0 w:World} {b bt:Nat} {c1 P:Value} {tt:Rat} {less:Bool} {qs:List Rat}
theorem XR.keep {w':World}(h:XR w0 w b bt c1 P tt less qs)(k:Keep NoS w w'):XR w0 w' b bt c1 P tt less qs:=
 ⟨(k.block _ (lt_of_heap h.s) fun _ h=>h).trans h.s,h.hb,h.f,h.t.ofNewer k,h.o.keep k⟩
theorem OwnP.ne_block (h:OwnP w w0.heap.size P qs){k:Nat}{c:Array Value}{fr:Nat × Nat}(hk:w.heap[k]? =some (.cells c TWR fr)):P.ownBlock≠some k:=by
 intro e;obtain⟨xs,_,⟨hl,h' | ⟨g,cap,cur,hv,hb,hgg,_⟩⟩,_⟩:=h
 ·rw [h'.1]at e;cases e
 ·rw [hv]at e
  cases e
  rw [hk]at hgg
  cases hgg
theorem OwnP.setWR (h:OwnP w w0.heap.size P qs){w':World}{k:Nat}{c:Array Value}{fr:Nat × Nat}(hk:w.heap[k]? =some (.cells c TWR fr))(hc:∃o n cp,c[0]? =some (.slice o n cp))(ho:∀i,i≠k→w'.heap[i]? =w.heap[i]?):OwnP w' w0.heap.size P qs:=by
 have hne:=h.ne_block hk;obtain⟨xs,h1,h2,h3,h4⟩:=h;refine⟨xs,h1,?_,fun x hx=>⟨(h3 x hx).1.setWR hk hc ho,(h3 x hx).2⟩,h4⟩
 obtain⟨hl,h2⟩:=h2;refine⟨hl,?_⟩
 rcases h2 with h2 | ⟨g,cap,cur,hv,hb,hg,hr⟩
 ·exact .inl h2
 ·exact .inr ⟨g,cap,cur,hv,hb,(ho g fun e=>hne (by rw [hv,←e];rfl)).trans hg,hr⟩
theorem OwnP.grow2 (h:OwnP w w0.heap.size P qs){w':World}{Q:Value}{ps:List Rat}(hq:OwnP w w0.heap.size Q ps)(hg:w.grownBy w' Q.ownBlock)(ha:Apart P Q):OwnP w' w0.heap.size P qs:=by
 obtain⟨xs,h1,h2,h3,h4⟩:=h;exact⟨xs,h1,h2.grown0 hg ha.row,fun x hx=>⟨hq.hits hg (h3 x hx).1,(h3 x hx).2⟩,h4⟩
theorem XR.grow2 (h:XR w0 w b bt c1 P tt less qs){w':World}{Q:Value}{ps:List Rat}(hq:OwnP w w0.heap.size Q ps)(hg:w.grownBy w' Q.ownBlock)(ha:Apart P Q):XR w0 w' b bt c1 P tt less qs:=
 ⟨(hg.block _ (lt_of_heap h.s) fun e=>hq.ne_block h.s e.symm).trans h.s,h.hb,h.f,hq.hits hg h.t,h.o.grow2 hq hg ha⟩
theorem XR.push (h:XR w0 w b bt c1 P tt less qs){w':World}{R:Value}{q:Rat}(ho:OwnP w' w0.heap.size R (qs++ [q]))(hg:w.grownBy w' P.ownBlock):XR w0 w' b bt c1 R tt less (qs++ [q]):=
 ⟨(hg.block _ (lt_of_heap h.s) fun e=>h.o.ne_block h.s e.symm).trans h.s,h.hb,h.f,h.o.hits hg h.t,ho⟩
theorem XR.set (h:XR w0 w b bt c1 P tt less qs){c:Value}(hc:∃o n cp,c= .slice o n cp):XR w0 (w.setCell ⟨b,0,none⟩ c) b bt c P tt less qs:=by
 have ho:∀i,i≠b→(w.setCell ⟨b,0,none⟩ c).heap[i]? =w.heap[i]? :=fun i hi=>heap_setCell_other _ _ _ _ hi
 obtain⟨o,n,cp,hf⟩:=h.f;have hcc:∃o n cp,(#[c1,.pointer (some ⟨bt,0,none⟩),.bool less]:Array Value)[0]? =some (.slice o n cp):=⟨o,n,cp,by rw [hf];rfl⟩
 exact⟨heap_setCell_same _ _ h.s,h.hb,hc,h.t.setWR h.s hcc ho,h.o.setWR h.s hcc ho⟩
theorem XR.set2 (h:XR w0 w b bt c1 P tt less qs){b' bt':Nat}{c1' P':Value}{tt':Rat}{less':Bool}{qs':List Rat}(h':XR w0 w b' bt' c1' P' tt' less' qs')(hne:b≠b')(c:Value):XR w0 (w.setCell ⟨b',0,none⟩ c) b bt c1 P tt less qs:=by
 have ho:∀i,i≠b'→(w.setCell ⟨b',0,none⟩ c).heap[i]? =w.heap[i]? :=fun i hi=>heap_setCell_other _ _ _ _ hi
 obtain⟨o,n,cp,hf⟩:=h'.f;have hcc:∃o n cp,(#[c1',.pointer (some ⟨bt',0,none⟩),.bool less']:Array Value)[0]? =some (.slice o n cp):=⟨o,n,cp,by rw [hf];rfl⟩
 exact⟨(ho b hne).trans h.s,h.hb,h.f,h.t.setWR h'.s hcc ho,h.o.setWR h'.s hcc ho⟩
end
structure XX (w0 w:World)(b bt:Nat)(P:Value)(tt:Rat)(less:Bool)(qs:List Rat)(b' bt':Nat)(Q:Value)(tt':Rat)(ps:List Rat):Prop where
 k:Keep NoS w0 w
 x:XR w0 w b bt P P tt less qs
 y:XR w0 w b' bt' Q Q tt' false ps
 a:Apart P Q
 n:b≠b'
section
variable {w0 w:World} {b bt:Nat} {P:Value} {tt:Rat} {less:Bool} {qs:List Rat} {b' bt':Nat} {Q:Value} {tt':Rat} {ps:List Rat}
theorem XX.keep {w':World}(h:XX w0 w b bt P tt less qs b' bt' Q tt' ps)(k:Keep NoS w w'):XX w0 w' b bt P tt less qs b' bt' Q tt' ps:=
 ⟨h.k.both k,h.x.keep k,h.y.keep k,h.a,h.n⟩
theorem XX.push1 (h:XX w0 w b bt P tt less qs b' bt' Q tt' ps){w':World}{R:Value}{q:Rat}(ho:OwnP w' w0.heap.size R (qs++ [q]))(hg:w.grownBy w' P.ownBlock)(hv:R.ownBlock=P.ownBlock∨R.ownBlock=some w.heap.size)(hR:∃o n cp,R= .slice o n cp):XX w0 (w'.setCell ⟨b,0,none⟩ R) b bt R tt less (qs++ [q]) b' bt' Q tt' ps:=by
 have x1:=h.x.push ho hg;have y1:=h.y.grow2 h.x.o hg h.a.symm;exact⟨(h.k.grown hg h.x.o.block).setCell _ fun hh=>absurd hh (Nat.not_lt.2 h.x.hb),x1.set hR,y1.set2 x1 h.n.symm R,(Apart.step h.a.symm h.y.o.lt hv).symm,h.n⟩
theorem XX.push2 (h:XX w0 w b bt P tt less qs b' bt' Q tt' ps){w':World}{R:Value}{q:Rat}(ho:OwnP w' w0.heap.size R (ps++ [q]))(hg:w.grownBy w' Q.ownBlock)(hv:R.ownBlock=Q.ownBlock∨R.ownBlock=some w.heap.size)(hR:∃o n cp,R= .slice o n cp):XX w0 (w'.setCell ⟨b',0,none⟩ R) b bt P tt less qs b' bt' R tt' (ps++ [q]):=by
 have y1:=h.y.push ho hg;have x1:=h.x.grow2 h.y.o hg h.a;exact⟨(h.k.grown hg h.y.o.block).setCell _ fun hh=>absurd hh (Nat.not_lt.2 h.y.hb),x1.set2 y1 h.n R,y1.set hR,Apart.step h.a h.x.o.lt hv,h.n⟩
theorem XX.app (h:XX w0 w b bt P tt less qs b' bt' Q tt' ps){w':World}{base n:Nat}{v:Value}{rs:List WR}(ho:OwnWR w base n v rs)(hlt:∀k,v.ownBlock=some k→k<w0.heap.size)(hg:w.grownBy w' v.ownBlock):
  w'.heap[b']? =some (.cells #[Q,.pointer (some ⟨bt',0,none⟩),.bool false] TWR (0,0))∧IsPR w' Q ps∧IsRat w' bt' 0 tt':=by
 obtain⟨hR,hP⟩:=ho.hits hg;exact⟨(hg.block _ (lt_of_heap h.y.s) fun e=>absurd (hlt _ e.symm) (Nat.not_lt.2 h.y.hb)).trans h.y.s,hP h.y.o.prs,hR h.y.t⟩
end
end Go.Proofs.YtamjmcdlddocgaaGreat
