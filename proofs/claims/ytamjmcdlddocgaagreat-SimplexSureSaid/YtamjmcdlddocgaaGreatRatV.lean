/- Wide fractions among drawn orders: a place for one that is new is none of those that lie already. -/
import Derived.Test.YtamjmcdlddocgaaGreatRegVV
import Derived.Test.YtamjmcdlddocgaaGreatExAA
namespace Go.Proofs.YtamjmcdlddocgaaGreat
set_option linter.unusedSimpArgs false
set_option linter.unusedVariables false
open Go.ChangeShapes Go.WideShapes Go.RowKit
def Fresh (w:World)(b:Nat):Prop:=w.heap[b]? =some (.cells ratCells 62 (0,0))
theorem Fresh.new (w:World):Fresh (w.alloc (.cells ratCells 62)) w.heap.size:=heap_alloc_at _ _ _ rfl
theorem Fresh.lt {w:World}{b:Nat}(h:Fresh w b):b<w.heap.size:=lt_of_heap h
theorem Fresh.keep {w w':World}{b:Nat}(h:Fresh w b)(k:Keep NoS w w'):Fresh w' b:=by
 unfold Fresh;rw [k.block b h.lt fun _ h=>h]
 exact h
theorem Fresh.rhdr {w:World}{b:Nat}(h:Fresh w b):IsRHdr w b 0:=
 ⟨⟨_,_,h,by decide,by simp,⟨false,by simp⟩,none,0,0,by simp⟩,⟨_,_,h,by decide,by simp,⟨false,by simp⟩,none,0,0,by simp⟩⟩
theorem IsRat.apart {w:World}{b b':Nat}{q:Rat}(h:IsRat w b 0 q)(h':Fresh w b'):b≠b':=by
 rintro rfl;obtain⟨_,_,⟨c,t,v,hb,_,_,hv,g,cap,_,_,e,_⟩,_⟩:=h.1;unfold Fresh at h';rw [hb]at h'
 cases h'
 subst e;simp [ratCells]at hv
theorem off_atR {w:World}{b b':Nat}(h:IsRHdr w b 0)(hne:b'≠b)(o:Nat):Off w (AtR b 0) b' o:=by
 obtain⟨h1,_,_⟩:=h.1.off (b':=b') (o':=0) (.inl hne);refine⟨fun n i c fr hs=> ?_,fun hs=> ?_,fun hs=> ?_⟩
 ·rcases hs with hs | hs
  ·exact h1 n i c fr hs
  ·have:=hs.1
   subst this;exact h1 n 0 c fr ⟨rfl,.inl rfl⟩
 ·rcases hs with hs | hs<;>exact hne hs.1
 ·rcases hs with hs | hs<;>exact hne hs.1
theorem IsRat.off {w w':World}{b b':Nat}{q:Rat}(h:IsRat w b 0 q)(h':IsRHdr w b' 0)(hne:b≠b')(k:Keep (AtR b' 0) w w'):IsRat w' b 0 q:=
 ⟨h.1.keep k (off_atR h' hne _),h.2.keep k (off_atR h' hne _)⟩
theorem Fresh.off {w w':World}{b b':Nat}(h:Fresh w b)(hne:b≠b')(k:Keep (AtR b' 0) w w'):Fresh w' b:=by
 unfold Fresh;rw [k.block b h.lt fun o hs=>by rcases hs with hs | hs<;>exact hne hs.1]
 exact h
theorem Blk.offR {w w':World}{b b':Nat}{A:Array Value}(h:Blk w b A)(hne:b≠b')(k:Keep (AtR b' 0) w w'):Blk w' b A:=by
 obtain⟨t,ht⟩:=h;exact⟨t,by rw [k.block b (lt_of_heap ht) fun o hs=>by rcases hs with hs | hs<;>exact hne hs.1];exact ht⟩
def PRat (g:Nat)(q:Rat)(v:Value)(w:World):Prop:=∃b,v= .pointer (some ⟨b,0,none⟩)∧g≤b∧IsRat w b 0 q
def PFresh (g:Nat)(v:Value)(w:World):Prop:=∃b,v= .pointer (some ⟨b,0,none⟩)∧g≤b∧Fresh w b
theorem PRat.keep {g:Nat}{q:Rat}{v:Value}{w w':World}(h:PRat g q v w)(k:Keep NoS w w'):PRat g q v w':=by
 obtain⟨b,e,hg,h⟩:=h;exact⟨b,e,hg,h.ofNewer k⟩
theorem PFresh.keep {g:Nat}{v:Value}{w w':World}(h:PFresh g v w)(k:Keep NoS w w'):PFresh g v w':=by
 obtain⟨b,e,hg,h⟩:=h;exact⟨b,e,hg,h.keep k⟩
theorem PRat.off {g:Nat}{q:Rat}{v:Value}{w w':World}{b':Nat}(h:PRat g q v w)(h':Fresh w b')(k:Keep (AtR b' 0) w w'):PRat g q v w':=by
 obtain⟨b,e,hg,h⟩:=h;exact⟨b,e,hg,h.off h'.rhdr (h.apart h') k⟩
end Go.Proofs.YtamjmcdlddocgaaGreat
