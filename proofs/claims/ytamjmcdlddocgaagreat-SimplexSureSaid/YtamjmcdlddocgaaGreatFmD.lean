/- The reference's wideJoin: what its drawn regions leave. -/
import Derived.Test.YtamjmcdlddocgaaGreatFmC
namespace Go.Proofs.YtamjmcdlddocgaaGreat
set_option linter.unusedSimpArgs false
set_option linter.unusedVariables false
open Go.ChangeShapes Go.WideShapes Go.RowKit
theorem mark_self2 (S:Nat→Bool)(e:Nat):mark S e e=true:=by unfold mark;rw [if_pos rfl]
theorem mark_off2 {S:Nat→Bool}{e d:Nat}(h:d≠e):mark S e d=S d:=by unfold mark;rw [if_neg h]
theorem upd_self2 (σ:Nat→Value)(e:Nat)(v:Value):upd σ e v e=v:=by unfold upd;rw [if_pos rfl]
theorem upd_off2 {σ:Nat→Value}{e d:Nat}{v:Value}(h:d≠e):upd σ e v d=σ d:=by unfold upd;rw [if_neg h]
def PFq (t:Bool)(g:Nat)(v:Value)(w:World):Prop:=∃b,v= .pointer (some ⟨b,0,none⟩)∧g≤b∧b<w.heap.size∧(t=false→Fresh w b)
def DF (L:List Nat)(S:Nat→Bool)(σ:Nat→Value):Prop:=∀i∈L,∀j∈L,i≠j→S i=true→S j=true→σ i≠σ j
theorem DF.other {L:List Nat}{S:Nat→Bool}{σ:Nat→Value}(h:DF L S σ){e:Nat}{v:Value}(he:e∉L):DF L (mark S e) (upd σ e v):=by
 intro i hi j hj hij h1 h2;have ei:i≠e:=fun x=>he (x ▸ hi)
 have ej:j≠e:=fun x=>he (x ▸ hj)
 rw [mark_off2 ei]at h1;rw [mark_off2 ej]at h2;rw [upd_off2 ei,upd_off2 ej];exact h i hi j hj hij h1 h2
theorem DF.new {L:List Nat}{S:Nat→Bool}{σ:Nat→Value}(h:DF L S σ){e n:Nat}(hp:∀i∈L,S i=true→∃b,σ i= .pointer (some ⟨b,0,none⟩)∧b<n):DF L (mark S e) (upd σ e (.pointer (some ⟨n,0,none⟩))):=by
 have one:∀i∈L,i≠e→mark S e i=true→σ i≠ .pointer (some ⟨n,0,none⟩):=fun i hi hne hm he=>by
  rw [mark_off2 hne]at hm;obtain⟨b,e1,hb⟩:=hp i hi hm;rw [e1]at he
  cases he
  omega
 intro i hi j hj hij h1 h2
 by_cases ei:i=e
 ·have ej:j≠e:=fun x=>hij (ei.trans x.symm)
  rw [ei,upd_self2,upd_off2 ej];exact(one j hj ej h2).symm
 ·by_cases ej:j=e
  ·rw [ej,upd_self2,upd_off2 ei]
   exact one i hi ei h1
  ·rw [upd_off2 ei,upd_off2 ej]
   rw [mark_off2 ei]at h1;rw [mark_off2 ej]at h2;exact h i hi j hj hij h1 h2
def PBld (t:Bool)(g:Nat)(q:Rat)(v:Value)(w:World):Prop:=t=false→∃b bz,v= .slice (some ⟨b,0,none⟩) 1 1∧Blk w b #[.pointer (some ⟨bz,0,none⟩)]∧g≤bz∧IsRat w bz 0 q
structure StepJ (w w':World)(D:Option Nat):Prop where
 sz:w.heap.size≤w'.heap.size
 rat:∀ {b:Nat} {q:Rat},IsRat w b 0 q→IsRat w' b 0 q
 fr:∀ {b:Nat},Fresh w b→D≠some b→Fresh w' b
theorem StepJ.keep {w w':World}(k:Keep NoS w w'):StepJ w w' none:=⟨k.size,fun h=>h.ofNewer k,fun h _=>h.keep k⟩
theorem StepJ.at {w w':World}{bz:Nat}(hz:Fresh w bz)(k:Keep (AtR bz 0) w w'):StepJ w w' (some bz):=
 ⟨k.size,fun h=>h.off hz.rhdr (h.apart hz) k,fun h hne=>h.off (fun e=>hne (by rw [e])) k⟩
theorem StepJ.app {w w':World}{base:Nat}{v:Value}{qs:List Rat}(h:OwnP w base v qs)(hg:w.grownBy w' v.ownBlock):StepJ w w' none:=by
 refine⟨hg.size,fun hr=>h.hits hg hr,fun {b} hf _=> ?_⟩
 have:w'.heap[b]? =w.heap[b]? :=hg.block b hf.lt fun e=>by
  obtain⟨xs,_,⟨hl,h' | ⟨g,cap,cur,hv,hb,hgg,_⟩⟩,_⟩:=h
  ·rw [h'.1]at e;cases e
  ·rw [hv]at e
   cases e
   exact hf.ne_type hgg (by decide) rfl
 exact this.trans hf
theorem IsRat.setWR {w w':World}{b:Nat}{q:Rat}(h:IsRat w b 0 q){k:Nat}{c:Array Value}{fr:Nat × Nat}(hk:w.heap[k]? =some (.cells c TWR fr))(hc:∃o n cp,c[0]? =some (.slice o n cp))(ho:∀i,i≠k→w'.heap[i]? =w.heap[i]?):IsRat w' b 0 q:=
 h.offB hk (by decide) (fun z e=>by
  obtain⟨o,n,cp,e'⟩:=hc;rw [e']at e
  cases e) (fun j _ hj=>ho j hj)
theorem IsPR.setWR {w w':World}{v:Value}{qs:List Rat}(h:IsPR w v qs){k:Nat}{c:Array Value}{fr:Nat × Nat}(hk:w.heap[k]? =some (.cells c TWR fr))(hc:∃o n cp,c[0]? =some (.slice o n cp))(ho:∀i,i≠k→w'.heap[i]? =w.heap[i]?):IsPR w' v qs:=by
 obtain⟨xs,h1,h2,oa,cap,h3,h4,h5,h6⟩:=h;refine⟨xs,h1,fun x hx=>(h2 x hx).setWR hk hc ho,oa,cap,h3,h4,h5,fun hne=> ?_⟩
 obtain⟨g,o,e,⟨c',fr',hg⟩,hcc⟩:=h6 hne;have hgk:g≠k:=by
  rintro rfl;rw [hk]at hg
  cases hg
 exact⟨g,o,e,⟨c',fr',(ho g hgk).trans hg⟩,fun i x hi=>(World.cell?_of_block (w:=w) (ho g hgk)).trans (hcc i x hi)⟩
theorem StepJ.set {w:World}{k i:Nat}{v:Value}{c:Array Value}{fr:Nat × Nat}(hk:w.heap[k]? =some (.cells c TWR fr))(hc:∃o n cp,c[0]? =some (.slice o n cp)):StepJ w (w.setCell ⟨k,i,none⟩ v) none:=by
 have ho:∀b,b≠k→(w.setCell ⟨k,i,none⟩ v).heap[b]? =w.heap[b]? :=fun b hb=>heap_setCell_other _ _ _ _ hb
 exact⟨by simp,fun hr=>hr.setWR hk hc ho,fun {b} hf _=>(ho b (hf.ne_type hk (by decide)).symm).trans hf⟩
theorem PFq.stepM {S:Nat→Bool}{c e g:Nat}{v:Value}{w w':World}{D:Option Nat}(h:PFq (S c) g v w)(s:StepJ w w' D)(hD:∀b,D=some b→v= .pointer (some ⟨b,0,none⟩)→e=c):PFq (mark S e c) g v w':=by
 obtain⟨b,e1,h1,h2,h3⟩:=h;refine⟨b,e1,h1,Nat.lt_of_lt_of_le h2 s.sz,fun hm=> ?_⟩
 by_cases hec:e=c
 ·rw [hec,mark_self2]at hm;cases hm
 ·rw [mark_off2 (Ne.symm hec)]at hm
  exact s.fr (h3 hm) fun hd=>hec (hD b hd e1)
theorem PRat.stepM {g:Nat}{q:Rat}{v:Value}{w w':World}{D:Option Nat}(h:PRat g q v w)(s:StepJ w w' D):PRat g q v w':=by
 obtain⟨b,e1,h1,h2⟩:=h;exact⟨b,e1,h1,s.rat h2⟩
theorem PBld.keepM {S:Nat→Bool}{e c g:Nat}{q:Rat}{v:Value}{w w':World}(h:PBld (S c) g q v w)(k:Keep NoS w w'):PBld (mark S e c) g q v w':=fun hm=>by
 by_cases hec:c=e
 ·rw [hec,mark_self2]at hm;cases hm
 ·rw [mark_off2 hec]at hm
  obtain⟨b,bz,e1,h1,h2,h3⟩:=h hm;exact⟨b,bz,e1,h1.keep k,h2,h3.ofNewer k⟩
def pst6 (g b4 b5 b11 bx ba:Nat)(va vb pv:Value)(aj aa bb pa pb:Value)(q1 q2 q3:Rat)(S:Nat→Bool):Nat→Value→World→Prop
 | 0,v,_=>v= .pointer (some ⟨b11,0,none⟩)
 | 1,v,_=>v=pv
 | 2,v,w=>PFq (S 19) g v w
 | 3,v,w=>PFq (S 10) g v w
 | 4,v,_=>v= .pointer (some ⟨bx,0,none⟩)
 | 5,v,_=>v= .pointer (some ⟨b4,0,none⟩)
 | 6,v,_=>v=va
 | 7,v,_=>v=aj
 | 8,v,_=>v=aa
 | 9,v,_=>v=pa
 | 10,v,w=>PRat g q1 v w
 | 11,v,w=>PFq (S 18) g v w
 | 12,v,_=>v= .pointer (some ⟨ba,0,none⟩)
 | 13,v,_=>v= .pointer (some ⟨b5,0,none⟩)
 | 14,v,_=>v=vb
 | 15,v,_=>v=aj
 | 16,v,_=>v=bb
 | 17,v,_=>v=pb
 | 18,v,w=>PRat g q2 v w
 | 19,v,w=>PRat g q3 v w
 | 20,v,w=>PBld (S 21) g q3 v w
 | 22,v,_=>v= .pointer (some ⟨b11,0,none⟩)
 | _,_,_=>True
theorem pst6_st {g b4 b5 b11 bx ba:Nat}{va vb pv:Value}{aj aa bb pa pb:Value}{q1 q2 q3:Rat}{S:Nat→Bool}{e:Nat}{w w':World}{D:Option Nat}(s:StepJ w w' D):∀(d:Nat) (v:Value),(d=2→∀b,D=some b→v= .pointer (some ⟨b,0,none⟩)→e=19)→(d=3→∀b,D=some b→v= .pointer (some ⟨b,0,none⟩)→e=10)→(d=11→∀b,D=some b→v= .pointer (some ⟨b,0,none⟩)→e=18)→(d=20→PBld (S 21) g q3 v w→PBld (mark S e 21) g q3 v w')→pst6 g b4 b5 b11 bx ba va vb pv aj aa bb pa pb q1 q2 q3 S d v w→pst6 g b4 b5 b11 bx ba va vb pv aj aa bb pa pb q1 q2 q3 (mark S e) d v w'
 | 0,v,h2,h3,h11,hb,h=>h
 | 1,v,h2,h3,h11,hb,h=>h
 | 2,v,h2,h3,h11,hb,h=>h.stepM s (h2 rfl)
 | 3,v,h2,h3,h11,hb,h=>h.stepM s (h3 rfl)
 | 4,v,h2,h3,h11,hb,h=>h
 | 5,v,h2,h3,h11,hb,h=>h
 | 6,v,h2,h3,h11,hb,h=>h
 | 7,v,h2,h3,h11,hb,h=>h
 | 8,v,h2,h3,h11,hb,h=>h
 | 9,v,h2,h3,h11,hb,h=>h
 | 10,v,h2,h3,h11,hb,h=>h.stepM s
 | 11,v,h2,h3,h11,hb,h=>h.stepM s (h11 rfl)
 | 12,v,h2,h3,h11,hb,h=>h
 | 13,v,h2,h3,h11,hb,h=>h
 | 14,v,h2,h3,h11,hb,h=>h
 | 15,v,h2,h3,h11,hb,h=>h
 | 16,v,h2,h3,h11,hb,h=>h
 | 17,v,h2,h3,h11,hb,h=>h
 | 18,v,h2,h3,h11,hb,h=>h.stepM s
 | 19,v,h2,h3,h11,hb,h=>h.stepM s
 | 20,v,h2,h3,h11,hb,h=>hb rfl h
 | 21,v,h2,h3,h11,hb,h=>trivial
 | 22,v,h2,h3,h11,hb,h=>h
 | 23,v,h2,h3,h11,hb,h=>trivial
 | n+24,v,h2,h3,h11,hb,h=>trivial
theorem pst6_keep {g b4 b5 b11 bx ba:Nat}{va vb pv:Value}{aj aa bb pa pb:Value}{q1 q2 q3:Rat}{S:Nat→Bool}{e:Nat}{w w':World}(k:Keep NoS w w')(d:Nat)(v:Value)(h:pst6 g b4 b5 b11 bx ba va vb pv aj aa bb pa pb q1 q2 q3 S d v w):pst6 g b4 b5 b11 bx ba va vb pv aj aa bb pa pb q1 q2 q3 (mark S e) d v w':=
 pst6_st (StepJ.keep k) d v (fun _ _ h=>by cases h) (fun _ _ h=>by cases h) (fun _ _ h=>by cases h) (fun _ h=>h.keepM k) h
def pst7 (g b4 b5 b11 bx ba:Nat)(va vb pv:Value)(aj aa bb pa pb:Value)(q1 q2 q3:Rat)(S:Nat→Bool):Nat→Value→World→Prop
 | 0,v,w=>PFq (S 11) g v w
 | 1,v,w=>PFq (S 5) g v w
 | 2,v,_=>v= .pointer (some ⟨bx,0,none⟩)
 | 3,v,_=>v= .pointer (some ⟨b4,1,none⟩)
 | 4,v,_=>v=pa
 | 5,v,w=>PRat g q1 v w
 | 6,v,w=>PFq (S 10) g v w
 | 7,v,_=>v= .pointer (some ⟨ba,0,none⟩)
 | 8,v,_=>v= .pointer (some ⟨b5,1,none⟩)
 | 9,v,_=>v=pb
 | 10,v,w=>PRat g q2 v w
 | 11,v,w=>PRat g q3 v w
 | 12,v,_=>v= .pointer (some ⟨b11,1,none⟩)
 | _,_,_=>True
theorem pst7_st {g b4 b5 b11 bx ba:Nat}{va vb pv:Value}{aj aa bb pa pb:Value}{q1 q2 q3:Rat}{S:Nat→Bool}{e:Nat}{w w':World}{D:Option Nat}(s:StepJ w w' D):∀(d:Nat) (v:Value),(d=0→∀b,D=some b→v= .pointer (some ⟨b,0,none⟩)→e=11)→(d=1→∀b,D=some b→v= .pointer (some ⟨b,0,none⟩)→e=5)→(d=6→∀b,D=some b→v= .pointer (some ⟨b,0,none⟩)→e=10)→pst7 g b4 b5 b11 bx ba va vb pv aj aa bb pa pb q1 q2 q3 S d v w→pst7 g b4 b5 b11 bx ba va vb pv aj aa bb pa pb q1 q2 q3 (mark S e) d v w'
 | 0,v,h0,h1,h6,h=>h.stepM s (h0 rfl)
 | 1,v,h0,h1,h6,h=>h.stepM s (h1 rfl)
 | 2,v,h0,h1,h6,h=>h
 | 3,v,h0,h1,h6,h=>h
 | 4,v,h0,h1,h6,h=>h
 | 5,v,h0,h1,h6,h=>h.stepM s
 | 6,v,h0,h1,h6,h=>h.stepM s (h6 rfl)
 | 7,v,h0,h1,h6,h=>h
 | 8,v,h0,h1,h6,h=>h
 | 9,v,h0,h1,h6,h=>h
 | 10,v,h0,h1,h6,h=>h.stepM s
 | 11,v,h0,h1,h6,h=>h.stepM s
 | 12,v,h0,h1,h6,h=>h
 | 13,v,h0,h1,h6,h=>trivial
 | n+14,v,h0,h1,h6,h=>trivial
theorem pst7_keep {g b4 b5 b11 bx ba:Nat}{va vb pv:Value}{aj aa bb pa pb:Value}{q1 q2 q3:Rat}{S:Nat→Bool}{e:Nat}{w w':World}(k:Keep NoS w w')(d:Nat)(v:Value)(h:pst7 g b4 b5 b11 bx ba va vb pv aj aa bb pa pb q1 q2 q3 S d v w):pst7 g b4 b5 b11 bx ba va vb pv aj aa bb pa pb q1 q2 q3 (mark S e) d v w':=
 pst7_st (StepJ.keep k) d v (fun _ _ h=>by cases h) (fun _ _ h=>by cases h) (fun _ _ h=>by cases h) h
def C6 (w0:World)(b11 bx:Nat)(xq:Rat)(pv c2:Value)(le:Bool)(qs:List Rat)(q3:Rat)(S:Nat→Bool)(σ:Nat→Value)(w:World):Prop:=
 JC w0 w b11 bx xq (if S 23=true then σ 21 else pv) c2 (if S 21=true then σ 21 else pv) le (if S 21=true then qs++ [q3]else qs)∧DF [2,3,11] S σ
def C7 (w0:World)(b11 bx:Nat)(xq:Rat)(pv c2:Value)(le:Bool)(qs:List Rat)(S:Nat→Bool)(σ:Nat→Value)(w:World):Prop:=
 JC w0 w b11 bx xq pv (if S 13=true then σ 11 else c2) pv le qs∧DF [0,1,6] S σ
section
variable {w0 w:World} {b11 bx:Nat} {xq:Rat} {pv c2:Value} {le:Bool} {qs:List Rat} {q3:Rat} {S:Nat→Bool} {σ:Nat→Value}
theorem C6.q {w':World}{e:Nat}{v:Value}(h:C6 w0 b11 bx xq pv c2 le qs q3 S σ w)(k:Keep NoS w w')(he:e∉ [2,3,11,21,23]):C6 w0 b11 bx xq pv c2 le qs q3 (mark S e) (upd σ e v) w':=by
 have h21:(21:Nat)≠e:=fun x=>he (by rw [← x];decide)
 have h23:(23:Nat)≠e:=fun x=>he (by rw [← x];decide)
 refine⟨?_,h.2.other fun hh=>he (by simp at hh ⊢;omega)⟩
 rw [mark_off2 h21,mark_off2 h23,upd_off2 h21];exact h.1.keep k
theorem C6.at {w':World}{e bz:Nat}{v:Value}(h:C6 w0 b11 bx xq pv c2 le qs q3 S σ w)(hf:Fresh w bz)(hz:w0.heap.size≤bz)(k:Keep (AtR bz 0) w w')(he:e∉ [2,3,11,21,23]):C6 w0 b11 bx xq pv c2 le qs q3 (mark S e) (upd σ e v) w':=by
 have h21:(21:Nat)≠e:=fun x=>he (by rw [← x];decide)
 have h23:(23:Nat)≠e:=fun x=>he (by rw [← x];decide)
 refine⟨?_,h.2.other fun hh=>he (by simp at hh ⊢;omega)⟩
 rw [mark_off2 h21,mark_off2 h23,upd_off2 h21];exact h.1.atR hf hz k
theorem C6.new {w':World}{e:Nat}(h:C6 w0 b11 bx xq pv c2 le qs q3 S σ w)(k:Keep NoS w w')(he:e∈ [2,3,11])(hp:∀i∈ [2,3,11],S i=true→∃b,σ i= .pointer (some ⟨b,0,none⟩)∧b<w.heap.size):C6 w0 b11 bx xq pv c2 le qs q3 (mark S e) (upd σ e (.pointer (some ⟨w.heap.size,0,none⟩))) w':=by
 have h21:(21:Nat)≠e:=fun x=>by rw [← x]at he;revert he;decide
 have h23:(23:Nat)≠e:=fun x=>by rw [← x]at he;revert he;decide
 refine⟨?_,h.2.new hp⟩;rw [mark_off2 h21,mark_off2 h23,upd_off2 h21];exact h.1.keep k
theorem C6.own (h:C6 w0 b11 bx xq pv c2 le qs q3 S σ w)(h21:S 21=false):OwnP w w0.heap.size pv qs:=by
 have h:=h.1.o;simp only [h21,Bool.false_eq_true,if_false]at h;exact h
theorem C6.app {w':World}{R:Value}(h:C6 w0 b11 bx xq pv c2 le qs q3 S σ w)(h21:S 21=false)(h23:S 23=false)(ho:OwnP w' w0.heap.size R (qs++ [q3]))(hg:w.grownBy w' pv.ownBlock)(hv:R.ownBlock=pv.ownBlock∨R.ownBlock=some w.heap.size):C6 w0 b11 bx xq pv c2 le qs q3 (mark S 21) (upd σ 21 R) w':=by
 obtain⟨h,hD⟩:=h;refine⟨?_,hD.other (by decide)⟩
 simp only [h21,h23,Bool.false_eq_true,if_false]at h;rw [mark_self2,mark_off2 (by decide),upd_self2,h23]
 simp only [if_true,Bool.false_eq_true,if_false];exact h.push ho hg hv
theorem C6.store (h:C6 w0 b11 bx xq pv c2 le qs q3 S σ w)(h21:S 21=true)(h23:S 23=false){v:Value}(hf:∃o n c,σ 21= .slice o n c):C6 w0 b11 bx xq pv c2 le qs q3 (mark S 23) (upd σ 23 v) (w.setCell ⟨b11,0,none⟩ (σ 21)):=by
 obtain⟨h,hD⟩:=h;refine⟨?_,hD.other (by decide)⟩
 simp only [h21,h23,Bool.false_eq_true,if_false,if_true]at h;rw [mark_self2,mark_off2 (by decide),upd_off2 (by decide),h21]
 simp only [if_true];exact(h.set (by simp) hf).1
theorem C6.blk (h:C6 w0 b11 bx xq pv c2 le qs q3 S σ w):w.heap[b11]? =some (.cells #[if S 23=true then σ 21 else pv,c2,.bool le] TWR (0,0)):=h.1.s
theorem C6.fin (h:C6 w0 b11 bx xq pv c2 le qs q3 S σ w)(hS:∀e,e<24→S e=true):JC w0 w b11 bx xq (σ 21) c2 (σ 21) le (qs++ [q3]):=by
 have h:=h.1;simp only [hS 21 (by omega),hS 23 (by omega),if_true]at h
 exact h
theorem C7.q {w':World}{e:Nat}{v:Value}(h:C7 w0 b11 bx xq pv c2 le qs S σ w)(k:Keep NoS w w')(he:e∉ [0,1,6,11,13]):C7 w0 b11 bx xq pv c2 le qs (mark S e) (upd σ e v) w':=by
 have h11:(11:Nat)≠e:=fun x=>he (by rw [← x];decide)
 have h13:(13:Nat)≠e:=fun x=>he (by rw [← x];decide)
 refine⟨?_,h.2.other fun hh=>he (by simp at hh ⊢;omega)⟩
 rw [mark_off2 h13,upd_off2 h11];exact h.1.keep k
theorem C7.at {w':World}{e bz:Nat}{v:Value}(h:C7 w0 b11 bx xq pv c2 le qs S σ w)(hf:Fresh w bz)(hz:w0.heap.size≤bz)(k:Keep (AtR bz 0) w w')(he:e∉ [0,1,6,13])(h13:S 13=false):C7 w0 b11 bx xq pv c2 le qs (mark S e) (upd σ e v) w':=by
 have hn:(13:Nat)≠e:=fun x=>he (by rw [← x];decide)
 refine⟨?_,h.2.other fun hh=>he (by simp at hh ⊢;omega)⟩
 have h1:=h.1;simp only [h13,Bool.false_eq_true,if_false]at h1;rw [mark_off2 hn,h13];simp only [Bool.false_eq_true,if_false];exact h1.atR hf hz k
theorem C7.new {w':World}{e:Nat}(h:C7 w0 b11 bx xq pv c2 le qs S σ w)(k:Keep NoS w w')(he:e∈ [0,1,6])(hp:∀i∈ [0,1,6],S i=true→∃b,σ i= .pointer (some ⟨b,0,none⟩)∧b<w.heap.size):C7 w0 b11 bx xq pv c2 le qs (mark S e) (upd σ e (.pointer (some ⟨w.heap.size,0,none⟩))) w':=by
 have h11:(11:Nat)≠e:=fun x=>by rw [← x]at he;revert he;decide
 have h13:(13:Nat)≠e:=fun x=>by rw [← x]at he;revert he;decide
 refine⟨?_,h.2.new hp⟩;rw [mark_off2 h13,upd_off2 h11];exact h.1.keep k
theorem C7.blk (h:C7 w0 b11 bx xq pv c2 le qs S σ w):w.heap[b11]? =some (.cells #[pv,if S 13=true then σ 11 else c2,.bool le] TWR (0,0)):=h.1.s
theorem C7.store (h:C7 w0 b11 bx xq pv c2 le qs S σ w)(h13:S 13=false){v:Value}:C7 w0 b11 bx xq pv c2 le qs (mark S 13) (upd σ 13 v) (w.setCell ⟨b11,1,none⟩ (σ 11)):=by
 obtain⟨h,hD⟩:=h;refine⟨?_,hD.other (by decide)⟩
 rw [mark_self2,upd_off2 (by decide)]
 simp only [if_true];exact(h.set (by simp) h.f).1
theorem C7.fin (h:C7 w0 b11 bx xq pv c2 le qs S σ w)(hS:∀e,e<14→S e=true):JC w0 w b11 bx xq pv (σ 11) pv le qs:=by
 have h:=h.1;simp only [hS 13 (by omega),if_true]at h
 exact h
end
end Go.Proofs.YtamjmcdlddocgaaGreat
