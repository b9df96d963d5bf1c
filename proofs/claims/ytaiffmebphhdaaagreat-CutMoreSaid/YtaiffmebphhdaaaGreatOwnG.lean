/- Rows of the call's own whose elements have several cells: fractions, rows, lists. -/
import Derived.Test.YtaiffmebphhdaaaGreatPtAA
import Derived.Test.YtaiffmebphhdaaaGreatFkAA
namespace Go.Proofs.YtaiffmebphhdaaaGreat
set_option linter.unusedSimpArgs false
set_option linter.unusedVariables false
open Go.ChangeShapes Go.WideShapes Go.RowKit
section
variable {α:Type} {T:TypeId} {K:Nat} {c:α→List Value}
theorem flat_get (hK:∀x,(c x).length=K):∀(l:List α) (i:Nat) (x:α),l[i]? =some x→∀j,j<K→(l.flatMap c)[i*K+j]? =(c x)[j]?
 | [],i,x,h,j,hj=>by simp at h
 | y::t,0,x,h,j,hj=>by
  simp at h;subst h;rw [List.flatMap_cons,Nat.zero_mul,Nat.zero_add,List.getElem?_append_left (by rw [hK];exact hj)]
 | y::t,i+1,x,h,j,hj=>by
  have ih:=flat_get hK t i x (by simpa using h) j hj
  rw [List.flatMap_cons,List.getElem?_append_right (by rw [hK,Nat.succ_mul];omega),hK,←ih]
  congr 1
  rw [Nat.succ_mul];omega
def dO (T:TypeId)(K:Nat)(c:α→List Value)(w:World)(base:Nat)(v:Value)(l:List α):Prop:=w.ownsRow base T K v l.length (l.flatMap c)
theorem dO.nil (w:World)(base:Nat):dO T K c w base (.slice none 0 0) []:=World.ownsRow_nil _ _ _ _
theorem dO.block {w:World}{base:Nat}{v:Value}{l:List α}(h:dO T K c w base v l):∀k,v.ownBlock=some k→base≤k:=fun k hk=>(World.ownsRow.lt h k hk).1
theorem dO.keep {w w':World}{base:Nat}{v:Value}{l:List α}(h:dO T K c w base v l)(k:Keep au w w'):dO T K c w' base v l:=by
 obtain⟨hl,h | ⟨g,cap,cur,hv,hb,hg,hl',hm,hs,ht⟩⟩:=h
 ·exact ⟨hl,.inl h⟩
 ·exact ⟨hl,.inr ⟨g,cap,cur,hv,hb,by rw [k.block g (lt_of_heap hg) fun _ h=>h];exact hg,hl',hm,hs,ht⟩⟩
theorem dO.len {w:World}{base:Nat}{v:Value}{l:List α}(h:dO T K c w base v l):∃oa cap,v= .slice oa l.length cap∧l.length≤cap∧cap≤maxLen:=by
 obtain⟨hl,h | ⟨g,cap,cur,hv,hb,hg,hl',hm,hs,ht⟩⟩:=h
 ·obtain ⟨rfl,h0⟩:=h
  exact⟨none,0,by rw [h0],by omega,by simp⟩
 ·exact ⟨_,cap,hv,hl',hm⟩
theorem dO.grown0 {w w':World}{base:Nat}{v:Value}{l:List α}{row:Option Nat}(h:dO T K c w base v l)(hg:w.grownBy w' row)(hr:∀k,v.ownBlock=some k→some k≠row):dO T K c w' base v l:=by
 obtain⟨hl,h | ⟨g,cap,cur,hv,hb,hgg,hl',hm,hs,ht⟩⟩:=h
 ·exact ⟨hl,.inl h⟩
 ·exact ⟨hl,.inr ⟨g,cap,cur,hv,hb,by rw [hg.block g (lt_of_heap hgg) (hr g (by rw [hv];rfl))];exact hgg,hl',hm,hs,ht⟩⟩
theorem dO.cells (hK:∀x,(c x).length=K){w:World}{base:Nat}{v:Value}{l:List α}(h:dO T K c w base v l)(h0:l≠ []):∃g cap,v= .slice (some ⟨g,0,none⟩) l.length cap∧base≤g∧g<w.heap.size∧∀i x,l[i]? =some x→∀j u,(c x)[j]? =some u→w.cell? ⟨g,0+i*K+j,none⟩=some u:=by
 obtain⟨hl,h' | ⟨g,cap,cur,hv,hb,hg,hl',hm,hs,ht⟩⟩:=h
 ·obtain ⟨rfl,h1⟩:=h'
  exact absurd (List.eq_nil_of_length_eq_zero h1) h0
 ·refine ⟨g,cap,hv,hb,lt_of_heap hg,fun i x hx j u hu=> ?_⟩
  have hj:j<K:=by rw [← hK x];exact(List.getElem?_eq_some_iff.1 hu).1
  have hc:=flat_get hK l i x hx j hj;have hil:i<l.length:=(List.getElem?_eq_some_iff.1 hx).1;rw [← ht,List.getElem?_take]at hc;have hlt:i*K+j<l.length*K:=by
   have:(i+1)*K≤l.length*K:=Nat.mul_le_mul_right _ hil;rw [Nat.succ_mul]at this;omega
  rw [if_pos hlt,hu]at hc;rw [Nat.zero_add];exact cell_of_heap hg (by simpa using hc)
theorem dO.lt {w:World}{base:Nat}{v:Value}{l:List α}(h:dO T K c w base v l):∀k,v.ownBlock=some k→k<w.heap.size:=fun k hk=>(World.ownsRow.lt h k hk).2
theorem dO.app (hK:∀x,(c x).length=K){i:TypeInfo}{z:Value}{bytes:Nat}{sl:TypeId}(hu:Tryz.prog.underlying sl=some (.slice T))(hi:Tryz.prog.info? T=some i)(hz:i.zero=some z)(hs:i.size=K)(hb:i.bytes=bytes)(hzs:z.cells.size=K)(h0:0<K)
  {w:World} {base:Nat} {v:Value} {l:List α} (hown:dO T K c w base v l) {b:Nat} {x:α} (hbk:aL w b (c x).toArray) (h1:∀u∈c x,u.oneCell'=true) (hmx:l.length+1≤maxLen) (hby:(l.length+1)*bytes≤140737488355328) (hbase:base≤w.heap.size):
  ∃v' w',(Builtin.append_ #[sl,sl] sl #[v,.slice (some ⟨b,0,none⟩) 1 1]).run Tryz.prog w= .ok v' w'∧dO T K c w' base v' (l++ [x])∧w.grownBy w' v.ownBlock∧(v'.ownBlock=v.ownBlock∨v'.ownBlock=some w.heap.size):=by
 obtain⟨v',w',hr,ho,hg,_,hv⟩:=run_append_own_at (P:=Tryz.prog) w base sl sl T i z K bytes hu hi hz hs hb hzs h0 v l.length (l.flatMap c) hown ⟨b,0,none⟩ 1 1 (c x) (by rw [hK,Nat.one_mul])
  (fun j u hj=>by rw [add_plain,Nat.zero_add,hbk.cell j];simpa using hj) h1 hmx hby hbase
 exact⟨v',w',hr,by unfold dO;rw [List.flatMap_append,List.length_append];simpa using ho,hg,hv⟩
end
abbrev TF:TypeId:=47
theorem Za:(Tryz.prog.info? TF).map (fun i=>(i.zero,i.size,i.bytes))=some (some (.agg #[.int .i64 0,.int .i64 0]),2,16):=by kernel_rfl
def R4 (g:Fq):List Value:= [.int .i64 g.N,.int .i64 g.D]
theorem IC (g:Fq):(R4 g).length=2:=rfl
theorem Yp (g:Fq):∀u∈R4 g,u.oneCell'=true:=by
 intro u hu;simp [R4]at hu
 rcases hu with rfl | rfl<;>rfl
abbrev jl (w:World)(base:Nat)(v:Value)(l:List Fq):Prop:=dO TF 2 R4 w base v l
theorem dO.fracs {w:World}{base:Nat}{v:Value}{l:List Fq}(h:jl w base v l)(hx:∀g∈l,fK g.N∧fK g.D):eT w v l:=by
 obtain⟨oa,cap,hv,h1,h2⟩:=h.len;refine⟨oa,cap,hv,h1,h2,hx,fun hne=> ?_⟩
 obtain⟨g,cap',hv',hb,hlt,hc⟩:=dO.cells IC h hne;rw [hv]at hv'
 cases hv'
 exact⟨g,0,rfl,hlt,fun i x hi=>⟨hc i x hi 0 _ rfl,hc i x hi 1 _ rfl⟩⟩
theorem VF {w:World}{base:Nat}{v:Value}{l:List Fq}(hown:jl w base v l){b:Nat}{g:Fq}(hb:aL w b #[.int .i64 g.N,.int .i64 g.D])(hl:(l.length+1)*16≤140737488355328)(hbase:base≤w.heap.size):
  ∃v' w',(Builtin.append_ #[25,25] 25 #[v,.slice (some ⟨b,0,none⟩) 1 1]).run Tryz.prog w= .ok v' w'∧jl w' base v' (l++ [g])∧w.grownBy w' v.ownBlock∧(v'.ownBlock=v.ownBlock∨v'.ownBlock=some w.heap.size):=by
 obtain⟨i0,hi0,hz0,hz1,hz2⟩:=info_parts Za;exact dO.app IC Tryz.underlying25 hi0 hz0 hz1 hz2 rfl (by decide) hown (x:=g) hb (Yp g) (by unfold maxLen;omega) hl hbase
def Apart (u v:Value):Prop:=∀k,u.ownBlock=some k→v.ownBlock≠some k
theorem Apart.symm {u v:Value}(h:Apart u v):Apart v u:=fun k h1 h2=>h k h2 h1
theorem QG (v:Value):Apart (.slice none 0 0) v:=fun k h=>by cases h
theorem Apart.step {u v v':Value}{n:Nat}(h:Apart u v)(hu:∀k,u.ownBlock=some k→k<n)(hv:v'.ownBlock=v.ownBlock∨v'.ownBlock=some n):Apart u v':=by
 intro k hk h'
 rcases hv with e | e
 ·exact h k hk (by rw [← e];exact h')
 ·rw [e]at h'
  have:=hu k hk
  cases h'
  omega
theorem Apart.row {u v:Value}(h:Apart u v):∀k,u.ownBlock=some k→some k≠v.ownBlock:=fun k hk e=>h k hk e.symm
abbrev tZ:TypeId:=40
theorem Vs:(Tryz.prog.info? tZ).map (fun i=>(i.zero,i.size,i.bytes))=some (some (.agg #[.slice none 0 0,.int .i64 0,.int .i64 0]),3,40):=by kernel_rfl
structure vZ where
 sv:Value
 r:Rw
def AQ (x:vZ):List Value:= [x.sv,.int .i64 x.r.kind,.int .i64 x.r.to]
def jQ (w0 w:World)(base:Nat)(v:Value)(l:List Rw):Prop:=∃xs:List vZ,xs.map vZ.r=l∧(∀x∈xs,bC w0 x.sv x.r.of∧fK x.r.kind∧fK x.r.to∧pz x.sv)∧dO tZ 3 AQ w base v xs
theorem wm (x:vZ):(AQ x).length=3:=rfl
theorem jQ.nil (w0 w:World)(base:Nat):jQ w0 w base (.slice none 0 0) []:=⟨[],rfl,by simp,dO.nil _ _⟩
theorem jQ.keep {w0 w w':World}{base:Nat}{v:Value}{l:List Rw}(h:jQ w0 w base v l)(k:Keep au w w'):jQ w0 w' base v l:=by
 obtain⟨xs,h1,h2,h3⟩:=h;exact⟨xs,h1,h2,h3.keep k⟩
theorem jQ.len {w0 w:World}{base:Nat}{v:Value}{l:List Rw}(h:jQ w0 w base v l):∃oa cap,v= .slice oa l.length cap∧l.length≤cap∧cap≤maxLen:=by
 obtain⟨xs,rfl,_,h3⟩:=h;rw [List.length_map];exact h3.len
theorem jQ.block {w0 w:World}{base:Nat}{v:Value}{l:List Rw}(h:jQ w0 w base v l):∀k,v.ownBlock=some k→base≤k:=by
 obtain⟨xs,_,_,h3⟩:=h;exact h3.block
theorem jQ.lt {w0 w:World}{base:Nat}{v:Value}{l:List Rw}(h:jQ w0 w base v l):∀k,v.ownBlock=some k→k<w.heap.size:=by
 obtain⟨xs,_,_,h3⟩:=h;exact h3.lt
theorem jQ.grown0 {w0 w w':World}{base:Nat}{v:Value}{l:List Rw}{row:Option Nat}(h:jQ w0 w base v l)(hg:w.grownBy w' row)(hr:∀k,v.ownBlock=some k→some k≠row):jQ w0 w' base v l:=by
 obtain⟨xs,h1,h2,h3⟩:=h;exact⟨xs,h1,h2,h3.grown0 hg hr⟩
theorem jQ.rows {w0 w:World}{base:Nat}{v:Value}{l:List Rw}(h:jQ w0 w base v l)(k0:Keep au w0 w):bW w v l:=by
 obtain⟨xs,rfl,h2,h3⟩:=h;obtain⟨oa,cap,hv,h4,h5⟩:=h3.len;refine⟨oa,cap,by rw [List.length_map];exact hv,by rw [List.length_map];exact h4,h5,fun hne=> ?_⟩
 obtain⟨g,cap',hv',hb,hlt,hc⟩:=dO.cells wm h3 (by rintro rfl;simp at hne)
 rw [hv]at hv'
 cases hv'
 refine⟨g,0,rfl,hlt,fun i x hi=> ?_⟩
 rw [List.getElem?_map]at hi
 rcases hx:xs[i]? with _ | y
 ·rw [hx]at hi;cases hi
 ·rw [hx]at hi
  simp at hi;subst hi;obtain⟨h6,h7⟩:=h2 y (List.mem_of_getElem? hx);exact⟨y.sv,hc i y hx 0 _ rfl,hc i y hx 1 _ rfl,hc i y hx 2 _ rfl,h6.keep k0,h7⟩
end Go.Proofs.YtaiffmebphhdaaaGreat
