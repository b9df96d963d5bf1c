/- The law TopGaps: what gaps say of rows; the form that is built; units. The law TopGaps: units; the form that is told; the parts of the loop. The law TopGaps. The law TopGaps: its walk. -/
import Derived.Test.YtmepglhdcphffaaGreatTgWW
import Derived.Test.YtmepglhdcphffaaGreatTgXX
import Derived.Deep.CutBlock
namespace Go.Proofs.YtmepglhdcphffaaGreat
set_option maxRecDepth 100000
set_option maxHeartbeats 32000000
set_option linter.unusedSimpArgs false
set_option linter.unusedVariables false
open Go.ChangeShapes Go.WideShapes Go.RowKit Go.Maps
def Uk (g:Gp):Prop:=(0≤g.A∧g.A<4)∧(0≤g.B∧g.B<4)∧ -4≤g.By∧g.By≤4
def GpS (l:List Gp):Prop:=∀g∈l,Uk g
def rowOf (g:Gp)(j:Nat):Int:=(if(j:Int)=g.A then 1 else 0)-(if(j:Int)=g.B then 1 else 0)
def ED (g:Gp):List Int:= [rowOf g 0,rowOf g 1,rowOf g 2,rowOf g 3]
def UH (g:Gp):Rw:=⟨ED g,1,g.By⟩
theorem Yu (g:Gp)(j:Nat): -1≤rowOf g j∧rowOf g j≤1:=by unfold rowOf;split<;>split<;>omega
theorem Q7 {g:Gp}:∀x∈ED g,-1≤x∧x≤1:=by
 intro x hx;simp only [ED,List.mem_cons,List.not_mem_nil,or_false]at hx;rcases hx with rfl | rfl | rfl | rfl<;>exact Yu _ _
theorem Yv {g:Gp}(h:Uk g)(t:Nat→Rat):(sQ 4 fun j=>((ED g).getD j 0:Rat)*t j)=t g.A.toNat-t g.B.toNat:=by
 obtain⟨A,B,Y⟩:=g;obtain⟨ha,hb,-⟩:=h;simp only at ha hb ⊢;have hA:A=0∨A=1∨A=2∨A=3:=om;have hB:B=0∨B=1∨B=2∨B=3:=om;rcases hA with rfl | rfl | rfl | rfl<;>rcases hB with rfl | rfl | rfl | rfl<;>
  simp only [sQ,ED,rowOf]<;>simp<;>grind
theorem Yw {g:Gp}(h:Uk g)(t:Nat→Rat):yh (UH g) 4 t↔t g.A.toNat-t g.B.toNat≤(g.By:Rat):=by
 unfold yh UH;simp only;rw [Yv h t];exact⟨fun q=>q.1 trivial,fun q=>⟨fun _=>q,fun q=>absurd q dc,fun q=>absurd q dc⟩⟩
theorem za0 {l:List Gp}(hs:GpS l){f:Nat→Int}(hk:Keeps l f):∀r∈l.map UH,yh r 4 fun j=>(f j:Rat):=by
 intro r hr;obtain⟨g,hg,rfl⟩:=List.mem_map.1 hr;rw [Yw (hs g hg)];obtain⟨i,hi,rfl⟩:=List.getElem_of_mem hg;have:=hk i hi;unfold gA gB gY at this;rw [dV,eD hi]at this;simp only [Option.getD_some]at this;have h2:=Rat.intCast_le_intCast.mpr this;rw [Rat.intCast_sub]at h2;exact h2
theorem Q8 {l:List Gp}{r:List Int}{t:Nat→Rat}(hk:∀g∈l,t g.A.toNat-t g.B.toNat≤(g.By:Rat))(hin:∀i,i<r.length→iE l r i∈l)(hl:∀i,i<r.length→uW l r i)(hr:r.length≤12)(hy:∀i,i<r.length→ -1000000≤(iE l r i).By∧(iE l r i).By≤1000000):
  ∀k,k<r.length→t (iE l r k).A.toNat-t (iE l r 0).B.toNat≤(sumTo l r (k+1):Rat)
 | 0,h=>by
  have:=hk _ (hin 0 h);rw [xM (n:=4) hr hy 0 h];simp only [sumTo,Int.zero_add];exact this
 | k+1,h=>by
  have ih:=Q8 hk hin hl hr hy k om;have h1:=hk _ (hin (k+1) h);have h2:=hl k om;unfold uW jU at h2;rw [Nat.mod_eq_of_lt h]at h2;rw [h2]at ih;rw [xM (n:=4) hr hy (k+1) h,Rat.intCast_add];grind
theorem Yx {l:List Gp}{r:List Int}(hs:GpS l)(h:sO 4 l r):∀x:Nat→Rat,(∀w∈l.map UH,yh w 4 x)→False:=by
 intro t hx;have hk:∀g∈l,t g.A.toNat-t g.B.toNat≤(g.By:Rat):=fun g hg=>(Yw (hs g hg) t).1 (hx _ (List.mem_map.2 ⟨g,hg,rfl⟩));have hin:∀i,i<r.length→iE l r i∈l:=fun i hi=>by
  obtain⟨j,hj,hjl⟩:=O5 h.chk hi;rw [Ee (eD hi) hj (eD hjl)];exact List.getElem_mem hjl
 have hy:∀i,i<r.length→ -1000000≤(iE l r i).By∧(iE l r i).By≤1000000:=fun i hi=>by
  have:=(hs _ (hin i hi)).2.2;omega
 have h4:=h.le;obtain⟨hl,hsum⟩:=h.bad;obtain⟨m,hm⟩:∃m,r.length=m+1:=⟨r.length-1,by have:=h.pos;omega⟩;have h1:=Q8 hk hin hl om hy m om;have h2:=hl m om;unfold uW jU at h2;rw [hm,Nat.mod_self]at h2;rw [h2,←hm]at h1;have h3:((sumTo l r r.length:Int):Rat)<0:=by
  have:=Rat.intCast_lt_intCast.mpr hsum;exact this
 grind
theorem Yy {l:List Gp}(hs:GpS l)(hl:l.length≤60):dQ 4 l=(0,0):=by
 unfold dQ;rw [if_neg om,if_neg om];have:∀(l:List Gp) (i:Nat),GpS l→eO 4 l i=(0,0):=by
  intro l
  induction l with
  | nil=>intro i _;rfl
  | cons g t ih=>
   intro i h;have hg:=h g sm;unfold Uk at hg;rw [eO,if_pos (by unfold gc;rw [if_neg om,if_neg om])];exact ih _ fun x hx=>h x (by simp [hx])
 exact this l 0 hs
theorem Yz {w:World}{base:Nat}{v:Value}{l:List Gp}(h:aO TG 3 tT w base v l)(hs:GpS l):kP w v l:=by
 have hi:∀g∈l,dA g.A∧dA g.B∧dA g.By:=fun g hg=>by have:=hs g hg;unfold Uk at this;unfold dA;omega
 have h':=h;obtain⟨hl,h | ⟨g,cap,cur,hv,hb,hg,hl',hm,hss,ht⟩⟩:=h'
 ·obtain ⟨rfl,h1⟩:=h;obtain rfl:=List.eq_nil_of_length_eq_zero h1;exact⟨none,0,rfl,by unfold maxLen;simp,hi,fun h=>absurd rfl h⟩
 subst hv;exact Ml h rfl (Nat.le_trans hl' hm) hi
structure Bc (w0 w:World)(b bi:Nat)(vL vA:Value)(l la:List Gp)(atoms:List GA):Prop where
 k:Keep au w0 w
 hb:w0.heap.size≤b
 bk:w.heap[b]? =some (.cells #[.slice none 0 0,.slice (some ⟨bi,0,none⟩) 4 4,vA,.slice none 0 0] Bv (0,0))
 i:jl w bi (List.replicate 4 false)
 g:aO TG 3 tT w w0.heap.size vL l
 a:aO rD 6 Jo w w0.heap.size vA atoms
 m:∀a∈atoms,iP w (.slice a.o a.r.of.length a.c) a.r.of
 e:(atoms.map fun a=>(a.k,a.r))=la.map fun g=>((3:Int),UH g)
 s:GpS l
section
variable {w0 w:World} {b bi:Nat} {vL vA:Value} {l la:List Gp} {atoms:List GA}
theorem Bc.keep {w':World}(h:Bc w0 w b bi vL vA l la atoms)(k:Keep au w w'):Bc w0 w' b bi vL vA l la atoms:=
 ⟨h.k.both k,h.hb,(k.block b (lt_of_heap h.bk) fun _ h=>h).trans h.bk,h.i.fr (.of k),aO.keep h.g k,aO.keep h.a k,fun a ha=>(h.m a ha).keep k,h.e,h.s⟩
theorem Bc.len (h:Bc w0 w b bi vL vA l la atoms):atoms.length=la.length:=by
 have:=congrArg List.length h.e;simpa using this
theorem Bc.lt (h:Bc w0 w b bi vL vA l la atoms):∀q,vL.ownBlock=some q→q<w.heap.size:=fun q hq=>aO.lt h.g q hq
theorem Bc.gap (h:Bc w0 w b bi vL vA l la atoms){g:Gp}{bx:Nat}(hbk:aL w bx (tT g).toArray)(hg:Uk g)(hl:l.length≤100):
  ∃v' w',(Builtin.append_ #[23,23] 23 #[vL,.slice (some ⟨bx,0,none⟩) 1 1]).run Tryz.prog w= .ok v' w'∧Bc w0 w' b bi v' vA (l++ [g]) la atoms∧w.grownBy w' vL.ownBlock∧nH w w':=by
 obtain⟨i,hi,hz,hs,hbb⟩:=info_parts zaR;obtain⟨v',w',hr,ho,hgr,hv⟩:=aO.app (T:=TG) (K:=3) (c:=tT) (fun _=>rfl) Tryz.underlying23 hi hz hs hbb rfl om h.g (x:=g) hbk (X8 g) (by unfold maxLen;omega) om h.k.size;have hf:nH w w':=nH.grown hgr fun k hk=>by
  obtain⟨A,hA⟩:=jA h.g hk;exact⟨A,_,hA,dc,dc⟩
 have hT:mG w b Bv:=⟨_,h.bk⟩;refine⟨v',w',hr,⟨h.k.grown hgr fun q hq=>aO.block h.g q hq,h.hb,(hgr.block b (lt_of_heap h.bk) fun e=>fq h.g hT dc b e.symm rfl).trans h.bk,h.i.fr hf,ho,fH h.a fun q hq=>hgr.block q (aO.lt h.a q hq) fun e=> ?_,fun a ha=>(h.m a ha).fr hf,h.e,fun x hx=> ?_⟩,hgr,hf⟩
 ·obtain ⟨A,hA⟩:=jA h.g e.symm;exact fq h.a ⟨A,hA⟩ dc q hq rfl
 rcases List.mem_append.1 hx with hx | hx
 ·exact h.s x hx
 rw [List.mem_singleton.1 hx];exact hg
theorem Bc.atom (h:Bc w0 w b bi vL vA l la atoms){g:Gp}{o:Option Addr}{c:Nat}{bx:Nat}(hbk:aL w bx #[.int .i64 3,.int .i64 0,.int .i64 0,.slice o 4 c,.int .i64 1,.int .i64 g.By])(hr:iP w (.slice o 4 c) (ED g))(hl:atoms.length≤100):
  ∃v' w',(Builtin.append_ #[26,26] 26 #[vA,.slice (some ⟨bx,0,none⟩) 1 1]).run Tryz.prog w= .ok v' w'∧Bc w0 (w'.setCell ⟨b,2,none⟩ v') b bi vL v' l (la++ [g]) (atoms++ [⟨3,o,c,UH g⟩])∧w'.cell? ⟨b,2,none⟩=some vA∧w'.frozen? ⟨b,2,none⟩=false∧b<w'.heap.size:=by
 obtain⟨i,hi,hz,hs,hbb⟩:=info_parts infoAt;obtain⟨v',w',hr',ho,hgr,hv⟩:=aO.app (T:=rD) (K:=6) (c:=Jo) sG Tryz.underlying26 hi hz hs hbb rfl om h.a (x:=⟨3,o,c,UH g⟩) hbk (Qi _) (by unfold maxLen;omega) om h.k.size;have hf:nH w w':=nH.grown hgr fun k hk=>by
  obtain⟨A,hA⟩:=jA h.a hk;exact⟨A,_,hA,dc,dc⟩
 have hT:mG w b Bv:=⟨_,h.bk⟩;have hb':w'.heap[b]? =some (.cells #[.slice none 0 0,.slice (some ⟨bi,0,none⟩) 4 4,vA,.slice none 0 0] Bv (0,0)):=(hgr.block b (lt_of_heap h.bk) fun e=>fq h.a hT dc b e.symm rfl).trans h.bk;have hf2:nH w' (w'.setCell ⟨b,2,none⟩ v'):=nH.set hb' ⟨dc,dc⟩;have hg':aO TG 3 tT w' w0.heap.size vL l:=fH h.g fun q hq=>hgr.block q (aO.lt h.g q hq) fun e=>by
  obtain⟨A,hA⟩:=jA h.a e.symm;exact fq h.g ⟨A,hA⟩ dc q hq rfl
 refine⟨v',w',hr',⟨aQ (h.k.grown hgr fun q hq=>aO.block h.a q hq) _ h.hb,h.hb,?_,(h.i.fr hf).fr hf2,fH hg' fun q hq=>heap_setCell_other w' ⟨b,2,none⟩ _ q (fq hg' ⟨_,hb'⟩ dc q hq),fH ho fun q hq=>heap_setCell_other w' ⟨b,2,none⟩ _ q (fq ho ⟨_,hb'⟩ dc q hq),fun a ha=> ?_,?_,h.s⟩,cell_of_heap (o:=2) hb' rfl,bE hb',lt_of_heap hb'⟩
 ·rw [Go.Joins.block_setCell hb' _];rfl
 ·rcases List.mem_append.1 ha with ha | ha
  ·exact ((h.m a ha).fr hf).fr hf2
  rw [List.mem_singleton.1 ha];exact(hr.fr hf).fr hf2
 rw [List.map_append,List.map_append,h.e];rfl
theorem Bc.mem (h:Bc w0 w b bi vL vA l la atoms):∀a∈atoms,∃g∈la,a.k=3∧a.r=UH g:=by
 intro a ha;have:(a.k,a.r)∈la.map fun g=>((3:Int),UH g):=by rw [← h.e];exact List.mem_map.2 ⟨a,ha,rfl⟩
 obtain⟨g,hg,e⟩:=List.mem_map.1 this;injection e with e1 e2;exact⟨g,hg,e1.symm,e2.symm⟩
theorem Bc.rows (h:Bc w0 w b bi vL vA l la atoms):dI atoms=la.map UH:=by
 rw [FC fun a ha=>by obtain⟨g,_,e,_⟩:=h.mem a ha;exact e];have:=congrArg (List.map Prod.snd) h.e;rw [List.map_map,List.map_map]at this;exact this
end
def jm (n:Nat):List (List Int):=(List.range n).map fun i=> [((i+1:Nat):Int)]
theorem MN (n:Nat):jm (n+1)=jm n++ [[((n+1:Nat):Int)]]:=by unfold jm;rw [List.range_succ,List.map_append];rfl
theorem oJ (n:Nat):(jm n).length=n:=by unfold jm;rw [List.length_map,List.length_range]
theorem EF (n:Nat):jm n=Sv.clsE (Fx n):=by
 unfold jm Sv.clsE Sv.placesE;rw [List.map_map,gV];refine List.map_congr_left fun i hi=> ?_;have hi:=List.mem_range.1 hi;simp only [Function.comp];unfold Fx Sv.litE;rw [dV,List.getElem?_replicate,if_pos hi];rfl
structure UnI (w0 w:World)(b:Nat)(x1 x2 v:Value)(k:Nat):Prop where
 kp:Keep au w0 w
 hb:w0.heap.size≤b
 bk:w.heap[b]? =some (.cells #[.slice none 0 0,x1,x2,v] Bv (0,0))
 rk:w.heap[b+1]? =some (.cells #[.slice none 0 0,.slice none 0 0,.slice none 0 0,.slice none 0 0] Bv (0,0))
 c:lF w w0.heap.size v (jm k)
theorem UnI.keep {w0 w w':World}{b:Nat}{x1 x2 v:Value}{k:Nat}(h:UnI w0 w b x1 x2 v k)(kk:Keep au w w'):UnI w0 w' b x1 x2 v k:=
 ⟨h.kp.both kk,h.hb,(kk.block b (lt_of_heap h.bk) fun _ h=>h).trans h.bk,(kk.block (b+1) (lt_of_heap h.rk) fun _ h=>h).trans h.rk,h.c.keep kk⟩
theorem UnI.app {w0 w:World}{b:Nat}{x1 x2 v:Value}{k:Nat}(h:UnI w0 w b x1 x2 v k){bx:Nat}{x:Value}(hbk:aL w bx #[x])(hx:iP w x [((k+1:Nat):Int)])(hk:k≤1000):
  ∃v' w',(Builtin.append_ #[27,27] 27 #[v,.slice (some ⟨bx,0,none⟩) 1 1]).run Tryz.prog w= .ok v' w'∧UnI w0 (w'.setCell ⟨b,3,none⟩ v') b x1 x2 v' (k+1)∧w'.cell? ⟨b,3,none⟩=some v∧w'.frozen? ⟨b,3,none⟩=false∧b<w'.heap.size:=by
 obtain⟨v',w',hr,ho,hg,hv,hf⟩:=h.c.app hbk hx (by rw [oJ];omega) h.kp.size;rw [← MN]at ho;have hT:mG w b Bv:=⟨_,h.bk⟩;have hT1:mG w (b+1) Bv:=⟨_,h.rk⟩;have hb':=(hg.block b (lt_of_heap h.bk) fun e=>h.c.neT hT dc b e.symm rfl).trans h.bk;have hr1:=(hg.block (b+1) (lt_of_heap h.rk) fun e=>h.c.neT hT1 dc (b+1) e.symm rfl).trans h.rk;refine⟨v',w',hr,⟨aQ (h.kp.grown hg fun q hq=> ?_) _ h.hb,h.hb,?_,(heap_setCell_other w' ⟨b,3,none⟩ _ (b+1) (Nat.succ_ne_self b)).trans hr1,ho.fr (nH.set hb' ⟨dc,dc⟩) fun q hq=>heap_setCell_other w' ⟨b,3,none⟩ _ q (ho.neT ⟨_,hb'⟩ dc q hq)⟩,cell_of_heap (o:=3) hb' rfl,bE hb',lt_of_heap hb'⟩
 ·obtain ⟨_,_,h2,_⟩:=h.c;exact aO.block h2 q hq
 rw [Go.Joins.block_setCell hb' _];rfl
theorem Ul (n:Nat)(hn:n≤20):Ar n (jm n):=by
 have h:=zbq (Fx n) (by rw [gV];exact hn) (X:= []) (fun c hc=>by cases hc) sm;rwa [List.append_nil,gV,←EF]at h
theorem zcx {g:Gp}(h:Uk g):iA (UH g) ((4:Nat):Int):=by
 obtain⟨_,_,h1,h2⟩:=h;exact⟨sm,sm,.inl rfl,by simp [UH,ED],fun x hx=>by have:=Q7 x hx;unfold fO;omega,by unfold fO;show -1000000≤g.By∧g.By≤1000000;omega⟩
theorem Bc.form {w0 w:World}{b bi:Nat}{vL:Value}{l:List Gp}{atoms:List GA}{oa:Option Addr}{n ca:Nat}(h:Bc w0 w b bi vL (.slice oa n ca) l l atoms)(hn:n=atoms.length){oc:Option Addr}{cc:Nat}(hc:fM w (.slice oc n cc) (jm n)):qm w ⟨some ⟨bi,0,none⟩,4,oa,ca,oc,cc⟩ ⟨4,atoms,jm n⟩:=by
 subst hn;refine⟨?_,?_,by rw [oJ];exact hc⟩
 ·have:=h.i.bools;rwa [List.length_replicate]at this
 obtain⟨MP,cap,e,h1,h2⟩:=aO.len h.a;injection e with q1 q2 q3;subst q1;subst q3;refine⟨_,_,rfl,h1,h2,fun a ha=>⟨(h.m a ha).1,?_⟩,fun hne=> ?_⟩
 ·obtain ⟨o,n,c,e,p1,p2⟩:=(h.m a ha).2.1;injection e with _ q2 q3;rw [q2,q3];exact⟨p1,p2⟩
 obtain⟨g,cap',e',hb,hl,hc⟩:=aO.cells sG h.a hne;injection e' with q1 q2 q3;exact⟨g,0,q1,hl,hc⟩
theorem Bc.ok {w0 w:World}{b bi:Nat}{vL vA:Value}{l:List Gp}{atoms:List GA}(h:Bc w0 w b bi vL vA l l atoms)(hl:l.length≤6):rQ ⟨4,atoms,jm atoms.length⟩:=by
 have hn:=h.len;refine⟨by show 4≤12;omega,by show atoms.length≤20;omega,fun a ha=> ?_,Ul atoms.length om⟩;obtain⟨g,hg,e1,e2⟩:=h.mem a ha;refine .inr ⟨e1,by rw [e2];rfl,by rw [e2];rfl,by show 0<4;omega,?_⟩;rw [e2];exact zcx (h.s g hg)
theorem Bc.verd {w0 w:World}{b bi:Nat}{vL vA:Value}{l:List Gp}{atoms:List GA}(h:Bc w0 w b bi vL vA l l atoms)(hl:l.length≤6){V:Int}(hV:DG ⟨4,atoms,jm atoms.length⟩ V):((∃f:Nat→Int,Keeps l f)→V≠2)∧((∃r,sO 4 l r)→V≠1):=by
 have hok:=h.ok hl;refine⟨?_,?_⟩
 ·rintro ⟨f,hf⟩ rfl;rcases hV with hV | ⟨hV,_⟩ | ⟨-,hV⟩
  ·exact absurd hV dc
  ·exact absurd hV dc
  refine zbr hok (x:=fun j=>(f j:Rat)) ?_ hV;show ∀r∈dI atoms,yh r 4 _;rw [h.rows];exact za0 h.s hf
 rintro⟨r,hr⟩ rfl;rcases hV with hV | ⟨-,hV⟩ | ⟨hV,_⟩
 ·exact absurd hV dc
 ·refine zcG hok (fun x hx=> ?_) hV;have hx:∀r∈dI atoms,yh r 4 x:=hx;rw [h.rows]at hx;exact Yx h.s hr x hx
 exact absurd hV dc
theorem Um (w:World)(x1:Value)(o1:Option Addr)(n1 c1:Nat)(h1:x1= .slice o1 n1 c1)(oa:Option Addr)(n ca:Nat)(hn:n≤20):
  Calls Tryz.prog 8 #[.agg #[.slice none 0 0,x1,.slice oa n ca,.slice none 0 0]] w fun e w'=>∃oc cc,e= .returned (.agg #[.slice none 0 0,x1,.slice oa n ca,.slice oc n cc])∧fM w' (.slice oc n cc) (jm n)∧Keep au w w':=by
 subst h1;obtain⟨w1,hw1⟩:∃w1:World,w1=(w.alloc (.cells #[.slice none 0 0,.slice o1 n1 c1,.slice oa n ca,.slice none 0 0] Bv)).alloc (.cells #[.slice none 0 0,.slice none 0 0,.slice none 0 0,.slice none 0 0] Bv):=⟨_,rfl⟩;have H1:Hid (UnI w w1 w.heap.size (.slice o1 n1 c1) (.slice oa n ca) (.slice none 0 0) 0):=zh ⟨by rw [hw1];exact((Keep.refl _ _).alloc _).alloc _,Nat.le_refl _,by rw [hw1,heap_alloc_old _ _ _ sm];exact aK _ _ _ rfl,by rw [hw1];exact aK _ _ _ sm,lF.nil _ _⟩;go_enter Tryz.func8,Tryz.ntmps8;go_upto_region 1 with fail;rw [← hw1];clear hw1;obtain⟨b,hb⟩:∃b,b=w.heap.size:=⟨_,rfl⟩;rw [← hb]at H1 ⊢;have HB:=zh (Nat.le_of_eq hb.symm);clear hb;go_wp2;go_loopw [3] (fun s wr=>∃(k:Nat) (v:Value),k≤n∧s= .int .i64 k∧UnI w wr b (.slice o1 n1 c1) (.slice oa n ca) v k) (fun s _=>(n-intOf s).toNat)
 case atStart=>exact⟨0,_,om,rfl,H1.out⟩
 obtain⟨k,v,hk,rfl,ht⟩:=hrel;have HT:=zh ht;clear ht;obtain⟨ov,cv,hv,_⟩:=HT.out.c.form;rw [oJ]at hv;subst hv;have x2:=cell_of_heap (o:=2) HT.out.bk rfl;have x3:=cell_of_heap (o:=3) HT.out.bk rfl;have xl:=lt_of_heap HT.out.bk;by_cases hkl:k<n
 case pos=>
  have hlt:(k:Int)<(n:Int):=om;have hk64:(-9223372036854775808:Int)≤(k:Int)+1∧(k:Int)+1≤9223372036854775807:=om;have ka:Keep au wr ((wr.alloc (.cells #[.int .i64 ((k:Int)+1)] TI)).alloc (.cells #[.slice (some ⟨wr.heap.size,0,none⟩) 1 1] Ch)):=((Keep.refl _ _).alloc _).alloc _;have hbI:((wr.alloc (.cells #[.int .i64 ((k:Int)+1)] TI)).alloc (.cells #[.slice (some ⟨wr.heap.size,0,none⟩) 1 1] Ch)).heap[wr.heap.size]? =some (.cells #[.int .i64 ((k:Int)+1)] TI (0,0)):=by rw [heap_alloc_old _ _ _ sm];exact aK _ _ _ rfl
  obtain⟨v',w',hr,ht',g0,f0,gl⟩:=(HT.out.keep ka).app (bx:=wr.heap.size+1) (x:= .slice (some ⟨wr.heap.size,0,none⟩) 1 1) (aN _ _ sm) ⟨⟨_,1,rfl,by unfold maxLen;simp,fun x hx=>by obtain rfl:=List.mem_singleton.1 hx;unfold dA;omega,fun _=>⟨wr.heap.size,0,rfl,lt_of_heap hbI,fun i x hx=>by
    have hi0:i=0:=by have:=(List.getElem?_eq_some_iff.1 hx).1;simp at this;exact this
    subst hi0;simp at hx;subst hx;exact cell_of_heap (o:=0) hbI rfl⟩⟩,⟨_,1,1,rfl,Nat.le_refl _,by unfold maxLen;omega⟩,fun q hq=>by cases hq;exact⟨_,hbI⟩⟩ om
  have HT':=zh ht';obtain⟨o',c',hv',_⟩:=HT'.out.c.form;rw [oJ]at hv';subst hv';clear ka ht' hbI;go_wp2_with (at_builtin;refine aV _ _ 27 _ _ rfl rfl rfl rfl hr ?_);go_roundw
  case rel=>exact⟨k+1,_,om,gn,HT'.out⟩
  simp [intOf];omega
 have hlt:¬(k:Int)<(n:Int):=om;obtain rfl:k=n:=om;have x0:=cell_of_heap (o:=0) HT.out.bk rfl;have x1:=cell_of_heap (o:=1) HT.out.bk rfl;have y0:=cell_of_heap (o:=0) HT.out.rk rfl;have y1:=cell_of_heap (o:=1) HT.out.rk rfl;have y2:=cell_of_heap (o:=2) HT.out.rk rfl;have y3:=cell_of_heap (o:=3) HT.out.rk rfl;have z0:wr.frozen? ⟨b+1,0,none⟩=false:=bE HT.out.rk;have z1:wr.frozen? ⟨b+1,1,none⟩=false:=bE HT.out.rk;have z2:wr.frozen? ⟨b+1,2,none⟩=false:=bE HT.out.rk;have z3:wr.frozen? ⟨b+1,3,none⟩=false:=bE HT.out.rk;have yl:=lt_of_heap HT.out.rk;have T4:Hid (mG wr (b+1) Bv):=zh ⟨_,HT.out.rk⟩;go_wp2;refine bodyPost_ret (by simp [results,Tryz.results8,go_sem,y0,y1,y2,y3,yl];rfl) rfl ?_;have hO:=((((oO.refl T4.out).set ⟨dc,dc⟩ 0 (.slice none 0 0)).set ⟨dc,dc⟩ 1 (.slice o1 n1 c1)).set ⟨dc,dc⟩ 2 (.slice oa k ca)).set ⟨dc,dc⟩ 3 (.slice ov k cv);have hbb:=HB.out;exact⟨ov,cv,rfl,(HT.out.c.fr hO.fr fun q hq=>hO.other q (HT.out.c.neT T4.out dc q hq)).cls,aQ (aQ (aQ (aQ HT.out.kp _ om) _ om) _ om) _ om⟩
def pst6 (g0:Nat)(ra:Value)(k:Int)(pa:Value)(x:Int)(S:Nat→Bool):Nat→Value→World→Prop
 | 0,v,_=>v=ra
 | 1,v,_=>v= .int .i64 k
 | 2,v,_=>v=pa
 | 3,v,_=>v= .int .i64 x
 | 4,v,_=>∃r,v= .int .i64 r∧0≤r∧r<4
 | 5,v,_=>v=ra
 | 6,v,_=>v= .int .i64 k
 | 7,v,_=>v=pa
 | 8,v,_=>v= .int .i64 x
 | 9,v,_=>v= .int .i64 (x.tdiv 4)
 | 10,v,_=>∃r,v= .int .i64 r∧0≤r∧r<4
 | 11,v,_=>v=ra
 | 12,v,_=>v= .int .i64 k
 | 13,v,_=>v=pa
 | 14,v,_=>v= .int .i64 x
 | 15,v,_=>v= .int .i64 (x.tdiv 16)
 | 16,v,_=>∃r,v= .int .i64 r∧0≤r∧r<9
 | 17,v,_=>∃r,v= .int .i64 r∧ -4≤r∧r≤4
 | 18,v,_=>∃g,v= .agg (tT g).toArray∧Uk g
 | 19,v,w=>∃b,v= .pointer (some ⟨b,0,none⟩)∧g0≤b∧(S 20=false→aL w b #[.int .i64 0,.int .i64 0,.int .i64 0])∧(S 20=true→∃g,Uk g∧aL w b (tT g).toArray)
 | 20,_,_=>True
 | _,_,_=>True
theorem GH {g0:Nat}{ra:Value}{k:Int}{pa:Value}{x:Int}{S:Nat→Bool}{w w':World}{e:Nat}(he:e≠20)(kk:Keep au w w'):∀(d:Nat) (v:Value),pst6 g0 ra k pa x S d v w→pst6 g0 ra k pa x (mark S e) d v w'
 | 0,v,h=>h
 | 1,v,h=>h
 | 2,v,h=>h
 | 3,v,h=>h
 | 4,v,h=>h
 | 5,v,h=>h
 | 6,v,h=>h
 | 7,v,h=>h
 | 8,v,h=>h
 | 9,v,h=>h
 | 10,v,h=>h
 | 11,v,h=>h
 | 12,v,h=>h
 | 13,v,h=>h
 | 14,v,h=>h
 | 15,v,h=>h
 | 16,v,h=>h
 | 17,v,h=>h
 | 18,v,h=>h
 | 19,v,h=>by
  obtain⟨b,e1,e2,h1,h2⟩:=h;refine⟨b,e1,e2,fun hm=>(h1 (pW hm)).keep kk,fun hm=> ?_⟩;unfold mark at hm;rw [if_neg om]at hm;obtain⟨g,q1,q2⟩:=h2 hm;exact⟨g,q1,q2.keep kk⟩
 | 20,v,h=>h
 | n+21,v,h=>trivial
theorem iw {g0:Nat}{ra:Value}{k:Int}{pa:Value}{x:Int}{S:Nat→Bool}{w:World}{σ:Nat→Value}{e:Nat}(he:e≠20):∀d,d≠e→S d=true→pst6 g0 ra k pa x S d (σ d) w→pst6 g0 ra k pa x (mark S e) d (σ d) w:=fun d _ _=>GH he (Keep.refl _ _) d _
theorem Pt {g0:Nat}{ra:Value}{k:Int}{pa:Value}{x:Int}{S:Nat→Bool}{w w':World}{σ:Nat→Value}{b1:Nat}{g:Gp}(e19:σ 19= .pointer (some ⟨b1,0,none⟩))(hg:Uk g)(hb:aL w' b1 (tT g).toArray):∀(d:Nat),d≠20→pst6 g0 ra k pa x S d (σ d) w→pst6 g0 ra k pa x (mark S 20) d (σ d) w'
 | 0,_,h=>h
 | 1,_,h=>h
 | 2,_,h=>h
 | 3,_,h=>h
 | 4,_,h=>h
 | 5,_,h=>h
 | 6,_,h=>h
 | 7,_,h=>h
 | 8,_,h=>h
 | 9,_,h=>h
 | 10,_,h=>h
 | 11,_,h=>h
 | 12,_,h=>h
 | 13,_,h=>h
 | 14,_,h=>h
 | 15,_,h=>h
 | 16,_,h=>h
 | 17,_,h=>h
 | 18,_,h=>h
 | 19,_,h=>by
  obtain⟨b,e1,e2,h1,h2⟩:=h;rw [e19]at e1;cases e1;exact⟨b1,e19,e2,fun hm=>(by rw [kM]at hm;cases hm),fun _=>⟨g,hg,hb⟩⟩
 | 20,hd,_=>absurd rfl hd
 | n+21,_,h=>trivial
theorem Un {w:World}{bo a b:Nat}(h:w.heap[bo]? =some (.cells #[.int .i64 0,.int .i64 0,.int .i64 0,.int .i64 0] TI (0,0)))(ha:a<4)(hb:b<4)(Y:Int):
  w.cell? ⟨bo,a,none⟩=some (.int .i64 0)∧(w.setCell ⟨bo,a,none⟩ (.int .i64 1)).cell? ⟨bo,b,none⟩=some (.int .i64 (if b=a then 1 else 0))∧iP ((w.setCell ⟨bo,a,none⟩ (.int .i64 1)).setCell ⟨bo,b,none⟩ (.int .i64 ((if b=a then 1 else 0)-1))) (.slice (some ⟨bo,0,none⟩) 4 4) (ED ⟨(a:Int),(b:Int),Y⟩):=by
 have h1:=Go.Joins.block_setCell (i:=a) h (.int .i64 1);have h2:=Go.Joins.block_setCell (i:=b) h1 (.int .i64 ((if b=a then 1 else 0)-1));have hA:a=0∨a=1∨a=2∨a=3:=om;have hB:b=0∨b=1∨b=2∨b=3:=om;refine⟨cell_of_heap h (by rcases hA with rfl | rfl | rfl | rfl<;>rfl),cell_of_heap h1 (by rcases hA with rfl | rfl | rfl | rfl<;>rcases hB with rfl | rfl | rfl | rfl<;>rfl),⟨_,4,rfl,by unfold maxLen;simp [ED],fun x hx=>by have:=Q7 x hx;unfold dA;omega,fun _=>⟨bo,0,rfl,lt_of_heap h2,fun i x hx=> ?_⟩⟩,⟨_,4,4,rfl,Nat.le_refl _,by unfold maxLen;omega⟩,fun q hq=>by cases hq;exact⟨_,h2⟩⟩;refine cell_of_heap h2 ?_;rw [Nat.zero_add];have hi:i<4:=by have:=(List.getElem?_eq_some_iff.1 hx).1;simpa [ED]using this
 have hI:i=0∨i=1∨i=2∨i=3:=om;rcases hI with rfl | rfl | rfl | rfl<;>rcases hA with rfl | rfl | rfl | rfl<;>rcases hB with rfl | rfl | rfl | rfl<;>(simp [ED,rowOf]at hx;subst hx;rfl)
theorem Q9 {x k:Int}(hk:2≤k)(hx:dA x):dA (x.tdiv k):=by
 unfold dA at *;have h:(x.tdiv k).natAbs=x.natAbs/k.natAbs:=Int.natAbs_tdiv x k;have h2:x.natAbs/k.natAbs≤x.natAbs/2:=Nat.div_le_div_left om om;omega
theorem MO (w:World)(vr:Value)(raw:List Int)(hr:aR w vr raw):
  Calls Tryz.prog 3 #[vr] w fun e w'=>e= .returned (.bool true)∧Keep au w w':=by
 have HR:=zh hr;obtain⟨ro,rc,rfl,hrm⟩:=hr.len;have CPK:=fun w' x n h1 h2 h3=>zh (Ni w' x n h1 h2 h3);obtain⟨w1,hw1⟩:∃w1:World,w1=(w.alloc (.cells #[.bool false,.bool false,.bool false,.bool false] Jp)).alloc (.cells #[.slice none 0 0,.slice (some ⟨w.heap.size,0,none⟩) 4 4,.slice none 0 0,.slice none 0 0] Bv):=⟨_,rfl⟩;have HT1:Hid (Bc w w1 (w.heap.size+1) w.heap.size (.slice none 0 0) (.slice none 0 0) [] [] []):=zh ⟨by rw [hw1];exact((Keep.refl _ _).alloc _).alloc _,Nat.le_succ _,by rw [hw1];exact aK _ _ _ sm,⟨by rw [hw1,heap_alloc_old _ _ _ sm];exact aK _ _ _ rfl,by unfold maxLen;simp⟩,aO.nil _ _,aO.nil _ _,fun a ha=>(by cases ha),rfl,fun g hg=>(by cases hg)⟩;clear hr;go_enter Tryz.func3,Tryz.ntmps3;go_upto_region 3 with fail;rw [← hw1];clear hw1;obtain⟨bi,hbi⟩:∃bi,bi=w.heap.size:=⟨_,rfl⟩;rw [← hbi]at HT1 ⊢;clear hbi;go_upto_block 0 with fail;go_cut [3] (fun s3 wx=>∃(l:List Gp) (vA:Value) (atoms:List GA),l.length≤6∧Bc w wx (bi+1) bi s3 vA l l atoms)
 case first=>
  go_wp2;go_loopw [5,3] (fun s s3 wr=>∃(k:Nat) (l:List Gp) (vA:Value) (atoms:List GA),k≤6∧k≤raw.length∧s= .int .i64 k∧l.length=k∧Bc w wr (bi+1) bi s3 vA l l atoms) (fun s _ _=>(6-intOf s).toNat)
  case atStart=>exact⟨0,[],_,[],om,om,rfl,rfl,HT1.out⟩
  obtain⟨k,l,vA,atoms,hk6,hkr,rfl,hll,ht⟩:=hrel;have HT:=zh ht;have YI:=zh hll;clear ht;by_cases hk1:k<raw.length
  case neg=>
   have hlt:¬(k:Int)<(raw.length:Int):=om;clear hll;go_wp2;go_meet;exact⟨l,vA,atoms,by have:=YI.out;omega,HT.out⟩
  have hlt:(k:Int)<(raw.length:Int):=om;by_cases hk2:k<6
  case neg=>
   have hlt6:¬(k:Int)<6:=om;clear hll;go_wp2;go_meet;exact⟨l,vA,atoms,by have:=YI.out;omega,HT.out⟩
  have hlt6:(k:Int)<6:=om;obtain⟨oL,cL,hvL,_⟩:=aO.len HT.out.g;rw [hll]at hvL;subst hvL;obtain⟨oA,cA,Jw,_⟩:=aO.len HT.out.a;rw [HT.out.len,hll]at Jw;subst Jw;obtain⟨bc,fc,cap,hv',hbc,p0⟩:=(HR.out.keep HT.out.k).at hk1;injection hv' with q1 q2 q3;clear q2;subst q1;subst q3;have hx64:=HR.out.all _ (List.getElem_mem hk1);generalize raw[k]=x at *;have HX1:=zh hx64;have HX4:=zh (Q9 (x:=x) (k:=4) om hx64);have zee:=zh (Q9 (x:=x) (k:=16) om hx64);clear hll hx64;go_upto_region 6 with fail;refine jo (fun w'=>Keep au wr w') (pst6 wr.heap.size (.slice (some ⟨bc,fc,none⟩) raw.length rc) (k:Int) (.pointer (some ⟨bc,fc+k,none⟩)) x) kr kr kr kr (Keep.refl _ _).drew _ (fun σ=>by
   show bP _ σ [0,1,2,3,4,5,6,7,8,9,10,11,12,13,14,15,16,17,18,19,20] _=_;simp only [bP,zl0,zl1,zl2,Act.put,List.setIfInBounds_toArray,List.set_cons_zero,List.set_cons_succ];rfl) ?_ ?_
  ·intro S σ w2 hC e he HK;have he:e<21:=he;have hC:Keep au wr w2:=hC;obtain rfl | rfl | rfl | rfl | rfl | rfl | rfl | rfl | rfl | rfl | rfl | rfl | rfl | rfl | rfl | rfl | rfl | rfl | rfl | rfl | rfl:e=0∨e=1∨e=2∨e=3∨e=4∨e=5∨e=6∨e=7∨e=8∨e=9∨e=10∨e=11∨e=12∨e=13∨e=14∨e=15∨e=16∨e=17∨e=18∨e=19∨e=20:=om
   ·refine ay rfl rfl fun K hK=> ?_;go_simp;exact hK _ _ ⟨hC,iw dc,_,rfl,rfl⟩
   ·refine ay rfl rfl fun K hK=> ?_;go_simp;exact hK _ _ ⟨hC,iw dc,_,rfl,rfl⟩
   ·have h0:σ 0= .slice (some ⟨bc,fc,none⟩) raw.length rc:=HK.post 0 kr;rw [h0];have h1:σ 1= .int .i64 (k:Int):=HK.post 1 kr;rw [h1];refine ay rfl rfl fun K hK=> ?_;go_simp;exact hK _ _ ⟨hC,iw dc,_,rfl,rfl⟩
   ·have h2:σ 2= .pointer (some ⟨bc,fc+k,none⟩):=HK.post 2 kr;rw [h2];have m0:=(hC.cell hbc).trans p0;have ml:=bJ hbc hC.size;refine ay rfl rfl fun K hK=> ?_;go_simp;exact hK _ _ ⟨hC,iw dc,_,rfl,rfl⟩
   ·have h3:σ 3= .int .i64 x:=HK.post 3 kr;rw [h3];refine ay rfl rfl fun K hK=> ?_;go_simp;refine(CPK _ x 4 HX1.out om om).out.mono ?_;rintro e w3 ⟨r,hr1,hr2,rfl,hw3⟩;subst hw3;exact hK _ _ ⟨hC,iw dc,_,rfl,⟨r,rfl,hr1,hr2⟩⟩
   ·refine ay rfl rfl fun K hK=> ?_;go_simp;exact hK _ _ ⟨hC,iw dc,_,rfl,rfl⟩
   ·refine ay rfl rfl fun K hK=> ?_;go_simp;exact hK _ _ ⟨hC,iw dc,_,rfl,rfl⟩
   ·have h5:σ 5= .slice (some ⟨bc,fc,none⟩) raw.length rc:=HK.post 5 kr;rw [h5];have h6:σ 6= .int .i64 (k:Int):=HK.post 6 kr;rw [h6];refine ay rfl rfl fun K hK=> ?_;go_simp;exact hK _ _ ⟨hC,iw dc,_,rfl,rfl⟩
   ·have h7:σ 7= .pointer (some ⟨bc,fc+k,none⟩):=HK.post 7 kr;rw [h7];have m0:=(hC.cell hbc).trans p0;have ml:=bJ hbc hC.size;refine ay rfl rfl fun K hK=> ?_;go_simp;exact hK _ _ ⟨hC,iw dc,_,rfl,rfl⟩
   ·have h8:σ 8= .int .i64 x:=HK.post 8 kr;rw [h8];refine ay rfl rfl fun K hK=> ?_;go_simp;exact hK _ _ ⟨hC,iw dc,_,rfl,congrArg (Value.int .i64) (IntWalk.i64_in _ HX4.out)⟩
   ·have h9:σ 9= .int .i64 (x.tdiv 4):=HK.post 9 kr;rw [h9];refine ay rfl rfl fun K hK=> ?_;go_simp;refine(CPK _ (x.tdiv 4) 4 HX4.out om om).out.mono ?_;rintro e w3 ⟨r,hr1,hr2,rfl,hw3⟩;subst hw3;exact hK _ _ ⟨hC,iw dc,_,rfl,⟨r,rfl,hr1,hr2⟩⟩
   ·refine ay rfl rfl fun K hK=> ?_;go_simp;exact hK _ _ ⟨hC,iw dc,_,rfl,rfl⟩
   ·refine ay rfl rfl fun K hK=> ?_;go_simp;exact hK _ _ ⟨hC,iw dc,_,rfl,rfl⟩
   ·have h11:σ 11= .slice (some ⟨bc,fc,none⟩) raw.length rc:=HK.post 11 kr;rw [h11];have h12:σ 12= .int .i64 (k:Int):=HK.post 12 kr;rw [h12];refine ay rfl rfl fun K hK=> ?_;go_simp;exact hK _ _ ⟨hC,iw dc,_,rfl,rfl⟩
   ·have h13:σ 13= .pointer (some ⟨bc,fc+k,none⟩):=HK.post 13 kr;rw [h13];have m0:=(hC.cell hbc).trans p0;have ml:=bJ hbc hC.size;refine ay rfl rfl fun K hK=> ?_;go_simp;exact hK _ _ ⟨hC,iw dc,_,rfl,rfl⟩
   ·have h14:σ 14= .int .i64 x:=HK.post 14 kr;rw [h14];refine ay rfl rfl fun K hK=> ?_;go_simp;exact hK _ _ ⟨hC,iw dc,_,rfl,congrArg (Value.int .i64) (IntWalk.i64_in _ zee.out)⟩
   ·have h15:σ 15= .int .i64 (x.tdiv 16):=HK.post 15 kr;rw [h15];refine ay rfl rfl fun K hK=> ?_;go_simp;refine(CPK _ (x.tdiv 16) 9 zee.out om om).out.mono ?_;rintro e w3 ⟨r,hr1,hr2,rfl,hw3⟩;subst hw3;exact hK _ _ ⟨hC,iw dc,_,rfl,⟨r,rfl,hr1,hr2⟩⟩
   ·obtain ⟨r,e16,hr1,hr2⟩:=(show ∃r,σ 16= .int .i64 r∧0≤r∧r<9 from HK.post 16 kr);rw [e16];refine ay rfl rfl fun K hK=> ?_;go_simp;exact hK _ _ ⟨hC,iw dc,_,rfl,⟨r-4,congrArg (Value.int .i64) (IntWalk.i64_in _ om),om,om⟩⟩
   ·obtain ⟨r1,e4,h41,h42⟩:=(show ∃r,σ 4= .int .i64 r∧0≤r∧r<4 from HK.post 4 kr);obtain⟨r2,e10,h101,h102⟩:=(show ∃r,σ 10= .int .i64 r∧0≤r∧r<4 from HK.post 10 kr);obtain⟨r3,e17,h171,h172⟩:=(show ∃r,σ 17= .int .i64 r∧ -4≤r∧r≤4 from HK.post 17 kr);rw [e4,e10,e17];refine ay rfl rfl fun K hK=> ?_;go_simp;exact hK _ _ ⟨hC,iw dc,_,rfl,⟨⟨r1,r2,r3⟩,rfl,⟨h41,h42⟩,⟨h101,h102⟩,h171,h172⟩⟩
   ·refine ay rfl rfl fun K hK=> ?_;go_simp;exact hK _ _ ⟨hC.alloc _,fun d hd hs h=>GH dc ((Keep.refl _ _).alloc _) d _ h,_,rfl,⟨w2.heap.size,rfl,hC.size,fun _=>aN _ _ rfl,fun hm=>by rw [dL om,HK.down 20 kr]at hm;cases hm⟩⟩
   obtain⟨g,e18,hgo⟩:=(show ∃g,σ 18= .agg (tT g).toArray∧Uk g from HK.post 18 kr);obtain⟨A,B,Y⟩:=g;have e18:σ 18= .agg #[.int .i64 A,.int .i64 B,.int .i64 Y]:=e18;rw [e18];obtain⟨b1,e19,hg19,hb19,_⟩:=(show ∃b,σ 19= .pointer (some ⟨b,0,none⟩)∧wr.heap.size≤b∧(S 20=false→aL w2 b #[.int .i64 0,.int .i64 0,.int .i64 0])∧(S 20=true→∃g,Uk g∧aL w2 b (tT g).toArray)from HK.post 19 kr);have hb19:=hb19 HK.self;rw [e19];obtain⟨s0,s1,s2,f0,f1,f2,sl⟩:=hb19.three;refine ay rfl rfl fun K hK=> ?_;go_simp;exact hK _ _ ⟨aQ (aQ (aQ hC _ hg19) _ hg19) _ hg19,fun d hd hs h=>Pt (g:=⟨A,B,Y⟩) e19 hgo (((hb19.set 0 _).set 1 _).set 2 _) d hd h,undef,rfl,trivial⟩
  intro S σ w6 hC hS hP;have hC:Keep au wr w6:=hC;obtain⟨b1,e19,hg1,_,hb1⟩:=(show ∃b,σ 19= .pointer (some ⟨b,0,none⟩)∧wr.heap.size≤b∧(S 20=false→aL w6 b #[.int .i64 0,.int .i64 0,.int .i64 0])∧(S 20=true→∃g,Uk g∧aL w6 b (tT g).toArray)from hP 19 (by show 19<21;omega));obtain⟨g,hgo,hb1⟩:=hb1 (hS 20 (by show 20<21;omega));rw [e19];refine NoPanic.normal ?_;have VL:=zh (HT.out.keep hC);have HLV:Hid (∀q,(Value.slice oL k cL).ownBlock=some q→q≠b1):=zh (fun q hq=>by have:=HT.out.lt q hq;omega);have EO:=zh hgo;obtain⟨A,B,Y⟩:=g;have hgo':=hgo;obtain⟨⟨hA1,hA2⟩,⟨hB1,hB2⟩,hY1,hY2⟩:=hgo';simp only at hA1 hA2 hB1 hB2 hY1 hY2;obtain⟨a,rfl⟩:∃n:Nat,A=(n:Int):=⟨A.toNat,om⟩;obtain⟨b,rfl⟩:∃n:Nat,B=(n:Int):=⟨B.toNat,om⟩;have ha4:a<4:=om;have hb4:b<4:=om;clear hS hP e19 hgo HT p0 hbc hC hg1;obtain⟨w7,hw7⟩:∃w7:World,w7=w6.alloc (.cells #[.int .i64 0,.int .i64 0,.int .i64 0,.int .i64 0] TI):=⟨_,rfl⟩;have k7:Keep au w6 w7:=by rw [hw7];exact(Keep.refl _ _).alloc _
  have hb7:w7.heap[w6.heap.size]? =some (.cells #[.int .i64 0,.int .i64 0,.int .i64 0,.int .i64 0] TI (0,0)):=by rw [hw7];exact aK _ _ _ rfl
  obtain⟨r1,r2,r3⟩:=Un hb7 ha4 hb4 Y;have HR3:=zh r3;have mE:=zh (hb1.keep k7);obtain⟨c0,c1,c2,_,_,_,cl⟩:=mE.out.three;have f7:w7.frozen? ⟨w6.heap.size,a,none⟩=false:=bE hb7;have l7:=lt_of_heap hb7;have hne:b1≠w6.heap.size:=by have:=hb1.lt;omega
  have hb8:=Go.Joins.block_setCell (i:=a) hb7 (.int .i64 1);have f8:(w7.setCell ⟨w6.heap.size,a,none⟩ (.int .i64 1)).frozen? ⟨w6.heap.size,b,none⟩=false:=bE hb8;have l8:=lt_of_heap hb8;have IB:=zh (mE.out.setOther a (.int .i64 1) hne);have k9:Keep au w6 ((w7.setCell ⟨w6.heap.size,a,none⟩ (.int .i64 1)).setCell ⟨w6.heap.size,b,none⟩ (.int .i64 ((if b=a then 1 else 0)-1))):=aQ (aQ k7 _ (Nat.le_refl _)) _ (Nat.le_refl _);have HG9:=zh (IB.out.setOther b (.int .i64 ((if b=a then 1 else 0)-1)) hne);have HT9:=zh (VL.out.keep k9);have hy:(if b=a then(1:Int)else 0)=0∨(if b=a then(1:Int)else 0)=1:=by split<;>simp
  generalize (if b=a then(1:Int)else 0)=y at*;have hyb:(-9223372036854775808:Int)≤y-1∧y-1≤9223372036854775807:=om;generalize RP:w6.heap.size=bo at *;clear r3 k7 k9 hb7 hb8 VL hb1 hy;go_upto_region 8 with fail;rw [← hw7];clear hw7 RP;go_upto_region 9 with fail;clear c0 c1 c2 cl f7 l7 r1;obtain⟨w8,hw8⟩:∃w8:World,w8=w7.setCell ⟨bo,a,none⟩ (.int .i64 1):=⟨_,rfl⟩;rw [← hw8]at HR3 IB HG9 HT9 r2 f8 l8 ⊢;obtain⟨c0,c1,c2,_,_,_,cl⟩:=IB.out.three;clear hw8;go_upto_region 10 with fail;clear c0 c1 c2 cl f8 l8 r2 IB;obtain⟨w9,hw9⟩:∃w9:World,w9=w8.setCell ⟨bo,b,none⟩ (.int .i64 (y-1)):=⟨_,rfl⟩;rw [← hw9]at HR3 HG9 HT9 ⊢;clear hw9 hyb;obtain⟨c0,c1,c2,_,_,_,cl⟩:=HG9.out.three;have ka:Keep au w9 (w9.alloc (.cells #[.int .i64 (a:Int),.int .i64 (b:Int),.int .i64 Y] TG)):=(Keep.refl _ _).alloc _;have hll:=YI.out;obtain⟨v',w10,hr,ht',hgr,hfi⟩:=(HT9.out.keep ka).gap (g:=⟨(a:Int),(b:Int),Y⟩) (bx:=w9.heap.size) (aN _ _ rfl) EO.out om;have Uo:=zh ht';have zby:=zh ((HR3.out.keep ka).fr hfi);have hg10:aL w10 b1 (tT ⟨(a:Int),(b:Int),Y⟩).toArray:=(HG9.out.keep ka).grown hgr fun q hq=>HLV.out q hq;obtain⟨oL',cL',hvL,_⟩:=aO.len Uo.out.g;rw [List.length_append,List.length_singleton,hll]at hvL;subst hvL;clear ka ht' hgr hfi hll;go_upto_region 11 with(at_builtin;refine aV _ _ 23 _ _ rfl rfl rfl rfl hr ?_);clear c0 c1 c2 cl hr HG9 HT9 HR3 HLV;obtain⟨c0,c1,c2,_,_,_,cl⟩:=hg10.three;have x2:=cell_of_heap (o:=2) Uo.out.bk rfl;have xl:=lt_of_heap Uo.out.bk;have kb:Keep au w10 (w10.alloc (.cells #[.int .i64 3,.int .i64 0,.int .i64 0,.slice (some ⟨bo,0,none⟩) 4 4,.int .i64 1,.int .i64 Y] rD)):=(Keep.refl _ _).alloc _;obtain⟨v',w12,hr,ht',g0,f0,gl⟩:=(Uo.out.keep kb).atom (g:=⟨(a:Int),(b:Int),Y⟩) (bx:=w10.heap.size) (aN _ _ rfl) (zby.out.keep kb) (by have:=Uo.out.len;have:=YI.out;omega);have zef:=zh ht';obtain⟨oA',cA',Jw,_⟩:=aO.len zef.out.a;rw [List.length_append,List.length_singleton,Uo.out.len,YI.out]at Jw;subst Jw;clear kb ht' hg10;go_wp2_with (at_builtin;refine aV _ _ 26 _ _ rfl rfl rfl rfl hr ?_);go_roundw
  case rel=>exact⟨k+1,_,_,_,om,om,gn,by rw [List.length_append,YI.out];rfl,zef.out⟩
  simp [intOf];omega
 obtain⟨l,vA,atoms,hl6,ht⟩:=hcut;have HT:=zh ht;clear ht HT1;obtain⟨oL,cL,hvL,_⟩:=aO.len HT.out.g;rw [← HT.out.len]at hvL;subst hvL;obtain⟨oA,cA,Jw,_⟩:=aO.len HT.out.a;subst Jw;obtain⟨wm,hwm⟩:∃W:World,W=wc:=⟨_,rfl⟩;subst hwm;have HS:=zh HT.out.s;have hal:=HT.out.len;have HGS:=zh (Yz HT.out.g HT.out.s);have CDO:=zh (zco wm 4 _ l HGS.out);have CUN:=fun w'=>zh (Um w' (.slice (some ⟨bi,0,none⟩) 4 4) _ 4 4 rfl oA atoms.length cA om);have CSU:=fun w'=>zh (Vm w');have CSO:Hid (∀w' oc cc,Keep au wm w'→fM w' (.slice oc atoms.length cc) (jm atoms.length)→Calls Tryz.prog 7 #[.agg #[.slice none 0 0,.slice (some ⟨bi,0,none⟩) 4 4,.slice oA atoms.length cA,.slice oc atoms.length cc],.agg #[.int .i64 0,.int .i64 0,.int .i64 0,.int .i64 0],.int .i64 2000] w' fun e w''=>VdE (fun V=>((∃f:Nat→Int,Keeps l f)→V≠2)∧((∃r,sO 4 l r)→V≠1)) e∧Keep au w' w''):=zh (fun w' oc cc k hc=>by
  have h:=Nn w' ⟨some ⟨bi,0,none⟩,4,oA,cA,oc,cc⟩ ⟨4,atoms,jm atoms.length⟩ ((HT.out.keep k).form rfl hc) (HT.out.ok hl6) (fun a ha=>by obtain⟨g,_,e,_⟩:=HT.out.mem a ha;exact e) (EF _);unfold jZ.v at h;simp only [oJ]at h;refine h.mono ?_;rintro e w'' ⟨⟨V,hV,q⟩,hk⟩;exact⟨⟨V,HT.out.verd hl6 hV,q⟩,hk⟩)
 have HFM:=zh HT.out.bk;have KM:=zh HT.out.k;have HL6:=zh hl6;generalize hn:atoms.length=n at *;have HN:=zh hal;clear hn HT hal;go_wp2_with fail;refine CDO.out.mono ?_;rintro e w2 ⟨v2,rfl,hk2,hd⟩;have K2:=zh hk2;have CSO:=zh (fun w' oc cc (k:Keep au w2 w') hc=>CSO.out w' oc cc (K2.out.both k) hc);have HF2:=zh ((hk2.block (bi+1) (lt_of_heap HFM.out) fun _ h=>h).trans HFM.out);clear hk2 CDO HFM;rcases hd.cases' with⟨c,a,hgc,hc,rfl⟩ | ⟨N,hN,h0,hg,t,hneg,hvl,hvb,ov,cv,hi,rfl⟩ | ⟨N,hN,h0,hg,r,ZF,ov,cv,hi,rfl⟩
 ·rw [Yy HS.out (by have:=HL6.out;omega)]at hgc;injection hgc with hgc;exact absurd hgc.symm hc
 focus
  obtain rfl:N=4:=om;have BD:=zh (Pd hg hneg);have HGP:=zh hg;have HI:=zh hi;have Js:=zh hvb;have HVL:=zh hvl;clear hN h0 hneg hg hi hvb hvl hd;generalize (rnds 4 l (t+1)).vals=vs at*
 rotate_left
 focus
  obtain rfl:N=4:=om;have HB:Hid (Value.tuple #[.bool (Ed 4 l r),dN (tQ 4 l r).1 (tQ 4 l r).2]= .tuple #[.bool true,.agg #[.int .i64 0,.int .i64 0]]):=zh (ZF.badV h0);have HRK:=zh ZF;have HI:=zh hi;have hrl:=ZF.le;have hrp:=ZF.pos;have e1:((r.length:Int)==0)=false:=by rw [beq_eq_false_iff_ne];omega
  have e3:(0:Int)<(r.length:Int):=om;have CBD:=zh (fun w' (k:Keep au w2 w')=>O6 w' 4 _ l _ r ((HGS.out.keep K2.out).keep k) (HI.out.keep k));clear hN h0 hd hi ZF hg;generalize r.length=nr at*
 rotate_left
 all_goals
  have ka:Keep au w2 (w2.alloc (.cells #[.int .i64 0,.int .i64 0] iZ)):=(Keep.refl _ _).alloc _;have hb10:aL (w2.alloc (.cells #[.int .i64 0,.int .i64 0] iZ)) w2.heap.size #[.int .i64 0,.int .i64 0]:=aN _ _ rfl;have K3:=zh ka;have hbf:=(ka.block (bi+1) (lt_of_heap HF2.out) fun _ h=>h).trans HF2.out;clear ka;go_upto_region 13 with fail;generalize w2.alloc (.cells #[.int .i64 0,.int .i64 0] iZ)=w3 at *;generalize w2.heap.size=b10 at *;have x0:=cell_of_heap (o:=0) hbf rfl;have x1:=cell_of_heap (o:=1) hbf rfl;have x2:=cell_of_heap (o:=2) hbf rfl;have x3:=cell_of_heap (o:=3) hbf rfl;have xl:=lt_of_heap hbf;clear hbf;go_wp2_with fail;refine(CUN _).out.mono ?_;rintro e w4 ⟨oc,cc,rfl,hcl,hk4⟩;have CSO:=zh (CSO.out w4 oc cc (K3.out.both hk4) hcl);clear hcl x0 x1 x2 x3 xl CUN;go_wp2_with fail;refine CSO.out.mono ?_;rintro e w5 ⟨⟨V,hV,p1,p2,p3,q1,q2,q3,t1,t2,t3,r1,r2,r3,u,rfl⟩,hk5⟩;have HV:=zh hV;unfold fa0;have kv:Keep au w5 ((w5.alloc (.cells #[.int .i64 V,.slice p1 p2 p3,.slice q1 q2 q3,.slice t1 t2 t3,.slice r1 r2 r3,.int .i64 u] Fv)).alloc (.cells #[.int .i64 0,.int .i64 0] iZ)):=((Keep.refl _ _).alloc _).alloc _;have hb11:aL ((w5.alloc (.cells #[.int .i64 V,.slice p1 p2 p3,.slice q1 q2 q3,.slice t1 t2 t3,.slice r1 r2 r3,.int .i64 u] Fv)).alloc (.cells #[.int .i64 0,.int .i64 0] iZ)) w5.heap.size #[.int .i64 V,.slice p1 p2 p3,.slice q1 q2 q3,.slice t1 t2 t3,.slice r1 r2 r3,.int .i64 u]:=aL.old (aN _ _ rfl) _;have hb12:aL ((w5.alloc (.cells #[.int .i64 V,.slice p1 p2 p3,.slice q1 q2 q3,.slice t1 t2 t3,.slice r1 r2 r3,.int .i64 u] Fv)).alloc (.cells #[.int .i64 0,.int .i64 0] iZ)) (w5.heap.size+1) #[.int .i64 0,.int .i64 0]:=aN _ _ sm;have zcy:=((hb10.keep hk4).keep hk5).keep kv;have K6:=zh (((K3.out.both hk4).both hk5).both kv);clear hV hk4 hk5 kv hb10 CSO K3;go_upto_region 14 with fail;generalize (w5.alloc (.cells #[.int .i64 V,.slice p1 p2 p3,.slice q1 q2 q3,.slice t1 t2 t3,.slice r1 r2 r3,.int .i64 u] Fv)).alloc (.cells #[.int .i64 0,.int .i64 0] iZ)=w6 at *;generalize w5.heap.size=b11 at *;have y0:w6.cell? ⟨b10,0,none⟩=some (.int .i64 0):=zcy.cell 0;have yl:=zcy.lt;have z0:w6.cell? ⟨b11+1,0,none⟩=some (.int .i64 0):=hb12.cell 0;have zl:=hb12.lt;go_wp2_with fail;refine(CSU _).out.mono ?_;rintro e w7 ⟨rfl,hk7⟩;have v0:w7.cell? ⟨b11,0,none⟩=some (.int .i64 V):=(hb11.keep hk7).cell 0;have vl:=(hb11.keep hk7).lt;have K7:=zh (K6.out.both hk7);clear hk7 y0 yl z0 zl hb11 hb12 zcy K6 CSU
 ·have e2:(V != 2)=true:=by rw [bne_iff_ne];exact HV.out.1 ⟨_,BD.out⟩
  go_wp2;go_loopw [15] (fun s wr=>∃k:Nat,k≤n∧s= .int .i64 k∧Keep au w7 wr) (fun s _=>(n-intOf s).toNat)
  case atStart=>exact⟨0,om,rfl,Keep.refl _ _⟩
  obtain⟨k,hk,rfl,hkp⟩:=hrel;have KW:=zh (K7.out.both hkp);have v0:=(hkp.cell vl).trans v0;have vl:=bJ vl hkp.size;by_cases hkn:k<n
  ·have hlt:(k:Int)<(n:Int):=om;have hkl:k<l.length:=by have:=HN.out;omega
   obtain⟨bg,og,cg,hsl,hbg,a0,a1,a2⟩:=((HGS.out.keep K2.out).keep KW.out).at hkl;injection hsl with q1 q2 q3;clear q2;subst q1;subst q3;have hgk:l.getD k ⟨0,0,0⟩=l[k]:=by rw [dV,eD hkl];rfl
   have hq:=HGP.out.at hkl;have hkeep:=BD.out k hkl;unfold gA gB gY at hq hkeep;rw [hgk]at hq hkeep;clear hgk;generalize l[k]=g at *;obtain⟨A,B,By⟩:=g;simp only at a0 a1 a2 hq hkeep;obtain⟨A,rfl⟩:∃m:Nat,A=(m:Int):=⟨A.toNat,om⟩;obtain⟨B,rfl⟩:∃m:Nat,B=(m:Int):=⟨B.toNat,om⟩;simp only [Int.toNat_natCast]at hq hkeep;have hA:A<vs.length:=by rw [HVL.out];exact hq.1
   have hB:B<vs.length:=by rw [HVL.out];exact hq.2.1
   have hA1:(A:Int)<4:=om;have hB1:(B:Int)<4:=om;obtain⟨bv,o1,c1,hsl,hbv,v1⟩:=(HI.out.keep KW.out).at hA;injection hsl with q1 q2 q3;clear q2;subst q1;subst q3;obtain⟨bv',o2,c2,hsl,hbv',v2⟩:=(HI.out.keep KW.out).at hB;injection hsl with q1 q2 q3;clear q2;injection q1 with q1;injection q1 with q1 q4;subst q1;subst q4;have Jw:=Js.out A om;have hvB:=Js.out B om;rw [dV,eD hA]at hkeep Jw;rw [dV,eD hB]at hkeep hvB;simp only [Option.getD_some]at hkeep Jw hvB;generalize vs[A]=x at *;generalize vs[B]=y at *;have hyb:(-9223372036854775808:Int)≤y+By∧y+By≤9223372036854775807:=om;have e1:decide (y+By<x)=false:=bQ om;clear hq hkeep q3;go_wp2;go_quiet (fail);go_wp2;go_roundw
   case rel=>exact⟨k+1,om,gn,kp⟩
   simp [intOf];omega
  have hlt:¬(k:Int)<(n:Int):=om;go_wp2;go_ret;exact⟨rfl,KM.out.both (K2.out.both KW.out)⟩
 have e2:(V != 1)=true:=by rw [bne_iff_ne];exact HV.out.2 ⟨_,HRK.out⟩
 have CBD:=zh (CBD.out w7 K7.out);go_wp2_with fail;refine CBD.out.mono ?_;rintro e w8 ⟨rfl,hk8⟩;rw [HB.out];have v0:=(hk8.cell vl).trans v0;have vl:=bJ vl hk8.size;have K8:=zh (KM.out.both (K2.out.both (K7.out.both hk8)));clear hk8 CBD;go_wp2;go_ret;exact⟨rfl,K8.out.alloc _⟩
theorem GI (w:World)(v:Value)(raw:List Int)(h:aR w v raw):
  Calls Tryz.prog 3 #[v] w fun e w'=>e= .returned (.bool true)∧Below w.heap.size w w':=
 (MO w v raw h).mono fun _ _ ⟨he,hk⟩=>⟨he,hk.bel⟩
end Go.Proofs.YtmepglhdcphffaaGreat
