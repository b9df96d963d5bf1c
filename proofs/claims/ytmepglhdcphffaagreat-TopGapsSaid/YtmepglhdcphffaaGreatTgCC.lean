/- Package solve: the solver of a form of rows, as it lies; full. For TopGaps. Package solve: step, of rows. For TopGaps. What cut's search tells of rows without whole numbers: plain. For TopGaps. Package solve: united, take. For TopGaps. Package solve: things and parts of a form without terms. For TopGaps. -/
import Derived.Test.YtmepglhdcphffaaGreatTuEE
import Derived.Test.YtmepglhdcphffaaGreatCuAA
import Derived.Test.YtmepglhdcphffaaGreatCuOO
namespace Go.Proofs.YtmepglhdcphffaaGreat
set_option maxRecDepth 100000
set_option maxHeartbeats 16000000
set_option linter.unusedSimpArgs false
set_option linter.unusedVariables false
open Go.ChangeShapes Go.WideShapes Go.RowKit Go.Maps
abbrev MQ:TypeId:=79
structure iN (w w':World):Prop where
 size:w.heap.size≤w'.heap.size
 at':∀(k:Nat) (A:Array Value) (t:TypeId),w.heap[k]? =some (.cells A t (0,0))→t≠MQ→t≠Ch→t≠jc→w'.heap[k]? =some (.cells A t (0,0))
theorem iN.refl (w:World):iN w w:=⟨Nat.le_refl _,fun _ _ _ h _ _ _=>h⟩
theorem iN.trans {a b c:World}(h:iN a b)(k:iN b c):iN a c:=⟨Nat.le_trans h.size k.size,fun n A t e q1 q2 q3=>k.at' n A t (h.at' n A t e q1 q2 q3) q1 q2 q3⟩
theorem iN.of {w w':World}(k:Keep au w w'):iN w w':=⟨k.size,fun n A t h _ _ _=>(k.block n (lt_of_heap h) fun _ h=>h).trans h⟩
theorem iN.fr {w w':World}(k:iN w w'):nH w w':=⟨k.size,fun n A t h q=>by
 rcases q with rfl | rfl
 ·exact k.at' n A _ h dc dc dc
 exact k.at' n A _ h dc dc dc⟩
theorem iN.ty {w w':World}(k:iN w w'){b:Nat}{t:TypeId}(h:mG w b t)(h1:t≠MQ)(h2:t≠Ch)(h3:t≠jc):mG w' b t:=by
 obtain⟨A,h⟩:=h;exact⟨A,k.at' b A t h h1 h2 h3⟩
structure zI where
 cls:List (List Int)
 steps:List ji
 used:Nat
theorem iN.grown {w w':World}{row:Option Nat}(hg:w.grownBy w' row)(hr:∀k,row=some k→∃A t,w.heap[k]? =some (.cells A t (0,0))∧(t=MQ∨t=Ch∨t=jc)):iN w w':=
 ⟨hg.size,fun n B u h q1 q2 q3=>(hg.block n (lt_of_heap h) (by
  intro e;obtain⟨A,t,hb,ht⟩:=hr n e.symm;rw [hb]at h;injection h with h;injection h with _ h;subst h;rcases ht with rfl | rfl | rfl
  ·exact q1 rfl
  ·exact q2 rfl
  exact q3 rfl)).trans h⟩
theorem iN.own {w w':World}(k:iN w w'){base:Nat}{e:TypeId}{size:Nat}{v:Value}{n:Nat}{xs:List Value}(h:w.ownsRow base e size v n xs)(he:e≠MQ∧e≠Ch∧e≠jc):w'.ownsRow base e size v n xs:=by
 obtain⟨hl,h | ⟨g,cap,cur,hv,hb,hg,hl',hm,hs,ht⟩⟩:=h
 ·exact ⟨hl,.inl h⟩
 exact⟨hl,.inr ⟨g,cap,cur,hv,hb,k.at' g _ _ hg he.1 he.2.1 he.2.2,hl',hm,hs,ht⟩⟩
structure Ob (w:World)(y:ji):Prop where
 k:y.st.kind=4
 l:bC w 0 y.lv y.st.lits
 n:lJ w 0 y.nv y.st.nums
 rv:y.rv= .slice none 0 0
 r:y.st.row=⟨[],0,0⟩
theorem Ob.fr {w w':World}{y:ji}(h:Ob w y)(k:iN w w'):Ob w' y:=⟨h.k,k.own h.l ⟨dc,dc,dc⟩,k.own h.n ⟨dc,dc,dc⟩,h.rv,h.r⟩
theorem Ob.one {w:World}{y:ji}(h:Ob w y):∀u∈zN y,u.oneCell'=true:=by
 obtain⟨o1,c1,e1⟩:=h.l.len;obtain⟨o2,c2,e2,_⟩:=aO.len h.n;intro u hu;simp only [zN,List.mem_cons,List.not_mem_nil,or_false]at hu;rcases hu with rfl | rfl | rfl | rfl | rfl | rfl | rfl | rfl | rfl
 ·rfl
 ·rw [e1];rfl
 ·rw [e2];rfl
 ·rfl
 ·rfl
 ·rfl
 ·rw [h.rv];rfl
 ·rfl
 rfl
theorem Ob.same {w w':World}{y:ji}(h:Ob w y)(hb:∀q,y.lv.ownBlock=some q∨y.nv.ownBlock=some q→w'.heap[q]? =w.heap[q]?):Ob w' y:=
 ⟨h.k,dO h.l fun q hq=>hb q (.inl hq),dO h.n fun q hq=>hb q (.inr hq),h.rv,h.r⟩
theorem iN.setS {w:World}{b i:Nat}{v:Value}{A:Array Value}(hb:w.heap[b]? =some (.cells A MQ (0,0))):iN w (w.setCell ⟨b,i,none⟩ v):=
 ⟨sm,fun k B t e q1 q2 q3=>(heap_setCell_other w ⟨b,i,none⟩ v k (by
  rintro rfl;rw [hb]at e;injection e with e;injection e with _ e;exact q1 e.symm)).trans e⟩
def eZ (w:World)(base:Nat)(v:Value)(l:List ji):Prop:=aO jc 9 zN w base v l∧∀y∈l,Ob w y
theorem eZ.nil (w:World)(base:Nat):eZ w base (.slice none 0 0) []:=⟨aO.nil _ _,sm⟩
theorem eZ.fr {w w':World}{base:Nat}{v:Value}{l:List ji}(h:eZ w base v l)(k:iN w w')(hb:∀j,v.ownBlock=some j→w'.heap[j]? =w.heap[j]?):eZ w' base v l:=⟨fH h.1 hb,fun y hy=>(h.2 y hy).fr k⟩
theorem eZ.lt {w:World}{base:Nat}{v:Value}{l:List ji}(h:eZ w base v l):∀j,v.ownBlock=some j→base≤j∧j<w.heap.size:=fun j hj=>⟨aO.block h.1 j hj,aO.lt h.1 j hj⟩
theorem eZ.ty {w:World}{base:Nat}{v:Value}{l:List ji}(h:eZ w base v l):∀j,v.ownBlock=some j→∃A,w.heap[j]? =some (.cells A jc (0,0)):=fun j hj=>jA h.1 hj
theorem eZ.keep {w w':World}{base:Nat}{v:Value}{l:List ji}(h:eZ w base v l)(k:Keep au w w'):eZ w' base v l:=h.fr (.of k) fun j hj=>k.block j (h.lt j hj).2 fun _ h=>h
theorem eZ.form {w:World}{base:Nat}{v:Value}{l:List ji}(h:eZ w base v l):∃o c,v= .slice o l.length c∧l.length≤c∧c≤maxLen:=aO.len h.1
theorem eZ.app {w:World}{base:Nat}{v:Value}{l:List ji}(h:eZ w base v l){b:Nat}{x:ji}(hbk:aL w b (zN x).toArray)(hx:Ob w x)(hl:l.length≤100000)(hbase:base≤w.heap.size):
  ∃v' w',(Builtin.append_ #[44,44] 44 #[v,.slice (some ⟨b,0,none⟩) 1 1]).run Tryz.prog w= .ok v' w'∧eZ w' base v' (l++ [x])∧w.grownBy w' v.ownBlock∧(v'.ownBlock=v.ownBlock∨v'.ownBlock=some w.heap.size)∧iN w w':=by
 obtain⟨i0,hi0,hz0,hz1,hz2⟩:=info_parts infoSt;obtain⟨v',w',hr,ho,hg,hv⟩:=aO.app yK Tryz.underlying44 hi0 hz0 hz1 hz2 rfl dc h.1 (x:=x) hbk hx.one (by unfold maxLen;omega) om hbase;have hf:iN w w':=iN.grown hg fun k hk=>by
  obtain⟨A,hA⟩:=h.ty k hk;exact⟨A,_,hA,.inr (.inr rfl)⟩
 refine⟨v',w',hr,⟨ho,fun y hy=> ?_⟩,hg,hv,hf⟩;rcases List.mem_append.1 hy with hy | hy
 ·exact (h.2 y hy).fr hf
 rw [List.mem_singleton.1 hy];exact hx.fr hf
structure Fp where
 oA:Option Addr
 cA:Nat
 oC:Option Addr
 cC:Nat
 oS:Option Addr
 cS:Nat
 gm:Nat
def svC (L:jZ)(f:GF)(fuel:Int)(M:Fp)(s:zI):Array Value:= #[.slice none 0 0,.slice L.oi f.n L.ci,.slice L.oa f.atoms.length L.ca,.slice L.oc f.cls.length L.cc,.slice M.oA f.atoms.length M.cA,.slice M.oC s.cls.length M.cC,.slice M.oS s.steps.length M.cS,.map (some M.gm),.int .i64 fuel,.int .i64 (s.used:Int)]
structure ug (w0 w:World)(b:Nat)(L:jZ)(f:GF)(fuel:Int)(M:Fp)(s:zI):Prop where
 k:Keep au w0 w
 hb:w0.heap.size≤b
 bk:w.heap[b]? =some (.cells (svC L f fuel M s) MQ (0,0))
 a:aO rD 6 Jo w w0.heap.size (.slice M.oA f.atoms.length M.cA) f.atoms
 c:lF w w0.heap.size (.slice M.oC s.cls.length M.cC) s.cls
 st:eZ w w0.heap.size (.slice M.oS s.steps.length M.cS) s.steps
theorem dR {w:World}{b:Nat}{L:jZ}{f:GF}{fuel:Int}{M:Fp}{s:zI}(h:w.heap[b]? =some (.cells (svC L f fuel M s) MQ (0,0))):w.cell? ⟨b,0,none⟩=some (.slice none 0 0)∧w.cell? ⟨b,1,none⟩=some (.slice L.oi f.n L.ci)∧w.cell? ⟨b,2,none⟩=some (.slice L.oa f.atoms.length L.ca)∧w.cell? ⟨b,3,none⟩=some (.slice L.oc f.cls.length L.cc)∧w.cell? ⟨b,4,none⟩=some (.slice M.oA f.atoms.length M.cA)∧w.cell? ⟨b,5,none⟩=some (.slice M.oC s.cls.length M.cC)∧w.cell? ⟨b,6,none⟩=some (.slice M.oS s.steps.length M.cS)∧w.cell? ⟨b,7,none⟩=some (.map (some M.gm))∧w.cell? ⟨b,8,none⟩=some (.int .i64 fuel)∧w.cell? ⟨b,9,none⟩=some (.int .i64 (s.used:Int))∧b<w.heap.size:=
 ⟨cell_of_heap (o:=0) h rfl,cell_of_heap (o:=1) h rfl,cell_of_heap (o:=2) h rfl,cell_of_heap (o:=3) h rfl,cell_of_heap (o:=4) h rfl,cell_of_heap (o:=5) h rfl,cell_of_heap (o:=6) h rfl,cell_of_heap (o:=7) h rfl,cell_of_heap (o:=8) h rfl,cell_of_heap (o:=9) h rfl,lt_of_heap h⟩
theorem ug.keep {w0 w w':World}{b:Nat}{L:jZ}{f:GF}{fuel:Int}{M:Fp}{s:zI}(h:ug w0 w b L f fuel M s)(k:Keep au w w'):ug w0 w' b L f fuel M s:=
 ⟨h.k.both k,h.hb,(k.block b (lt_of_heap h.bk) fun _ h=>h).trans h.bk,aO.keep h.a k,h.c.keep k,h.st.keep k⟩
theorem fq {w:World}{base:Nat}{e:TypeId}{size:Nat}{v:Value}{n:Nat}{xs:List Value}(h:w.ownsRow base e size v n xs){b:Nat}{t:TypeId}(hb:mG w b t)(ht:e≠t):∀q,v.ownBlock=some q→q≠b:=by
 rintro q hq rfl;obtain⟨B,hB⟩:=jA h hq;obtain⟨A,hA⟩:=hb;rw [hB]at hA;injection hA with hA;injection hA with _ hA;exact ht hA
theorem lF.neT {w:World}{base:Nat}{v:Value}{l:List (List Int)}(h:lF w base v l){b:Nat}{t:TypeId}(hb:mG w b t)(ht:Ch≠t):∀q,v.ownBlock=some q→q≠b:=by
 obtain⟨_,_,h2,_⟩:=h;exact fq h2 hb ht
theorem eZ.neT {w:World}{base:Nat}{v:Value}{l:List ji}(h:eZ w base v l){b:Nat}{t:TypeId}(hb:mG w b t)(ht:jc≠t):∀q,v.ownBlock=some q→q≠b:=by
 exact fq h.1 hb ht
theorem ug.one {w0 w w':World}{b:Nat}{L:jZ}{f:GF}{fuel:Int}{M:Fp}{s:zI}(h:ug w0 w b L f fuel M s){b':Nat}{t:TypeId}(hb:mG w b' t)(o:oO w w' b' t)(k:Keep au w0 w')(h1:MQ≠t)(h2:rD≠t)(h3:Ch≠t)(h4:jc≠t)(h5:t≠TI∧t≠TF):ug w0 w' b L f fuel M s:=by
 refine⟨k,h.hb,(o.other b fun e=> ?_).trans h.bk,fH h.a fun q hq=>o.other q (fq h.a hb h2 q hq),h.c.fr o.fr fun q hq=>o.other q (h.c.neT hb h3 q hq),⟨fH h.st.1 fun q hq=>o.other q (h.st.neT hb h4 q hq),fun y hy=>(h.st.2 y hy).same fun q hq=>o.other q (hq.elim (fq (h.st.2 y hy).l hb h5.1.symm q) (fq (h.st.2 y hy).n hb h5.2.symm q))⟩⟩;subst e;obtain⟨A,hA⟩:=hb;rw [h.bk]at hA;injection hA with hA;injection hA with _ hA;exact h1 hA
theorem YP {w0 w:World}{b:Nat}{L:jZ}{f:GF}{fuel:Int}{M:Fp}{s:zI}(h:ug w0 w b L f fuel M s):mG w b MQ:=⟨_,h.bk⟩
theorem ug.step1 {w0 w:World}{b:Nat}{L:jZ}{f:GF}{fuel:Int}{M:Fp}{s:zI}(h:ug w0 w b L f fuel M s){x:ji}{bx:Nat}(hbk:aL w bx (zN x).toArray)(hx:Ob w x)(hl:s.steps.length≤10000):
  ∃oS cS w',(Builtin.append_ #[44,44] 44 #[.slice M.oS s.steps.length M.cS,.slice (some ⟨bx,0,none⟩) 1 1]).run Tryz.prog w= .ok (.slice oS (s.steps.length+1) cS) w'∧ug w0 (w'.setCell ⟨b,6,none⟩ (.slice oS (s.steps.length+1) cS)) b L f fuel {M with oS:=oS,cS:=cS} ⟨s.cls,s.steps++ [x],s.used⟩∧iN w (w'.setCell ⟨b,6,none⟩ (.slice oS (s.steps.length+1) cS))∧w'.cell? ⟨b,6,none⟩=some (.slice M.oS s.steps.length M.cS)∧w'.frozen? ⟨b,6,none⟩=false∧b<w'.heap.size∧∀k,k<w.heap.size→k≠b→(∀q,(Value.slice M.oS s.steps.length M.cS).ownBlock=some q→q≠k)→(w'.setCell ⟨b,6,none⟩ (.slice oS (s.steps.length+1) cS)).heap[k]? =w.heap[k]? :=by
 obtain⟨v,w',hr,hst,hg,hv,hf⟩:=h.st.app hbk hx om h.k.size;obtain⟨o',c',rfl,_⟩:=hst.form;rw [List.length_append,List.length_singleton]at hr hst hv;have hTb:=YP h;have RP:∀q,(Value.slice M.oS s.steps.length M.cS).ownBlock=some q→q≠b:=h.st.neT hTb dc;have hbl:=lt_of_heap h.bk;have hb':w'.heap[b]? =some (.cells (svC L f fuel M s) MQ (0,0)):=(hg.block b hbl fun e=>RP b e.symm rfl).trans h.bk;have hoth:∀k,k<w.heap.size→k≠b→(∀q,(Value.slice M.oS s.steps.length M.cS).ownBlock=some q→q≠k)→(w'.setCell ⟨b,6,none⟩ (.slice o' (s.steps.length+1) c')).heap[k]? =w.heap[k]? :=fun k hk hne hq=>(heap_setCell_other _ ⟨b,6,none⟩ _ k hne).trans (hg.block k hk fun e=>hq k e.symm rfl);have hfr:iN w (w'.setCell ⟨b,6,none⟩ (.slice o' (s.steps.length+1) c')):=⟨by have:=hg.size;simpa using this,fun k A t e q1 q2 q3=>(hoth k (lt_of_heap e) (by
  rintro rfl;rw [h.bk]at e;injection e with e;injection e with _ e;exact q1 e.symm) (fun q hq=>by
  rintro rfl;obtain⟨B,hB⟩:=h.st.ty q hq;rw [hB]at e;injection e with e;injection e with _ e;exact q3 e.symm)).trans e⟩
 refine⟨o',c',w',hr,⟨aQ (h.k.grown hg fun q hq=>(h.st.lt q hq).1) _ h.hb,h.hb,?_,?_,?_,?_⟩,hfr,cell_of_heap (o:=6) hb' rfl,bE hb',lt_of_heap hb',hoth⟩
 ·rw [Go.Joins.block_setCell hb' _];simp [svC]
 ·refine fH h.a fun q hq=>hoth q (World.ownsRow.lt h.a q hq).2 (fq h.a hTb dc q hq) fun q' hq'=> ?_;rintro rfl;obtain⟨B,hB⟩:=h.st.ty q' hq';exact fq h.a ⟨B,hB⟩ dc q' hq rfl
 ·refine h.c.fr hfr.fr fun q hq=>hoth q (h.c.lt q hq).2 (h.c.neT hTb dc q hq) fun q' hq'=> ?_;rintro rfl;obtain⟨B,hB⟩:=h.st.ty q' hq';exact h.c.neT ⟨B,hB⟩ dc q' hq rfl
 have hn:∀q,(Value.slice o' (s.steps.length+1) c').ownBlock=some q→q≠b:=fun q hq=>by
  rcases hv with e | e
  ·exact RP q (e ▸ hq)
  rw [e]at hq;injection hq with hq;omega
 have h5:eZ (w'.setCell ⟨b,6,none⟩ (.slice o' (s.steps.length+1) c')) w0.heap.size (.slice o' (s.steps.length+1) c') (s.steps++ [x]):=hst.fr (iN.setS hb') fun q hq=>heap_setCell_other _ ⟨b,6,none⟩ _ q (hn q hq);simp only;rw [List.length_append,List.length_singleton];exact h5
theorem ug.cls1 {w0 w:World}{b:Nat}{L:jZ}{f:GF}{fuel:Int}{M:Fp}{s:zI}(h:ug w0 w b L f fuel M s){x:Value}{c:List Int}{bx:Nat}(hbk:aL w bx #[x])(hx:iP w x c)(hl:s.cls.length≤10000):
  ∃oC cC w',(Builtin.append_ #[27,27] 27 #[.slice M.oC s.cls.length M.cC,.slice (some ⟨bx,0,none⟩) 1 1]).run Tryz.prog w= .ok (.slice oC (s.cls.length+1) cC) w'∧ug w0 (w'.setCell ⟨b,5,none⟩ (.slice oC (s.cls.length+1) cC)) b L f fuel {M with oC:=oC,cC:=cC} ⟨s.cls++ [c],s.steps,s.used⟩∧iN w (w'.setCell ⟨b,5,none⟩ (.slice oC (s.cls.length+1) cC))∧w'.cell? ⟨b,5,none⟩=some (.slice M.oC s.cls.length M.cC)∧w'.frozen? ⟨b,5,none⟩=false∧b<w'.heap.size:=by
 obtain⟨v,w',hr,hst,hg,hv,hf⟩:=h.c.app hbk hx om h.k.size;obtain⟨o',c',rfl,_⟩:=hst.form;rw [List.length_append,List.length_singleton]at hr hst hv;have hTb:=YP h;have RP:∀q,(Value.slice M.oC s.cls.length M.cC).ownBlock=some q→q≠b:=h.c.neT hTb dc;have hbl:=lt_of_heap h.bk;have hb':w'.heap[b]? =some (.cells (svC L f fuel M s) MQ (0,0)):=(hg.block b hbl fun e=>RP b e.symm rfl).trans h.bk;have hoth:∀k,k<w.heap.size→k≠b→(∀q,(Value.slice M.oC s.cls.length M.cC).ownBlock=some q→q≠k)→(w'.setCell ⟨b,5,none⟩ (.slice o' (s.cls.length+1) c')).heap[k]? =w.heap[k]? :=fun k hk hne hq=>(heap_setCell_other _ ⟨b,5,none⟩ _ k hne).trans (hg.block k hk fun e=>hq k e.symm rfl);have hfr:iN w (w'.setCell ⟨b,5,none⟩ (.slice o' (s.cls.length+1) c')):=⟨by have:=hg.size;simpa using this,fun k A t e q1 q2 q3=>(hoth k (lt_of_heap e) (by
  rintro rfl;rw [h.bk]at e;injection e with e;injection e with _ e;exact q1 e.symm) (fun q hq=>by
  rintro rfl;obtain⟨B,hB⟩:=h.c.ty q hq;rw [hB]at e;injection e with e;injection e with _ e;exact q2 e.symm)).trans e⟩
 refine⟨o',c',w',hr,⟨aQ (h.k.grown hg fun q hq=>(h.c.lt q hq).1) _ h.hb,h.hb,?_,?_,?_,?_⟩,hfr,cell_of_heap (o:=5) hb' rfl,bE hb',lt_of_heap hb'⟩
 ·rw [Go.Joins.block_setCell hb' _];simp [svC]
 ·refine fH h.a fun q hq=>hoth q (World.ownsRow.lt h.a q hq).2 (fq h.a hTb dc q hq) fun q' hq'=> ?_;rintro rfl;obtain⟨B,hB⟩:=h.c.ty q' hq';exact fq h.a ⟨B,hB⟩ dc q' hq rfl
 ·have hn:∀q,(Value.slice o' (s.cls.length+1) c').ownBlock=some q→q≠b:=fun q hq=>by
   rcases hv with e | e
   ·exact RP q (e ▸ hq)
   rw [e]at hq;injection hq with hq;omega
  have h5:lF (w'.setCell ⟨b,5,none⟩ (.slice o' (s.cls.length+1) c')) w0.heap.size (.slice o' (s.cls.length+1) c') (s.cls++ [c]):=hst.fr (nH.set hb' ⟨dc,dc⟩) fun q hq=>heap_setCell_other _ ⟨b,5,none⟩ _ q (hn q hq);simp only;rw [List.length_append,List.length_singleton];exact h5
 refine h.st.fr hfr fun q hq=>hoth q (h.st.lt q hq).2 (h.st.neT hTb dc q hq) fun q' hq'=> ?_;rintro rfl;obtain⟨B,hB⟩:=h.c.ty q' hq';exact h.st.neT ⟨B,hB⟩ dc q' hq rfl
theorem Wy (w0 w:World)(b:Nat)(L:jZ)(f:GF)(fuel:Int)(M:Fp)(s:zI)(h:ug w0 w b L f fuel M s)(hn:f.atoms.length≤120)(hc:s.cls.length≤10000)(hs:s.steps.length≤10000):
  Calls Tryz.prog 56 #[.pointer (some ⟨b,0,none⟩)] w fun e w'=>e= .returned (.bool (decide (400<s.cls.length∨3000<s.steps.length)))∧w'=w:=by
 obtain⟨x0,x1,x2,x3,x4,x5,x6,x7,x8,x9,xl⟩:=dR h.bk;generalize f.atoms.length=n at *;generalize s.cls.length=m at *;generalize s.steps.length=k at *;clear h x0 x1 x2 x3 x7 x8 x9;have e1:¬(120:Int)<(n:Int):=om;by_cases h1:400<m
 ·have e2:(400:Int)<(m:Int):=om;have hd:decide (400<m∨3000<k)=true:=decide_eq_true (.inl h1);rw [hd];clear hd h1;go_enter Tryz.func56,Tryz.ntmps56;go_wp2;go_ret;exact⟨rfl,rfl⟩
 have e2:¬(400:Int)<(m:Int):=om;by_cases h2:3000<k
 ·have e3:(3000:Int)<(k:Int):=om;have hd:decide (400<m∨3000<k)=true:=decide_eq_true (.inr h2);rw [hd];clear hd h1 h2;go_enter Tryz.func56,Tryz.ntmps56;go_wp2;go_ret;exact⟨rfl,rfl⟩
 have e3:¬(3000:Int)<(k:Int):=om;have hd:decide (400<m∨3000<k)=false:=decide_eq_false om;rw [hd];clear hd h1 h2;go_enter Tryz.func56,Tryz.ntmps56;go_wp2;go_ret;exact⟨rfl,rfl⟩
def sgV (o:Option Addr)(n c:Nat)(on:Option Addr)(nn cn:Nat):Value:= .agg #[.int .i64 4,.slice o n c,.slice on nn cn,.int .i64 0,.int .i64 0,.int .i64 0,.slice none 0 0,.int .i64 0,.int .i64 0]
def sgC (o:Option Addr)(n c:Nat)(on:Option Addr)(nn cn:Nat):Array Value:= #[.int .i64 4,.slice o n c,.slice on nn cn,.int .i64 0,.int .i64 0,.int .i64 0,.slice none 0 0,.int .i64 0,.int .i64 0]
def sgY (o:Option Addr)(n c:Nat)(on:Option Addr)(nn cn:Nat)(lits:List Int)(nums:List Fq):ji:=⟨.slice o n c,.slice on nn cn,.slice none 0 0,⟨4,lits,nums,⟨[],0,0⟩⟩⟩
theorem FQ {w:World}{b:Nat}{o:Option Addr}{n c:Nat}{on:Option Addr}{nn cn:Nat}(h:aL w b (sgC o n c on nn cn)):w.cell? ⟨b,0,none⟩=some (.int .i64 4)∧w.cell? ⟨b,1,none⟩=some (.slice o n c)∧w.cell? ⟨b,2,none⟩=some (.slice on nn cn)∧w.cell? ⟨b,3,none⟩=some (.int .i64 0)∧w.cell? ⟨b,4,none⟩=some (.int .i64 0)∧w.cell? ⟨b,5,none⟩=some (.int .i64 0)∧w.cell? ⟨b,6,none⟩=some (.slice none 0 0)∧w.cell? ⟨b,7,none⟩=some (.int .i64 0)∧w.cell? ⟨b,8,none⟩=some (.int .i64 0)∧b<w.heap.size:=
 ⟨h.cell 0,h.cell 1,h.cell 2,h.cell 3,h.cell 4,h.cell 5,h.cell 6,h.cell 7,h.cell 8,h.lt⟩
theorem RQ (w0 w:World)(b:Nat)(L:jZ)(f:GF)(fuel:Int)(M:Fp)(s:zI)(o:Option Addr)(n c:Nat)(on:Option Addr)(nn cn:Nat)(lits:List Int)(nums:List Fq)(h:ug w0 w b L f fuel M s)(hx:Ob w (sgY o n c on nn cn lits nums))(hi:iP w (.slice o n c) lits)(hl:lits.length≤1000)(hc:s.cls.length≤10000)(hs:s.steps.length≤10000):
  Calls Tryz.prog 122 #[.pointer (some ⟨b,0,none⟩),sgV o n c on nn cn] w fun e w'=>e= .returned (.tuple #[])∧∃M':Fp,M'.oA=M.oA∧M'.cA=M.cA∧ug w0 w' b L f fuel M' ⟨s.cls++ [lits],s.steps++ [sgY o n c on nn cn lits nums],s.used⟩∧iN w w':=by
 have CC:=zh (fun w' (hx:iP w' (.slice o n c) lits)=>wV w' (.slice o n c) lits hx.1.srcG om);have zeA:=zh hi.1.all;obtain⟨w1,hw1⟩:∃w1:World,w1=w.alloc (.cells (sgC o n c on nn cn) jc):=⟨_,rfl⟩;have k1:Keep au w w1:=by rw [hw1];exact(Keep.refl _ _).alloc _
 have Jq:=zh (h.keep k1);have HX1:=zh (hi.keep k1);have HY1:=zh (hx.fr (iN.of k1));have HB1:Hid (aL w1 w.heap.size (sgC o n c on nn cn)):=zh (by rw [hw1];exact aN _ _ rfl);have F1:=zh (iN.of k1);have wL:Hid (∀q,(Value.slice M.oS s.steps.length M.cS).ownBlock=some q→q≠w.heap.size):=zh (fun q hq=>by have:=(h.st.lt q hq).2;omega);have HBB:Hid (w.heap.size≠b):=zh (by have:=lt_of_heap h.bk;omega);have ZE:=zh hc;have HL2:=zh hs;clear h hx hi hl hc hs k1;unfold sgV;unfold sgC at hw1;go_enter Tryz.func122,Tryz.ntmps122;go_upto_region 1 with fail;rw [← hw1];clear hw1;generalize w.heap.size=bx at *;obtain⟨x0,x1,x2,x3,x4,x5,x6,x7,x8,xl⟩:=FQ HB1.out;obtain⟨y0,y1,y2,y3,y4,y5,y6,y7,y8,y9,yl⟩:=dR Jq.out.bk;clear y0 y1 y2 y3 y4 y5 y7 y8 y9;refine aD (fun w'=>Keep au w1 w') [0,7,8,9,10] [([0,1,2,3,4,5],6),([],7),([8,9],10)] [] kr kr (Keep.refl _ _).drew ?_;intro X W hne hF hcl;have aY:=zh hcl;have z0:=fun x=>((hF x).cell xl).trans x0;have z1:=fun x=>((hF x).cell xl).trans x1;have z2:=fun x=>((hF x).cell xl).trans x2;have z3:=fun x=>((hF x).cell xl).trans x3;have z4:=fun x=>((hF x).cell xl).trans x4;have z5:=fun x=>((hF x).cell xl).trans x5;have z6:=fun x=>((hF x).cell xl).trans x6;have z7:=fun x=>((hF x).cell xl).trans x7;have z8:=fun x=>((hF x).cell xl).trans x8;have u6:=fun x=>((hF x).cell yl).trans y6;have zl:=fun x=>bJ xl (hF x).size;have ul:=fun x=>bJ yl (hF x).size;clear hF hcl;simp only [aW,aJ,zl0,zl1,zl2,aX,Bool.false_eq_true,if_false]
 (repeat(quiet_step (fail)));refine wpQuiet_nil ?_
 refine ay rfl rfl fun K hK=> ?_;go_simp;have k2:Keep au w1 (w1.alloc (.cells (sgC o n c on nn cn) jc)).drew:=((Keep.refl _ _).alloc _).drew;refine hK _ _ ⟨fun _=>aY.out _ k2,?_⟩;obtain⟨oS,cS,w3,hr3,hs3,hf3,g6,f6,gl,hoth⟩:=(Jq.out.keep k2).step1 (bx:=w1.heap.size) (x:=sgY o n c on nn cn lits nums) (aL.keep (aN (w:=w1) (sgC o n c on nn cn) _ rfl) (Keep.refl _ _).drew) (HY1.out.fr (iN.of k2)) HL2.out;have Zm:=zh hs3;have F3:=zh ((F1.out.trans (iN.of k2)).trans hf3);have HX3:=zh ((HX1.out.keep k2).fr hf3.fr);have HB3:Hid (aL (w3.setCell ⟨b,6,none⟩ (.slice oS (s.steps.length+1) cS)) bx (sgC o n c on nn cn)):=zh (by
  have hb2:=HB1.out.keep k2;obtain⟨t,ht⟩:=hb2;exact⟨t,(hoth bx (lt_of_heap ht) HBB.out wL.out).trans ht⟩)
 clear hK k2 aY hs3 hf3 hoth z0 z1 z2 z3 z4 z5 z6 z7 z8 u6 zl ul x0 x1 x2 x3 x4 x5 x6 x7 x8 xl y6 yl
 (repeat(quiet_step (fail)));refine wpQuiet_nil ?_
 refine ay rfl rfl fun K hK=> ?_;refine dn _ _ 44 _ _ rfl rfl rfl hr3 ?_;refine hK _ _ ⟨fun h=>(by simp at h),?_⟩;clear hK hr3
 (repeat(quiet_step (fail)));refine wpQuiet_nil ?_
 refine ay rfl rfl fun K hK=> ?_;go_simp;refine hK _ _ ⟨fun h=>(by simp at h),?_⟩;clear hK
 (repeat(quiet_step (fail)));refine wpQuiet_nil ?_
 refine NoPanic.normal ?_;clear g6 f6 gl;generalize w3.setCell ⟨b,6,none⟩ (.slice oS (s.steps.length+1) cS)=w4 at *;obtain⟨x0,x1,x2,x3,x4,x5,x6,x7,x8,xl⟩:=FQ HB3.out;obtain⟨y0,y1,y2,y3,y4,y5,y6,y7,y8,y9,yl⟩:=dR Zm.out.bk;clear y0 y1 y2 y3 y4 y6 y7 y8 y9 x2 x3 x4 x5 x6 x7 x8;simp only at y5;go_upto_region 3 with fail;refine aD (fun w'=>Keep au w4 w') [0,9,10,11,12] [([0,1,2,3,4,5,6],7),([],8),([],9),([10,11],12)] [] kr kr (Keep.refl _ _).drew ?_;intro X W hne hF hcl;have aY:=zh hcl;have z1:=fun x=>((hF x).cell xl).trans x1;have u5:=fun x=>((hF x).cell yl).trans y5;have zl:=fun x=>bJ xl (hF x).size;have ul:=fun x=>bJ yl (hF x).size;clear hF hcl;simp only [aW,aJ,zl0,zl1,zl2,aX,Bool.false_eq_true,if_false]
 (repeat(quiet_step (fail)));refine wpQuiet_nil ?_
 refine ay rfl rfl fun K hK=> ?_;go_simp;refine(CC.out _ (HX3.out.keep ((Keep.refl au w4).drew))).mono ?_;rintro e w5 ⟨v5,rfl,ho5,hk5⟩;have k5:Keep au w4 w5:=Keep.both (Keep.refl _ _).drew hk5;have ho5:=Vi ho5;have hi5:=ho5.intsT zeA.out;obtain⟨o5,c5,hv5,_⟩:=hi5.form;subst hv5;refine hK _ _ ⟨fun _=>aY.out _ k5,?_⟩;clear hK hk5 ho5;have HI5:=zh hi5;clear hi5
 (repeat(quiet_step (fail)));refine wpQuiet_nil ?_
 refine ay rfl rfl fun K hK=> ?_;go_simp;have k6:Keep au w5 (w5.alloc (.cells #[.slice o5 lits.length c5] Ch)):=(Keep.refl _ _).alloc _;refine hK _ _ ⟨fun _=>aY.out _ (k5.both k6),?_⟩;obtain⟨oC,cC,w7,hr7,hs7,hf7,g5,f5,gl⟩:=((Zm.out.keep k5).keep k6).cls1 (bx:=w5.heap.size) (x:= .slice o5 lits.length c5) (c:=lits) (aN _ _ rfl) (HI5.out.keep k6) ZE.out;have Fw:=zh hs7;have F7:=zh ((F3.out.trans (iN.of (k5.both k6))).trans hf7);clear hK k5 k6 aY hs7 hf7 z1 u5 zl ul x0 x1 xl y5 yl;simp only at hr7 g5
 (repeat(quiet_step (fail)));refine wpQuiet_nil ?_
 refine ay rfl rfl fun K hK=> ?_;refine dn _ _ 27 _ _ rfl rfl rfl hr7 ?_;refine hK _ _ ⟨fun h=>(by simp at h),?_⟩;clear hK hr7
 (repeat(quiet_step (fail)));refine wpQuiet_nil ?_
 refine ay rfl rfl fun K hK=> ?_;go_simp;refine hK _ _ ⟨fun h=>(by simp at h),?_⟩;clear hK
 (repeat(quiet_step (fail)));refine wpQuiet_nil ?_
 refine NoPanic.normal ?_;go_wp2;refine bodyPost_end (by simp [results,Tryz.results122,go_sem];rfl) rfl ?_;refine⟨rfl,_,?_,?_,Fw.out,F7.out⟩<;>rfl
open Go.ChangeShapes Go.WideShapes Go.RowKit
structure zJ (m:Nat)(ls:List Int)(ns:List Fq):Prop where
 len:ls.length=ns.length
 ok:∀g∈ns,bF g.N g.D
 nd:ls.Nodup
 rg:∀k∈ls,k<0∧ -(m:Int)≤k
 le:ls.length≤m
def RtG (n:Nat)(rows:List Rw)(r:rP):Prop:=r.s.much=true∨(r.s.much=false∧r.s.steps.length≤1∧(r.st=3∨(r.st=1∧(r.s.point.length=n∧∀g∈r.s.point,bF g.N g.D)∧∃x:Nat→Rat,∀w∈rows,yh w n x)∨(r.st=2∧(∃ls ns,r.s.steps= [⟨4,ls,ns,⟨[],0,0⟩⟩]∧zJ rows.length ls ns)∧∀x:Nat→Rat,(∀w∈rows,yh w n x)→False)))
theorem Wz (m n:Nat):allI m n []=(List.range m).map fun i=>((i+1:Nat):Int):=by unfold allI;rw [zW];simp
theorem zbM (m:Nat):((List.range m).map fun i=>((i+1:Nat):Int)).Nodup:=List.Pairwise.map _ (fun a b h=>by simp only [ne_eq]at h ⊢;omega) List.nodup_range
theorem vG {n:Nat}(hn:n≤12){rows:List Rw}(hm:rows.length≤40)(hok:∀r∈rows,iA r (n:Int)):RtG n rows (Vg rows (List.replicate n false) 2000):=by
 have hL:=za1 hn 1048576;unfold Vg;rw [List.length_replicate];unfold G9;rw [if_neg sm];unfold uq;rw [List.length_replicate,WA,Wz];rcases h:JJ n rows with _ | l | pt
 ·exact .inr ⟨rfl,sm,.inl rfl⟩
 ·simp only;by_cases ha:allFit l l.length=true
  ·rw [if_pos ha];obtain⟨h1,h2,h3⟩:=hL.no rows l om hok h;have hp:=kJ (cK l ((List.range rows.length).map fun i=>((i+1:Nat):Int)));have hfo:=Dq ha;refine .inr ⟨rfl,Nat.le_refl _,.inr (.inr ⟨rfl,⟨_,_,rfl,⟨sm,fun g hg=> ?_,?_,fun k hk=> ?_,?_⟩⟩,fun x hx=>h3 x fun p hp _=>hx _ ?_⟩)⟩
   ·obtain ⟨y,hy,rfl⟩:=List.mem_map.1 hg;obtain⟨p,q1,q2,q3,rfl⟩:=xG.1 (hp.mem_iff.1 hy);exact hfo _ (List.mem_map.2 ⟨_,List.getElem_mem q1,rfl⟩)
   ·exact ((hp.map _).nodup_iff).2 (JQ (zbM _))
   ·obtain ⟨y,hy,rfl⟩:=List.mem_map.1 hk;obtain⟨p,q1,q2,q3,rfl⟩:=xG.1 (hp.mem_iff.1 hy);simp at q2 ⊢;omega
   ·rw [List.length_map,hp.length_eq,←h1];exact RU _ _
   rw [dV,eD hp];exact List.getElem_mem hp
  rw [if_neg ha];exact .inl rfl
 obtain⟨h1,h2⟩:=hL.yes rows pt om hok h;have ho:uw (List.replicate n false) pt=none:=List.find?_eq_none.2 fun i hi=>by
  rw [List.length_replicate]at hi;rw [dV,List.getElem?_replicate];split<;>simp
 simp only;rw [ho];simp only;by_cases ha:allFit pt pt.length=true
 ·refine .inr ⟨by simp [ha],sm,.inr (.inl ⟨rfl,⟨by simp [h1],Dq ha⟩,_,h2⟩)⟩
 exact .inl (by simp [ha])
theorem Oc (w:World)(v vn:Value)(l:List Int)(nums:List Fq)(h:aR w v l)(hn:dM w vn nums)(hl:l.Nodup)(he:l.length=nums.length)(hm:l.length≤1000):
  Calls Tryz.prog 193 #[v,vn] w fun e w'=>(∃u un,e= .returned (.tuple #[u,un])∧bC w' w.heap.size u l∧lJ w' w.heap.size un nums)∧Keep au w w':=by
 have HV:=zh h;have HN:=zh hn;have Ux:=zh hl;have H64:=zh h.all;have HE:=zh he;obtain⟨ov,cv,rfl,_⟩:=h.len;obtain⟨on,cn,rfl,_,hcn⟩:=hn.len;unfold maxLen at hcn;obtain⟨m,hm'⟩:∃m,nums.length=m:=⟨_,rfl⟩;have HM:=zh hm';rw [he]at hm;rw [hm']at hm;rw [hm']at HN;rw [he,hm']at HV;rw [he,hm'];clear h hn hl he hm';go_enter Tryz.func193,Tryz.ntmps193;go_wp2;go_loopw [13,6,7] (fun s t u wr=>∃k:Nat,k≤m∧s= .int .i64 k∧bC wr w.heap.size t (l.take k)∧lJ wr w.heap.size u (nums.take k)∧Keep au w wr) (fun s _ _ _=>(m-intOf s).toNat)
 case atStart=>exact⟨0,om,rfl,bC.nil _ _,aO.nil _ _,kp⟩
 obtain⟨k,hk,rfl,ht,hu,hkr⟩:=hrel;have HT:=zh ht;have HU:=zh hu;have KR:=zh hkr;have tl:(l.take k).length=k:=by rw [List.length_take,HE.out,HM.out];omega
 have ul:(nums.take k).length=k:=by rw [List.length_take,HM.out];omega
 have HTI:=zh (ht.ints fun x hx=>H64.out x (List.mem_of_mem_take hx));obtain⟨ot,ct,Uu⟩:=ht.len;obtain⟨ou,cu,hvu,_⟩:=aO.len hu;rw [tl]at Uu;rw [ul]at hvu;subst Uu hvu;clear ht hu hkr;by_cases hkl:k<m
 case neg=>
  have hlt:¬(k:Int)<(m:Int):=om;have WB:Hid (bC wr w.heap.size (.slice ot k ct) l):=zh (by have:=HT.out;rwa [List.take_of_length_le (by rw [HE.out,HM.out];omega)]at this);have HE2:Hid (lJ wr w.heap.size (.slice ou k cu) nums):=zh (by have:=HU.out;rwa [List.take_of_length_le (by rw [HM.out];omega)]at this);go_wp2;refine bodyPost_ret (by simp [results,Tryz.results193,go_sem];rfl) rfl ?_;exact⟨⟨_,_,rfl,WB.out,HE2.out⟩,KR.out⟩
 have hlt:(k:Int)<(m:Int):=om;have hm0:(0:Int)<(m:Int):=om;have ZY:k<l.length:=by rw [HE.out,HM.out];exact hkl
 have hkN:k<nums.length:=by rw [HM.out];exact hkl
 obtain⟨bv,fv,cv',hvv,hbv,p0⟩:=(HV.out.keep KR.out).at ZY;injection hvv with q1 q2 q3;subst q1;clear q2 q3;have hni:¬l[k]∈l.take k:=by
  intro hx;obtain⟨i,hi,e⟩:=List.getElem_of_mem hx;rw [List.getElem_take]at e;have hi2:i<k:=by rw [tl]at hi;exact hi
  exact List.pairwise_iff_getElem.1 Ux.out i k om ZY hi2 e
 have G7:Hid (l.take (k+1)=l.take k++ [l[k]]):=zh (List.take_succ_eq_append_getElem ZY);have HNK:Hid (nums.take (k+1)=nums.take k++ [nums[k]]):=zh (List.take_succ_eq_append_getElem hkN);have CI:=zh (AL wr _ (l.take k) l[k] HTI.out);have HNI:=zh hni;obtain⟨bn,fn,hon,hbn,n0,n1⟩:=HN.out.at hkN;subst hon;have N0:=zh n0;have N1:=zh n1;have NB:=zh hbn;clear n0 n1 hbn;generalize l[k]=x at *;generalize nums[k]=g at *;clear hni tl ul;go_wp2_with fail;refine CI.out.mono ?_;rintro e w2 ⟨⟨z,rfl,hz⟩,hk2⟩;have hz0:z<0:=by
  apply Classical.byContradiction;intro hz';exact HNI.out (hz.1 om)
 have KA:=zh hk2;have ka:Keep au w2 (w2.alloc (.cells #[.int .i64 x] TI)):=(Keep.refl _ _).alloc _;obtain⟨v4,w4,hr4,ho4,hg4,hv4⟩:=ni ((HT.out.keep hk2).keep ka) (b:=w2.heap.size) (x:=x) (aN _ _ rfl) (by rw [List.length_take];omega) (Nat.le_trans (KR.out.both hk2).size ka.size);have Rs:=zh ho4;have hu4:=aO.grown0 (aO.keep (aO.keep HU.out hk2) ka) hg4 fun q hq e=>jw (aO.keep (aO.keep HU.out hk2) ka) ((HT.out.keep hk2).keep ka) dc q hq e.symm;have K4:=zh (((KR.out.both hk2).both ka).grown hg4 fun q hq=>((HT.out.keep hk2).keep ka).block q hq);obtain⟨o4,c4,zeB⟩:=ho4.len;subst zeB;rw [List.length_append,List.length_singleton,List.length_take]at hr4 Rs;have n0:=(K4.out.cell NB.out).trans N0.out;have n1:=(K4.out.cell NB.out).trans N1.out;have nl:=bJ NB.out K4.out.size;have kb:Keep au w4 (w4.alloc (.cells #[.int .i64 g.N,.int .i64 g.D] TF)):=(Keep.refl _ _).alloc _;obtain⟨v6,w6,hr6,ho6,hg6,hv6⟩:=Kr (aO.keep hu4 kb) (b:=w4.heap.size) (g:=g) (aN _ _ rfl) (by rw [List.length_take];omega) (Nat.le_trans K4.out.size kb.size);have HO6:Hid (lJ w6 w.heap.size v6 (nums.take (k+1))):=zh (by rw [HNK.out];exact ho6);have VL:Hid (bC w6 w.heap.size (.slice o4 _ c4) (l.take (k+1))):=zh (by rw [G7.out];exact fT (bC.keep Rs.out kb) hg6 fun q hq e=>jw (bC.keep Rs.out kb) (aO.keep hu4 kb) dc q hq e);have K6:=zh ((K4.out.both kb).grown hg6 fun q hq=>aO.block hu4 q hq);go_wp2_with (at_builtin;first | refine aV _ _ 22 _ _ rfl rfl rfl rfl hr4 ?_ | refine aV _ _ 41 _ _ rfl rfl rfl rfl hr6 ?_);go_roundw
 case rel=>exact⟨k+1,om,gn,VL.out,HO6.out,K6.out⟩
 simp [intOf];omega
theorem ctk1 (a:Array Value)(w:World):Sem.run Tryz.prog (callFunc 192 a) w= .ok (.enter 192 a) w:=kr
theorem Od (w:World)(b:Nat)(v:Value)(l:List Int)(x:Int)(hb:w.cell? ⟨b,0,none⟩=some v)(hlb:b<w.heap.size)(h:aR w v l)(hx: -1000≤x∧x≤1000):
  Calls Tryz.prog 192 #[.int .i64 x,.pointer (some ⟨b,0,none⟩)] w fun e w'=>e= .returned (.bool (decide (-x∈l)))∧Keep au w w':=by
 have CI:=zh (Dr w v l (-x) h);have hxw:IntKind.i64.wrap (-x)= -x:=by rw [IntKind.wrap_i64];omega
 obtain⟨ov,cv,rfl,_⟩:=h.len;generalize decide (-x∈l)=r at *;generalize l.length=n at *;clear h hx;go_enter Tryz.func192,Tryz.ntmps192;go_wp2_with fail;refine CI.out.mono ?_;rintro e w2 ⟨rfl,hk2⟩;have K2:=zh hk2;clear hk2;go_wp2;go_ret;exact⟨rfl,K2.out⟩
structure vY (b:Nat)(w w':World):Prop where
 size:w.heap.size≤w'.heap.size
 blk:∀q,q<w.heap.size→q≠b→w'.heap[q]? =w.heap[q]?
theorem vY.refl (b:Nat)(w:World):vY b w w:=⟨Nat.le_refl _,fun _ _ _=>rfl⟩
theorem vY.keep {b:Nat}{w w' w'':World}(h:vY b w w')(k:Keep au w' w''):vY b w w'':=⟨Nat.le_trans h.size k.size,fun q hq hn=>(k.block q (bJ hq h.size) fun _ h=>h).trans (h.blk q hq hn)⟩
theorem vY.grown {b:Nat}{w w' w'':World}{row:Option Nat}(h:vY b w w')(hg:w'.grownBy w'' row)(hr:∀q,row=some q→w.heap.size≤q):vY b w w'':=⟨Nat.le_trans h.size hg.size,fun q hq hn=>(hg.block q (bJ hq h.size) fun e=>by have:=hr q e.symm;omega).trans (h.blk q hq hn)⟩
theorem vY.set {b i:Nat}{v:Value}{w w':World}(h:vY b w w'):vY b w (w'.setCell ⟨b,i,none⟩ v):=⟨by simpa using h.size,fun q hq hn=>(heap_setCell_other _ _ _ _ hn).trans (h.blk q hq hn)⟩
theorem vY.is {b c:Nat}{A:Array Value}{w w':World}(h:vY b w w')(hb:aL w c A)(hn:c≠b):aL w' c A:=by
 obtain⟨t,ht⟩:=hb;exact⟨t,(h.blk c (lt_of_heap ht) hn).trans ht⟩
def NG (m:Nat):List Int:=(List.range m).map fun i=>((i+1:Nat):Int)
theorem uP (m:Nat):(NG m).length=m:=by simp [NG]
theorem Z0 {m i:Nat}(h:i<m):(NG m)[i]'(by rw [uP];exact h)=((i+1:Nat):Int):=by simp [NG]
theorem Rv (w0 w:World)(b:Nat)(L:jZ)(f:GF)(fuel:Int)(M:Fp)(s:zI)(v vl:Value)(m:Nat)(ls:List Int)(ns:List Fq)(h:ug w0 w b L f fuel M s)(hv:yA w v [⟨4,ls,ns,⟨[],0,0⟩⟩])(hl:aR w vl (NG m))(hT:zJ m ls ns)(hm:m≤40)(hc:s.cls.length≤10000)(hs:s.steps.length≤10000):
  Calls Tryz.prog 127 #[.pointer (some ⟨b,0,none⟩),v,vl] w fun e w'=>e= .returned (.tuple #[])∧(∃M' y,y.st=⟨4,ls,ns,⟨[],0,0⟩⟩∧ug w0 w' b L f fuel M' ⟨s.cls++ [ls],s.steps++ [y],s.used⟩)∧iN w w':=by
 have CC:=zh (AP w vl (NG m) hl (by rw [uP];omega));have HT:=zh hT;have HS:=zh h;have HC:=zh hc;have Ut:=zh hs;obtain⟨base,ys,hys,hok,hyo⟩:=hv;obtain⟨y,rfl⟩:∃y,ys= [y]:=List.length_eq_one_iff.1 (by have:=congrArg List.length hys;simpa using this);have zcX:y.st=⟨4,ls,ns,⟨[],0,0⟩⟩:=by simpa using hys
 have hy:=hok y sm;obtain⟨lv,nv,rv,st⟩:=y;simp only at zcX;subst zcX;have hyl:=hy.l;have hyn:=hy.n;have hyr:=hy.r;simp only at hyl hyn hyr;obtain⟨ol,cl,rfl⟩:=hyl.len;obtain⟨on,cn,rfl,_⟩:=aO.len hyn;obtain⟨He,cr,rfl⟩:=hyr.len;obtain⟨gs,cs,rfl,_,hgl,hgc⟩:=aO.cells yK hyo sm;have hcell:=fun j u (hj:(zN ⟨.slice ol ls.length cl,.slice on ns.length cn,.slice He 0 cr,⟨4,ls,ns,⟨[],0,0⟩⟩⟩)[j]? =some u)=>hgc 0 _ rfl j u hj;have c0:=hcell 0 _ rfl;have c1:=hcell 1 _ rfl;have c2:=hcell 2 _ rfl;have c3:=hcell 3 _ rfl;have c4:=hcell 4 _ rfl;have c5:=hcell 5 _ rfl;have c6:=hcell 6 _ rfl;have c7:=hcell 7 _ rfl;have c8:=hcell 8 _ rfl;simp only [Nat.zero_mul,Nat.zero_add,akC]at c0 c1 c2 c3 c4 c5 c6 c7 c8;have C0:=zh c0;have C1:=zh c1;have C2:=zh c2;have C3:=zh c3;have C4:=zh c4;have C5:=zh c5;have C6:=zh c6;have C7:=zh c7;have C8:=zh c8;have GL:=zh hgl;have HYN:=zh (hyn.fracs fun g hg=>(by have:=hT.ok g hg;unfold bF at this;unfold dA;omega));have HYI:=zh (hyl.ints fun x hx=>(by have:=hT.rg x hx;unfold dA;omega));have HRG:=zh hT.rg;have hlm:=hT.le;have HLM:=zh hlm;obtain⟨ovl,cvl,rfl,_⟩:=hl.len;rw [uP]at CC ⊢;obtain⟨k,hk⟩:∃k,ls.length=k:=⟨_,rfl⟩;have HK:=zh hk;obtain⟨kn,hkn⟩:∃k,ns.length=k:=⟨_,rfl⟩;have HKN:=zh hkn;rw [hk]at C1 HYI;rw [hkn]at C2 HYN;clear h hok hyo hy hyl hyn hyr hgc hcell hys c0 c1 c2 c3 c4 c5 c6 c7 c8 hT hl hlm hk hkn hgl hc hs;simp only [List.length_singleton];go_enter Tryz.func127,Tryz.ntmps127;go_wp2_with fail;refine CC.out.mono ?_;rintro e w1 ⟨vt,rfl,Uu,hk1⟩;have K1:=zh hk1;have HTO:=zh (Uu.ints fun x hx=>(by obtain⟨i,hi,rfl⟩:=List.mem_map.1 hx;have:=List.mem_range.1 hi;unfold dA;omega));obtain⟨ot,ct,zeC⟩:=Uu.len;subst zeC;rw [uP]at HTO ⊢;clear Uu hk1 CC;go_wp2;go_loopw [18,6] (fun s' t wr=>(s'= .int .i64 0∧t= .slice ot m ct∧w1=wr)∨(s'= .int .i64 1∧(∃M' y,y.st=⟨4,ls,ns,⟨[],0,0⟩⟩∧ug w0 wr b L f fuel M' ⟨s.cls++ [ls],s.steps++ [y],s.used⟩)∧iN w wr)) (fun s _ _=>(1-intOf s).toNat)
 case atStart=>exact .inl ⟨rfl,rfl,rfl⟩
 rcases hrel with⟨rfl,rfl,rfl⟩ | ⟨rfl,hM,hF⟩
 case inr=>
  have HM:=zh hM;have HF:=zh hF;clear hM hF;go_wp2;refine bodyPost_end (by simp [results,Tryz.results127,go_sem];rfl) rfl ?_;exact⟨rfl,HM.out,HF.out⟩
 have c0:=(K1.out.cell GL.out).trans C0.out;have c1:=(K1.out.cell GL.out).trans C1.out;have c2:=(K1.out.cell GL.out).trans C2.out;have c3:=(K1.out.cell GL.out).trans C3.out;have c4:=(K1.out.cell GL.out).trans C4.out;have c5:=(K1.out.cell GL.out).trans C5.out;have c6:=(K1.out.cell GL.out).trans C6.out;have c7:=(K1.out.cell GL.out).trans C7.out;have c8:=(K1.out.cell GL.out).trans C8.out;have gl:=bJ GL.out K1.out.size;obtain⟨w3,hw3⟩:∃w3:World,w3=(w1.alloc (.cells #[.int .i64 4,.slice ol k cl,.slice on kn cn,.int .i64 0,.int .i64 0,.int .i64 0,.slice He 0 cr,.int .i64 0,.int .i64 0] jc)).alloc (.cells #[.slice none 0 0] 22):=⟨_,rfl⟩;have k3:Keep au w1 w3:=by rw [hw3];exact((Keep.refl _ _).alloc _).alloc _
 have jN:Hid (aL w3 w1.heap.size #[.int .i64 4,.slice ol k cl,.slice on kn cn,.int .i64 0,.int .i64 0,.int .i64 0,.slice He 0 cr,.int .i64 0,.int .i64 0]):=zh (by rw [hw3];exact aL.old (aN _ _ rfl) _);have EJ:Hid (w3.heap[w1.heap.size+1]? =some (.cells #[.slice none 0 0] 22 (0,0))):=zh (by rw [hw3];exact aK _ _ _ sm);have K3:=zh (K1.out.both k3);have JF:=zh k3;have IB:=zh K1.out.size;have hk40:k≤40:=by have:=HLM.out;have:=HK.out;omega
 have HTX:Hid (∀i,i<m→∃bt ft,ot=some ⟨bt,ft,none⟩∧bt<w1.heap.size∧w1.cell? ⟨bt,ft+i,none⟩=some (.int .i64 ((i+1:Nat):Int))):=zh (fun i hi=>by
  obtain⟨bt,ft,ctt,htv,hbt,t0⟩:=HTO.out.at (k:=i) (by rw [uP];exact hi);injection htv with q1 q2 q3;rw [Z0 hi]at t0;exact⟨bt,ft,q1,hbt,t0⟩)
 clear k3;go_upto_region 7 with fail;rw [← hw3];clear hw3 c0 c1 c2 c3 c4 c5 c6 c7 c8 gl;generalize zcY:w1.heap.size=b8 at *;have zcZ:=zh zcY;clear zcY;have x1:w3.cell? ⟨b8,1,none⟩=some (.slice ol k cl):=jN.out.cell 1;have xl:=jN.out.lt;go_wp2;clear x1 xl;go_loopw [36] (fun s' wr=>∃(j:Nat) (v:Value),j≤k∧s'= .int .i64 j∧wr.heap[b8+1]? =some (.cells #[v] 22 (0,0))∧bC wr w3.heap.size v (ls.take j)∧vY (b8+1) w3 wr∧Keep au w wr) (fun s' _=>(k-intOf s').toNat)
 case atStart=>exact⟨0,_,om,rfl,EJ.out,bC.nil _ _,vY.refl _ _,K3.out⟩
 obtain⟨j,v,hj,rfl,hb9,hv,hkr,yB⟩:=hrel;have B9:=zh hb9;have HV:=zh hv;have KR:=zh hkr;have KW:=zh yB;obtain⟨ov,cv,hvv⟩:=hv.len;have htl:(ls.take j).length=j:=by rw [List.length_take,HK.out];omega
 rw [htl]at hvv;subst hvv;clear hb9 hv hkr yB;by_cases hjk:j<k
 case pos=>
  have hlt:(j:Int)<(k:Int):=om;have hjL:j<ls.length:=by rw [HK.out];exact hjk
  have YQ:=HYI.out.keep KW.out;obtain⟨bi,fi,ci,WC,hbi,p0⟩:=YQ.at hjL;injection WC with q1 q2 q3;subst q1;clear q2 q3 YQ;have hx:=HRG.out _ (List.getElem_mem hjL);have G7:Hid (ls.take (j+1)=ls.take j++ [ls[j]]):=zh (List.take_succ_eq_append_getElem hjL);generalize ls[j]=x at *;obtain⟨hx1,hx2⟩:=hx;obtain⟨ix,hxe⟩:∃i:Nat,-x-1=(i:Int):=⟨(-x-1).toNat,om⟩;have zeD:ix<m:=om;have hixI:(ix:Int)<(m:Int):=om;obtain⟨bt,ft,q1,hbt,t0⟩:=HTX.out ix zeD;subst q1;rw [show((ix+1:Nat):Int)= -x from om]at t0;have hbt3:bt<w3.heap.size:=bJ (by rw [zcZ.out];exact hbt) JF.out.size;have t0:=((World.cell?_of_block (KR.out.blk bt hbt3 om)).trans (JF.out.cell (by rw [zcZ.out];exact hbt))).trans t0;have hbt:=bJ hbt3 KR.out.size;have hp0:¬0<x:=om;have hw1:IntKind.i64.wrap (-x)= -x:=by rw [IntKind.wrap_i64];omega
  have hw2:IntKind.i64.wrap (ix:Int)=(ix:Int):=by rw [IntKind.wrap_i64];omega
  have hw3:IntKind.i64.wrap x=x:=by rw [IntKind.wrap_i64];omega
  have HX:=zh hx1;clear hx1 hx2 hbt3;go_upto_region 12 with fail;have y0:wr.cell? ⟨b8+1,0,none⟩=some (.slice ov j cv):=cell_of_heap B9.out rfl;have yl:=lt_of_heap B9.out;clear p0 hbi;refine aD (fun w'=>Keep au wr w') [9,10] [([0,1,2,3,4,5,6,7],8),([],9),([],10)] [] kr kr (Keep.refl _ _).drew ?_;intro X W hne hF hcl;have aY:=zh hcl;have u0:=fun x=>((hF x).cell yl).trans y0;have ul:=fun x=>bJ yl (hF x).size;have v0:=fun x=>((hF x).cell hbt).trans t0;have vl:=fun x=>bJ hbt (hF x).size;clear hF hcl;simp only [aW,aJ,zl0,zl1,zl2,aX,Bool.false_eq_true,if_false]
  (repeat(quiet_step (fail)));refine wpQuiet_nil ?_
  refine ay rfl rfl fun K hK=> ?_;go_simp;have k5:Keep au wr (wr.alloc (.cells #[.int .i64 x] TI)).drew:=((Keep.refl _ _).alloc _).drew;refine hK _ _ ⟨fun _=>aY.out _ k5,?_⟩;have hv5:=HV.out.keep k5;have hb5:=(k5.block (b8+1) (lt_of_heap B9.out) fun _ h=>h).trans B9.out;obtain⟨v6,w6,hr6,ho6,hg6,hv6⟩:=ni hv5 (b:=wr.heap.size) (x:=x) (aL.keep (aN _ _ rfl) (Keep.refl _ _).drew) (by rw [List.length_take];omega) (Nat.le_trans KR.out.size k5.size);have hne:v6.ownBlock≠some (b8+1):=fun e=>by
   rcases hv6 with h | h
   ·exact hv5.neT hb5 dc (h ▸ e)
   rw [h]at e;injection e with e;have:=lt_of_heap hb5;omega
  have hb6:w6.heap[b8+1]? =some (.cells #[.slice ov j cv] 22 (0,0)):=(hg6.block (b8+1) (lt_of_heap hb5) fun e=>hv5.neT hb5 dc e.symm).trans hb5;have KR6:=zh ((KR.out.keep k5).grown hg6 fun q hq=>hv5.block q hq);have KW6:=zh ((KW.out.both k5).grown hg6 fun q hq=>Nat.le_trans K3.out.size (hv5.block q hq));obtain⟨o6,c6,zc2⟩:=ho6.len;rw [List.length_append,List.length_singleton,htl]at zc2;subst zc2;rw [← G7.out]at ho6;have HO6:=zh ho6;have g9:w6.cell? ⟨b8+1,0,none⟩=some (.slice ov j cv):=cell_of_heap hb6 rfl;have f9:w6.frozen? ⟨b8+1,0,none⟩=false:=bE hb6;have gl:=lt_of_heap hb6;have HN6:Hid ((w6.setCell ⟨b8+1,0,none⟩ (.slice o6 (j+1) c6)).heap[b8+1]? =some (.cells #[.slice o6 (j+1) c6] 22 (0,0))∧bC (w6.setCell ⟨b8+1,0,none⟩ (.slice o6 (j+1) c6)) w3.heap.size (.slice o6 (j+1) c6) (ls.take (j+1))∧vY (b8+1) w3 (w6.setCell ⟨b8+1,0,none⟩ (.slice o6 (j+1) c6))∧Keep au w (w6.setCell ⟨b8+1,0,none⟩ (.slice o6 (j+1) c6))):=zh (by
   refine⟨by rw [Go.Joins.block_setCell hb6 _];rfl,World.ownsRow_set_other ho6 fun q hq e=>hne (e ▸ hq),KR6.out.set,aQ KW6.out _ (by have:=IB.out;omega)⟩)
  clear k5 hv5 hb5 hg6 hv6 hne hb6 ho6 aY y0 yl u0 ul v0 vl hw1 hw2 hw3 hp0 hxe
  (repeat(quiet_step (fail)));refine wpQuiet_nil ?_
  refine ay rfl rfl fun K hK=> ?_;refine dn _ _ 22 _ _ rfl rfl rfl hr6 ?_;refine hK _ _ ⟨fun h=>(by simp at h),?_⟩;clear hK hr6
  (repeat(quiet_step (fail)));refine wpQuiet_nil ?_
  refine ay rfl rfl fun K hK=> ?_;go_simp;refine hK _ _ ⟨fun h=>(by simp at h),?_⟩;clear hK
  (repeat(quiet_step (fail)));refine wpQuiet_nil ?_
  refine NoPanic.normal ?_;obtain⟨r1,r2,r3,r4⟩:=HN6.out;have R1:=zh r1;have R2:=zh r2;have R3:=zh r3;have R4:=zh r4;clear r1 r2 r3 r4 HN6 g9 f9 gl;go_wp2;go_roundw
  case rel=>exact⟨j+1,_,om,gn,R1.out,R2.out,R3.out,R4.out⟩
  simp [intOf];omega
 have hlt:¬(j:Int)<(k:Int):=om;have zeE:j=k:=om;subst zeE;have HVA:Hid (bC wr w3.heap.size (.slice ov j cv) ls):=zh (by have:=HV.out;rwa [List.take_of_length_le (by rw [HK.out];exact Nat.le_refl _)]at this);have hII:=HVA.out.ints fun x hx=>(by have:=HRG.out x hx;unfold dA;omega);have y0:wr.cell? ⟨b8+1,0,none⟩=some (.slice ov j cv):=cell_of_heap B9.out rfl;have yl:=lt_of_heap B9.out;have CC:=zh (rE 192 #[.pointer (some ⟨b8+1,0,none⟩)] ctk1 (fun x=>decide (-x∈ls)) wr (.slice ov j cv) ls hII (fun w' kk x hx=>Od w' (b8+1) (.slice ov j cv) ls x ((kk.cell yl).trans y0) (bJ yl kk.size) (hII.keep kk) (by have:=HRG.out x hx;omega)));have hany:(ls.any fun x=>decide (-x∈ls))=false:=by
  rw [List.any_eq_false];intro x hx;simp only [decide_eq_true_eq];intro h;have h1:=HRG.out x hx;have h2:=HRG.out _ h;omega
 rw [hany]at CC;have YM:=zh hII;have zeF:=zh (KR.out.is jN.out om);clear hII hany;go_wp2_with fail;refine CC.out.mono ?_;rintro e w5 ⟨rfl,hk5⟩;have y0:=(hk5.cell yl).trans y0;have yl:=bJ yl hk5.size;have K5:=zh (KW.out.both hk5);have B85:=zh (zeF.out.keep hk5);have x2:w5.cell? ⟨b8,2,none⟩=some (.slice on kn cn):=B85.out.cell 2;have xl:=B85.out.lt;have CU:=zh (Oc w5 (.slice ov j cv) (.slice on kn cn) ls ns (YM.out.keep hk5) (HYN.out.keep K5.out) HT.out.nd HT.out.len (by have:=HLM.out;omega));clear hk5 CC;go_wp2_with fail;refine CU.out.mono ?_;rintro e w6 ⟨⟨u,un,rfl,hu,hun⟩,hk6⟩;have K6:=zh (K5.out.both hk6);have B86:=zh (B85.out.keep hk6);obtain⟨o6,c6,rfl⟩:=hu.len;obtain⟨on6,cn6,rfl,_⟩:=aO.len hun;have HSF:Hid (Ob w6 (sgY o6 ls.length c6 on6 ns.length cn6 ls ns)):=zh ⟨rfl,World.ownsRow_mono hu (Nat.zero_le _),World.ownsRow_mono hun (Nat.zero_le _),rfl,rfl⟩;have HIT:=zh (hu.intsT fun x hx=>(by have:=HRG.out x hx;unfold dA;omega));have CS:=zh (RQ w0 w6 b L f fuel M s o6 ls.length c6 on6 ns.length cn6 ls ns (HS.out.keep K6.out) HSF.out HIT.out (by have:=HLM.out;omega) HC.out Ut.out);unfold sgV at CS;rw [HK.out,HKN.out]at CS;rw [HK.out,HKN.out];have x0:w6.cell? ⟨b8,0,none⟩=some (.int .i64 4):=B86.out.cell 0;have xl:=B86.out.lt;clear hu hun hk6 x2 y0 yl CU;go_wp2_with fail;refine CS.out.mono ?_;rintro e w7 ⟨rfl,M',hM1,hM2,hs7,hf7⟩;have Fw:=zh hs7;have HF7:=zh ((iN.of K6.out).trans hf7);clear hs7 hf7 CS x0 xl;go_wp2;go_roundw
 case rel=>exact .inr ⟨rfl,⟨M',_,rfl,Fw.out⟩,HF7.out⟩
 simp [intOf]
theorem IC (w:World):Calls Tryz.prog 120 #[.slice none 0 0,.slice none 0 0] w fun e w'=>∃g,e= .returned (.slice (some ⟨g,0,none⟩) 0 0)∧Keep au w w':=by
 have hms:∀w:World,(Instr.makeSlice 22 (.int .i64 0) (.int .i64 0)).run Tryz.prog w= .ok (.slice (some ⟨w.heap.size,0,none⟩) 0 0) (w.alloc (.cells #[] TI)):=fun w=>kr;obtain⟨w2,hw2⟩:∃w2:World,w2=(w.alloc (.cells #[] TI)).alloc (.cells #[.slice (some ⟨w.heap.size,0,none⟩) 0 0] 22):=⟨_,rfl⟩;have Ay:Hid (Keep au w w2):=zh (by rw [hw2];exact((Keep.refl _ _).alloc _).alloc _);have hb2:aL w2 (w.heap.size+1) #[.slice (some ⟨w.heap.size,0,none⟩) 0 0]:=by rw [hw2];exact aN _ _ sm
 have x0:w2.cell? ⟨w.heap.size+1,0,none⟩=some (.slice (some ⟨w.heap.size,0,none⟩) 0 0):=hb2.cell 0;have xl:=hb2.lt;clear hb2;go_enter Tryz.func120,Tryz.ntmps120;go_upto_region 2 with fail;rw [← hw2];clear hw2;generalize w.heap.size=g at *;go_wp2;go_loopw [20] (fun s wr=>s= .int .i64 0∧w2=wr) (fun _ _=>0)
 case atStart=>exact⟨rfl,rfl⟩
 obtain⟨rfl,rfl⟩:=hrel;go_wp2;go_loopw [31] (fun s wr=>s= .int .i64 0∧w2=wr) (fun _ _=>0)
 case atStart=>exact⟨rfl,rfl⟩
 obtain⟨rfl,rfl⟩:=hrel;go_wp2;go_loopw [10] (fun s wr=>(s= .bool true∨s= .bool false)∧w2=wr) (fun s _=>match s with | .bool true=>1 | _=>0)
 case atStart=>exact⟨.inl rfl,rfl⟩
 obtain⟨hs,rfl⟩:=hrel;rcases hs with rfl | rfl
 ·go_wp2;go_loopw [45,10] (fun s t wr=>s= .int .i64 0∧t= .bool false∧w2=wr) (fun _ _ _=>0)
  case atStart=>exact⟨rfl,rfl,rfl⟩
  obtain⟨rfl,rfl,rfl⟩:=hrel;go_wp2;go_roundw
  case rel=>exact⟨.inr rfl,trivial⟩
  simp
 go_wp2;refine bodyPost_ret (by simp [results,Tryz.results120,go_sem];rfl) rfl ?_;exact⟨g,rfl,Ay.out⟩
theorem Z4 {n:Nat}{a:GA}(h:JZ n a):(a.k==2)=false:=by
 rw [beq_eq_false_iff_ne];rcases h with⟨h,_⟩ | ⟨h,_⟩<;>rw [h]<;>decide
theorem WE {n:Nat}{a:GA}(h:JZ n a):(a.k != 2)=true:=by
 rw [bne_iff_ne];rcases h with⟨h,_⟩ | ⟨h,_⟩<;>rw [h]<;>decide
theorem ug.ats {w0 w:World}{b:Nat}{L:jZ}{f:GF}{fuel:Int}{M:Fp}{s:zI}(h:ug w0 w b L f fuel M s)(hF:qm w0 L f):lN w (.slice M.oA f.atoms.length M.cA) f.atoms:=by
 obtain⟨oa,cap,e,a,c⟩:=aO.len h.a;refine⟨oa,cap,e,a,c,fun x hx=>(hF.a.mem x hx).keep h.k,fun hne=> ?_⟩;obtain⟨g,cap',e',hb,hl,hc⟩:=aO.cells sG h.a hne;rw [e]at e';injection e' with q1 q2 q3;exact⟨g,0,q1,hl,fun i x hi j u hj=>by simpa using hc i x hi j u hj⟩
theorem Kt (w0 w:World)(b:Nat)(L:jZ)(f:GF)(fuel:Int)(M:Fp)(s:zI)(vh:Value)(h:ug w0 w b L f fuel M s)(hF:qm w0 L f)(hok:rQ f):
  Calls Tryz.prog 59 #[.pointer (some ⟨b,0,none⟩),vh] w fun e w'=>(∃g,e= .returned (.slice (some ⟨g,0,none⟩) 0 0))∧Keep au w w':=by
 have mg:=zh hok.a;have hm20:f.atoms.length≤20:=hok.n;have HA:=zh (h.ats hF);have CC:=fun w=>zh (IC w);obtain⟨y0,y1,y2,y3,y4,y5,y6,y7,y8,y9,yl⟩:=dR h.bk;have Y0:=zh y0;have Y4:=zh y4;have YL:=zh yl;obtain⟨m,hm⟩:∃m,f.atoms.length=m:=⟨_,rfl⟩;have HM:=zh hm;rw [hm]at y4 hm20 HA Y4;clear h hok hF hm y0 y1 y2 y3 y5 y6 y7 y8 y9;go_enter Tryz.func59,Tryz.ntmps59;go_wp2;clear y4 yl;go_loopw [22,5,6] (fun s t u wr=>∃k:Nat,k≤m∧s= .int .i64 k∧t= .slice none 0 0∧u= .slice none 0 0∧Keep au w wr) (fun s _ _ _=>(m-intOf s).toNat)
 case atStart=>exact⟨0,om,rfl,rfl,rfl,kp⟩
 obtain⟨k,hk,rfl,rfl,rfl,hkr⟩:=hrel;have KR:=zh hkr;clear hkr;by_cases hkl:k<m
 case pos=>
  have hlt:(k:Int)<(m:Int):=om;have hkm:k<f.atoms.length:=by rw [HM.out];exact hkl
  obtain⟨ba,fa,hoa,hba,p0,p1,p2,p3,p4,p5⟩:=(HA.out.keep KR.out).at hkm;rw [hoa];have e1:=Z4 (mg.out _ (List.getElem_mem hkm));have ka:Keep au wr (wr.alloc (.cells #[.int .i64 (f.atoms[k]).k,.int .i64 0,.int .i64 0,.slice (f.atoms[k]).o (f.atoms[k]).r.of.length (f.atoms[k]).c,.int .i64 (f.atoms[k]).r.kind,.int .i64 (f.atoms[k]).r.to] rD)):=(Keep.refl _ _).alloc _;have K6:=zh (KR.out.both ka);generalize f.atoms[k]=at1 at *;generalize at1.k=q1 at *;generalize at1.o=q2 at *;generalize at1.c=q3 at *;generalize at1.r.of.length=q4 at *;generalize at1.r.kind=q5 at *;generalize at1.r.to=q6 at *;clear ka;go_wp2;go_roundw
  case rel=>exact⟨k+1,om,gn,rfl,rfl,K6.out⟩
  simp [intOf];omega
 have hlt:¬(k:Int)<(m:Int):=om;have y0:=(KR.out.cell YL.out).trans Y0.out;have yl:=bJ YL.out KR.out.size;go_wp2_with fail;refine(CC _).out.mono ?_;rintro e w3 ⟨g,rfl,hk3⟩;have K3:=zh (KR.out.both hk3);clear hk3 CC y0 yl;have y4:=(K3.out.cell YL.out).trans Y4.out;have yl:=bJ YL.out K3.out.size;go_wp2;clear y4 yl;go_loopw [63] (fun s wr=>∃k:Nat,k≤m∧s= .int .i64 k∧Keep au w wr) (fun s _=>(m-intOf s).toNat)
 case atStart=>exact⟨0,om,rfl,K3.out⟩
 obtain⟨k,hk,rfl,hkr⟩:=hrel;have KR:=zh hkr;clear hkr;by_cases hkl:k<m
 case pos=>
  have hlt:(k:Int)<(m:Int):=om;have hkm:k<f.atoms.length:=by rw [HM.out];exact hkl
  obtain⟨ba,fa,hoa,hba,p0,p1,p2,p3,p4,p5⟩:=(HA.out.keep KR.out).at hkm;rw [hoa];have e1:=WE (mg.out _ (List.getElem_mem hkm));have ka:Keep au wr (wr.alloc (.cells #[.int .i64 (f.atoms[k]).k,.int .i64 0,.int .i64 0,.slice (f.atoms[k]).o (f.atoms[k]).r.of.length (f.atoms[k]).c,.int .i64 (f.atoms[k]).r.kind,.int .i64 (f.atoms[k]).r.to] rD)):=(Keep.refl _ _).alloc _;have K6:=zh (KR.out.both ka);generalize f.atoms[k]=at1 at *;generalize at1.k=q1 at *;generalize at1.o=q2 at *;generalize at1.c=q3 at *;generalize at1.r.of.length=q4 at *;generalize at1.r.kind=q5 at *;generalize at1.r.to=q6 at *;have HBA:Hid ((wr.alloc (.cells #[.int .i64 q1,.int .i64 0,.int .i64 0,.slice q2 q4 q3,.int .i64 q5,.int .i64 q6] rD)).heap[wr.heap.size]? =some (.cells #[.int .i64 q1,.int .i64 0,.int .i64 0,.slice q2 q4 q3,.int .i64 q5,.int .i64 q6] rD (0,0))):=zh (aK _ _ _ rfl);clear ka;go_upto_region 13 with fail;generalize wr.alloc (.cells #[.int .i64 q1,.int .i64 0,.int .i64 0,.slice q2 q4 q3,.int .i64 q5,.int .i64 q6] rD)=w7 at *;generalize wr.heap.size=g11 at *;clear p0 p1 p2 p3 p4 p5 hba;have a0:=cell_of_heap (o:=0) HBA.out rfl;have al:=lt_of_heap HBA.out;go_quiet (fail);have K8:=zh (K6.out.drewN nq);go_wp2;go_roundw
  case rel=>exact⟨k+1,om,gn,K8.out⟩
  simp [intOf];omega
 have hlt:¬(k:Int)<(m:Int):=om;go_wp2;go_ret;exact⟨⟨g,rfl⟩,KR.out⟩
theorem Z5 {n:Nat}{a:GA}(h:JZ n a):(a.k != 3)=true∨(a.k != 3)=false∧(a.r.kind != 3)=true:=by
 rcases h with⟨h,_⟩ | ⟨h,h',_⟩
 ·rw [h];exact .inl rfl
 rw [h,h'];exact .inr ⟨rfl,rfl⟩
theorem Au (w:World)(v:Value)(l:List _)(h:oN Jo w v l)(hl:l.length≤10000):Calls Tryz.prog 25 #[v] w fun e w'=>∃v',e= .returned v'∧aO rD 6 Jo w' w.heap.size v' l∧Keep au w w':=by
 have H:=zh h;obtain⟨oa,cap,hv,hc⟩:=h;subst hv;have hn:=fun w=>Go.Lib.run_eql_slice_nil (P:=Tryz.prog) w 26 rD oa l.length cap 0 0 Tryz.underlying26;rcases oa with _ | a
 ·have hl0:l= []:=by
   rcases l with _ | ⟨x,l⟩
   ·rfl
   obtain⟨_,h,_⟩:=hc sm;cases h
  subst hl0;clear hc;simp only [List.length_nil,Option.isNone_none,Option.isNone_some]at hn ⊢;go_enter Tryz.func25,Tryz.ntmps25;go_wp2;refine bodyPost_ret (by simp [results,Tryz.results25,go_sem];rfl) rfl ?_;exact⟨_,rfl,aO.nil _ _,Keep.refl _ _⟩
 clear hc;simp only [Option.isNone_none,Option.isNone_some]at hn;have k1:Keep au w (w.alloc (.cells #[] rD)):=(Keep.refl _ _).alloc _;obtain⟨i,hi,hz,hs,hb⟩:=info_parts infoAt;have hown:aO rD 6 Jo (w.alloc (.cells #[] rD)) w.heap.size (.slice (some ⟨w.heap.size,0,none⟩) 0 0) []:=by unfold aO;exact qI (Nat.le_refl _)
 obtain⟨v',w',hr,ho',hg⟩:=J7 sG Qi (T:=rD) Tryz.underlying26 hi hz hs hb rfl dc hown (lG (K:=6) H.out k1) (by simp;omega) dc k1.size;have HO:=zh ho';have HK:Hid (Keep au w w'):=zh (k1.grown hg fun k hk=>by cases hk;exact Nat.le_refl _);clear ho' hg k1 hown;go_enter Tryz.func25,Tryz.ntmps25;go_wp2_with (at_builtin;refine aV _ _ 26 _ _ rfl rfl rfl rfl hr ?_);refine bodyPost_ret (by simp [results,Tryz.results25,go_sem];rfl) rfl ?_;exact⟨_,rfl,HO.out,HK.out⟩
theorem aO.gats {w w0:World}{base:Nat}{v:Value}{l:List GA}(h:aO rD 6 Jo w base v l)(hm:∀a∈l,Uy w a):lN w v l:=by
 obtain⟨oa,cap,e,a,c⟩:=aO.len h;refine⟨oa,cap,e,a,c,hm,fun hne=> ?_⟩;obtain⟨g,cap',e',hb,hl,hc⟩:=aO.cells sG h hne;rw [e]at e';injection e' with q1 q2 q3;exact⟨g,0,q1,hl,fun i x hi j u hj=>by simpa using hc i x hi j u hj⟩
theorem Oe (w0 w:World)(b:Nat)(L:jZ)(f:GF)(fuel:Int)(M:Fp)(s:zI)(vh:Value)(h:ug w0 w b L f fuel M s)(hF:qm w0 L f)(hok:rQ f):
  Calls Tryz.prog 60 #[.pointer (some ⟨b,0,none⟩),vh] w fun e w'=>e= .returned (.bool false)∧Keep au w w':=by
 have mg:=zh hok.a;have hm20:f.atoms.length≤20:=hok.n;have Og:=zh (fun a ha=>(hF.a.mem a ha).keep h.k);have CC:=zh (Au w (.slice M.oA f.atoms.length M.cA) f.atoms (aO.src sG h.a) om);obtain⟨y0,y1,y2,y3,y4,y5,y6,y7,y8,y9,yl⟩:=dR h.bk;obtain⟨m,hm⟩:∃m,f.atoms.length=m:=⟨_,rfl⟩;have HM:=zh hm;rw [hm]at y4 hm20 CC;clear h hok hF hm y0 y1 y2 y3 y5 y6 y7 y8 y9;go_enter Tryz.func60,Tryz.ntmps60;go_wp2_with fail;refine CC.out.mono ?_;rintro e w2 ⟨v2,rfl,ho2,hk2⟩;have HA:=zh (aO.gats (w0:=w) ho2 fun a ha=>(Og.out a ha).keep hk2);have K2:=zh hk2;obtain⟨o2,c2,hv2,_⟩:=aO.len ho2;rw [HM.out]at hv2;subst hv2;clear ho2 hk2 CC y4 yl;go_wp2;go_loopw [19,5] (fun s t wr=>∃k:Nat,k≤m∧s= .int .i64 k∧t= .bool false∧Keep au w2 wr) (fun s _ _=>(m-intOf s).toNat)
 case atStart=>exact⟨0,om,rfl,rfl,kp⟩
 obtain⟨k,hk,rfl,rfl,hkr⟩:=hrel;have KR:=zh hkr;clear hkr;by_cases hkl:k<m
 case neg=>
  have hlt:¬(k:Int)<(m:Int):=om;go_wp2;go_ret;exact⟨rfl,K2.out.both KR.out⟩
 have hlt:(k:Int)<(m:Int):=om;have hkm:k<f.atoms.length:=by rw [HM.out];exact hkl
 obtain⟨ba,fa,hoa,hba,p0,p1,p2,p3,p4,p5⟩:=(HA.out.keep KR.out).at hkm;rw [hoa];have e1:=Z5 (mg.out _ (List.getElem_mem hkm));have ka:Keep au wr (wr.alloc (.cells #[.int .i64 (f.atoms[k]).k,.int .i64 0,.int .i64 0,.slice (f.atoms[k]).o (f.atoms[k]).r.of.length (f.atoms[k]).c,.int .i64 (f.atoms[k]).r.kind,.int .i64 (f.atoms[k]).r.to] rD)):=(Keep.refl _ _).alloc _;have K6:=zh (KR.out.both ka);generalize f.atoms[k]=at1 at *;generalize at1.k=q1 at *;generalize at1.o=q2 at *;generalize at1.c=q3 at *;generalize at1.r.of.length=q4 at *;generalize at1.r.kind=q5 at *;generalize at1.r.to=q6 at *;clear ka;rcases e1 with e1 | ⟨e1,e2⟩
 ·go_wp2;go_roundw
  case rel=>exact⟨k+1,om,gn,rfl,K6.out⟩
  simp [intOf];omega
 go_wp2;go_roundw
 case rel=>exact⟨k+1,om,gn,rfl,K6.out⟩
 simp [intOf];omega
end Go.Proofs.YtmepglhdcphffaaGreat
