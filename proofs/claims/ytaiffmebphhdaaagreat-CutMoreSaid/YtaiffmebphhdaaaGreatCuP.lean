/- Two appends in one region whose order is drawn. -/
import Derived.Test.YtaiffmebphhdaaaGreatCuAA
import Derived.Test.YtaiffmebphhdaaaGreatRegVV
namespace Go.Proofs.YtaiffmebphhdaaaGreat
set_option linter.unusedSimpArgs false
set_option linter.unusedVariables false
open Go.ChangeShapes Go.WideShapes Go.RowKit
structure Ca (sl e:TypeId)(k:Nat):Prop where
 app:∀(w:World) (base:Nat) (v:Value) (n:Nat) (xs:List Value) (b:Nat) (cs:List Value),w.ownsRow base e k v n xs→aL w b cs.toArray→cs.length=k→(∀u∈cs,u.oneCell'=true)→n≤100000→base≤w.heap.size→
  ∃v' w',(Builtin.append_ #[sl,sl] sl #[v,.slice (some ⟨b,0,none⟩) 1 1]).run Tryz.prog w= .ok v' w'∧w'.ownsRow base e k v' (n+1) (xs++cs)∧w.grownBy w' v.ownBlock∧(v'.ownBlock=v.ownBlock∨v'.ownBlock=some w.heap.size)
theorem FI {sl e:TypeId}{k bytes:Nat}{i:TypeInfo}{z:Value}(hu:Tryz.prog.underlying sl=some (.slice e))(hi:Tryz.prog.info? e=some i)(hz:i.zero=some z)(hs:i.size=k)(hb:i.bytes=bytes)(hzs:z.cells.size=k)(h0:0<k)(hby:bytes≤1000):Ca sl e k:=⟨fun w base v n xs b cs hown hbk hl h1 hn hbase=>by
 obtain⟨v',w',hr,ho,hg,_,hv⟩:=run_append_own_at (P:=Tryz.prog) w base sl sl e i z k bytes hu hi hz hs hb hzs h0 v n xs hown ⟨b,0,none⟩ 1 1 cs (by rw [hl,Nat.one_mul])
  (fun j u hj=>by rw [add_plain,Nat.zero_add,hbk.cell j];simpa using hj) h1 (by unfold maxLen;omega) (by have:=Nat.mul_le_mul (show n+1≤100001 by omega) hby;omega) hbase
 exact⟨v',w',hr,ho,hg,hv⟩⟩
theorem Db:Ca 38 TI 1:=by
 obtain⟨i0,hi0,hz0,hz1,hz2⟩:=info_parts JO;exact FI Tryz.underlying38 hi0 hz0 hz1 hz2 rfl (by decide) (by decide)
theorem OD:Ca 25 TF 2:=by
 obtain⟨i0,hi0,hz0,hz1,hz2⟩:=info_parts Za;exact FI Tryz.underlying25 hi0 hz0 hz1 hz2 rfl (by decide) (by decide)
theorem O8:Ca 22 tZ 3:=by
 obtain⟨i0,hi0,hz0,hz1,hz2⟩:=info_parts Vs;exact FI Tryz.underlying22 hi0 hz0 hz1 hz2 rfl (by decide) (by decide)
theorem Dy {w:World}{base base':Nat}{e e':TypeId}{k k' n n':Nat}{v v':Value}{xs xs':List Value}(h:w.ownsRow base e k v n xs)(h':w.ownsRow base' e' k' v' n' xs')(he:e≠e'):∀b,v.ownBlock=some b→v'.ownBlock≠some b:=fun b hb hb'=>by
 obtain⟨A,e1⟩:=iy h hb;obtain⟨B,e2⟩:=iy h' hb';rw [e1]at e2;exact he (Obj.cells.inj (Option.some.inj e2)).2.1
theorem tQ {w w':World}{base:Nat}{e:TypeId}{k n:Nat}{v:Value}{xs:List Value}{row:Option Nat}(h:w.ownsRow base e k v n xs)(hg:w.grownBy w' row)(hr:∀b,v.ownBlock=some b→row≠some b):w'.ownsRow base e k v n xs:=by
 obtain⟨hl,h | ⟨g,cap,cur,hv,hb,hgg,hl',hm,hs,ht⟩⟩:=h
 ·exact ⟨hl,.inl h⟩
 ·exact ⟨hl,.inr ⟨g,cap,cur,hv,hb,by rw [hg.block g (lt_of_heap hgg) (fun e=>hr g (by rw [hv];rfl) e.symm)];exact hgg,hl',hm,hs,ht⟩⟩
theorem fq {w w':World}{base:Nat}{e:TypeId}{k n:Nat}{v:Value}{xs:List Value}(h:w.ownsRow base e k v n xs)(kk:Keep au w w'):w'.ownsRow base e k v n xs:=by
 obtain⟨hl,h | ⟨g,cap,cur,hv,hb,hgg,hl',hm,hs,ht⟩⟩:=h
 ·exact ⟨hl,.inl h⟩
 ·exact ⟨hl,.inr ⟨g,cap,cur,hv,hb,by rw [kk.block g (lt_of_heap hgg) fun _ h=>h];exact hgg,hl',hm,hs,ht⟩⟩
structure kF (w0:World)(eA kA nA eB kB nB:Nat)(vA vB:Value)(xA cA xB cB:List Value)(g:Nat)(TG:TypeId)(arr:Value→Value→Array Value)(gx:Nat)(ox:Obj)(bA aA bB aB s1 s2:Bool)(GX Dn GY Dp:Value)(w:World):Prop where
 k:Keep au w0 w
 a0:aA=false→w.ownsRow w0.heap.size eA kA vA nA xA
 a1:aA=true→w.ownsRow w0.heap.size eA kA Dn (nA+1) (xA++cA)
 b0:aB=false→w.ownsRow w0.heap.size eB kB vB nB xB
 b1:aB=true→w.ownsRow w0.heap.size eB kB Dp (nB+1) (xB++cB)
 pa:bA=true→aA=false→∃b,GX= .slice (some ⟨b,0,none⟩) 1 1∧aL w b cA.toArray∧(aB=false→vB.ownBlock≠some b)
 pb:bB=true→aB=false→∃b,GY= .slice (some ⟨b,0,none⟩) 1 1∧aL w b cB.toArray∧(aA=false→vA.ownBlock≠some b)
 blk:w.heap[g]? =some (.cells (arr (cond s1 Dn vA) (cond s2 Dp vB)) TG (0,0))
 x:aB=false→w.heap[gx]? =some ox
section
variable {w0 w w':World} {eA kA nA eB kB nB:Nat} {vA vB:Value} {xA cA xB cB:List Value} {g:Nat} {TG:TypeId} {arr:Value→Value→Array Value} {gx:Nat} {ox:Obj} {bA aA bB aB s1 s2:Bool} {GX Dn GY Dp:Value}
theorem kF.keep (h:kF w0 eA kA nA eB kB nB vA vB xA cA xB cB g TG arr gx ox bA aA bB aB s1 s2 GX Dn GY Dp w)(k:Keep au w w'):kF w0 eA kA nA eB kB nB vA vB xA cA xB cB g TG arr gx ox bA aA bB aB s1 s2 GX Dn GY Dp w':=
 ⟨h.k.both k,fun e=>fq (h.a0 e) k,fun e=>fq (h.a1 e) k,fun e=>fq (h.b0 e) k,fun e=>fq (h.b1 e) k,
  fun e1 e2=>by obtain⟨b,h1,h2,h3⟩:=h.pa e1 e2;exact⟨b,h1,h2.keep k,h3⟩,fun e1 e2=>by obtain⟨b,h1,h2,h3⟩:=h.pb e1 e2;exact⟨b,h1,h2.keep k,h3⟩,by rw [k.block g (lt_of_heap h.blk) fun _ h=>h];exact h.blk,fun e=>by rw [k.block gx (lt_of_heap (h.x e)) fun _ h=>h];exact h.x e⟩
theorem EY {base:Nat}{e:TypeId}{k n:Nat}{v:Value}{xs:List Value}(h:w.ownsRow base e k v n xs){b:Nat}(hb:v.ownBlock=some b):base≤b∧b<w.heap.size:=World.ownsRow.lt h b hb
theorem kF.buildA (h:kF w0 eA kA nA eB kB nB vA vB xA cA xB cB g TG arr gx ox bA aA bB aB s1 s2 GX Dn GY Dp w)(k:Keep au w w'){b:Nat}(hb:aL w' b cA.toArray)(hn:w.heap.size≤b):kF w0 eA kA nA eB kB nB vA vB xA cA xB cB g TG arr gx ox true aA bB aB s1 s2 (.slice (some ⟨b,0,none⟩) 1 1) Dn GY Dp w':=by
 have h':=h.keep k;exact⟨h'.k,h'.a0,h'.a1,h'.b0,h'.b1,fun _ _=>⟨b,rfl,hb,fun e hh=>by have:=(EY (h.b0 e) hh).2;omega⟩,h'.pb,h'.blk,h'.x⟩
theorem kF.buildB (h:kF w0 eA kA nA eB kB nB vA vB xA cA xB cB g TG arr gx ox bA aA bB aB s1 s2 GX Dn GY Dp w)(k:Keep au w w'){b:Nat}(hb:aL w' b cB.toArray)(hn:w.heap.size≤b):kF w0 eA kA nA eB kB nB vA vB xA cA xB cB g TG arr gx ox bA aA true aB s1 s2 GX Dn (.slice (some ⟨b,0,none⟩) 1 1) Dp w':=by
 have h':=h.keep k;exact⟨h'.k,h'.a0,h'.a1,h'.b0,h'.b1,h'.pa,fun _ _=>⟨b,rfl,hb,fun e hh=>by have:=(EY (h.a0 e) hh).2;omega⟩,h'.blk,h'.x⟩
theorem kF.appA {XG:TypeId}(hap:Ca XG eA kA)(hAB:eA≠eB)(hAG:eA≠TG)(hxA:∀A f,ox≠ .cells A eA f)(hl:cA.length=kA)(h1:∀u∈cA,u.oneCell'=true)(hn:nA≤100000)(h:kF w0 eA kA nA eB kB nB vA vB xA cA xB cB g TG arr gx ox bA aA bB aB s1 s2 GX Dn GY Dp w)(hb:bA=true)(ha:aA=false)(hs:s1=false):
  ∃v' w',(Builtin.append_ #[XG,XG] XG #[vA,GX]).run Tryz.prog w= .ok v' w'∧kF w0 eA kA nA eB kB nB vA vB xA cA xB cB g TG arr gx ox bA true bB aB s1 s2 GX v' GY Dp w':=by
 obtain⟨b,rfl,hbk,hbv⟩:=h.pa hb ha;obtain⟨v',w',hr,ho,hg,hv⟩:=hap.app w _ vA nA xA b cA (h.a0 ha) hbk hl h1 hn h.k.size;subst hs;refine⟨v',w',hr,h.k.grown hg fun k hk=>(EY (h.a0 ha) hk).1,fun e=>(by cases e),fun _=>ho,fun e=>tQ (h.b0 e) hg fun b hb'=>Dy (h.b0 e) (h.a0 ha) hAB.symm b hb',fun e=>tQ (h.b1 e) hg fun b hb'=>Dy (h.b1 e) (h.a0 ha) hAB.symm b hb',fun _ e=>(by cases e),fun e1 e2=> ?_,?_,fun e1=> ?_⟩
 ·obtain ⟨b2,h2,⟨t2,h3⟩,h4⟩:=h.pb e1 e2
  exact⟨b2,h2,⟨t2,by rw [hg.block b2 (lt_of_heap h3) fun e=>h4 ha e.symm];exact h3⟩,fun e=>(by cases e)⟩
 ·rw [hg.block g (lt_of_heap h.blk) fun e=> ?_]
  ·exact h.blk
  ·obtain ⟨A,e1⟩:=iy (h.a0 ha) e.symm
   rw [h.blk]at e1;exact hAG (Obj.cells.inj (Option.some.inj e1)).2.1.symm
 ·rw [hg.block gx (lt_of_heap (h.x e1)) fun e=> ?_]
  ·exact h.x e1
  ·obtain ⟨A,e2⟩:=iy (h.a0 ha) e.symm
   rw [h.x e1]at e2;exact hxA _ _ (Option.some.inj e2)
theorem kF.appB {XH:TypeId}(hap:Ca XH eB kB)(hAB:eA≠eB)(hBG:eB≠TG)(hl:cB.length=kB)(h1:∀u∈cB,u.oneCell'=true)(hn:nB≤100000)(h:kF w0 eA kA nA eB kB nB vA vB xA cA xB cB g TG arr gx ox bA aA bB aB s1 s2 GX Dn GY Dp w)(hb:bB=true)(ha:aB=false)(hs:s2=false):
  ∃v' w',(Builtin.append_ #[XH,XH] XH #[vB,GY]).run Tryz.prog w= .ok v' w'∧kF w0 eA kA nA eB kB nB vA vB xA cA xB cB g TG arr gx ox bA aA bB true s1 s2 GX Dn GY v' w':=by
 obtain⟨b,rfl,hbk,hbv⟩:=h.pb hb ha;obtain⟨v',w',hr,ho,hg,hv⟩:=hap.app w _ vB nB xB b cB (h.b0 ha) hbk hl h1 hn h.k.size;subst hs;refine⟨v',w',hr,h.k.grown hg fun k hk=>(EY (h.b0 ha) hk).1,fun e=>tQ (h.a0 e) hg fun b hb'=>Dy (h.a0 e) (h.b0 ha) hAB b hb',fun e=>tQ (h.a1 e) hg fun b hb'=>Dy (h.a1 e) (h.b0 ha) hAB b hb',fun e=>(by cases e),fun _=>ho,fun e1 e2=> ?_,fun _ e=>(by cases e),?_,fun e=>(by cases e)⟩
 ·obtain ⟨b2,h2,⟨t2,h3⟩,h4⟩:=h.pa e1 e2
  exact⟨b2,h2,⟨t2,by rw [hg.block b2 (lt_of_heap h3) fun e=>h4 ha e.symm];exact h3⟩,fun e=>(by cases e)⟩
 ·rw [hg.block g (lt_of_heap h.blk) fun e=> ?_]
  ·exact h.blk
  ·obtain ⟨A,e1⟩:=iy (h.b0 ha) e.symm
   rw [h.blk]at e1;exact hBG (Obj.cells.inj (Option.some.inj e1)).2.1.symm
theorem kF.set (h:kF w0 eA kA nA eB kB nB vA vB xA cA xB cB g TG arr gx ox bA aA bB aB s1 s2 GX Dn GY Dp w)(hAG:eA≠TG)(hBG:eB≠TG)(hg:w0.heap.size≤g){i:Nat}{v:Value}{t1 t2:Bool}(ha:aA=true)(hb:aB=true)(he:(arr (cond s1 Dn vA) (cond s2 Dp vB)).setIfInBounds i v=arr (cond t1 Dn vA) (cond t2 Dp vB)):kF w0 eA kA nA eB kB nB vA vB xA cA xB cB g TG arr gx ox bA aA bB aB t1 t2 GX Dn GY Dp (w.setCell ⟨g,i,none⟩ v):=by
 have hne:∀ {base:Nat} {e:TypeId} {k n:Nat} {u:Value} {xs:List Value},w.ownsRow base e k u n xs→e≠TG→u.ownBlock≠some g:=fun h1 h2 e=>by
  obtain⟨A,e1⟩:=iy h1 e;rw [h.blk]at e1;exact h2 (Obj.cells.inj (Option.some.inj e1)).2.1.symm
 refine⟨jX h.k _ hg,fun e=>(by rw [ha]at e;cases e),fun e=>ownsRow_setCell_other (a:=⟨g,i,none⟩) (h.a1 e) (hne (h.a1 e) hAG) v,fun e=>(by rw [hb]at e;cases e),fun e=>ownsRow_setCell_other (a:=⟨g,i,none⟩) (h.b1 e) (hne (h.b1 e) hBG) v,fun _ e=>(by rw [ha]at e;cases e),fun _ e=>(by rw [hb]at e;cases e),?_,fun e=>(by rw [hb]at e;cases e)⟩
 rw [← he];exact heap_setCell_same _ _ h.blk
theorem kF.start (FM:bA=false)(haA:aA=false)(hbB:bB=false)(haB:aB=false)(h1:s1=false)(h2:s2=false)(h:w0.heap.size≤w.heap.size∧Keep au w0 w∧w.ownsRow w0.heap.size eA kA vA nA xA∧w.ownsRow w0.heap.size eB kB vB nB xB∧w.heap[g]? =some (.cells (arr vA vB) TG (0,0))∧w.heap[gx]? =some ox):kF w0 eA kA nA eB kB nB vA vB xA cA xB cB g TG arr gx ox bA aA bB aB s1 s2 GX Dn GY Dp w.drew:=by
 subst FM haA hbB haB h1 h2;have k:Keep au w w.drew:=(Keep.refl _ _).drew;exact⟨h.2.1.both k,fun _=>fq h.2.2.1 k,fun e=>(by cases e),fun _=>fq h.2.2.2.1 k,fun e=>(by cases e),fun e=>(by cases e),fun e=>(by cases e),h.2.2.2.2.1,fun _=>h.2.2.2.2.2⟩
structure zda (w0:World)(eA kA nA eB kB nB:Nat)(xA cA xB cB:List Value)(Dn Dp:Value)(w:World):Prop where
 k:Keep au w0 w
 a:w.ownsRow w0.heap.size eA kA Dn (nA+1) (xA++cA)
 b:w.ownsRow w0.heap.size eB kB Dp (nB+1) (xB++cB)
theorem kF.done (h:kF w0 eA kA nA eB kB nB vA vB xA cA xB cB g TG arr gx ox bA aA bB aB s1 s2 GX Dn GY Dp w)(_:bA=true)(ha:aA=true)(_:bB=true)(hb:aB=true):zda w0 eA kA nA eB kB nB xA cA xB cB Dn Dp w:=⟨h.k,h.a1 ha,h.b1 hb⟩
end
theorem dx {w:World}{base:Nat}{e:TypeId}{k n:Nat}{v:Value}{xs:List Value}(h:w.ownsRow base e k v n xs):∃o c,v= .slice o n c:=by
 obtain⟨hl,h | ⟨g,cap,cur,hv,_⟩⟩:=h
 ·exact ⟨none,0,by obtain⟨rfl,h1⟩:=h;first | exact h1 | (rw [h1])⟩
 ·exact ⟨_,cap,hv⟩
end Go.Proofs.YtaiffmebphhdaaaGreat
