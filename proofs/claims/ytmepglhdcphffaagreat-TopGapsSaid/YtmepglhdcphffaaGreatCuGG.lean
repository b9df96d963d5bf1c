/- Package cut: slices.SortFunc, as the shelf's contract wants it (printed by a tool of the kit). Package cut: integers of one's own, sorted. Two appends in one region whose order is drawn. -/
import Derived.Shelf.SlSortCmp.Whole1
import Derived.Test.YtmepglhdcphffaaGreatCuAA
import Derived.Test.YtmepglhdcphffaaGreatRegVV
namespace Go.Proofs.YtmepglhdcphffaaGreat
set_option linter.unusedSimpArgs false
set_option linter.unusedVariables false
open Go.ChangeShapes Go.WideShapes Go.RowKit
def JH:Go.Shelf.Ren:=⟨fun | 6=>168 | 15=>212 | 14=>211 | 28=>229 | 29=>239 | 20=>231 | 21=>232 | 22=>233 | 23=>234 | 24=>235 | 25=>236 | 26=>237 | 27=>238 | 46=>268 | 47=>269 | 48=>270 | 49=>271 | 50=>272 | 57=>280 | n=>n,fun | 22=>22 | 24=>3 | 25=>30 | 3=>3 | 39=>239 | 0=>0 | 53=>238 | 55=>229 | 4=>4 | 46=>301 | 45=>300 | 50=>305 | 5=>5 | 9=>9 | 66=>327 | 70=>331 | 76=>337 | 77=>143 | n=>n,fun | n=>n⟩
theorem Zn:Go.Proofs.SlLaysF.n6 Tryz.prog JH where
 mixed:=kr
 f6:=⟨Tryz.f168.name,kr,Tryz.func168.trans (congrArg some kr)⟩
 f14:=⟨Tryz.f211.name,kr,Tryz.func211.trans (congrArg some kr)⟩
 f15:=Tryz.func212.trans (congrArg some kr)
 f20:=⟨Tryz.f231.name,kr,Tryz.func231.trans (congrArg some kr)⟩
 f21:=⟨Tryz.f232.name,kr,Tryz.func232.trans (congrArg some kr)⟩
 f22:=⟨Tryz.f233.name,kr,Tryz.func233.trans (congrArg some kr)⟩
 f23:=⟨Tryz.f234.name,kr,Tryz.func234.trans (congrArg some kr)⟩
 f24:=⟨Tryz.f235.name,kr,Tryz.func235.trans (congrArg some kr)⟩
 f25:=⟨Tryz.f236.name,kr,Tryz.func236.trans (congrArg some kr)⟩
 f26:=⟨Tryz.f237.name,kr,Tryz.func237.trans (congrArg some kr)⟩
 f27:=⟨Tryz.f238.name,kr,Tryz.func238.trans (congrArg some kr)⟩
 f28:=Tryz.func229.trans (congrArg some kr)
 f29:=Tryz.func239.trans (congrArg some kr)
 f46:=⟨Tryz.f268.name,kr,Tryz.func268.trans (congrArg some kr)⟩
 f47:=Tryz.func269.trans (congrArg some kr)
 f48:=Tryz.func270.trans (congrArg some kr)
 f49:=⟨Tryz.f271.name,kr,Tryz.func271.trans (congrArg some kr)⟩
 f50:=⟨Tryz.f272.name,kr,Tryz.func272.trans (congrArg some kr)⟩
 f57:=⟨Tryz.f280.name,kr,Tryz.func280.trans (congrArg some kr)⟩
 t0:=Tryz.underlying0
 a0:=Tryz.isAgg0
 z0:=Tryz.sizeOf0
 v0:=Tryz.zeroValue0
 t3:=Tryz.underlying3
 a3:=Tryz.isAgg3
 z3:=Tryz.sizeOf3
 v3:=Tryz.zeroValue3
 t4:=Tryz.underlying4
 a4:=Tryz.isAgg4
 z4:=Tryz.sizeOf4
 v4:=Tryz.zeroValue4
 t5:=Tryz.underlying5
 a5:=Tryz.isAgg5
 z5:=Tryz.sizeOf5
 v5:=Tryz.zeroValue5
 t9:=Tryz.underlying9
 a9:=Tryz.isAgg9
 z9:=Tryz.sizeOf9
 v9:=Tryz.zeroValue9
 t22:=Tryz.underlying22
 a22:=Tryz.isAgg22
 z22:=Tryz.sizeOf22
 v22:=Tryz.zeroValue22
 a24:=Tryz.isAgg3
 z24:=Tryz.sizeOf3
 t25:=Tryz.underlying30
 a25:=Tryz.isAgg30
 z25:=Tryz.sizeOf30
 v25:=Tryz.zeroValue30
 t39:=Tryz.underlying239
 a39:=Tryz.isAgg239
 z39:=Tryz.sizeOf239
 v39:=Tryz.zeroValue239
 t45:=Tryz.underlying300
 a45:=Tryz.isAgg300
 z45:=Tryz.sizeOf300
 v45:=Tryz.zeroValue300
 t46:=Tryz.underlying301
 a46:=Tryz.isAgg301
 z46:=Tryz.sizeOf301
 v46:=Tryz.zeroValue301
 t50:=Tryz.underlying305
 a50:=Tryz.isAgg305
 z50:=Tryz.sizeOf305
 v50:=Tryz.zeroValue305
 t53:=Tryz.underlying238
 a53:=Tryz.isAgg238
 z53:=Tryz.sizeOf238
 v53:=Tryz.zeroValue238
 t55:=Tryz.underlying229
 a55:=Tryz.isAgg229
 z55:=Tryz.sizeOf229
 v55:=Tryz.zeroValue229
 t66:=Tryz.underlying327
 a66:=Tryz.isAgg327
 z66:=Tryz.sizeOf327
 v66:=Tryz.zeroValue327
 t70:=Tryz.underlying331
 a70:=Tryz.isAgg331
 z70:=Tryz.sizeOf331
 v70:=Tryz.zeroValue331
 t76:=Tryz.underlying337
 a76:=Tryz.isAgg337
 z76:=Tryz.sizeOf337
 v76:=Tryz.zeroValue337
 t77:=Tryz.underlying143
 a77:=Tryz.isAgg143
 z77:=Tryz.sizeOf143
 v77:=Tryz.zeroValue143
open Go.Sort hiding Below
section
variable {α:Type} [Inhabited α] {enc:α→Value} {w:World} {blk n:Nat} {d:Array α} {os:Array Obj}
theorem PE:w.heap.size≤(sortWorld enc w blk 0 n d os).heap.size:=by
 unfold sortWorld putRow mapBlock grow Go.Sort.ahead;simp
theorem yj {c:Nat}(hc:c<w.heap.size)(h:c≠blk):(sortWorld enc w blk 0 n d os).heap[c]? =w.heap[c]? :=by
 unfold sortWorld putRow mapBlock grow Go.Sort.ahead;have h':¬blk=c:=fun e=>h e.symm;rw [Array.getElem?_append_left (by simpa using hc),Array.getElem?_modify,if_neg h']
theorem zbs {A:Array Value}{e:TypeId}{f:Nat × Nat}(h:w.heap[blk]? =some (.cells A e f)):(sortWorld enc w blk 0 n d os).heap[blk]? =some (.cells (putCells enc 0 d A) e f):=by
 unfold sortWorld putRow mapBlock grow Go.Sort.ahead;rw [Array.getElem?_append_left (by simpa using lt_of_heap h),Array.getElem?_modify,if_pos rfl,h];rfl
theorem Vn:w.grownBy (sortWorld enc w blk 0 n d os) (some blk):=⟨rfl,rfl,rfl,PE,fun i hi hr=>yj hi fun e=>hr (by rw [e])⟩
theorem Nr {base cap:Nat}{xs ys:List Int}(h:bC w base (.slice (some ⟨blk,0,none⟩) xs.length cap) xs)(hd:d.size=xs.length)(hl:ys.length=xs.length)(he:∀i (hi:i<ys.length),enc d[i]! = .int .i64 ys[i]):bC (sortWorld enc w blk 0 n d os) base (.slice (some ⟨blk,0,none⟩) ys.length cap) ys:=by
 obtain⟨hl0,h | ⟨g,cap,cur,hv,hb,hg,hl',hm,hs,ht⟩⟩:=h
 ·cases h.1
 cases hv;refine⟨by simp [iv],.inr ⟨blk,cap,putCells enc 0 d cur,rfl,hb,zbs hg,by rw [hl];exact hl',hm,by unfold putCells;rw [Array.size_mapIdx];exact hs,?_⟩⟩;have hcs:ys.length≤cur.size:=by
  have:=congrArg List.length ht;simp [iv]at this;omega
 apply List.ext_getElem?;intro i;by_cases hi:i<ys.length
 ·have h1:i<d.size:=om;have h2:i<cur.size:=om;have h3:=he i hi;rw [getElem!_pos d i h1]at h3;simp [putCells,iv,List.getElem?_take,hi,h1,h2];exact h3
 rw [List.getElem?_eq_none (by simp;omega),List.getElem?_eq_none (by simp [iv];omega)]
theorem Rn {base cap:Nat}{xs:List Int}(h:bC w base (.slice (some ⟨blk,0,none⟩) xs.length cap) xs)(hd:d.size=xs.length)(he:∀i (hi:i<xs.length),enc d[i]! = .int .i64 xs[i]):Holds enc w blk 0 d:=by
 intro j hj;obtain⟨hl0,h | ⟨g,cap,cur,hv,hb,hg,hl',hm,hs,ht⟩⟩:=h
 ·cases h.1
 cases hv;have hj':j<xs.length:=om;have h1:(iv xs)[j]? =some (.int .i64 xs[j]):=by simp [iv,hj']
 rw [← ht,List.getElem?_take]at h1;have h2:j<xs.length*1:=om;rw [if_pos (by simpa using h2)]at h1;rw [Nat.zero_add,he j hj'];exact⟨cell_of_heap hg (by simpa using h1),aL.free (A:=cur) ⟨_,hg⟩ j⟩
end
abbrev SmI:= {x:Int // x.natAbs≤1000000}
instance :Inhabited SmI:=⟨⟨0,dc⟩⟩
structure Cg (sl e:TypeId)(k:Nat):Prop where
 app:∀(w:World) (base:Nat) (v:Value) (n:Nat) (xs:List Value) (b:Nat) (cs:List Value),w.ownsRow base e k v n xs→aL w b cs.toArray→cs.length=k→(∀u∈cs,u.oneCell'=true)→n≤100000→base≤w.heap.size→
  ∃v' w',(Builtin.append_ #[sl,sl] sl #[v,.slice (some ⟨b,0,none⟩) 1 1]).run Tryz.prog w= .ok v' w'∧w'.ownsRow base e k v' (n+1) (xs++cs)∧w.grownBy w' v.ownBlock∧(v'.ownBlock=v.ownBlock∨v'.ownBlock=some w.heap.size)
theorem JI {sl e:TypeId}{k bytes:Nat}{i:TypeInfo}{z:Value}(hu:Tryz.prog.underlying sl=some (.slice e))(hi:Tryz.prog.info? e=some i)(hz:i.zero=some z)(hs:i.size=k)(hb:i.bytes=bytes)(hzs:z.cells.size=k)(h0:0<k)(hby:bytes≤1000):Cg sl e k:=⟨fun w base v n xs b cs hown hbk hl h1 hn hbase=>by
 obtain⟨v',w',hr,ho,hg,_,hv⟩:=run_append_own_at (P:=Tryz.prog) w base sl sl e i z k bytes hu hi hz hs hb hzs h0 v n xs hown ⟨b,0,none⟩ 1 1 cs (by rw [hl,Nat.one_mul])
  (fun j u hj=>by rw [add_plain,Nat.zero_add,hbk.cell j];simpa using hj) h1 (by unfold maxLen;omega) (by have:=Nat.mul_le_mul (show n+1≤100001 from om) hby;omega) hbase
 exact⟨v',w',hr,ho,hg,hv⟩⟩
theorem PG:Cg 22 TI 1:=by
 obtain⟨i0,hi0,hz0,hz1,hz2⟩:=info_parts Fy;exact JI Tryz.underlying22 hi0 hz0 hz1 hz2 rfl dc dc
theorem PI:Cg 41 TF 2:=by
 obtain⟨i0,hi0,hz0,hz1,hz2⟩:=info_parts PK;exact JI Tryz.underlying41 hi0 hz0 hz1 hz2 rfl dc dc
theorem jw {w:World}{base base':Nat}{e e':TypeId}{k k' n n':Nat}{v v':Value}{xs xs':List Value}(h:w.ownsRow base e k v n xs)(h':w.ownsRow base' e' k' v' n' xs')(he:e≠e'):∀b,v.ownBlock=some b→v'.ownBlock≠some b:=fun b hb hb'=>by
 obtain⟨A,e1⟩:=jh h hb;obtain⟨B,e2⟩:=jh h' hb';rw [e1]at e2;exact he (Obj.cells.inj (Option.some.inj e2)).2.1
theorem fT {w w':World}{base:Nat}{e:TypeId}{k n:Nat}{v:Value}{xs:List Value}{row:Option Nat}(h:w.ownsRow base e k v n xs)(hg:w.grownBy w' row)(hr:∀b,v.ownBlock=some b→row≠some b):w'.ownsRow base e k v n xs:=by
 obtain⟨hl,h | ⟨g,cap,cur,hv,hb,hgg,hl',hm,hs,ht⟩⟩:=h
 ·exact ⟨hl,.inl h⟩
 exact⟨hl,.inr ⟨g,cap,cur,hv,hb,by rw [hg.block g (lt_of_heap hgg) (fun e=>hr g (by rw [hv];rfl) e.symm)];exact hgg,hl',hm,hs,ht⟩⟩
theorem bR {w w':World}{base:Nat}{e:TypeId}{k n:Nat}{v:Value}{xs:List Value}(h:w.ownsRow base e k v n xs)(kk:Keep au w w'):w'.ownsRow base e k v n xs:=by
 obtain⟨hl,h | ⟨g,cap,cur,hv,hb,hgg,hl',hm,hs,ht⟩⟩:=h
 ·exact ⟨hl,.inl h⟩
 exact⟨hl,.inr ⟨g,cap,cur,hv,hb,by rw [kk.block g (lt_of_heap hgg) fun _ h=>h];exact hgg,hl',hm,hs,ht⟩⟩
structure lH (w0:World)(eA kA nA eB kB nB:Nat)(vA vB:Value)(xA cA xB cB:List Value)(g:Nat)(TG:TypeId)(arr:Value→Value→Array Value)(gx:Nat)(ox:Obj)(bA aA bB aB s1 s2:Bool)(mP jL mQ jM:Value)(w:World):Prop where
 k:Keep au w0 w
 a0:aA=false→w.ownsRow w0.heap.size eA kA vA nA xA
 a1:aA=true→w.ownsRow w0.heap.size eA kA jL (nA+1) (xA++cA)
 b0:aB=false→w.ownsRow w0.heap.size eB kB vB nB xB
 b1:aB=true→w.ownsRow w0.heap.size eB kB jM (nB+1) (xB++cB)
 pa:bA=true→aA=false→∃b,mP= .slice (some ⟨b,0,none⟩) 1 1∧aL w b cA.toArray∧(aB=false→vB.ownBlock≠some b)
 pb:bB=true→aB=false→∃b,mQ= .slice (some ⟨b,0,none⟩) 1 1∧aL w b cB.toArray∧(aA=false→vA.ownBlock≠some b)
 blk:w.heap[g]? =some (.cells (arr (cond s1 jL vA) (cond s2 jM vB)) TG (0,0))
 x:aB=false→w.heap[gx]? =some ox
section
variable {w0 w w':World} {eA kA nA eB kB nB:Nat} {vA vB:Value} {xA cA xB cB:List Value} {g:Nat} {TG:TypeId} {arr:Value→Value→Array Value} {gx:Nat} {ox:Obj} {bA aA bB aB s1 s2:Bool} {mP jL mQ jM:Value}
theorem lH.keep (h:lH w0 eA kA nA eB kB nB vA vB xA cA xB cB g TG arr gx ox bA aA bB aB s1 s2 mP jL mQ jM w)(k:Keep au w w'):lH w0 eA kA nA eB kB nB vA vB xA cA xB cB g TG arr gx ox bA aA bB aB s1 s2 mP jL mQ jM w':=
 ⟨h.k.both k,fun e=>bR (h.a0 e) k,fun e=>bR (h.a1 e) k,fun e=>bR (h.b0 e) k,fun e=>bR (h.b1 e) k,
  fun e1 e2=>by obtain⟨b,h1,h2,h3⟩:=h.pa e1 e2;exact⟨b,h1,h2.keep k,h3⟩,fun e1 e2=>by obtain⟨b,h1,h2,h3⟩:=h.pb e1 e2;exact⟨b,h1,h2.keep k,h3⟩,by rw [k.block g (lt_of_heap h.blk) fun _ h=>h];exact h.blk,fun e=>by rw [k.block gx (lt_of_heap (h.x e)) fun _ h=>h];exact h.x e⟩
theorem rH {base:Nat}{e:TypeId}{k n:Nat}{v:Value}{xs:List Value}(h:w.ownsRow base e k v n xs){b:Nat}(hb:v.ownBlock=some b):base≤b∧b<w.heap.size:=World.ownsRow.lt h b hb
theorem lH.buildA (h:lH w0 eA kA nA eB kB nB vA vB xA cA xB cB g TG arr gx ox bA aA bB aB s1 s2 mP jL mQ jM w)(k:Keep au w w'){b:Nat}(hb:aL w' b cA.toArray)(hn:w.heap.size≤b):lH w0 eA kA nA eB kB nB vA vB xA cA xB cB g TG arr gx ox true aA bB aB s1 s2 (.slice (some ⟨b,0,none⟩) 1 1) jL mQ jM w':=by
 have h':=h.keep k;exact⟨h'.k,h'.a0,h'.a1,h'.b0,h'.b1,fun _ _=>⟨b,rfl,hb,fun e hh=>by have:=(rH (h.b0 e) hh).2;omega⟩,h'.pb,h'.blk,h'.x⟩
theorem lH.buildB (h:lH w0 eA kA nA eB kB nB vA vB xA cA xB cB g TG arr gx ox bA aA bB aB s1 s2 mP jL mQ jM w)(k:Keep au w w'){b:Nat}(hb:aL w' b cB.toArray)(hn:w.heap.size≤b):lH w0 eA kA nA eB kB nB vA vB xA cA xB cB g TG arr gx ox bA aA true aB s1 s2 mP jL (.slice (some ⟨b,0,none⟩) 1 1) jM w':=by
 have h':=h.keep k;exact⟨h'.k,h'.a0,h'.a1,h'.b0,h'.b1,h'.pa,fun _ _=>⟨b,rfl,hb,fun e hh=>by have:=(rH (h.a0 e) hh).2;omega⟩,h'.blk,h'.x⟩
theorem lH.appA {Zc:TypeId}(hap:Cg Zc eA kA)(UW:eA≠eB)(hAG:eA≠TG)(Vo:∀A f,ox≠ .cells A eA f)(hl:cA.length=kA)(h1:∀u∈cA,u.oneCell'=true)(hn:nA≤100000)(h:lH w0 eA kA nA eB kB nB vA vB xA cA xB cB g TG arr gx ox bA aA bB aB s1 s2 mP jL mQ jM w)(hb:bA=true)(ha:aA=false)(hs:s1=false):
  ∃v' w',(Builtin.append_ #[Zc,Zc] Zc #[vA,mP]).run Tryz.prog w= .ok v' w'∧lH w0 eA kA nA eB kB nB vA vB xA cA xB cB g TG arr gx ox bA true bB aB s1 s2 mP v' mQ jM w':=by
 obtain⟨b,rfl,hbk,hbv⟩:=h.pa hb ha;obtain⟨v',w',hr,ho,hg,hv⟩:=hap.app w _ vA nA xA b cA (h.a0 ha) hbk hl h1 hn h.k.size;subst hs;refine⟨v',w',hr,h.k.grown hg fun k hk=>(rH (h.a0 ha) hk).1,fun e=>(by cases e),fun _=>ho,fun e=>fT (h.b0 e) hg fun b hb'=>jw (h.b0 e) (h.a0 ha) UW.symm b hb',fun e=>fT (h.b1 e) hg fun b hb'=>jw (h.b1 e) (h.a0 ha) UW.symm b hb',fun _ e=>(by cases e),fun e1 e2=> ?_,?_,fun e1=> ?_⟩
 ·obtain ⟨b2,h2,⟨t2,h3⟩,h4⟩:=h.pb e1 e2;exact⟨b2,h2,⟨t2,by rw [hg.block b2 (lt_of_heap h3) fun e=>h4 ha e.symm];exact h3⟩,fun e=>(by cases e)⟩
 ·rw [hg.block g (lt_of_heap h.blk) fun e=> ?_]
  ·exact h.blk
  obtain⟨A,e1⟩:=jh (h.a0 ha) e.symm;rw [h.blk]at e1;exact hAG (Obj.cells.inj (Option.some.inj e1)).2.1.symm
 rw [hg.block gx (lt_of_heap (h.x e1)) fun e=> ?_]
 ·exact h.x e1
 obtain⟨A,e2⟩:=jh (h.a0 ha) e.symm;rw [h.x e1]at e2;exact Vo _ _ (Option.some.inj e2)
theorem lH.appB {Zd:TypeId}(hap:Cg Zd eB kB)(UW:eA≠eB)(hBG:eB≠TG)(hl:cB.length=kB)(h1:∀u∈cB,u.oneCell'=true)(hn:nB≤100000)(h:lH w0 eA kA nA eB kB nB vA vB xA cA xB cB g TG arr gx ox bA aA bB aB s1 s2 mP jL mQ jM w)(hb:bB=true)(ha:aB=false)(hs:s2=false):
  ∃v' w',(Builtin.append_ #[Zd,Zd] Zd #[vB,mQ]).run Tryz.prog w= .ok v' w'∧lH w0 eA kA nA eB kB nB vA vB xA cA xB cB g TG arr gx ox bA aA bB true s1 s2 mP jL mQ v' w':=by
 obtain⟨b,rfl,hbk,hbv⟩:=h.pb hb ha;obtain⟨v',w',hr,ho,hg,hv⟩:=hap.app w _ vB nB xB b cB (h.b0 ha) hbk hl h1 hn h.k.size;subst hs;refine⟨v',w',hr,h.k.grown hg fun k hk=>(rH (h.b0 ha) hk).1,fun e=>fT (h.a0 e) hg fun b hb'=>jw (h.a0 e) (h.b0 ha) UW b hb',fun e=>fT (h.a1 e) hg fun b hb'=>jw (h.a1 e) (h.b0 ha) UW b hb',fun e=>(by cases e),fun _=>ho,fun e1 e2=> ?_,fun _ e=>(by cases e),?_,fun e=>(by cases e)⟩
 ·obtain ⟨b2,h2,⟨t2,h3⟩,h4⟩:=h.pa e1 e2;exact⟨b2,h2,⟨t2,by rw [hg.block b2 (lt_of_heap h3) fun e=>h4 ha e.symm];exact h3⟩,fun e=>(by cases e)⟩
 rw [hg.block g (lt_of_heap h.blk) fun e=> ?_]
 ·exact h.blk
 obtain⟨A,e1⟩:=jh (h.b0 ha) e.symm;rw [h.blk]at e1;exact hBG (Obj.cells.inj (Option.some.inj e1)).2.1.symm
theorem lH.set (h:lH w0 eA kA nA eB kB nB vA vB xA cA xB cB g TG arr gx ox bA aA bB aB s1 s2 mP jL mQ jM w)(hAG:eA≠TG)(hBG:eB≠TG)(hg:w0.heap.size≤g){i:Nat}{v:Value}{t1 t2:Bool}(ha:aA=true)(hb:aB=true)(he:(arr (cond s1 jL vA) (cond s2 jM vB)).setIfInBounds i v=arr (cond t1 jL vA) (cond t2 jM vB)):lH w0 eA kA nA eB kB nB vA vB xA cA xB cB g TG arr gx ox bA aA bB aB t1 t2 mP jL mQ jM (w.setCell ⟨g,i,none⟩ v):=by
 have hne:∀ {base:Nat} {e:TypeId} {k n:Nat} {u:Value} {xs:List Value},w.ownsRow base e k u n xs→e≠TG→u.ownBlock≠some g:=fun h1 h2 e=>by
  obtain⟨A,e1⟩:=jh h1 e;rw [h.blk]at e1;exact h2 (Obj.cells.inj (Option.some.inj e1)).2.1.symm
 refine⟨aQ h.k _ hg,fun e=>(by rw [ha]at e;cases e),fun e=>ownsRow_setCell_other (a:=⟨g,i,none⟩) (h.a1 e) (hne (h.a1 e) hAG) v,fun e=>(by rw [hb]at e;cases e),fun e=>ownsRow_setCell_other (a:=⟨g,i,none⟩) (h.b1 e) (hne (h.b1 e) hBG) v,fun _ e=>(by rw [ha]at e;cases e),fun _ e=>(by rw [hb]at e;cases e),?_,fun e=>(by rw [hb]at e;cases e)⟩;rw [← he];exact heap_setCell_same _ _ h.blk
theorem lH.start (hbA:bA=false)(haA:aA=false)(hbB:bB=false)(haB:aB=false)(h1:s1=false)(h2:s2=false)(h:w0.heap.size≤w.heap.size∧Keep au w0 w∧w.ownsRow w0.heap.size eA kA vA nA xA∧w.ownsRow w0.heap.size eB kB vB nB xB∧w.heap[g]? =some (.cells (arr vA vB) TG (0,0))∧w.heap[gx]? =some ox):lH w0 eA kA nA eB kB nB vA vB xA cA xB cB g TG arr gx ox bA aA bB aB s1 s2 mP jL mQ jM w.drew:=by
 subst hbA haA hbB haB h1 h2;have k:Keep au w w.drew:=(Keep.refl _ _).drew;exact⟨h.2.1.both k,fun _=>bR h.2.2.1 k,fun e=>(by cases e),fun _=>bR h.2.2.2.1 k,fun e=>(by cases e),fun e=>(by cases e),fun e=>(by cases e),h.2.2.2.2.1,fun _=>h.2.2.2.2.2⟩
structure zcB (w0:World)(eA kA nA eB kB nB:Nat)(xA cA xB cB:List Value)(jL jM:Value)(w:World):Prop where
 k:Keep au w0 w
 a:w.ownsRow w0.heap.size eA kA jL (nA+1) (xA++cA)
 b:w.ownsRow w0.heap.size eB kB jM (nB+1) (xB++cB)
theorem lH.done (h:lH w0 eA kA nA eB kB nB vA vB xA cA xB cB g TG arr gx ox bA aA bB aB s1 s2 mP jL mQ jM w)(_:bA=true)(ha:aA=true)(_:bB=true)(hb:aB=true):zcB w0 eA kA nA eB kB nB xA cA xB cB jL jM w:=⟨h.k,h.a1 ha,h.b1 hb⟩
end
theorem dJ {w:World}{base:Nat}{e:TypeId}{k n:Nat}{v:Value}{xs:List Value}(h:w.ownsRow base e k v n xs):∃o c,v= .slice o n c:=by
 obtain⟨hl,h | ⟨g,cap,cur,hv,_⟩⟩:=h
 ·exact ⟨none,0,by obtain⟨rfl,h1⟩:=h;first | exact h1 | (rw [h1])⟩
 exact⟨_,cap,hv⟩
end Go.Proofs.YtmepglhdcphffaaGreat
