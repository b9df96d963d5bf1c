/- Package cut: slices.SortFunc, as the shelf's contract wants it (printed by a tool of the kit). Package cut: integers of one's own, sorted. Two appends in one region whose order is drawn. -/
import Derived.Shelf.SlSortCmp.Whole1
import Derived.Test.YtaiffmebphhdaaaGreatCuAA
import Derived.Test.YtaiffmebphhdaaaGreatRegVV
namespace Go.Proofs.YtaiffmebphhdaaaGreat
set_option maxRecDepth 100000
set_option linter.unusedSimpArgs false
set_option linter.unusedVariables false
open Go.ChangeShapes Go.WideShapes Go.RowKit
def MV:Go.Shelf.Ren:=⟨fun | 6=>97 | 15=>129 | 14=>128 | 28=>151 | 29=>152 | 20=>143 | 21=>144 | 22=>145 | 23=>146 | 24=>147 | 25=>148 | 26=>149 | 27=>150 | 46=>162 | 47=>163 | 48=>164 | 49=>165 | 50=>166 | 57=>169 | n=>n,fun | 22=>38 | 24=>3 | 25=>155 | 3=>3 | 39=>167 | 0=>0 | 53=>166 | 55=>159 | 4=>4 | 46=>191 | 45=>190 | 50=>148 | 5=>5 | 9=>9 | 66=>204 | 70=>207 | 76=>209 | 77=>95 | n=>n,fun | n=>n⟩
theorem Po:Go.Proofs.SlLaysF.n6 Tryz.prog MV where
 mixed:=kr
 f6:=⟨Tryz.f97.name,kr,Tryz.func97.trans (congrArg some kr)⟩
 f14:=⟨Tryz.f128.name,kr,Tryz.func128.trans (congrArg some kr)⟩
 f15:=Tryz.func129.trans (congrArg some kr)
 f20:=⟨Tryz.f143.name,kr,Tryz.func143.trans (congrArg some kr)⟩
 f21:=⟨Tryz.f144.name,kr,Tryz.func144.trans (congrArg some kr)⟩
 f22:=⟨Tryz.f145.name,kr,Tryz.func145.trans (congrArg some kr)⟩
 f23:=⟨Tryz.f146.name,kr,Tryz.func146.trans (congrArg some kr)⟩
 f24:=⟨Tryz.f147.name,kr,Tryz.func147.trans (congrArg some kr)⟩
 f25:=⟨Tryz.f148.name,kr,Tryz.func148.trans (congrArg some kr)⟩
 f26:=⟨Tryz.f149.name,kr,Tryz.func149.trans (congrArg some kr)⟩
 f27:=⟨Tryz.f150.name,kr,Tryz.func150.trans (congrArg some kr)⟩
 f28:=Tryz.func151.trans (congrArg some kr)
 f29:=Tryz.func152.trans (congrArg some kr)
 f46:=⟨Tryz.f162.name,kr,Tryz.func162.trans (congrArg some kr)⟩
 f47:=Tryz.func163.trans (congrArg some kr)
 f48:=Tryz.func164.trans (congrArg some kr)
 f49:=⟨Tryz.f165.name,kr,Tryz.func165.trans (congrArg some kr)⟩
 f50:=⟨Tryz.f166.name,kr,Tryz.func166.trans (congrArg some kr)⟩
 f57:=⟨Tryz.f169.name,kr,Tryz.func169.trans (congrArg some kr)⟩
 t0:=Tryz.underlying0
 a0:=Tryz.isAgg0
 z0:=Tryz.sizeOf0
 v0:=Tryz.zeroValue0
 t3:=Tryz.underlying3
 a3:=Tryz.isAgg3
 z3:=Tryz.sizeOf3
 v3:=Tryz.zeroValue3
 t4:=Tryz.underlying4
 a4:=Tryz.isAgg4
 z4:=Tryz.sizeOf4
 v4:=Tryz.zeroValue4
 t5:=Tryz.underlying5
 a5:=Tryz.isAgg5
 z5:=Tryz.sizeOf5
 v5:=Tryz.zeroValue5
 t9:=Tryz.underlying9
 a9:=Tryz.isAgg9
 z9:=Tryz.sizeOf9
 v9:=Tryz.zeroValue9
 t22:=Tryz.underlying38
 a22:=Tryz.isAgg38
 z22:=Tryz.sizeOf38
 v22:=Tryz.zeroValue38
 a24:=Tryz.isAgg3
 z24:=Tryz.sizeOf3
 t25:=Tryz.underlying155
 a25:=Tryz.isAgg155
 z25:=Tryz.sizeOf155
 v25:=Tryz.zeroValue155
 t39:=Tryz.underlying167
 a39:=Tryz.isAgg167
 z39:=Tryz.sizeOf167
 v39:=Tryz.zeroValue167
 t45:=Tryz.underlying190
 a45:=Tryz.isAgg190
 z45:=Tryz.sizeOf190
 v45:=Tryz.zeroValue190
 t46:=Tryz.underlying191
 a46:=Tryz.isAgg191
 z46:=Tryz.sizeOf191
 v46:=Tryz.zeroValue191
 t50:=Tryz.underlying148
 a50:=Tryz.isAgg148
 z50:=Tryz.sizeOf148
 v50:=Tryz.zeroValue148
 t53:=Tryz.underlying166
 a53:=Tryz.isAgg166
 z53:=Tryz.sizeOf166
 v53:=Tryz.zeroValue166
 t55:=Tryz.underlying159
 a55:=Tryz.isAgg159
 z55:=Tryz.sizeOf159
 v55:=Tryz.zeroValue159
 t66:=Tryz.underlying204
 a66:=Tryz.isAgg204
 z66:=Tryz.sizeOf204
 v66:=Tryz.zeroValue204
 t70:=Tryz.underlying207
 a70:=Tryz.isAgg207
 z70:=Tryz.sizeOf207
 v70:=Tryz.zeroValue207
 t76:=Tryz.underlying209
 a76:=Tryz.isAgg209
 z76:=Tryz.sizeOf209
 v76:=Tryz.zeroValue209
 t77:=Tryz.underlying95
 a77:=Tryz.isAgg95
 z77:=Tryz.sizeOf95
 v77:=Tryz.zeroValue95
open Go.Sort hiding Below
section
variable {α:Type} [Inhabited α] {enc:α→Value} {w:World} {blk n:Nat} {d:Array α} {os:Array Obj}
theorem Pn:w.heap.size≤(sortWorld enc w blk 0 n d os).heap.size:=by
 unfold sortWorld putRow mapBlock grow Go.Sort.ahead;simp
theorem yR {c:Nat}(hc:c<w.heap.size)(h:c≠blk):(sortWorld enc w blk 0 n d os).heap[c]? =w.heap[c]? :=by
 unfold sortWorld putRow mapBlock grow Go.Sort.ahead;have h':¬blk=c:=fun e=>h e.symm;rw [Array.getElem?_append_left (by simpa using hc),Array.getElem?_modify,if_neg h']
theorem zbh {A:Array Value}{e:TypeId}{f:Nat × Nat}(h:w.heap[blk]? =some (.cells A e f)):(sortWorld enc w blk 0 n d os).heap[blk]? =some (.cells (putCells enc 0 d A) e f):=by
 unfold sortWorld putRow mapBlock grow Go.Sort.ahead;rw [Array.getElem?_append_left (by simpa using lt_of_heap h),Array.getElem?_modify,if_pos rfl,h];rfl
theorem Kg:w.grownBy (sortWorld enc w blk 0 n d os) (some blk):=⟨rfl,rfl,rfl,Pn,fun i hi hr=>yR hi fun e=>hr (by rw [e])⟩
theorem Ei {base cap:Nat}{xs ys:List Int}(h:bD w base (.slice (some ⟨blk,0,none⟩) xs.length cap) xs)(hd:d.size=xs.length)(hl:ys.length=xs.length)(he:∀i (hi:i<ys.length),enc d[i]! = .int .i64 ys[i]):bD (sortWorld enc w blk 0 n d os) base (.slice (some ⟨blk,0,none⟩) ys.length cap) ys:=by
 obtain⟨hl0,h | ⟨g,cap,cur,hv,hb,hg,hl',hm,hs,ht⟩⟩:=h
 ·cases h.1
 cases hv;refine⟨by simp [iv],.inr ⟨blk,cap,putCells enc 0 d cur,rfl,hb,zbh hg,by rw [hl];exact hl',hm,by unfold putCells;rw [Array.size_mapIdx];exact hs,?_⟩⟩;have hcs:ys.length≤cur.size:=by
  have:=congrArg List.length ht;simp [iv]at this;omega
 apply List.ext_getElem?;intro i;by_cases hi:i<ys.length
 ·have h1:i<d.size:=om;have h2:i<cur.size:=om;have h3:=he i hi;rw [getElem!_pos d i h1]at h3;simp [putCells,iv,List.getElem?_take,hi,h1,h2];exact h3
 rw [List.getElem?_eq_none (by simp;omega),List.getElem?_eq_none (by simp [iv];omega)]
theorem Gy {base cap:Nat}{xs:List Int}(h:bD w base (.slice (some ⟨blk,0,none⟩) xs.length cap) xs)(hd:d.size=xs.length)(he:∀i (hi:i<xs.length),enc d[i]! = .int .i64 xs[i]):Holds enc w blk 0 d:=by
 intro j hj;obtain⟨hl0,h | ⟨g,cap,cur,hv,hb,hg,hl',hm,hs,ht⟩⟩:=h
 ·cases h.1
 cases hv;have hj':j<xs.length:=om;have h1:(iv xs)[j]? =some (.int .i64 xs[j]):=by simp [iv,hj']
 rw [← ht,List.getElem?_take]at h1;have h2:j<xs.length*1:=om;rw [if_pos (by simpa using h2)]at h1;rw [Nat.zero_add,he j hj'];exact⟨cell_of_heap hg (by simpa using h1),aL.free (A:=cur) ⟨_,hg⟩ j⟩
end
theorem Bo (x:Int):∀l,(CZ x l).Perm (x::l)
 | []=>List.Perm.refl _
 | y::l=>by
  unfold CZ;split
  ·exact ((Bo x l).cons y).trans (List.Perm.swap x y l)
  exact List.Perm.refl _
theorem tT:∀l,(gL l).Perm l
 | []=>List.Perm.refl _
 | x::l=>(Bo x _).trans ((tT l).cons x)
theorem Cu (x:Int):∀l,l.Pairwise (fun a b=>b≤a)→(CZ x l).Pairwise fun a b=>b≤a
 | [],_=>by simp [CZ]
 | y::l,h=>by
  rw [List.pairwise_cons]at h;unfold CZ;split
  ·refine List.pairwise_cons.2 ⟨fun z hz=> ?_,Cu x l h.2⟩;rcases List.mem_cons.1 ((Bo x l).mem_iff.1 hz)with rfl | hz
   ·omega
   exact h.1 z hz
  refine List.pairwise_cons.2 ⟨fun z hz=> ?_,List.pairwise_cons.2 h⟩;rcases List.mem_cons.1 hz with rfl | hz
  ·omega
  have:=h.1 z hz;omega
theorem tV:∀l,(gL l).Pairwise fun a b=>b≤a
 | []=>by simp [gL]
 | x::l=>Cu x _ (tV l)
theorem Xv {l m:List Int}(h:m.Perm l)(hs:m.Pairwise fun a b=>b≤a):m=gL l:=
 List.Perm.eq_of_pairwise (fun a b _ _ h1 h2=>om) hs (tV l) (h.trans (tT l).symm)
abbrev SmI:= {x:Int // x.natAbs≤1000000}
instance :Inhabited SmI:=⟨⟨0,dc⟩⟩
def encS (x:SmI):Value:= .int .i64 x.1
def cfS (x y:SmI):Int:=y.1-x.1
theorem ltS (x y:SmI):ltOf cfS x y=decide (y.1<x.1):=by
 unfold ltOf cfS;exact decide_eq_decide.2 om
theorem zdp:SWO (ltOf cfS)where
 irrefl x:=by rw [ltS];simp
 trans x y z h1 h2:=by rw [ltS]at *;simp at *;omega
 ntrans x y z h1 h2:=by rw [ltS]at *;simp at *;omega
theorem MW (x y:Int)(W:World)(hx:x.natAbs≤1000000)(hy:y.natAbs≤1000000):Calls Tryz.prog 98 #[.int .i64 x,.int .i64 y] W fun e w'=>e= .returned (.int .i64 (y-x))∧∃q,w'=W.drewN q:=by
 go_enter Tryz.func98,Tryz.ntmps98;go_wp2;refine bodyPost_ret (by simp [results,Tryz.results98,go_sem];rfl) rfl ?_;exact⟨rfl,0,rfl⟩
theorem Jh (w0 w:World)(b cap:Nat)(xs:List Int)(k0:Keep au w0 w)(h:bD w w0.heap.size (.slice (some ⟨b,0,none⟩) xs.length cap) xs)(hx:∀x∈xs,x.natAbs≤1000000)(hl:xs.length≤100000):Calls Tryz.prog 97 #[.slice (some ⟨b,0,none⟩) xs.length cap,.func (.func 98) #[] #[]] w fun e w'=>e= .returned (.tuple #[])∧bD w' w0.heap.size (.slice (some ⟨b,0,none⟩) xs.length cap) (gL xs)∧Keep au w0 w':=by
 have eg:∀args w,(callFunc 98 args).run Tryz.prog w= .ok (.enter 98 args) w:=enters_of Tryz.func98 kr rfl;let d:Array SmI:=(xs.attach.map fun x=>(⟨x.1,hx x.1 x.2⟩:SmI)).toArray
 have hds:d.size=xs.length:=by simp [d]
 have hdl:d.toList.map Subtype.val=xs:=by simp [d]
 have hdi:∀i (hi:i<xs.length),encS d[i]! = .int .i64 xs[i]:=fun i hi=>by
  rw [getElem!_pos d i om];simp [d,encS]
 have hlt:b<w.heap.size:=by
  obtain⟨A,hA⟩:=gF h (b:=b) rfl;exact lt_of_heap hA
 have hb:w0.heap.size≤b:=bD.block h b rfl;have hcr:CmpReads Tryz.prog 98 #[] encS cfS b 0 d.size w:=fun m os dk hs x y=>MW x.1 y.1 _ x.2 y.2;have hcon:=Any.slices_SortFunc Po encS (fun _=>rfl) cfS zdp 98 #[] b 0 cap d w eg hcr.lays (Gy h hds hdi) hlt om;rw [hds]at hcon;refine hcon.mono ?_;rintro e w' ⟨rfl,d',n,os,hp,hs,rfl⟩;obtain⟨p1,p2,p3⟩:=hp;have hps:d'.size=xs.length:=by rw [p1,hds]
 have hpp:(d'.toList.map Subtype.val).Perm xs:=by
  rw [← hdl];refine List.Perm.map _ ?_;have e1:d'.extract 0 xs.length=d':=by rw [← hps];simp
  have e2:d.extract 0 xs.length=d:=by rw [← hds];simp
  rw [e1,e2]at p3;exact p3
 have hsd:d'.toList.map Subtype.val=gL xs:=by
  refine Xv hpp ?_;rw [List.pairwise_map,List.pairwise_iff_getElem];intro i j hi hj hij;have hi':i<d'.size:=by simpa using hi
  have hj':j<d'.size:=by simpa using hj
  have:=hs i j (Nat.zero_le _) hij om;rw [ltS,getElem!_pos d' i hi',getElem!_pos d' j hj',decide_eq_false_iff_not]at this;simp only [Array.getElem_toList];omega
 refine⟨rfl,?_,(k0.grown Kg fun k hk=>by cases hk;exact hb)⟩;have hsl:(gL xs).length=xs.length:=(tT xs).length_eq;have:=Ei (n:=n) (os:=os) (enc:=encS) (d:=d') (ys:=gL xs) h hps hsl fun i hi=>by
  rw [getElem!_pos d' i om];unfold encS;congr 1;have:(gL xs)[i]=(d'.toList.map Subtype.val)[i]'(by rw [hsd];exact hi):=by simp only [hsd]
  rw [this];simp
 rwa [hsl]at this
structure Ck (sl e:TypeId)(k:Nat):Prop where
 app:∀(w:World) (base:Nat) (v:Value) (n:Nat) (xs:List Value) (b:Nat) (cs:List Value),w.ownsRow base e k v n xs→aL w b cs.toArray→cs.length=k→(∀u∈cs,u.oneCell'=true)→n≤100000→base≤w.heap.size→
  ∃v' w',(Builtin.append_ #[sl,sl] sl #[v,.slice (some ⟨b,0,none⟩) 1 1]).run Tryz.prog w= .ok v' w'∧w'.ownsRow base e k v' (n+1) (xs++cs)∧w.grownBy w' v.ownBlock∧(v'.ownBlock=v.ownBlock∨v'.ownBlock=some w.heap.size)
theorem Fw {sl e:TypeId}{k bytes:Nat}{i:TypeInfo}{z:Value}(hu:Tryz.prog.underlying sl=some (.slice e))(hi:Tryz.prog.info? e=some i)(hz:i.zero=some z)(hs:i.size=k)(hb:i.bytes=bytes)(hzs:z.cells.size=k)(h0:0<k)(hby:bytes≤1000):Ck sl e k:=⟨fun w base v n xs b cs hown hbk hl h1 hn hbase=>by
 obtain⟨v',w',hr,ho,hg,_,hv⟩:=run_append_own_at (P:=Tryz.prog) w base sl sl e i z k bytes hu hi hz hs hb hzs h0 v n xs hown ⟨b,0,none⟩ 1 1 cs (by rw [hl,Nat.one_mul])
  (fun j u hj=>by rw [add_plain,Nat.zero_add,hbk.cell j];simpa using hj) h1 (by unfold maxLen;omega) (by have:=Nat.mul_le_mul (show n+1≤100001 from om) hby;omega) hbase
 exact⟨v',w',hr,ho,hg,hv⟩⟩
theorem Dl:Ck 38 TI 1:=by
 obtain⟨i0,hi0,hz0,hz1,hz2⟩:=info_parts J5;exact Fw Tryz.underlying38 hi0 hz0 hz1 hz2 rfl dc dc
theorem Pp:Ck 25 TF 2:=by
 obtain⟨i0,hi0,hz0,hz1,hz2⟩:=info_parts zae;exact Fw Tryz.underlying25 hi0 hz0 hz1 hz2 rfl dc dc
theorem Ql:Ck 22 nN 3:=by
 obtain⟨i0,hi0,hz0,hz1,hz2⟩:=info_parts WO;exact Fw Tryz.underlying22 hi0 hz0 hz1 hz2 rfl dc dc
theorem DV {w:World}{base base':Nat}{e e':TypeId}{k k' n n':Nat}{v v':Value}{xs xs':List Value}(h:w.ownsRow base e k v n xs)(h':w.ownsRow base' e' k' v' n' xs')(he:e≠e'):∀b,v.ownBlock=some b→v'.ownBlock≠some b:=fun b hb hb'=>by
 obtain⟨A,e1⟩:=gF h hb;obtain⟨B,e2⟩:=gF h' hb';rw [e1]at e2;exact he (Obj.cells.inj (Option.some.inj e2)).2.1
theorem uy {w w':World}{base:Nat}{e:TypeId}{k n:Nat}{v:Value}{xs:List Value}{row:Option Nat}(h:w.ownsRow base e k v n xs)(hg:w.grownBy w' row)(hr:∀b,v.ownBlock=some b→row≠some b):w'.ownsRow base e k v n xs:=by
 obtain⟨hl,h | ⟨g,cap,cur,hv,hb,hgg,hl',hm,hs,ht⟩⟩:=h
 ·exact ⟨hl,.inl h⟩
 exact⟨hl,.inr ⟨g,cap,cur,hv,hb,by rw [hg.block g (lt_of_heap hgg) (fun e=>hr g (by rw [hv];rfl) e.symm)];exact hgg,hl',hm,hs,ht⟩⟩
theorem fD {w w':World}{base:Nat}{e:TypeId}{k n:Nat}{v:Value}{xs:List Value}(h:w.ownsRow base e k v n xs)(kk:Keep au w w'):w'.ownsRow base e k v n xs:=by
 obtain⟨hl,h | ⟨g,cap,cur,hv,hb,hgg,hl',hm,hs,ht⟩⟩:=h
 ·exact ⟨hl,.inl h⟩
 exact⟨hl,.inr ⟨g,cap,cur,hv,hb,by rw [kk.block g (lt_of_heap hgg) fun _ h=>h];exact hgg,hl',hm,hs,ht⟩⟩
structure kM (w0:World)(eA kA nA eB kB nB:Nat)(vA vB:Value)(xA cA xB cB:List Value)(g:Nat)(TG:TypeId)(arr:Value→Value→Array Value)(gx:Nat)(ox:Obj)(bA aA bB aB s1 s2:Bool)(G9 DJ He DK:Value)(w:World):Prop where
 k:Keep au w0 w
 a0:aA=false→w.ownsRow w0.heap.size eA kA vA nA xA
 a1:aA=true→w.ownsRow w0.heap.size eA kA DJ (nA+1) (xA++cA)
 b0:aB=false→w.ownsRow w0.heap.size eB kB vB nB xB
 b1:aB=true→w.ownsRow w0.heap.size eB kB DK (nB+1) (xB++cB)
 pa:bA=true→aA=false→∃b,G9= .slice (some ⟨b,0,none⟩) 1 1∧aL w b cA.toArray∧(aB=false→vB.ownBlock≠some b)
 pb:bB=true→aB=false→∃b,He= .slice (some ⟨b,0,none⟩) 1 1∧aL w b cB.toArray∧(aA=false→vA.ownBlock≠some b)
 blk:w.heap[g]? =some (.cells (arr (cond s1 DJ vA) (cond s2 DK vB)) TG (0,0))
 x:aB=false→w.heap[gx]? =some ox
section
variable {w0 w w':World} {eA kA nA eB kB nB:Nat} {vA vB:Value} {xA cA xB cB:List Value} {g:Nat} {TG:TypeId} {arr:Value→Value→Array Value} {gx:Nat} {ox:Obj} {bA aA bB aB s1 s2:Bool} {G9 DJ He DK:Value}
theorem kM.keep (h:kM w0 eA kA nA eB kB nB vA vB xA cA xB cB g TG arr gx ox bA aA bB aB s1 s2 G9 DJ He DK w)(k:Keep au w w'):kM w0 eA kA nA eB kB nB vA vB xA cA xB cB g TG arr gx ox bA aA bB aB s1 s2 G9 DJ He DK w':=
 ⟨h.k.both k,fun e=>fD (h.a0 e) k,fun e=>fD (h.a1 e) k,fun e=>fD (h.b0 e) k,fun e=>fD (h.b1 e) k,
  fun e1 e2=>by obtain⟨b,h1,h2,h3⟩:=h.pa e1 e2;exact⟨b,h1,h2.keep k,h3⟩,fun e1 e2=>by obtain⟨b,h1,h2,h3⟩:=h.pb e1 e2;exact⟨b,h1,h2.keep k,h3⟩,by rw [k.block g (lt_of_heap h.blk) fun _ h=>h];exact h.blk,fun e=>by rw [k.block gx (lt_of_heap (h.x e)) fun _ h=>h];exact h.x e⟩
theorem EW {base:Nat}{e:TypeId}{k n:Nat}{v:Value}{xs:List Value}(h:w.ownsRow base e k v n xs){b:Nat}(hb:v.ownBlock=some b):base≤b∧b<w.heap.size:=World.ownsRow.lt h b hb
theorem kM.buildA (h:kM w0 eA kA nA eB kB nB vA vB xA cA xB cB g TG arr gx ox bA aA bB aB s1 s2 G9 DJ He DK w)(k:Keep au w w'){b:Nat}(hb:aL w' b cA.toArray)(hn:w.heap.size≤b):kM w0 eA kA nA eB kB nB vA vB xA cA xB cB g TG arr gx ox true aA bB aB s1 s2 (.slice (some ⟨b,0,none⟩) 1 1) DJ He DK w':=by
 have h':=h.keep k;exact⟨h'.k,h'.a0,h'.a1,h'.b0,h'.b1,fun _ _=>⟨b,rfl,hb,fun e hh=>by have:=(EW (h.b0 e) hh).2;omega⟩,h'.pb,h'.blk,h'.x⟩
theorem kM.buildB (h:kM w0 eA kA nA eB kB nB vA vB xA cA xB cB g TG arr gx ox bA aA bB aB s1 s2 G9 DJ He DK w)(k:Keep au w w'){b:Nat}(hb:aL w' b cB.toArray)(hn:w.heap.size≤b):kM w0 eA kA nA eB kB nB vA vB xA cA xB cB g TG arr gx ox bA aA true aB s1 s2 G9 DJ (.slice (some ⟨b,0,none⟩) 1 1) DK w':=by
 have h':=h.keep k;exact⟨h'.k,h'.a0,h'.a1,h'.b0,h'.b1,h'.pa,fun _ _=>⟨b,rfl,hb,fun e hh=>by have:=(EW (h.a0 e) hh).2;omega⟩,h'.blk,h'.x⟩
theorem kM.appA {YV:TypeId}(hap:Ck YV eA kA)(hAB:eA≠eB)(hAG:eA≠TG)(hxA:∀A f,ox≠ .cells A eA f)(hl:cA.length=kA)(h1:∀u∈cA,u.oneCell'=true)(hn:nA≤100000)(h:kM w0 eA kA nA eB kB nB vA vB xA cA xB cB g TG arr gx ox bA aA bB aB s1 s2 G9 DJ He DK w)(hb:bA=true)(ha:aA=false)(hs:s1=false):
  ∃v' w',(Builtin.append_ #[YV,YV] YV #[vA,G9]).run Tryz.prog w= .ok v' w'∧kM w0 eA kA nA eB kB nB vA vB xA cA xB cB g TG arr gx ox bA true bB aB s1 s2 G9 v' He DK w':=by
 obtain⟨b,rfl,hbk,hbv⟩:=h.pa hb ha;obtain⟨v',w',hr,ho,hg,hv⟩:=hap.app w _ vA nA xA b cA (h.a0 ha) hbk hl h1 hn h.k.size;subst hs;refine⟨v',w',hr,h.k.grown hg fun k hk=>(EW (h.a0 ha) hk).1,fun e=>(by cases e),fun _=>ho,fun e=>uy (h.b0 e) hg fun b hb'=>DV (h.b0 e) (h.a0 ha) hAB.symm b hb',fun e=>uy (h.b1 e) hg fun b hb'=>DV (h.b1 e) (h.a0 ha) hAB.symm b hb',fun _ e=>(by cases e),fun e1 e2=> ?_,?_,fun e1=> ?_⟩
 ·obtain ⟨b2,h2,⟨t2,h3⟩,h4⟩:=h.pb e1 e2;exact⟨b2,h2,⟨t2,by rw [hg.block b2 (lt_of_heap h3) fun e=>h4 ha e.symm];exact h3⟩,fun e=>(by cases e)⟩
 ·rw [hg.block g (lt_of_heap h.blk) fun e=> ?_]
  ·exact h.blk
  obtain⟨A,e1⟩:=gF (h.a0 ha) e.symm;rw [h.blk]at e1;exact hAG (Obj.cells.inj (Option.some.inj e1)).2.1.symm
 rw [hg.block gx (lt_of_heap (h.x e1)) fun e=> ?_]
 ·exact h.x e1
 obtain⟨A,e2⟩:=gF (h.a0 ha) e.symm;rw [h.x e1]at e2;exact hxA _ _ (Option.some.inj e2)
theorem kM.appB {YW:TypeId}(hap:Ck YW eB kB)(hAB:eA≠eB)(hBG:eB≠TG)(hl:cB.length=kB)(h1:∀u∈cB,u.oneCell'=true)(hn:nB≤100000)(h:kM w0 eA kA nA eB kB nB vA vB xA cA xB cB g TG arr gx ox bA aA bB aB s1 s2 G9 DJ He DK w)(hb:bB=true)(ha:aB=false)(hs:s2=false):
  ∃v' w',(Builtin.append_ #[YW,YW] YW #[vB,He]).run Tryz.prog w= .ok v' w'∧kM w0 eA kA nA eB kB nB vA vB xA cA xB cB g TG arr gx ox bA aA bB true s1 s2 G9 DJ He v' w':=by
 obtain⟨b,rfl,hbk,hbv⟩:=h.pb hb ha;obtain⟨v',w',hr,ho,hg,hv⟩:=hap.app w _ vB nB xB b cB (h.b0 ha) hbk hl h1 hn h.k.size;subst hs;refine⟨v',w',hr,h.k.grown hg fun k hk=>(EW (h.b0 ha) hk).1,fun e=>uy (h.a0 e) hg fun b hb'=>DV (h.a0 e) (h.b0 ha) hAB b hb',fun e=>uy (h.a1 e) hg fun b hb'=>DV (h.a1 e) (h.b0 ha) hAB b hb',fun e=>(by cases e),fun _=>ho,fun e1 e2=> ?_,fun _ e=>(by cases e),?_,fun e=>(by cases e)⟩
 ·obtain ⟨b2,h2,⟨t2,h3⟩,h4⟩:=h.pa e1 e2;exact⟨b2,h2,⟨t2,by rw [hg.block b2 (lt_of_heap h3) fun e=>h4 ha e.symm];exact h3⟩,fun e=>(by cases e)⟩
 rw [hg.block g (lt_of_heap h.blk) fun e=> ?_]
 ·exact h.blk
 obtain⟨A,e1⟩:=gF (h.b0 ha) e.symm;rw [h.blk]at e1;exact hBG (Obj.cells.inj (Option.some.inj e1)).2.1.symm
theorem kM.set (h:kM w0 eA kA nA eB kB nB vA vB xA cA xB cB g TG arr gx ox bA aA bB aB s1 s2 G9 DJ He DK w)(hAG:eA≠TG)(hBG:eB≠TG)(hg:w0.heap.size≤g){i:Nat}{v:Value}{t1 t2:Bool}(ha:aA=true)(hb:aB=true)(he:(arr (cond s1 DJ vA) (cond s2 DK vB)).setIfInBounds i v=arr (cond t1 DJ vA) (cond t2 DK vB)):kM w0 eA kA nA eB kB nB vA vB xA cA xB cB g TG arr gx ox bA aA bB aB t1 t2 G9 DJ He DK (w.setCell ⟨g,i,none⟩ v):=by
 have hne:∀ {base:Nat} {e:TypeId} {k n:Nat} {u:Value} {xs:List Value},w.ownsRow base e k u n xs→e≠TG→u.ownBlock≠some g:=fun h1 h2 e=>by
  obtain⟨A,e1⟩:=gF h1 e;rw [h.blk]at e1;exact h2 (Obj.cells.inj (Option.some.inj e1)).2.1.symm
 refine⟨iC h.k _ hg,fun e=>(by rw [ha]at e;cases e),fun e=>ownsRow_setCell_other (a:=⟨g,i,none⟩) (h.a1 e) (hne (h.a1 e) hAG) v,fun e=>(by rw [hb]at e;cases e),fun e=>ownsRow_setCell_other (a:=⟨g,i,none⟩) (h.b1 e) (hne (h.b1 e) hBG) v,fun _ e=>(by rw [ha]at e;cases e),fun _ e=>(by rw [hb]at e;cases e),?_,fun e=>(by rw [hb]at e;cases e)⟩;rw [← he];exact heap_setCell_same _ _ h.blk
theorem kM.start (FJ:bA=false)(haA:aA=false)(hbB:bB=false)(haB:aB=false)(h1:s1=false)(h2:s2=false)(h:w0.heap.size≤w.heap.size∧Keep au w0 w∧w.ownsRow w0.heap.size eA kA vA nA xA∧w.ownsRow w0.heap.size eB kB vB nB xB∧w.heap[g]? =some (.cells (arr vA vB) TG (0,0))∧w.heap[gx]? =some ox):kM w0 eA kA nA eB kB nB vA vB xA cA xB cB g TG arr gx ox bA aA bB aB s1 s2 G9 DJ He DK w.drew:=by
 subst FJ haA hbB haB h1 h2;have k:Keep au w w.drew:=(Keep.refl _ _).drew;exact⟨h.2.1.both k,fun _=>fD h.2.2.1 k,fun e=>(by cases e),fun _=>fD h.2.2.2.1 k,fun e=>(by cases e),fun e=>(by cases e),fun e=>(by cases e),h.2.2.2.2.1,fun _=>h.2.2.2.2.2⟩
structure zdq (w0:World)(eA kA nA eB kB nB:Nat)(xA cA xB cB:List Value)(DJ DK:Value)(w:World):Prop where
 k:Keep au w0 w
 a:w.ownsRow w0.heap.size eA kA DJ (nA+1) (xA++cA)
 b:w.ownsRow w0.heap.size eB kB DK (nB+1) (xB++cB)
theorem kM.done (h:kM w0 eA kA nA eB kB nB vA vB xA cA xB cB g TG arr gx ox bA aA bB aB s1 s2 G9 DJ He DK w)(_:bA=true)(ha:aA=true)(_:bB=true)(hb:aB=true):zdq w0 eA kA nA eB kB nB xA cA xB cB DJ DK w:=⟨h.k,h.a1 ha,h.b1 hb⟩
end
theorem dL {w:World}{base:Nat}{e:TypeId}{k n:Nat}{v:Value}{xs:List Value}(h:w.ownsRow base e k v n xs):∃o c,v= .slice o n c:=by
 obtain⟨hl,h | ⟨g,cap,cur,hv,_⟩⟩:=h
 ·exact ⟨none,0,by obtain⟨rfl,h1⟩:=h;first | exact h1 | (rw [h1])⟩
 exact⟨_,cap,hv⟩
end Go.Proofs.YtaiffmebphhdaaaGreat
