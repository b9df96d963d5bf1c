/- Package cut: slices.SortFunc, as the shelf's contract wants it (printed by a tool of the kit). Package cut: integers of one's own, sorted. -/
import Derived.Shelf.SlSortCmp.Whole1
import Derived.Test.YtaiffmebphhdaaaGreatCuAA
namespace Go.Proofs.YtaiffmebphhdaaaGreat
set_option maxRecDepth 100000
set_option linter.unusedSimpArgs false
set_option linter.unusedVariables false
open Go.ChangeShapes Go.WideShapes Go.RowKit
def Me:Go.Shelf.Ren:=⟨fun | 6=>97 | 15=>129 | 14=>128 | 28=>151 | 29=>152 | 20=>143 | 21=>144 | 22=>145 | 23=>146 | 24=>147 | 25=>148 | 26=>149 | 27=>150 | 46=>162 | 47=>163 | 48=>164 | 49=>165 | 50=>166 | 57=>169 | n=>n,fun | 22=>38 | 24=>3 | 25=>155 | 3=>3 | 39=>167 | 0=>0 | 53=>166 | 55=>159 | 4=>4 | 46=>191 | 45=>190 | 50=>148 | 5=>5 | 9=>9 | 66=>204 | 70=>207 | 76=>209 | 77=>95 | n=>n,fun | n=>n⟩
theorem OC:Go.Proofs.SlLaysF.n6 Tryz.prog Me where
 mixed:=by kernel_rfl
 f6:=⟨Tryz.f97.name,by kernel_rfl,Tryz.func97.trans (congrArg some (by kernel_rfl))⟩
 f14:=⟨Tryz.f128.name,by kernel_rfl,Tryz.func128.trans (congrArg some (by kernel_rfl))⟩
 f15:=Tryz.func129.trans (congrArg some (by kernel_rfl))
 f20:=⟨Tryz.f143.name,by kernel_rfl,Tryz.func143.trans (congrArg some (by kernel_rfl))⟩
 f21:=⟨Tryz.f144.name,by kernel_rfl,Tryz.func144.trans (congrArg some (by kernel_rfl))⟩
 f22:=⟨Tryz.f145.name,by kernel_rfl,Tryz.func145.trans (congrArg some (by kernel_rfl))⟩
 f23:=⟨Tryz.f146.name,by kernel_rfl,Tryz.func146.trans (congrArg some (by kernel_rfl))⟩
 f24:=⟨Tryz.f147.name,by kernel_rfl,Tryz.func147.trans (congrArg some (by kernel_rfl))⟩
 f25:=⟨Tryz.f148.name,by kernel_rfl,Tryz.func148.trans (congrArg some (by kernel_rfl))⟩
 f26:=⟨Tryz.f149.name,by kernel_rfl,Tryz.func149.trans (congrArg some (by kernel_rfl))⟩
 f27:=⟨Tryz.f150.name,by kernel_rfl,Tryz.func150.trans (congrArg some (by kernel_rfl))⟩
 f28:=Tryz.func151.trans (congrArg some (by kernel_rfl))
 f29:=Tryz.func152.trans (congrArg some (by kernel_rfl))
 f46:=⟨Tryz.f162.name,by kernel_rfl,Tryz.func162.trans (congrArg some (by kernel_rfl))⟩
 f47:=Tryz.func163.trans (congrArg some (by kernel_rfl))
 f48:=Tryz.func164.trans (congrArg some (by kernel_rfl))
 f49:=⟨Tryz.f165.name,by kernel_rfl,Tryz.func165.trans (congrArg some (by kernel_rfl))⟩
 f50:=⟨Tryz.f166.name,by kernel_rfl,Tryz.func166.trans (congrArg some (by kernel_rfl))⟩
 f57:=⟨Tryz.f169.name,by kernel_rfl,Tryz.func169.trans (congrArg some (by kernel_rfl))⟩
 t0:=Tryz.underlying0
 a0:=Tryz.isAgg0
 z0:=Tryz.sizeOf0
 v0:=Tryz.zeroValue0
 t3:=Tryz.underlying3
 a3:=Tryz.isAgg3
 z3:=Tryz.sizeOf3
 v3:=Tryz.zeroValue3
 t4:=Tryz.underlying4
 a4:=Tryz.isAgg4
 z4:=Tryz.sizeOf4
 v4:=Tryz.zeroValue4
 t5:=Tryz.underlying5
 a5:=Tryz.isAgg5
 z5:=Tryz.sizeOf5
 v5:=Tryz.zeroValue5
 t9:=Tryz.underlying9
 a9:=Tryz.isAgg9
 z9:=Tryz.sizeOf9
 v9:=Tryz.zeroValue9
 t22:=Tryz.underlying38
 a22:=Tryz.isAgg38
 z22:=Tryz.sizeOf38
 v22:=Tryz.zeroValue38
 a24:=Tryz.isAgg3
 z24:=Tryz.sizeOf3
 t25:=Tryz.underlying155
 a25:=Tryz.isAgg155
 z25:=Tryz.sizeOf155
 v25:=Tryz.zeroValue155
 t39:=Tryz.underlying167
 a39:=Tryz.isAgg167
 z39:=Tryz.sizeOf167
 v39:=Tryz.zeroValue167
 t45:=Tryz.underlying190
 a45:=Tryz.isAgg190
 z45:=Tryz.sizeOf190
 v45:=Tryz.zeroValue190
 t46:=Tryz.underlying191
 a46:=Tryz.isAgg191
 z46:=Tryz.sizeOf191
 v46:=Tryz.zeroValue191
 t50:=Tryz.underlying148
 a50:=Tryz.isAgg148
 z50:=Tryz.sizeOf148
 v50:=Tryz.zeroValue148
 t53:=Tryz.underlying166
 a53:=Tryz.isAgg166
 z53:=Tryz.sizeOf166
 v53:=Tryz.zeroValue166
 t55:=Tryz.underlying159
 a55:=Tryz.isAgg159
 z55:=Tryz.sizeOf159
 v55:=Tryz.zeroValue159
 t66:=Tryz.underlying204
 a66:=Tryz.isAgg204
 z66:=Tryz.sizeOf204
 v66:=Tryz.zeroValue204
 t70:=Tryz.underlying207
 a70:=Tryz.isAgg207
 z70:=Tryz.sizeOf207
 v70:=Tryz.zeroValue207
 t76:=Tryz.underlying209
 a76:=Tryz.isAgg209
 z76:=Tryz.sizeOf209
 v76:=Tryz.zeroValue209
 t77:=Tryz.underlying95
 a77:=Tryz.isAgg95
 z77:=Tryz.sizeOf95
 v77:=Tryz.zeroValue95
open Go.Sort hiding Below
section
variable {α:Type} [Inhabited α] {enc:α→Value} {w:World} {blk n:Nat} {d:Array α} {os:Array Obj}
theorem OB:w.heap.size≤(sortWorld enc w blk 0 n d os).heap.size:=by
 unfold sortWorld putRow mapBlock grow Go.Sort.ahead;simp
theorem yO {c:Nat}(hc:c<w.heap.size)(h:c≠blk):(sortWorld enc w blk 0 n d os).heap[c]? =w.heap[c]? :=by
 unfold sortWorld putRow mapBlock grow Go.Sort.ahead;have h':¬blk=c:=fun e=>h e.symm
 rw [Array.getElem?_append_left (by simpa using hc),Array.getElem?_modify,if_neg h']
theorem zaI {A:Array Value}{e:TypeId}{f:Nat × Nat}(h:w.heap[blk]? =some (.cells A e f)):(sortWorld enc w blk 0 n d os).heap[blk]? =some (.cells (putCells enc 0 d A) e f):=by
 unfold sortWorld putRow mapBlock grow Go.Sort.ahead;rw [Array.getElem?_append_left (by simpa using lt_of_heap h),Array.getElem?_modify,if_pos rfl,h]
 rfl
theorem JZ:w.grownBy (sortWorld enc w blk 0 n d os) (some blk):=⟨rfl,rfl,rfl,OB,fun i hi hr=>yO hi fun e=>hr (by rw [e])⟩
theorem Ed {base cap:Nat}{xs ys:List Int}(h:bD w base (.slice (some ⟨blk,0,none⟩) xs.length cap) xs)(hd:d.size=xs.length)(hl:ys.length=xs.length)(he:∀i (hi:i<ys.length),enc d[i]! = .int .i64 ys[i]):bD (sortWorld enc w blk 0 n d os) base (.slice (some ⟨blk,0,none⟩) ys.length cap) ys:=by
 obtain⟨hl0,h | ⟨g,cap,cur,hv,hb,hg,hl',hm,hs,ht⟩⟩:=h
 ·cases h.1
 ·cases hv
  refine⟨by simp [iv],.inr ⟨blk,cap,putCells enc 0 d cur,rfl,hb,zaI hg,by rw [hl];exact hl',hm,by unfold putCells;rw [Array.size_mapIdx];exact hs,?_⟩⟩
  have hcs:ys.length≤cur.size:=by
   have:=congrArg List.length ht;simp [iv]at this;omega
  apply List.ext_getElem?
  intro i
  by_cases hi:i<ys.length
  ·have h1:i<d.size:=by omega
   have h2:i<cur.size:=by omega
   have h3:=he i hi;rw [getElem!_pos d i h1]at h3;simp [putCells,iv,List.getElem?_take,hi,h1,h2];exact h3
  ·rw [List.getElem?_eq_none (by simp;omega),List.getElem?_eq_none (by simp [iv];omega)]
theorem Gs {base cap:Nat}{xs:List Int}(h:bD w base (.slice (some ⟨blk,0,none⟩) xs.length cap) xs)(hd:d.size=xs.length)(he:∀i (hi:i<xs.length),enc d[i]! = .int .i64 xs[i]):Holds enc w blk 0 d:=by
 intro j hj;obtain⟨hl0,h | ⟨g,cap,cur,hv,hb,hg,hl',hm,hs,ht⟩⟩:=h
 ·cases h.1
 ·cases hv
  have hj':j<xs.length:=by omega
  have h1:(iv xs)[j]? =some (.int .i64 xs[j]):=by simp [iv,hj']
  rw [← ht,List.getElem?_take]at h1;have h2:j<xs.length*1:=by omega
  rw [if_pos (by simpa using h2)]at h1
  rw [Nat.zero_add,he j hj'];exact⟨cell_of_heap hg (by simpa using h1),aL.free (A:=cur) ⟨_,hg⟩ j⟩
end
theorem A9 (x:Int):∀l,(Cn x l).Perm (x::l)
 | []=>List.Perm.refl _
 | y::l=>by
  unfold Cn
  split
  ·exact ((A9 x l).cons y).trans (List.Perm.swap x y l)
  ·exact List.Perm.refl _
theorem xW:∀l,(iH l).Perm l
 | []=>List.Perm.refl _
 | x::l=>(A9 x _).trans ((xW l).cons x)
theorem Ci (x:Int):∀l,l.Pairwise (fun a b=>b≤a)→(Cn x l).Pairwise fun a b=>b≤a
 | [],_=>by simp [Cn]
 | y::l,h=>by
  rw [List.pairwise_cons]at h;unfold Cn
  split
  ·refine List.pairwise_cons.2 ⟨fun z hz=> ?_,Ci x l h.2⟩
   rcases List.mem_cons.1 ((A9 x l).mem_iff.1 hz)with rfl | hz
   ·omega
   ·exact h.1 z hz
  ·refine List.pairwise_cons.2 ⟨fun z hz=> ?_,List.pairwise_cons.2 h⟩
   rcases List.mem_cons.1 hz with rfl | hz
   ·omega
   ·have:=h.1 z hz;omega
theorem zP:∀l,(iH l).Pairwise fun a b=>b≤a
 | []=>by simp [iH]
 | x::l=>Ci x _ (zP l)
theorem VK {l m:List Int}(h:m.Perm l)(hs:m.Pairwise fun a b=>b≤a):m=iH l:=
 List.Perm.eq_of_pairwise (fun a b _ _ h1 h2=>by omega) hs (zP l) (h.trans (xW l).symm)
abbrev SmI:= {x:Int // x.natAbs≤1000000}
instance :Inhabited SmI:=⟨⟨0,by decide⟩⟩
def encS (x:SmI):Value:= .int .i64 x.1
def cfS (x y:SmI):Int:=y.1-x.1
theorem ltS (x y:SmI):ltOf cfS x y=decide (y.1<x.1):=by
 unfold ltOf cfS;exact decide_eq_decide.2 (by omega)
theorem zcX:SWO (ltOf cfS)where
 irrefl x:=by rw [ltS];simp
 trans x y z h1 h2:=by rw [ltS]at *;simp at *;omega
 ntrans x y z h1 h2:=by rw [ltS]at *;simp at *;omega
theorem Mf (x y:Int)(W:World)(hx:x.natAbs≤1000000)(hy:y.natAbs≤1000000):Calls Tryz.prog 98 #[.int .i64 x,.int .i64 y] W fun e w'=>e= .returned (.int .i64 (y-x))∧∃q,w'=W.drewN q:=by
 go_enter Tryz.func98,Tryz.ntmps98;go_wp2;refine bodyPost_ret (by simp [results,Tryz.results98,go_sem];rfl) rfl ?_
 exact⟨rfl,0,rfl⟩
theorem Je (w0 w:World)(b cap:Nat)(xs:List Int)(k0:Keep au w0 w)(h:bD w w0.heap.size (.slice (some ⟨b,0,none⟩) xs.length cap) xs)(hx:∀x∈xs,x.natAbs≤1000000)(hl:xs.length≤100000):Calls Tryz.prog 97 #[.slice (some ⟨b,0,none⟩) xs.length cap,.func (.func 98) #[] #[]] w fun e w'=>e= .returned (.tuple #[])∧bD w' w0.heap.size (.slice (some ⟨b,0,none⟩) xs.length cap) (iH xs)∧Keep au w0 w':=by
 have eg:∀args w,(callFunc 98 args).run Tryz.prog w= .ok (.enter 98 args) w:=enters_of Tryz.func98 (by kernel_rfl) rfl
 let d:Array SmI:=(xs.attach.map fun x=>(⟨x.1,hx x.1 x.2⟩:SmI)).toArray
 have hds:d.size=xs.length:=by simp [d]
 have hdl:d.toList.map Subtype.val=xs:=by simp [d]
 have hdi:∀i (hi:i<xs.length),encS d[i]! = .int .i64 xs[i]:=fun i hi=>by
  rw [getElem!_pos d i (by omega)]
  simp [d,encS]
 have hlt:b<w.heap.size:=by
  obtain⟨A,hA⟩:=iy h (b:=b) rfl;exact lt_of_heap hA
 have hb:w0.heap.size≤b:=bD.block h b rfl;have hcr:CmpReads Tryz.prog 98 #[] encS cfS b 0 d.size w:=fun m os dk hs x y=>Mf x.1 y.1 _ x.2 y.2
 have hcon:=Any.slices_SortFunc OC encS (fun _=>rfl) cfS zcX 98 #[] b 0 cap d w eg hcr.lays (Gs h hds hdi) hlt (by omega)
 rw [hds]at hcon;refine hcon.mono ?_;rintro e w' ⟨rfl,d',n,os,hp,hs,rfl⟩;obtain⟨p1,p2,p3⟩:=hp;have hps:d'.size=xs.length:=by rw [p1,hds]
 have hpp:(d'.toList.map Subtype.val).Perm xs:=by
  rw [← hdl];refine List.Perm.map _ ?_;have e1:d'.extract 0 xs.length=d':=by rw [← hps];simp
  have e2:d.extract 0 xs.length=d:=by rw [← hds];simp
  rw [e1,e2]at p3;exact p3
 have hsd:d'.toList.map Subtype.val=iH xs:=by
  refine VK hpp ?_;rw [List.pairwise_map,List.pairwise_iff_getElem];intro i j hi hj hij;have hi':i<d'.size:=by simpa using hi
  have hj':j<d'.size:=by simpa using hj
  have:=hs i j (Nat.zero_le _) hij (by omega)
  rw [ltS,getElem!_pos d' i hi',getElem!_pos d' j hj',decide_eq_false_iff_not]at this;simp only [Array.getElem_toList];omega
 refine⟨rfl,?_,(k0.grown JZ fun k hk=>by cases hk;exact hb)⟩
 have hsl:(iH xs).length=xs.length:=(xW xs).length_eq;have:=Ed (n:=n) (os:=os) (enc:=encS) (d:=d') (ys:=iH xs) h hps hsl fun i hi=>by
  rw [getElem!_pos d' i (by omega)]
  unfold encS
  congr 1
  have:(iH xs)[i]=(d'.toList.map Subtype.val)[i]'(by rw [hsd];exact hi):=by simp only [hsd]
  rw [this];simp
 rwa [hsl]at this
end Go.Proofs.YtaiffmebphhdaaaGreat
