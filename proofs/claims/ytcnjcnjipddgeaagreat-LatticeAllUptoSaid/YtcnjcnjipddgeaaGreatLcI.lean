/- Package lattice's Do: what it is to do. -/
import Derived.Test.YtcnjcnjipddgeaaGreatLcH
import Derived.Test.YtcnjcnjipddgeaaGreatFqO
namespace Go.Proofs.YtcnjcnjipddgeaaGreat
set_option linter.unusedSimpArgs false
set_option linter.unusedVariables false
open Go.ChangeShapes Go.WideShapes Go.RowKit
structure LQok (n m:Nat)(S:LQ):Prop where
 c:S.cols.length=n
 k:S.piv.length≤n
 p:S.part.length=S.piv.length
 f:S.fs.length=S.piv.length
 l:∀l∈S.fs,l.length=m
theorem stepR_ok {n m f i:Nat}{tt:Rat}{S S':LQ}(h:stepR n m f i tt S=some (none,S'))(hs:LQok n m S):LQok n m S':=by
 obtain⟨_,b,c,hc,_,h1,h2,h3,h4⟩:=stepR_out h;have hcl:c.length=n:=(clearR_len hc).trans hs.c
 cases b
 ·by_cases e:(restK S m i tt S.piv.length).1=0
  ·have:=h1 rfl e
   cases this
   exact⟨hcl,hs.k,hs.p,hs.f,hs.l⟩
  ·have:=h2 rfl e
   cases this
 ·by_cases e:((restK S m i tt S.piv.length).1*(1/cellQ c S.piv.length i)).den=1
  ·have:=h3 rfl e
   cases this
   have hne:=clearR_ne hs.c hc;have hk:S.piv.length<n:=by
    rcases Nat.lt_or_ge S.piv.length n with h | h
    ·exact h
    ·exfalso
     apply hne
     unfold cellQ;rw [List.getD_eq_getElem?_getD (l:=c),List.getElem?_eq_none (by omega)]
     rfl
   refine⟨hcl,by simp;omega,by simp [hs.p],by simp [hs.f],fun l hl=> ?_⟩
   rcases List.mem_append.1 hl with hl | hl
   ·exact hs.l l hl
   ·rw [List.mem_singleton.1 hl,List.length_map]
    exact restK_len _
  ·have:=h4 rfl e
   cases this
def runS (n m f:Nat)(rows:List Rw):Nat→Nat→LQ→Option (Option (List Rat) × LQ)
 | 0,_,S=>some (none,S)
 | l+1,i,S=>match stepR n m f i (((rows.getD i ⟨[],0,0⟩).to:Int):Rat) S with
  | none=>none
  | some (some w,S')=>some (some w,S')
  | some (none,S')=>runS n m f rows l (i+1) S'
theorem runS_succ {n m f l i:Nat}{rows:List Rw}{S:LQ}{r:Option (List Rat) × LQ}(h:runS n m f rows (l+1) i S=some r):
  ∃o,stepR n m f i (((rows.getD i ⟨[],0,0⟩).to:Int):Rat) S=some o∧((∃w S',o=(some w,S')∧r=(some w,S'))∨(∃S',o=(none,S')∧runS n m f rows l (i+1) S'=some r)):=by
 simp only [runS]at h
 split at h
 ·cases h
 ·rename_i w S' he
  exact⟨_,he,.inl ⟨w,S',rfl,(Option.some.inj h).symm⟩⟩
 ·rename_i S' he
  exact⟨_,he,.inr ⟨S',rfl,h⟩⟩
def startL (rows:List Rw)(n:Nat):LQ:=⟨(List.range n).map (colQ rows n),[],[],[]⟩
theorem startL_ok {rows:List Rw}{n:Nat}:LQok n rows.length (startL rows n):=⟨by simp [startL],Nat.zero_le _,rfl,rfl,by simp [startL]⟩
def ptS (S:LQ)(m i:Nat):Nat→Rat
 | 0=>0
 | k+1=>ptS S m i k+cellQ S.cols k (m+i)*S.part.getD k 0
def ptLL (S:LQ)(n m k:Nat):List Rat:=(List.range n).map fun i=>ptS S m i k
def ptJ (S:LQ)(n m k j:Nat):List Rat:=(List.range n).map fun i=>if i<j then ptS S m i (k+1)else ptS S m i k
theorem ptLL_len {S:LQ}{n m k:Nat}:(ptLL S n m k).length=n:=by simp [ptLL]
theorem ptJ_len {S:LQ}{n m k j:Nat}:(ptJ S n m k j).length=n:=by simp [ptJ]
theorem ptLL_zero {S:LQ}{n m:Nat}:ptLL S n m 0=List.replicate n 0:=by
 apply List.ext_getElem
 ·simp [ptLL]
 ·intro i h1 h2;simp [ptLL,ptS]
theorem ptJ_zero {S:LQ}{n m k:Nat}:ptJ S n m k 0=ptLL S n m k:=by
 unfold ptJ ptLL;simp
theorem ptJ_all {S:LQ}{n m k:Nat}:ptJ S n m k n=ptLL S n m (k+1):=by
 unfold ptJ ptLL
 apply List.map_congr_left
 intro i hi;rw [if_pos (List.mem_range.1 hi)]
theorem ptJ_at {S:LQ}{n m k j:Nat}(hj:j<n):(ptJ S n m k j)[j]'(by rw [ptJ_len];exact hj)=ptS S m j k:=by simp [ptJ]
theorem ptJ_step {S:LQ}{n m k j:Nat}(hj:j<n):(ptJ S n m k j).set j (ptS S m j k+cellQ S.cols k (m+j)*S.part.getD k 0)=ptJ S n m k (j+1):=by
 apply List.ext_getElem
 ·simp [ptJ]
 ·intro i h1 h2
  rw [List.getElem_set];simp only [ptJ,List.getElem_map,List.getElem_range]
  by_cases e:j=i
  ·subst e
   rw [if_pos rfl,if_pos (Nat.lt_succ_self j)];rfl
  ·rw [if_neg e]
   by_cases h1:i<j
   ·rw [if_pos h1,if_pos (by omega)]
   ·rw [if_neg h1,if_neg (by omega)]
structure DoRes where
 yes:Bool
 at_:List Int
 ways:List (List Int)
 why:List Fq
 much:Bool
def waysQ (S:LQ)(m:Nat):List (List Rat):=(S.cols.drop S.piv.length).map (·.drop m)
def bdW (q:Rat):Bool:=decide (q.num.natAbs<4294967296^4000∧q.den<4294967296^4000)
theorem bdW_nb {q:Rat}(h:bdW q=true):NB 4000 q:=by
 obtain⟨h1,h2⟩:=of_decide_eq_true h;exact⟨dl_le h1,dl_le (by rw [Int.natAbs_natCast];exact h2)⟩
def muchR:DoRes:=⟨false,[],[],[],true⟩
def noR (w:List Rat):DoRes:=if w.all (fun q=>decide (Fits q))=true then⟨false,[],[],w.map fqOf,false⟩else muchR
def yesR (S:LQ)(n m:Nat):DoRes:=if(ptLL S n m S.part.length).all okI=true then(if(waysQ S m).all (·.all okI)=true then⟨true,(ptLL S n m S.part.length).map Rat.num,(waysQ S m).map (·.map Rat.num),[],false⟩else muchR)else muchR
def okY (S:LQ)(n m:Nat):Bool:=bdC S.cols&&S.part.all bdF&&((List.range (S.part.length+1)).all fun k=>(ptLL S n m k).all bdF)&&(List.range S.part.length).all fun k=>(List.range n).all fun j=>bdM (cellQ S.cols k (m+j)) (S.part.getD k 0)
def doR (rows:List Rw)(n f:Nat):Option DoRes:=
 match runS n rows.length f rows rows.length 0 (startL rows n)with
 | none=>none
 | some (some w,_)=>if w.all bdW=true then some (noR w)else none
 | some (none,S)=>if okY S n rows.length=true then some (yesR S n rows.length)else none
theorem okY_parts {S:LQ}{n m:Nat}(h:okY S n m=true):bdC S.cols=true∧(∀q∈S.part,dl q.num≤2850∧dl (q.den:Int)≤12)∧(∀k,k≤S.part.length→∀i,i<n→dl (ptS S m i k).num≤2850∧dl ((ptS S m i k).den:Int)≤12)∧∀k,k<S.part.length→∀j,j<n→dl (cellQ S.cols k (m+j)).num+dl (S.part.getD k 0).num≤2851:=by
 unfold okY at h;rw [Bool.and_eq_true,Bool.and_eq_true,Bool.and_eq_true]at h;obtain⟨⟨⟨h1,h2⟩,h3⟩,h4⟩:=h;refine⟨h1,allF_dl h2,fun k hk i hi=> ?_,fun k hk j hj=> ?_⟩
 ·have:=List.all_eq_true.1 h3 k (List.mem_range.2 (by omega))
  exact allF_dl this _ (by unfold ptLL;exact List.mem_map.2 ⟨i,List.mem_range.2 hi,rfl⟩)
 ·have:=List.all_eq_true.1 (List.all_eq_true.1 h4 k (List.mem_range.2 hk)) j (List.mem_range.2 hj)
  refine bdM_dl this (cellQ_dl h1 _ _).1 ?_;rw [ratZ hk];exact(allF_dl h2 _ (List.getElem_mem _)).1
theorem doR_out {rows:List Rw}{n f:Nat}{R:DoRes}(h:doR rows n f=some R):
  ∃r,runS n rows.length f rows rows.length 0 (startL rows n)=some r∧((∃w S,r=(some w,S)∧(∀q∈w,NB 4000 q)∧R=noR w)∨(∃S,r=(none,S)∧okY S n rows.length=true∧R=yesR S n rows.length)):=by
 unfold doR at h
 rcases hr:runS n rows.length f rows rows.length 0 (startL rows n)with _ | ⟨_ | w,S⟩
 ·rw [hr]at h;cases h
 ·rw [hr]at h
  simp only at h
  split at h
  ·rename_i hc
   exact⟨_,rfl,.inr ⟨S,rfl,hc,(Option.some.inj h).symm⟩⟩
  ·cases h
 ·rw [hr]at h
  simp only at h
  split at h
  ·rename_i hc
   exact⟨_,rfl,.inl ⟨w,S,rfl,fun q hq=>bdW_nb (List.all_eq_true.1 hc q hq),(Option.some.inj h).symm⟩⟩
  ·cases h
theorem YS.ready {w0 w:World}{bY n L:Nat}{vr vc:Value}{xs:List ColV}(h:YS w0 w bY vr n vc xs)(hl:xs.length=n)(h0:0<n)(hq:∀x∈xs,x.q.length=L):∃gc cc,YC w0 w w.heap.size bY gc vr n L cc xs:=by
 obtain⟨hll,h' | ⟨g,cap,cur,hv,hb,hg,hl',hm,hs,ht⟩⟩:=h.c
 ·exact absurd h'.2 (by omega)
 ·have hgl:=lt_of_heap hg
  have hvo:vc.ownBlock=some g:=by rw [hv];rfl
  refine⟨g,cap,⟨h.k,Nat.le_refl _,by have:=h.y;rw [hv,hl]at this;exact this,hl,hq,?_,⟨by omega,hm⟩,fun x hx=>⟨(h.r x hx).1,(h.r x hx).2,(h.r x hx).1.lt⟩,?_,fun x hx=>⟨fun e=>(h.xb x hx).1 (by rw [hvo,e]),(h.xb x hx).2⟩,fun e=>h.nb (by rw [hvo,e]),⟨h.own,h.y.lt,hb,hgl⟩⟩⟩
  ·refine ⟨cur,⟨_,hg⟩,fun i hi=> ?_⟩
   have h1:=flat_get colC_len xs i xs[i] (List.getElem?_eq_getElem hi) 0 (by decide)
   rw [← ht,List.getElem?_take,if_pos (by omega),Nat.mul_one,Nat.add_zero]at h1
   rw [← Array.getElem?_toList,h1];rfl
  ·intro i j hi hj hij
   have hd:=h.d
   rcases Nat.lt_or_gt_of_ne hij with h1 | h1
   ·exact List.pairwise_iff_getElem.1 hd i j hi hj h1
   ·exact fun e=>List.pairwise_iff_getElem.1 hd j i hj hi h1 e.symm
theorem SS.none {w:World}{bY:Nat}(t:TypeId){hi:Nat}(hh:hi≤w.heap.size):SS (w.alloc (.cells #[.pointer (some ⟨bY,0,none⟩),.slice none 0 0,.slice none 0 0,.slice none 0 0] t)) hi w.heap.size bY (.slice none 0 0) (.slice none 0 0) (.slice none 0 0) [] [] []:=
 ⟨blk_at _ _ rfl,hh,by simp;omega,OwnI.nil _ _,OwnN.nil _ _,OwnG.nil _ _,by simp,apart_nil _,apart_nil _,apart_nil _,by simp [Value.ownBlock]⟩
theorem NumBlk.tail {w:World}{g:Nat}{qs:List Rat}(h:NumBlk w g qs){m:Nat}(hm:m<qs.length)(hx:qs.length≤maxLen):IsNums w (.slice (some ⟨g,m*4,none⟩) (qs.length-m) (qs.length-m)) (qs.drop m):=by
 have hlt:=h.lt;obtain⟨A,l,hb,hA,hc⟩:=h;refine⟨_,qs.length-m,l.drop m,by rw [List.length_drop],by rw [List.length_drop];exact Nat.le_refl _,by omega,⟨by simp [hA.1],fun i x q h1 h2=>hA.2 (m+i) x q (by rw [List.getElem?_drop]at h1;exact h1) (by rw [List.getElem?_drop]at h2;exact h2)⟩,fun _=>⟨g,m*4,rfl,hlt,fun i x hi=> ?_⟩⟩
 rw [List.getElem?_drop]at hi;obtain⟨c0,c1,c2,c3⟩:=hc (m+i) x hi;rw [show(m+i)*4=m*4+i*4 by omega]at c0 c1 c2 c3
 exact⟨by rw [hb.cell];exact c0,by rw [hb.cell];exact c1,by rw [hb.cell];exact c2,by rw [hb.cell];exact c3⟩
structure WyV where
 sv:Value
 q:List Int
def wyC (x:WyV):List Value:= [x.sv]
theorem wyC_len (x:WyV):(wyC x).length=1:=rfl
abbrev TWY:TypeId:=24
theorem infoWY:(Tryz.prog.info? TWY).map (fun i=>(i.zero,i.size,i.bytes))=some (some (.slice none 0 0),1,24):=by kernel_rfl
def OwnW (w:World)(base:Nat)(v:Value)(ws:List (List Int)):Prop:=∃zs:List WyV,OwnG TWY 1 wyC w base v zs∧zs.map WyV.q=ws∧∀z∈zs,OwnI w base z.sv z.q∧Apart v z.sv
theorem OwnW.nil (w:World)(base:Nat):OwnW w base (.slice none 0 0) []:=⟨[],OwnG.nil _ _,rfl,by simp⟩
theorem OwnW.len {w:World}{base:Nat}{v:Value}{ws:List (List Int)}(h:OwnW w base v ws):∃o c,v= .slice o ws.length c∧ws.length≤c∧c≤maxLen:=by
 obtain⟨zs,h1,rfl,_⟩:=h;rw [List.length_map];exact h1.len
theorem OwnW.keep {w w':World}{base:Nat}{v:Value}{ws:List (List Int)}(h:OwnW w base v ws)(k:Keep NoS w w'):OwnW w' base v ws:=by
 obtain⟨zs,h1,h2,h3⟩:=h;exact⟨zs,h1.keep k,h2,fun z hz=>⟨(h3 z hz).1.keep k,(h3 z hz).2⟩⟩
theorem OwnW.block {w:World}{base:Nat}{v:Value}{ws:List (List Int)}(h:OwnW w base v ws):∀k,v.ownBlock=some k→base≤k:=by
 obtain⟨zs,h1,_⟩:=h;exact h1.block
theorem OwnW.off {w w':World}{base:Nat}{v:Value}{ws:List (List Int)}(h:OwnW w base v ws)(ho:∀b,b<w.heap.size→base≤b→w'.heap[b]? =w.heap[b]?):OwnW w' base v ws:=by
 obtain⟨zs,h1,h2,h3⟩:=h;exact⟨zs,ownsRow_sameZ h1 fun k hk=>ho k (h1.lt k hk) (h1.block k hk),h2,fun z hz=>⟨ownsRow_sameZ (h3 z hz).1 fun k hk=>ho k ((h3 z hz).1.ltZ k hk) ((h3 z hz).1.block k hk),(h3 z hz).2⟩⟩
theorem OwnW.app {w:World}{base:Nat}{v:Value}{ws:List (List Int)}(h:OwnW w base v ws){u:Value}{l:List Int}(hu:OwnI w base u l)(ha:∀k,v.ownBlock=some k→u.ownBlock≠some k){b:Nat}(hb:Blk w b #[u])(h1:u.oneCell'=true)(hl:ws.length≤1000)(hbase:base≤w.heap.size):
  ∃v' w',(Builtin.append_ #[25,25] 25 #[v,.slice (some ⟨b,0,none⟩) 1 1]).run Tryz.prog w= .ok v' w'∧OwnW w' base v' (ws++ [l])∧w.grownBy w' v.ownBlock:=by
 obtain⟨zs,h2,rfl,h3⟩:=h;rw [List.length_map]at hl;obtain⟨i0,hi0,hz0,hz1,hz2⟩:=info_parts infoWY;obtain⟨v',w',hr,ho,hg,hv⟩:=OwnG.app wyC_len Tryz.underlying25 hi0 hz0 hz1 hz2 rfl (by decide) h2 (x:=⟨u,l⟩) hb (by
  intro y hy;simp [wyC]at hy;subst hy;exact h1) (by unfold maxLen;omega) (by omega) hbase
 have hblk:∀k,k<w.heap.size→v.ownBlock≠some k→w'.heap[k]? =w.heap[k]? :=fun k hk hn=>hg.block k hk fun e=>hn e.symm
 refine⟨v',w',hr,⟨zs++ [⟨u,l⟩],ho,by simp,fun z hz=> ?_⟩,hg⟩
 rcases List.mem_append.1 hz with hz | hz
 ·obtain ⟨a1,a2⟩:=h3 z hz
  exact⟨ownsRow_sameZ a1 fun k hk=>hblk k (a1.ltZ k hk) fun e=>a2 k e hk,fun k hk e=>grown_apart (w:=w) (w':=w') h2.lt hv (a1.ltZ k e) (fun e'=>a2 k e' e) hk⟩
 ·rw [List.mem_singleton.1 hz]
  exact⟨ownsRow_sameZ hu fun k hk=>hblk k (hu.ltZ k hk) fun e=>ha k e hk,fun k hk e=>grown_apart (w:=w) (w':=w') h2.lt hv (hu.ltZ k e) (fun e'=>ha k e' e) hk⟩
end Go.Proofs.YtcnjcnjipddgeaaGreat
