/- What the walks are told of arguments that are slices of integers. A block that holds integers: a []int of the program's own. slices.Reverse over it. Appending: what the walks need, for whatever element type. Rows of the call's own; integers. What the walks are told of arguments that are rows. A block that holds a row of n cells of one element type, told as a function of the place. Numbers in digits of 32 bits, told as functions of the place: plain arithmetic. umpiragewide.sumOf, lessOf: digits added, taken off. The wide numbers' Add, Sub. The wide numbers' Mul. The wide fractions' Add, Neg, Sub, Mul, Inv, Quo, Sign, Cmp; NewRat: under whatever bound SetFrac holds. The wide whole numbers' Cmp, DivMod, Div, Mod: under whatever bound QuoRem holds. The reference's FracRight, Rat; what they answer. -/
import Derived.Test.YtmepglhdcphffaaGreatBaseA
import Derived.Maps.AppendAt
import Derived.Deep.AppendLies
import Derived.Lib.SmallJoins
import Derived.Lib.OwnKind
import Derived.IntWalk
import Derived.Deep.DeepCutAuto
namespace Go.Proofs.YtmepglhdcphffaaGreat
set_option maxRecDepth 100000
set_option linter.unusedSimpArgs false
set_option linter.unusedVariables false
open Go.ChangeShapes Go.WideShapes Go.ChangeAt Go.RowKit Go.Joins Go.Deep
def aR (w:World)(v:Value)(l:List Int):Prop:=
 ∃oa cap,v= .slice oa l.length cap∧l.length≤maxLen∧(∀x∈l,dA x)∧(l≠ []→∃b o,oa=some ⟨b,o,none⟩∧b<w.heap.size∧∀i x,l[i]? =some x→w.cell? ⟨b,o+i,none⟩=some (.int .i64 x))
theorem zaE {w:World}{b o:Nat}{s:Option Nat}{v:Value}(h:w.cell? ⟨b,o,s⟩=some v):b<w.heap.size:=by
 apply Classical.byContradiction;intro h';rw [World.cell?,Array.getElem?_eq_none (Nat.le_of_not_lt h')]at h;cases h
theorem aR.keep {w w':World}{v:Value}{l:List Int}(h:aR w v l)(k:Keep au w w'):aR w' v l:=by
 obtain⟨oa,cap,h1,h2,h3,h4⟩:=h;refine⟨oa,cap,h1,h2,h3,fun hne=> ?_⟩;obtain⟨b,o,e,hb,hc⟩:=h4 hne;exact⟨b,o,e,bJ hb k.size,fun i x hx=>by rw [k.cell hb];exact hc i x hx⟩
section
variable {H:Type} {enc:TypeId × Value→H} {W:World} {base:Nat} {d:DataW H} {p:List MemPlace} {v:Value}
theorem Y5 (hv:Value.okWide Tryz.prog W .any base 22 v)(h:DataW.Trod enc Tryz.prog W 0 (fun _=>true) true 22 v d p):∃l,aR W v l:=by
 obtain⟨a0,len,cap,rfl⟩:=okWide_slice Tryz.underlying22 hv;obtain⟨fuel,hf⟩:=h;rcases open_ints Tryz.underlying22 Tryz.underlying3 kr hf with⟨hcs,_⟩ | ⟨a,len',cap',zs,hcs,_,hl,hm,hz,_,hc,hwf⟩
 ·simp [Value.cells]at hcs;obtain⟨rfl,rfl,rfl⟩:=hcs;exact⟨[],none,0,rfl,sm,sm,fun h=>absurd rfl h⟩
 simp [Value.cells]at hcs;obtain⟨rfl,rfl,rfl⟩:=hcs;simp at hz;refine⟨zs.take len,some a,cap,by rw [List.length_take];congr 1;omega,by rw [List.length_take];omega,fun x hx=>Sy (hwf x (List.mem_of_mem_take hx)),fun hne=> ?_⟩;have hp:0<zs.length:=by
  rcases zs with _ | ⟨z,zs⟩
  ·simp at hne
  simp
 obtain⟨b,off,rfl,hq⟩:=ints_at hc hp;have hx:∀i x,(zs.take len)[i]? =some x→W.cell? ⟨b,off+i,none⟩=some (.int .i64 x):=by
  intro i x hx;obtain⟨hi,hx⟩:=List.getElem?_eq_some_iff.1 hx;rw [List.length_take]at hi;rw [hq i om,dV,eD om];rw [List.getElem_take]at hx;simp [hx]
 exact⟨b,off,rfl,zaE (hq 0 hp),hx⟩
end
theorem aR.at {w:World}{v:Value}{l:List Int}(h:aR w v l){k:Nat}(hk:k<l.length):∃b o cap,v= .slice (some ⟨b,o,none⟩) l.length cap∧b<w.heap.size∧w.cell? ⟨b,o+k,none⟩=some (.int .i64 l[k]):=by
 obtain⟨oa,cap,h1,h2,h3,h4⟩:=h;obtain⟨b,o,rfl,hb,hc⟩:=h4 (by rintro rfl;simp at hk);exact⟨b,o,cap,h1,hb,hc k _ (eD hk)⟩
theorem aR.form {w:World}{v:Value}{l:List Int}(h:aR w v l){n:Nat}(hn:n=l.length):∃oa cap,v= .slice oa n cap:=by
 obtain⟨oa,cap,rfl,_⟩:=h;exact⟨oa,cap,by rw [hn]⟩
theorem aR.same {w w':World}{v:Value}{l:List Int}(h:aR w v l)(hc:∀a,w'.cell? a=w.cell? a)(hs:w.heap.size≤w'.heap.size):aR w' v l:=by
 obtain⟨oa,cap,h1,h2,h3,h4⟩:=h;refine⟨oa,cap,h1,h2,h3,fun hne=> ?_⟩;obtain⟨b,o,e,hb,hq⟩:=h4 hne;exact⟨b,o,e,om,fun i x hx=>by rw [hc];exact hq i x hx⟩
open Go.ChangeShapes Go.WideShapes Go.RowKit
def bW (w:World)(g:Nat)(xs:List Int):Prop:=∃A:Array Value,aL w g A∧∀i,i<xs.length→A[i]? =some (.int .i64 (xs.getD i 0))
theorem bW.lt {w:World}{g:Nat}{xs:List Int}(h:bW w g xs):g<w.heap.size:=by obtain⟨A,h,_⟩:=h;exact h.lt
theorem bW.cell {w:World}{g:Nat}{xs:List Int}(h:bW w g xs){i:Nat}(hi:i<xs.length):w.cell? ⟨g,i,none⟩=some (.int .i64 (xs.getD i 0)):=by
 obtain⟨A,h,hA⟩:=h;rw [h.cell i];exact hA i hi
theorem bW.free {w:World}{g:Nat}{xs:List Int}(h:bW w g xs)(i:Nat):w.frozen? ⟨g,i,none⟩=false:=by
 obtain⟨A,h,hA⟩:=h;exact h.free i
theorem bW.keep {w w':World}{g:Nat}{xs:List Int}(h:bW w g xs)(k:Keep au w w'):bW w' g xs:=by
 obtain⟨A,h,hA⟩:=h;exact⟨A,h.keep k,hA⟩
theorem bW.old {w:World}{g:Nat}{xs:List Int}(h:bW w g xs)(o:Obj):bW (w.alloc o) g xs:=by
 obtain⟨A,h,hA⟩:=h;exact⟨A,h.old o,hA⟩
theorem aL.set {w:World}{g:Nat}{A:Array Value}(h:aL w g A)(i:Nat)(v:Value):aL (w.setCell ⟨g,i,none⟩ v) g (A.setIfInBounds i v):=by
 obtain⟨t,h⟩:=h;exact⟨t,Go.Joins.block_setCell h v⟩
theorem aL.setOther {w:World}{g g':Nat}{A:Array Value}(h:aL w g A)(i:Nat)(v:Value)(hne:g≠g'):aL (w.setCell ⟨g',i,none⟩ v) g A:=by
 obtain⟨t,h⟩:=h;exact⟨t,by rw [heap_setCell_other _ _ _ _ hne];exact h⟩
theorem bW.set {w:World}{g:Nat}{xs:List Int}(h:bW w g xs){i:Nat}(v:Int):bW (w.setCell ⟨g,i,none⟩ (.int .i64 v)) g (xs.set i v):=by
 obtain⟨A,h,hA⟩:=h;refine⟨_,h.set i _,fun j hj=> ?_⟩;rw [List.length_set]at hj;have hjA:j<A.size:=by
  have:=hA j hj;exact(Array.getElem?_eq_some_iff.1 this).1
 rw [Array.getElem?_setIfInBounds,dV,List.getElem?_set];by_cases hij:i=j
 ·subst hij;simp [hjA,hj]
 simp only [hij,if_false];rw [hA j hj,dV]
theorem bW.setOther {w:World}{g g':Nat}{xs:List Int}(h:bW w g xs)(i:Nat)(v:Value)(hne:g≠g'):bW (w.setCell ⟨g',i,none⟩ v) g xs:=by
 obtain⟨A,h,hA⟩:=h;exact⟨A,h.setOther i v hne,hA⟩
theorem bW.ints {w:World}{g:Nat}{xs:List Int}(h:bW w g xs)(cap:Nat)(hl:xs.length≤maxLen)(hx:∀x∈xs,dA x):aR w (.slice (some ⟨g,0,none⟩) xs.length cap) xs:=by
 refine⟨_,cap,rfl,hl,hx,fun _=>⟨g,0,rfl,h.lt,fun i x hi=> ?_⟩⟩;obtain⟨hq,rfl⟩:=List.getElem?_eq_some_iff.1 hi;have:=h.cell hq;rw [dV,eD hq]at this;simpa using this
theorem aV {P:Program}{w w':World}{v':Value}{ops:Array Oper}{rest:List Oper}{o:Oper}{a:Act}{Q:Exit→Act→World→Prop}(s x:Operand)(t:TypeId)(v u:Value)(hgd:o.guard=none)
  (ho:o.op= .call {callee:= .builtin .append,args:= #[s,x],argTypes:= #[t,t]}) (hs:a.eval s=v) (hx:a.eval x=u) (hrun:(Builtin.append_ #[t,t] o.type #[v,u]).run P w= .ok v' w')
  (h:wpList P ops Q rest (a.put o.dst v') w'):wpList P ops Q (o::rest) a w:=by
 refine wpList_plain hgd fun K hK=> ?_;unfold Oper.wp execOp;simp only [ho,resolve,invoke,builtin,Sem.run_bind,Sem.run_pure,Result.andThen_ok,List.map_toArray,List.map_cons,List.map_nil,hs,hx,hrun];exact hK _ _ h
theorem dn {P:Program}{w w':World}{v':Value}{o:Oper}{a:Act}{Q:Exit→Act→World→Prop}{K:Act→World→Prop}(s x:Operand)(t:TypeId)(v u:Value)
  (ho:o.op= .call {callee:= .builtin .append,args:= #[s,x],argTypes:= #[t,t]}) (hs:a.eval s=v) (hx:a.eval x=u) (hrun:(Builtin.append_ #[t,t] o.type #[v,u]).run P w= .ok v' w')
  (h:K (a.put o.dst v') w'):o.wp P a w K Q:=by
 unfold Oper.wp execOp;simp only [ho,resolve,invoke,builtin,Sem.run_bind,Sem.run_pure,Result.andThen_ok,List.map_toArray,List.map_cons,List.map_nil,hs,hx,hrun];exact h
theorem XG {P:Program}{w:World}{sl el ty:TypeId}{i:TypeInfo}{z:Value}(hu:P.underlying sl=some (.slice el))(hi:P.info? el=some i)(hz:i.zero=some z)(v:Value)(base n k:Nat)(xs:List Value)(hown:w.ownsRow base el k v n xs)(c:Nat):
  (Builtin.append_ #[sl,sl] ty #[v,.slice none 0 c]).run P w= .ok v w:=by
 obtain⟨_,h | ⟨g,cap,cur,rfl,_,_,hl,_⟩⟩:=hown
 ·obtain ⟨rfl,rfl⟩:=h;simp [Builtin.append_,run_underlying hu,sizeOf,typeInfo,hi,hz,Builtin.lenOf,Builtin.firstCells,loadCells,loadCellsFrom]
 simp [Builtin.append_,run_underlying hu,sizeOf,typeInfo,hi,hz,Builtin.lenOf,Builtin.firstCells,loadCells,loadCellsFrom,hl,storeCells]
theorem vE {P:Program}{w:World}{sl el ty:TypeId}{i:TypeInfo}{z:Value}{k bytes:Nat}(hu:P.underlying sl=some (.slice el))(hi:P.info? el=some i)(hz:i.zero=some z)(hs:i.size=k)(hb:i.bytes=bytes)(hzs:z.cells.size=k)(hk:0<k)
  (base:Nat) (v:Value) (n:Nat) (xs:List Value) (hown:w.ownsRow base el k v n xs) (oa:Option Addr) (m c:Nat) (news:List Value) (hl:news.length=m*k) (hsrc:0<m→∃a,oa=some a∧∀j u,news[j]? =some u→w.cell? (a.add j)=some u)
  (h1:∀u∈news,u.oneCell'=true) (hmx:n+m≤maxLen) (hby:(n+m)*bytes≤140737488355328) (hbase:base≤w.heap.size):
  ∃v' w',(Builtin.append_ #[sl,sl] ty #[v,.slice oa m c]).run P w= .ok v' w'∧w'.ownsRow base el k v' (n+m) (xs++news)∧w.grownBy w' v.ownBlock:=by
 rcases Nat.eq_zero_or_pos m with rfl | hm
 ·rw [Nat.zero_mul]at hl;have:news= []:=List.eq_nil_of_length_eq_zero hl;subst this;rcases oa with _ | a
  ·refine ⟨v,w,XG hu hi hz v base n k xs hown c,by simpa using hown,⟨rfl,rfl,rfl,Nat.le_refl _,fun _ _ _=>rfl⟩⟩
  obtain⟨v',w',hr,ho,hg,_,_⟩:=run_append_own_at (P:=P) w base sl ty el i z k bytes hu hi hz hs hb hzs hk v n xs hown a 0 c [] sm sm sm hmx hby hbase;exact⟨v',w',hr,ho,hg⟩
 obtain⟨a,rfl,hc⟩:=hsrc hm;obtain⟨v',w',hr,ho,hg,_,_⟩:=run_append_own_at (P:=P) w base sl ty el i z k bytes hu hi hz hs hb hzs hk v n xs hown a m c news hl hc h1 hmx hby hbase;exact⟨v',w',hr,ho,hg⟩
theorem Keep.grown {w0 w w1:World}{row:Option Nat}(h:Keep au w0 w)(hg:w.grownBy w1 row)(hr:∀k,row=some k→w0.heap.size≤k):Keep au w0 w1:=
 Keep.of_below ((Keep.bel h).grown hg h.size hr) (Nat.le_refl _)
abbrev TI:TypeId:=3
theorem Fy:(Tryz.prog.info? 3).map (fun i=>(i.zero,i.size,i.bytes))=some (some (.int .i64 0),1,8):=kr
def iv (xs:List Int):List Value:=xs.map (Value.int .i64)
theorem Ot (xs:List Int)(i:Nat):(iv xs)[i]? =(xs[i]?).map (Value.int .i64):=by simp [iv]
theorem Dn (xs ys:List Int):iv (xs++ys)=iv xs++iv ys:=by simp [iv]
theorem zcd (xs:List Int):∀u∈iv xs,u.oneCell'=true:=by
 intro u hu;obtain⟨x,_,rfl⟩:=List.mem_map.1 hu;rfl
def bC (w:World)(base:Nat)(v:Value)(xs:List Int):Prop:=w.ownsRow base TI 1 v xs.length (iv xs)
theorem bC.nil (w:World)(base:Nat):bC w base (.slice none 0 0) []:=World.ownsRow_nil _ _ _ _
theorem bC.block {w:World}{base:Nat}{v:Value}{xs:List Int}(h:bC w base v xs):∀k,v.ownBlock=some k→base≤k:=fun k hk=>(World.ownsRow.lt h k hk).1
theorem bC.keep {w w':World}{base:Nat}{v:Value}{xs:List Int}(h:bC w base v xs)(k:Keep au w w'):bC w' base v xs:=by
 obtain⟨hl,h | ⟨g,cap,cur,hv,hb,hg,hl',hm,hs,ht⟩⟩:=h
 ·exact ⟨hl,.inl h⟩
 exact⟨hl,.inr ⟨g,cap,cur,hv,hb,by rw [k.block g (lt_of_heap hg) fun _ h=>h];exact hg,hl',hm,hs,ht⟩⟩
theorem bC.len {w:World}{base:Nat}{v:Value}{xs:List Int}(h:bC w base v xs):∃oa cap,v= .slice oa xs.length cap:=by
 obtain⟨hl,h | ⟨g,cap,cur,hv,hb,hg,hl',hm,hs,ht⟩⟩:=h
 ·obtain ⟨rfl,h0⟩:=h;exact⟨none,0,by rw [h0]⟩
 exact⟨_,cap,hv⟩
theorem bC.max {w:World}{base:Nat}{v:Value}{xs:List Int}(h:bC w base v xs):xs.length≤maxLen:=by
 obtain⟨hl,h | ⟨g,cap,cur,hv,hb,hg,hl',hm,hs,ht⟩⟩:=h
 ·obtain ⟨rfl,h0⟩:=h;rw [h0];exact Nat.zero_le _
 omega
theorem bC.ints {w:World}{base:Nat}{v:Value}{xs:List Int}(h:bC w base v xs)(hx:∀x∈xs,dA x):aR w v xs:=by
 have hm:=h.max;obtain⟨hl,h' | ⟨g,cap,cur,hv,hb,hg,hl',_,hs,ht⟩⟩:=h
 ·obtain ⟨rfl,h0⟩:=h';have:xs= []:=List.eq_nil_of_length_eq_zero h0;subst this;exact⟨none,0,rfl,sm,sm,fun h=>absurd rfl h⟩
 refine⟨_,cap,hv,hm,hx,fun _=>⟨g,0,rfl,lt_of_heap hg,fun i x hi=> ?_⟩⟩;have h1:(cur.toList.take (xs.length*1))[i]? =(iv xs)[i]? :=by rw [ht]
 have hil:i<xs.length:=(List.getElem?_eq_some_iff.1 hi).1;rw [List.getElem?_take,if_pos om,Ot,hi]at h1;rw [Nat.zero_add];exact cell_of_heap hg (by simpa using h1)
theorem aR.len {w:World}{v:Value}{l:List Int}(h:aR w v l):∃oa cap,v= .slice oa l.length cap∧l.length≤maxLen:=by
 obtain⟨oa,cap,hv,hm,_⟩:=h;exact⟨oa,cap,hv,hm⟩
theorem aR.all {w:World}{v:Value}{l:List Int}(h:aR w v l):∀x∈l,dA x:=by obtain⟨_,_,_,_,h,_⟩:=h;exact h
theorem World.ownsRow_mono {w:World}{base base':Nat}{e:TypeId}{size:Nat}{v:Value}{n:Nat}{xs:List Value}(h:w.ownsRow base e size v n xs)(hb:base'≤base):w.ownsRow base' e size v n xs:=by
 obtain⟨hl,h | ⟨g,cap,cur,hv,hg,h⟩⟩:=h
 ·exact ⟨hl,.inl h⟩
 exact⟨hl,.inr ⟨g,cap,cur,hv,om,h⟩⟩
theorem aR.src {w:World}{v:Value}{l:List Int}(h:aR w v l):∃oa cap,v= .slice oa l.length cap∧(0<l.length→∃a,oa=some a∧∀j u,(iv l)[j]? =some u→w.cell? (a.add j)=some u):=by
 obtain⟨oa,cap,rfl,hm,hx,hc⟩:=h;refine⟨oa,cap,rfl,fun h0=> ?_⟩;obtain⟨b,o,rfl,hb,hcell⟩:=hc (by rintro rfl;simp at h0);refine⟨_,rfl,fun j u hj=> ?_⟩;rw [Ot]at hj;rcases hl:l[j]? with _ | x
 ·rw [hl]at hj;cases hj
 rw [hl]at hj;simp at hj;subst hj;rw [show(⟨b,o,none⟩:Addr).add j=⟨b,o+j,none⟩from by unfold Addr.add;split<;>simp_all];exact hcell j x hl
theorem yx {w:World}{base:Nat}{v:Value}{xs:List Int}(hown:bC w base v xs){u:Value}{ys:List Int}(hu:aR w u ys)(hl:xs.length+ys.length≤1000000)(hb:base≤w.heap.size):
  ∃v' w',(Builtin.append_ #[22,22] 22 #[v,u]).run Tryz.prog w= .ok v' w'∧bC w' base v' (xs++ys)∧w.grownBy w' v.ownBlock:=by
 obtain⟨i0,hi0,hz0,hz1,hz2⟩:=info_parts Fy;obtain⟨oa,cap,rfl,hsrc⟩:=hu.src;obtain⟨v',w',hr,ho,hg⟩:=vE (P:=Tryz.prog) (w:=w) (ty:=22) Tryz.underlying22 hi0 hz0 hz1 hz2 rfl dc base v xs.length (iv xs) hown oa ys.length cap (iv ys) (by simp [iv]) hsrc (zcd ys) (by unfold maxLen;omega) om hb;exact⟨v',w',hr,by unfold bC;rw [Dn,List.length_append];exact ho,hg⟩
theorem Ho (w:World)(x:Int)(hx:dA x):aR (w.alloc (.cells #[.int .i64 x] TI)) (.slice (some ⟨w.heap.size,0,none⟩) 1 1) [x]:=by
 refine⟨_,1,rfl,by simp [maxLen],by simpa using hx,fun _=>⟨w.heap.size,0,rfl,sm,fun i y hi=> ?_⟩⟩;rcases i with _ | i
 ·simp at hi;subst hi;simp
 simp at hi
structure Rw where
 of:List Int
 kind:Int
 «to» :Int
def xW (v:Value):Prop:=∃oa n cap,v= .slice oa n cap∧n≤cap
theorem bC.cap {w:World}{base:Nat}{v:Value}{xs:List Int}(h:bC w base v xs):xW v:=by
 obtain⟨_,h | ⟨g,cap,cur,hv,hb,hg,hl,_⟩⟩:=h
 ·exact ⟨none,0,0,h.1,Nat.le_refl _⟩
 exact⟨_,_,cap,hv,hl⟩
def tF (w:World)(v:Value)(r:Rw):Prop:=∃sv,v= .agg #[sv,.int .i64 r.kind,.int .i64 r.to]∧aR w sv r.of∧dA r.kind∧dA r.to∧xW sv
theorem tF.keep {w w':World}{v:Value}{r:Rw}(h:tF w v r)(k:Keep au w w'):tF w' v r:=by
 obtain⟨sv,hv,hi,h1,h2⟩:=h;exact⟨sv,hv,hi.keep k,h1,h2⟩
section
variable {H:Type} {enc:TypeId × Value→H} {W:World} {base:Nat} {d:DataW H} {p:List MemPlace} {v:Value}
end
def nT (w:World)(g:Nat)(T:TypeId)(n:Nat)(vs:Nat→Value):Prop:=∃A:Array Value,w.heap[g]? =some (.cells A T (0,0))∧∀i,i<n→A[i]? =some (vs i)
section
variable {w w':World} {g g' n:Nat} {T T':TypeId} {vs vs':Nat→Value}
theorem nT.lt (h:nT w g T n vs):g<w.heap.size:=by obtain⟨A,h,_⟩:=h;exact lt_of_heap h
theorem nT.cell (h:nT w g T n vs){i:Nat}(hi:i<n):w.cell? ⟨g,i,none⟩=some (vs i):=by
 obtain⟨A,h,hA⟩:=h;exact cell_of_heap h (hA i hi)
theorem nT.free (h:nT w g T n vs)(i:Nat):w.frozen? ⟨g,i,none⟩=false:=by obtain⟨A,h,_⟩:=h;exact bE h
theorem nT.keepS {S:Nat→Nat→Prop}(h:nT w g T n vs)(k:Keep S w w')(hS:∀i,¬S g i):nT w' g T n vs:=by
 obtain⟨A,h,hA⟩:=h;exact⟨A,by rw [k.block g (lt_of_heap h) hS];exact h,hA⟩
theorem nT.keep (h:nT w g T n vs)(k:Keep au w w'):nT w' g T n vs:=h.keepS k fun _ h=>h
theorem nT.old (h:nT w g T n vs)(o:Obj):nT (w.alloc o) g T n vs:=h.keep ((Keep.refl _ _).alloc o)
theorem nT.set (h:nT w g T n vs)(i:Nat)(v:Value):nT (w.setCell ⟨g,i,none⟩ v) g T n fun j=>if j=i then v else vs j:=by
 obtain⟨A,h,hA⟩:=h;refine⟨_,heap_setCell_same i v h,fun j hj=> ?_⟩;have hjA:j<A.size:=(Array.getElem?_eq_some_iff.1 (hA j hj)).1;rw [Array.getElem?_setIfInBounds];by_cases hij:i=j
 ·subst hij;simp [hjA]
 show _=some (if j=i then v else vs j);rw [if_neg hij,if_neg (fun h=>hij h.symm)];exact hA j hj
theorem nT.other (h:nT w g T n vs)(i:Nat)(v:Value)(hne:¬g=g'):nT (w.setCell ⟨g',i,none⟩ v) g T n vs:=by
 obtain⟨A,h,hA⟩:=h;exact⟨A,by rw [heap_setCell_other _ _ _ _ hne];exact h,hA⟩
theorem nT.congr (h:nT w g T n vs)(he:∀i,i<n→vs i=vs' i):nT w g T n vs':=by
 obtain⟨A,h,hA⟩:=h;exact⟨A,h,fun i hi=>by rw [← he i hi];exact hA i hi⟩
theorem nT.mono {m:Nat}(h:nT w g T n vs)(hm:m≤n):nT w g T m vs:=by
 obtain⟨A,h,hA⟩:=h;exact⟨A,h,fun i hi=>hA i om⟩
theorem nT.ne {m:Nat}(h:nT w g T n vs)(h':nT w g' T' m vs')(hT:T≠T'):¬g=g':=by
 rintro rfl;obtain⟨A,h,_⟩:=h;obtain⟨A',h',_⟩:=h';rw [h]at h';simp at h';exact hT h'.2
theorem nT.grown {row:Option Nat}(h:nT w g T n vs)(hg:w.grownBy w' row)(hr:some g≠row):nT w' g T n vs:=by
 obtain⟨A,h,hA⟩:=h;exact⟨A,by rw [hg.block g (lt_of_heap h) hr];exact h,hA⟩
theorem kE {base cap m:Nat}{xs:List Value}(h:w.ownsRow base T 1 (.slice (some ⟨g,0,none⟩) m cap) m xs)(hx:∀i,i<n→xs[i]? =some (vs i)):nT w g T n vs:=by
 obtain⟨hl,h | ⟨g',cap',cur,hv,hb,hg,hl',hm,hs,ht⟩⟩:=h
 ·obtain ⟨h,_⟩:=h;cases h
 cases hv;refine⟨cur,hg,fun i hi=> ?_⟩;have h1:=hx i hi;have hil:i<xs.length:=(List.getElem?_eq_some_iff.1 h1).1;rw [← ht,List.getElem?_take,if_pos om]at h1;simpa using h1
end
def dv (f:Nat→Nat):Nat→Nat
 | 0=>0
 | k+1=>dv f k+4294967296^k*f k
theorem fQ {f g:Nat→Nat}:∀ {k:Nat},(∀i,i<k→f i=g i)→dv f k=dv g k
 | 0,_=>rfl
 | k+1,h=>by rw [dv,dv,fQ fun i hi=>h i om,h k om]
theorem mX {f:Nat→Nat}:∀ {k:Nat},(∀i,i<k→f i<4294967296)→dv f k<4294967296^k
 | 0,_=>by simp [dv]
 | k+1,h=>by
  have h1:=mX (k:=k) fun i hi=>h i om;have h2:=h k om;rw [dv,Nat.pow_succ];have h3:4294967296^k*(f k+1)≤4294967296^k*4294967296:=Nat.mul_le_mul_left _ om;rw [Nat.mul_add]at h3;omega
theorem wZ {f:Nat→Nat}{n:Nat}:∀m,(∀i,n≤i→i<n+m→f i=0)→dv f (n+m)=dv f n
 | 0,_=>rfl
 | m+1,h=>by
  rw [← Nat.add_assoc,dv,h (n+m) om om,wZ m fun i h1 h2=>h i h1 om];omega
theorem qL (f:Nat→Nat)(n:Nat):∀m,dv f (n+m)=dv f n+4294967296^n*dv (fun i=>f (n+i)) m
 | 0=>by simp [dv]
 | m+1=>by
  rw [← Nat.add_assoc,dv,qL f n m,dv,Nat.mul_add,Nat.pow_add,Nat.mul_assoc,Nat.add_assoc]
theorem Cw (f:Nat→Nat)(p v:Nat):∀n,p<n→dv (fun i=>if i=p then v else f i) n+4294967296^p*f p=dv f n+4294967296^p*v
 | 0,h=>absurd h om
 | n+1,h=>by
  rw [dv,dv];by_cases hp:n=p
  ·subst hp;rw [if_pos rfl,fQ (f:=fun i=>if i=n then v else f i) (g:=f) fun i hi=>if_neg om];omega
  have ih:=Cw f p v n om;rw [if_neg hp];omega
theorem oZ:∀(ds:List Nat),dval ds=dv (fun i=>ds.getD i 0) ds.length:=by
 have h:∀(ds:List Nat) (k:Nat),k≤ds.length→dval (ds.take k)=dv (fun i=>ds.getD i 0) k:=by
  intro ds k
  induction k with
  | zero=>intro _;simp [dval,dv]
  | succ k ih=>intro hk;rw [fI ds k om,ih om,dv]
 intro ds;have:=h ds ds.length (Nat.le_refl _);rwa [List.take_length]at this
theorem qM (ds:List Nat)(n:Nat)(h:ds.length≤n):dv (fun i=>ds.getD i 0) n=dval ds:=by
 rw [show n=ds.length+(n-ds.length)from om,wZ _ fun i h1 _=>by simp [List.getD,List.getElem?_eq_none h1],oZ]
def Dg (f:Nat→Nat)(n:Nat):List Nat:=(List.range n).map f
theorem iB (f:Nat→Nat)(n:Nat):(Dg f n).length=n:=by simp [Dg]
theorem Dh (f:Nat→Nat){n i:Nat}(h:i<n):(Dg f n).getD i 0=f i:=by simp [Dg,List.getD,h]
theorem uM (f:Nat→Nat)(n:Nat):dval (Dg f n)=dv f n:=by
 rw [oZ,iB];exact fQ fun i hi=>Dh f hi
theorem zaF {f:Nat→Nat}{n:Nat}(h:∀i,i<n→f i<4294967296):∀d∈Dg f n,d<4294967296:=by
 intro d hd;obtain⟨i,hi,rfl⟩:=List.mem_map.1 hd;exact h i (by simpa using hi)
abbrev iM (w:World)(g n:Nat)(f:Nat→Nat):Prop:=nT w g FL n fun i=> .int .u32 (f i:Nat)
theorem kF {w:World}{g n cap:Nat}{f:Nat→Nat}(h:iM w g n f)(hn:n≤cap)(hc:cap≤maxLen)(hf:∀i,i<n→f i<4294967296):lM w (.slice (some ⟨g,0,none⟩) n cap) (Dg f n):=by
 obtain⟨A,hA,hv⟩:=h;exact⟨g,cap,A,(0,0),by rw [iB],hA,by rw [iB];exact hn,hc,fun i hi=>by
  rw [iB]at hi;rw [Dh f hi];exact hv i hi,zaF hf⟩
theorem lM.open {w:World}{v:Value}{ds:List Nat}(h:lM w v ds):∃g cap,v= .slice (some ⟨g,0,none⟩) ds.length cap∧ds.length≤cap∧cap≤maxLen∧g<w.heap.size∧
  (∀w',Keep au w w'→∀i,i<ds.length→w'.cell? ⟨g,i,none⟩=some (.int .u32 (ds.getD i 0:Nat)))∧∀i,ds.getD i 0<4294967296:=by
 obtain⟨g,cap,c,fr,hv,hg,hl,hm,hc,hd⟩:=h;refine⟨g,cap,hv,hl,hm,lt_of_heap hg,fun w' hk i hi=> ?_,fun i=> ?_⟩
 ·rw [hk.cell (lt_of_heap hg)];exact cell_of_heap hg (hc i hi)
 by_cases hi:i<ds.length
 ·rw [su hi];exact hd _ (List.getElem_mem hi)
 simp [List.getD,List.getElem?_eq_none (Nat.le_of_not_lt hi)]
theorem lM.form {w:World}{v:Value}{ds:List Nat}(h:lM w v ds):∃g cap,v= .slice (some ⟨g,0,none⟩) ds.length cap:=by
 obtain⟨g,cap,hv,_⟩:=h.open;exact⟨g,cap,hv⟩
theorem iM.set {w:World}{g n:Nat}{f:Nat→Nat}(h:iM w g n f)(k d:Nat){v:Value}(hv:v= .int .u32 (d:Nat)):iM (w.setCell ⟨g,k,none⟩ v) g n fun i=>if i=k then d else f i:=by
 subst hv;exact(nT.set h k _).congr fun i _=>by by_cases e:i=k<;>simp [e]
def zbE (P:List Nat→Prop)(w:World)(e:Ending)(w':World):Prop:=∃v ds,e= .returned v∧Keep au w w'∧lM w' v ds∧P ds
theorem uG {z:Value}(hz:z.cells= #[z])(n i:Nat)(h:i<n):(madeCells z.cells (n*1)).toList[i]? =some z:=by
 rw [hz];simp [madeCells,h,Nat.mod_one]
theorem Km {P x y c:Nat}(k:Nat)(hP:P=4294967296^k){o X Y:Nat}(h:o+P*c=X+Y):o+P*((c+x+y)%4294967296)+4294967296^(k+1)*((c+x+y)/4294967296)=X+P*x+(Y+P*y):=by
 have e:=Nat.div_add_mod (c+x+y) 4294967296;rw [Nat.pow_succ,←hP];generalize (c+x+y)/4294967296=q at *;generalize (c+x+y)%4294967296=r at *;have e2:P*(c+x+y)=P*4294967296*q+P*r:=by rw [← e,Nat.mul_add,Nat.mul_assoc]
 rw [Nat.mul_add,Nat.mul_add]at e2;omega
def D8 (xs ys:List Nat)(k c:Nat)(f:Nat→Nat):Prop:=
 c≤1∧(∀i,i<k→f i<4294967296)∧dv f k+4294967296^k*c=dv (fun i=>xs.getD i 0) k+dv (fun i=>ys.getD i 0) k
theorem D8.step {xs ys:List Nat}{k c:Nat}{f:Nat→Nat}(h:D8 xs ys k c f)(hx:xs.getD k 0<4294967296)(hy:ys.getD k 0<4294967296){c1 d:Nat}(hd:d=(c+xs.getD k 0+ys.getD k 0)%4294967296)(hc:c1=(c+xs.getD k 0+ys.getD k 0)/4294967296):
  D8 xs ys (k+1) c1 fun i=>if i=k then d else f i:=by
 obtain⟨h1,h2,h3⟩:=h;subst hd hc;refine⟨om,fun i hi=> ?_,?_⟩
 ·by_cases e:i=k
  ·simp only [e,if_true];omega
  simp only [e,if_false];exact h2 i om
 rw [dv,if_pos rfl,fQ (f:=fun i=>if i=k then _ else f i) (g:=f) fun i hi=>if_neg om,dv,dv];exact Km k rfl h3
theorem D8.fin {xs ys:List Nat}{q:Nat}{f:Nat→Nat}(h:D8 xs ys xs.length q f)(hl:ys.length≤xs.length):
  (∀i,i<xs.length+1→(if i=xs.length then q else f i)<4294967296)∧dv (fun i=>if i=xs.length then q else f i) (xs.length+1)=dval xs+dval ys:=by
 obtain⟨h1,h2,h3⟩:=h;refine⟨fun i hi=> ?_,?_⟩
 ·by_cases e:i=xs.length
  ·simp only [e,if_true];omega
  simp only [e,if_false];exact h2 i om
 rw [dv,if_pos rfl,fQ (f:=fun i=>if i=xs.length then q else f i) (g:=f) fun i hi=>if_neg om,h3,qM xs _ (Nat.le_refl _),qM ys _ hl]
def yZ (xs ys:List Nat)(k c:Nat)(f:Nat→Nat):Prop:=
 c≤1∧(∀i,i<k→f i<4294967296)∧dv f k+dv (fun i=>ys.getD i 0) k=dv (fun i=>xs.getD i 0) k+4294967296^k*c
theorem yZ.step {xs ys:List Nat}{k c:Nat}{f:Nat→Nat}(h:yZ xs ys k c f){c1 d:Nat}(he:d+ys.getD k 0+c=xs.getD k 0+4294967296*c1)(hd:d<4294967296)(hc:c1≤1):
  yZ xs ys (k+1) c1 fun i=>if i=k then d else f i:=by
 obtain⟨h1,h2,h3⟩:=h;refine⟨hc,fun i hi=> ?_,?_⟩
 ·by_cases e:i=k
  ·simp only [e,if_true];exact hd
  simp only [e,if_false];exact h2 i om
 rw [dv,if_pos rfl,fQ (f:=fun i=>if i=k then _ else f i) (g:=f) fun i hi=>if_neg om,dv,dv,Nat.pow_succ];have e2:4294967296^k*(d+ys.getD k 0+c)=4294967296^k*(xs.getD k 0+4294967296*c1):=by rw [he]
 rw [Nat.mul_add,Nat.mul_add,Nat.mul_add,←Nat.mul_assoc]at e2;omega
theorem yZ.fin {xs ys:List Nat}{q:Nat}{f:Nat→Nat}(h:yZ xs ys xs.length q f)(hl:ys.length≤xs.length)(hle:dval ys≤dval xs):(∀i,i<xs.length→f i<4294967296)∧dv f xs.length=dval xs-dval ys:=by
 obtain⟨h1,h2,h3⟩:=h;refine⟨h2,?_⟩;rw [qM xs _ (Nat.le_refl _),qM ys _ hl]at h3;have h4:=mX h2;have:q=0∨q=1:=om;rcases this with rfl | rfl
 ·omega
 omega
theorem qR.parts {w:World}{b o:Nat}{neg:Bool}{ds:List Nat}(h:qR w b o neg ds):∃g cap,w.cell? ⟨b,o,none⟩=some (.bool neg)∧w.cell? ⟨b,o+1,none⟩=some (.slice (some ⟨g,0,none⟩) ds.length cap)∧
  lM w (.slice (some ⟨g,0,none⟩) ds.length cap) ds∧b<w.heap.size:=by
 obtain⟨c,t,v,hb,ht,h0,h1,hd⟩:=h;obtain⟨g,cap,rfl⟩:=hd.form;exact⟨g,cap,cell_of_heap hb h0,cell_of_heap hb h1,hd,lt_of_heap hb⟩
theorem add_same {neg wC:Bool}{a b:Nat}(h:neg=wC):jK neg (a+b)=jK neg a+jK wC b:=by
 subst h;cases neg<;>simp [jK];omega
theorem Wn {neg wC:Bool}{a b:Nat}(h:neg≠wC)(hab:b≤a):jK neg (a-b)=jK neg a+jK wC b:=by
 cases neg<;>cases wC<;>simp [jK]at* <;>omega
theorem Wp {neg wC:Bool}{a b:Nat}(h:neg≠wC)(hab:a≤b):jK wC (b-a)=jK neg a+jK wC b:=by
 cases neg<;>cases wC<;>simp [jK]at* <;>omega
theorem Qf (a b:Nat):decide (0≤kG a b)=decide (b≤a):=by
 unfold kG;rw [decide_eq_decide];split
 ·omega
 split<;>omega
structure Iw (X Y:Nat→Nat)(n m i:Nat)(f:Nat→Nat):Prop where
 lt:∀p,p<n+m→f p<4294967296
 zero:∀p,i+m≤p→p<n+m→f p=0
 val:dv f (n+m)=dv X i*dv Y m
structure uL (X Y:Nat→Nat)(n m i j q:Nat)(f:Nat→Nat):Prop where
 lt:∀p,p<n+m→f p<4294967296
 zero:∀p,i+m≤p→p<n+m→f p=0
 qlt:q<4294967296
 val:dv f (n+m)+4294967296^(i+j)*q=dv X i*dv Y m+X i*4294967296^i*dv Y j
theorem Iw.start {X Y f:Nat→Nat}{n m i:Nat}(h:Iw X Y n m i f):uL X Y n m i 0 0 f:=⟨h.lt,h.zero,om,by rw [h.val];simp [dv]⟩
theorem mul_lt {a b:Nat}(ha:a<4294967296)(hb:b<4294967296):a*b≤18446744065119617025:=
 Nat.mul_le_mul (show a≤4294967295 from om) (show b≤4294967295 from om)
theorem Iz {a b:Nat}(ha:a<4294967296)(hb:b<4294967296):0≤(a:Int)*(b:Int)∧(a:Int)*(b:Int)≤18446744065119617025:=by
 have:=mul_lt ha hb;rw [← Int.natCast_mul];omega
theorem uL.step {X Y f:Nat→Nat}{n m i j q:Nat}(h:uL X Y n m i j q f)(hi:i<n)(hj:j<m)(hX:X i<4294967296)(hY:Y j<4294967296){d q1:Nat}(hd:d=(q+(X i*Y j+f (i+j)))%4294967296)(hq:q1=(q+(X i*Y j+f (i+j)))/4294967296):
  uL X Y n m i (j+1) q1 fun p=>if p=i+j then d else f p:=by
 have hxy:=mul_lt hX hY;have hf:=h.lt (i+j) om;have hqq:=h.qlt;refine⟨fun p hp=> ?_,fun p h1 h2=> ?_,om,?_⟩
 ·by_cases e:p=i+j
  ·simp only [e,if_true];omega
  simp only [e,if_false];exact h.lt p hp
 ·rw [if_neg om];exact h.zero p h1 h2
 have hu:=Cw f (i+j) d (n+m) om;have hv:=h.val;have e:=Nat.div_add_mod (q+(X i*Y j+f (i+j))) 4294967296;rw [← hd,←hq]at e;have e2:4294967296^(i+j)*(4294967296*q1+d)=4294967296^(i+j)*(q+(X i*Y j+f (i+j))):=by rw [e]
 rw [Nat.mul_add,Nat.mul_add,Nat.mul_add,←Nat.mul_assoc]at e2;have e3:X i*4294967296^i*(4294967296^j*Y j)=4294967296^(i+j)*(X i*Y j):=by
  rw [Nat.pow_add];simp only [Nat.mul_assoc,Nat.mul_comm,Nat.mul_left_comm]
 rw [dv,Nat.mul_add,e3,←Nat.add_assoc i j 1,Nat.pow_succ];omega
theorem uL.fin {X Y f:Nat→Nat}{n m i q:Nat}(h:uL X Y n m i m q f)(hi:i<n):Iw X Y n m (i+1) fun p=>if p=i+m then q else f p:=by
 refine⟨fun p hp=> ?_,fun p h1 h2=> ?_,?_⟩
 ·by_cases e:p=i+m
  ·simp only [e,if_true];exact h.qlt
  simp only [e,if_false];exact h.lt p hp
 ·rw [if_neg om];exact h.zero p om h2
 have hu:=Cw f (i+m) q (n+m) om;have hv:=h.val;have h0:=h.zero (i+m) (Nat.le_refl _) om;rw [h0,Nat.mul_zero,Nat.add_zero]at hu;rw [hu,hv,dv,Nat.add_mul,Nat.mul_comm (4294967296^i) (X i)]
theorem ZW (neg wC:Bool)(a b:Nat):jK (neg != wC) (a*b)=jK neg a*jK wC b:=by
 cases neg<;>cases wC<;>simp [jK,Int.mul_neg,Int.neg_mul]
def RB (N:Nat)(q:Rat):Prop:=q.num.natAbs<N∧q.den<N
theorem RB.mono {N M:Nat}{q:Rat}(h:RB N q)(hm:N≤M):RB M q:=⟨bJ h.1 hm,bJ h.2 hm⟩
theorem Keep.newer {w0 w w':World}{b o:Nat}(h:Keep au w0 w)(k:Keep (At b o) w w')(hb:w0.heap.size≤b):Keep au w0 w':=h.trans k fun n o hn h=>by have:=h.1;omega
theorem jT (q:Rat):(q.den:Int)≠0:=by have:=q.den_pos;omega
theorem Qz (x y:Rat):Rat.divInt (x.num*y.num) (x.den*y.den)=x*y:=by
 rw [← Rat.divInt_mul_divInt,Rat.num_divInt_den,Rat.num_divInt_den]
theorem Qy (x y:Rat):Rat.divInt (x.num*y.den+y.num*x.den) (x.den*y.den)=x+y:=by
 rw [← Rat.divInt_add_divInt _ _ (jT x) (jT y),Rat.num_divInt_den,Rat.num_divInt_den]
theorem Zj (x y:Rat):Rat.divInt (x.num*y.den-y.num*x.den) (x.den*y.den)=x-y:=by
 rw [← Rat.divInt_sub_divInt _ _ (jT x) (jT y),Rat.num_divInt_den,Rat.num_divInt_den]
theorem QA {x y:Rat}(hy:y≠0):Rat.divInt (x.num*y.den) (x.den*y.num)=x/y:=by
 rw [← Rat.divInt_mul_divInt,Rat.num_divInt_den,←Rat.inv_def,Rat.div_def]
section
end
theorem Lh {x y:Int}(hy:y≠0)(h:x.tmod y<0):(y<0→x/y=x.tdiv y+1∧x%y=x.tmod y-y)∧(¬y<0→x/y=x.tdiv y-1∧x%y=x.tmod y+y):=by
 have h1:=Int.tmod_add_mul_tdiv x y;have h2:=Int.emod_add_mul_ediv x y;have h3:=Int.emod_nonneg x hy;have hx:¬0≤x:=fun hx=>by have:=Int.tmod_nonneg y hx;omega
 have h4:¬(y∣x):=fun hd=>by rw [Int.tmod_eq_zero_of_dvd hd]at h;omega
 rw [Int.tdiv_eq_ediv]at *;rw [if_neg (by rintro(h | h);exact hx h;exact h4 h)]at*;constructor
 ·intro hy0;rw [Int.sign_eq_neg_one_of_neg hy0]at *;refine⟨om,?_⟩;rw [Int.mul_add]at h1;omega
 intro hy0;rw [Int.sign_eq_one_of_pos om]at *;refine⟨om,?_⟩;rw [Int.mul_add]at h1;omega
theorem DV {x y:Int}(hy:y≠0)(h:¬x.tmod y<0):x/y=x.tdiv y∧x%y=x.tmod y:=by
 have h1:=Int.tmod_add_mul_tdiv x y;have h2:=Int.emod_add_mul_ediv x y;have e:x/y=x.tdiv y:=by
  rw [Int.tdiv_eq_ediv];split
  ·omega
  rename_i hc;exfalso;apply hc;by_cases hx:0≤x
  ·exact .inl hx
  right;have h3:x.tmod y≤0:=by have:=Int.tmod_nonneg y (show 0≤ -x from om);rw [Int.neg_tmod]at this;omega
  exact Int.dvd_of_tmod_eq_zero om
 refine⟨e,?_⟩;rw [e]at h2;omega
section
end
end Go.Proofs.YtmepglhdcphffaaGreat
