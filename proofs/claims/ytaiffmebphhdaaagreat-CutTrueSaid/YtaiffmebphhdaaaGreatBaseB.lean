/- What the walks are told of arguments that are slices of integers. A block that holds integers: a []int of the program's own. slices.Reverse over it. umpirageref5.SameInts: are two lists of integers the same? Appending: what the walks need, for whatever element type. Rows of the call's own; integers. What the walks are told of arguments that are rows. A block that holds a row of n cells of one element type, told as a function of the place. Numbers in digits of 32 bits, told as functions of the place: plain arithmetic. umpiragewide.sumOf, lessOf: digits added, taken off. The wide numbers' Add, Sub. The wide numbers' Mul. The wide fractions' Add, Neg, Sub, Mul, Inv, Quo, Sign, Cmp; NewRat: under whatever bound SetFrac holds. The wide whole numbers' Cmp, DivMod, Div, Mod: under whatever bound QuoRem holds. The reference's FracRight, Rat; what they answer. -/
import Derived.Test.YtaiffmebphhdaaaGreatBaseA
import Derived.Maps.AppendAt
import Derived.Deep.AppendLies
import Derived.Lib.SmallJoins
import Derived.Lib.OwnKind
import Derived.IntWalk
import Derived.Deep.DeepCutAuto
namespace Go.Proofs.YtaiffmebphhdaaaGreat
set_option maxRecDepth 100000
set_option maxHeartbeats 16000000
set_option linter.unusedSimpArgs false
set_option linter.unusedVariables false
open Go.ChangeShapes Go.WideShapes Go.ChangeAt Go.RowKit Go.Joins Go.Deep
def aW (w:World)(v:Value)(l:List Int):Prop:=
 ∃oa cap,v= .slice oa l.length cap∧l.length≤maxLen∧(∀x∈l,fT x)∧(l≠ []→∃b o,oa=some ⟨b,o,none⟩∧b<w.heap.size∧∀i x,l[i]? =some x→w.cell? ⟨b,o+i,none⟩=some (.int .i64 x))
theorem Iz {w:World}{b o:Nat}{s:Option Nat}{v:Value}(h:w.cell? ⟨b,o,s⟩=some v):b<w.heap.size:=by
 apply Classical.byContradiction;intro h';rw [World.cell?,Array.getElem?_eq_none (Nat.le_of_not_lt h')]at h;cases h
theorem aW.keep {w w':World}{v:Value}{l:List Int}(h:aW w v l)(k:Keep au w w'):aW w' v l:=by
 obtain⟨oa,cap,h1,h2,h3,h4⟩:=h;refine⟨oa,cap,h1,h2,h3,fun hne=> ?_⟩;obtain⟨b,o,e,hb,hc⟩:=h4 hne;exact⟨b,o,e,dJ hb k.size,fun i x hx=>by rw [k.cell hb];exact hc i x hx⟩
section
variable {H:Type} {enc:TypeId × Value→H} {W:World} {base:Nat} {d:DataW H} {p:List MemPlace} {v:Value}
end
theorem aW.at {w:World}{v:Value}{l:List Int}(h:aW w v l){k:Nat}(hk:k<l.length):∃b o cap,v= .slice (some ⟨b,o,none⟩) l.length cap∧b<w.heap.size∧w.cell? ⟨b,o+k,none⟩=some (.int .i64 l[k]):=by
 obtain⟨oa,cap,h1,h2,h3,h4⟩:=h;obtain⟨b,o,rfl,hb,hc⟩:=h4 (by rintro rfl;simp at hk);exact⟨b,o,cap,h1,hb,hc k _ (fG hk)⟩
theorem aW.form {w:World}{v:Value}{l:List Int}(h:aW w v l){n:Nat}(hn:n=l.length):∃oa cap,v= .slice oa n cap:=by
 obtain⟨oa,cap,rfl,_⟩:=h;exact⟨oa,cap,by rw [hn]⟩
theorem aW.same {w w':World}{v:Value}{l:List Int}(h:aW w v l)(hc:∀a,w'.cell? a=w.cell? a)(hs:w.heap.size≤w'.heap.size):aW w' v l:=by
 obtain⟨oa,cap,h1,h2,h3,h4⟩:=h;refine⟨oa,cap,h1,h2,h3,fun hne=> ?_⟩;obtain⟨b,o,e,hb,hq⟩:=h4 hne;exact⟨b,o,e,om,fun i x hx=>by rw [hc];exact hq i x hx⟩
open Go.ChangeShapes Go.WideShapes Go.RowKit
def gD (w:World)(g:Nat)(xs:List Int):Prop:=∃A:Array Value,aL w g A∧∀i,i<xs.length→A[i]? =some (.int .i64 (xs.getD i 0))
theorem gD.lt {w:World}{g:Nat}{xs:List Int}(h:gD w g xs):g<w.heap.size:=by obtain⟨A,h,_⟩:=h;exact h.lt
theorem gD.cell {w:World}{g:Nat}{xs:List Int}(h:gD w g xs){i:Nat}(hi:i<xs.length):w.cell? ⟨g,i,none⟩=some (.int .i64 (xs.getD i 0)):=by
 obtain⟨A,h,hA⟩:=h;rw [h.cell i];exact hA i hi
theorem gD.free {w:World}{g:Nat}{xs:List Int}(h:gD w g xs)(i:Nat):w.frozen? ⟨g,i,none⟩=false:=by
 obtain⟨A,h,hA⟩:=h;exact h.free i
theorem gD.keep {w w':World}{g:Nat}{xs:List Int}(h:gD w g xs)(k:Keep au w w'):gD w' g xs:=by
 obtain⟨A,h,hA⟩:=h;exact⟨A,h.keep k,hA⟩
theorem gD.old {w:World}{g:Nat}{xs:List Int}(h:gD w g xs)(o:Obj):gD (w.alloc o) g xs:=by
 obtain⟨A,h,hA⟩:=h;exact⟨A,h.old o,hA⟩
theorem aL.set {w:World}{g:Nat}{A:Array Value}(h:aL w g A)(i:Nat)(v:Value):aL (w.setCell ⟨g,i,none⟩ v) g (A.setIfInBounds i v):=by
 obtain⟨t,h⟩:=h;exact⟨t,Go.Joins.block_setCell h v⟩
theorem aL.setOther {w:World}{g g':Nat}{A:Array Value}(h:aL w g A)(i:Nat)(v:Value)(hne:g≠g'):aL (w.setCell ⟨g',i,none⟩ v) g A:=by
 obtain⟨t,h⟩:=h;exact⟨t,by rw [heap_setCell_other _ _ _ _ hne];exact h⟩
theorem gD.set {w:World}{g:Nat}{xs:List Int}(h:gD w g xs){i:Nat}(v:Int):gD (w.setCell ⟨g,i,none⟩ (.int .i64 v)) g (xs.set i v):=by
 obtain⟨A,h,hA⟩:=h;refine⟨_,h.set i _,fun j hj=> ?_⟩;rw [List.length_set]at hj;have hjA:j<A.size:=by
  have:=hA j hj;exact(Array.getElem?_eq_some_iff.1 this).1
 rw [Array.getElem?_setIfInBounds,dX,List.getElem?_set];by_cases hij:i=j
 ·subst hij;simp [hjA,hj]
 simp only [hij,if_false];rw [hA j hj,dX]
theorem gD.setOther {w:World}{g g':Nat}{xs:List Int}(h:gD w g xs)(i:Nat)(v:Value)(hne:g≠g'):gD (w.setCell ⟨g',i,none⟩ v) g xs:=by
 obtain⟨A,h,hA⟩:=h;exact⟨A,h.setOther i v hne,hA⟩
theorem gD.ints {w:World}{g:Nat}{xs:List Int}(h:gD w g xs)(cap:Nat)(hl:xs.length≤maxLen)(hx:∀x∈xs,fT x):aW w (.slice (some ⟨g,0,none⟩) xs.length cap) xs:=by
 refine⟨_,cap,rfl,hl,hx,fun _=>⟨g,0,rfl,h.lt,fun i x hi=> ?_⟩⟩;obtain⟨hq,rfl⟩:=List.getElem?_eq_some_iff.1 hi;have:=h.cell hq;rw [dX,fG hq]at this;simpa using this
theorem aY {P:Program}{w w':World}{v':Value}{ops:Array Oper}{rest:List Oper}{o:Oper}{a:Act}{Q:Exit→Act→World→Prop}(s x:Operand)(t:TypeId)(v u:Value)(hgd:o.guard=none)
  (ho:o.op= .call {callee:= .builtin .append,args:= #[s,x],argTypes:= #[t,t]}) (hs:a.eval s=v) (hx:a.eval x=u) (hrun:(Builtin.append_ #[t,t] o.type #[v,u]).run P w= .ok v' w')
  (h:wpList P ops Q rest (a.put o.dst v') w'):wpList P ops Q (o::rest) a w:=by
 refine wpList_plain hgd fun K hK=> ?_;unfold Oper.wp execOp;simp only [ho,resolve,invoke,builtin,Sem.run_bind,Sem.run_pure,Result.andThen_ok,List.map_toArray,List.map_cons,List.map_nil,hs,hx,hrun];exact hK _ _ h
theorem dM {P:Program}{w w':World}{v':Value}{o:Oper}{a:Act}{Q:Exit→Act→World→Prop}{K:Act→World→Prop}(s x:Operand)(t:TypeId)(v u:Value)
  (ho:o.op= .call {callee:= .builtin .append,args:= #[s,x],argTypes:= #[t,t]}) (hs:a.eval s=v) (hx:a.eval x=u) (hrun:(Builtin.append_ #[t,t] o.type #[v,u]).run P w= .ok v' w')
  (h:K (a.put o.dst v') w'):o.wp P a w K Q:=by
 unfold Oper.wp execOp;simp only [ho,resolve,invoke,builtin,Sem.run_bind,Sem.run_pure,Result.andThen_ok,List.map_toArray,List.map_cons,List.map_nil,hs,hx,hrun];exact h
theorem UG {P:Program}{w:World}{sl el ty:TypeId}{i:TypeInfo}{z:Value}(hu:P.underlying sl=some (.slice el))(hi:P.info? el=some i)(hz:i.zero=some z)(v:Value)(base n k:Nat)(xs:List Value)(hown:w.ownsRow base el k v n xs)(c:Nat):
  (Builtin.append_ #[sl,sl] ty #[v,.slice none 0 c]).run P w= .ok v w:=by
 obtain⟨_,h | ⟨g,cap,cur,rfl,_,_,hl,_⟩⟩:=hown
 ·obtain ⟨rfl,rfl⟩:=h;simp [Builtin.append_,run_underlying hu,sizeOf,typeInfo,hi,hz,Builtin.lenOf,Builtin.firstCells,loadCells,loadCellsFrom]
 simp [Builtin.append_,run_underlying hu,sizeOf,typeInfo,hi,hz,Builtin.lenOf,Builtin.firstCells,loadCells,loadCellsFrom,hl,storeCells]
theorem sJ {P:Program}{w:World}{sl el ty:TypeId}{i:TypeInfo}{z:Value}{k bytes:Nat}(hu:P.underlying sl=some (.slice el))(hi:P.info? el=some i)(hz:i.zero=some z)(hs:i.size=k)(hb:i.bytes=bytes)(hzs:z.cells.size=k)(hk:0<k)
  (base:Nat) (v:Value) (n:Nat) (xs:List Value) (hown:w.ownsRow base el k v n xs) (oa:Option Addr) (m c:Nat) (news:List Value) (hl:news.length=m*k) (hsrc:0<m→∃a,oa=some a∧∀j u,news[j]? =some u→w.cell? (a.add j)=some u)
  (h1:∀u∈news,u.oneCell'=true) (hmx:n+m≤maxLen) (hby:(n+m)*bytes≤140737488355328) (hbase:base≤w.heap.size):
  ∃v' w',(Builtin.append_ #[sl,sl] ty #[v,.slice oa m c]).run P w= .ok v' w'∧w'.ownsRow base el k v' (n+m) (xs++news)∧w.grownBy w' v.ownBlock:=by
 rcases Nat.eq_zero_or_pos m with rfl | hm
 ·rw [Nat.zero_mul]at hl;have:news= []:=List.eq_nil_of_length_eq_zero hl;subst this;rcases oa with _ | a
  ·refine ⟨v,w,UG hu hi hz v base n k xs hown c,by simpa using hown,⟨rfl,rfl,rfl,Nat.le_refl _,fun _ _ _=>rfl⟩⟩
  obtain⟨v',w',hr,ho,hg,_,_⟩:=run_append_own_at (P:=P) w base sl ty el i z k bytes hu hi hz hs hb hzs hk v n xs hown a 0 c [] sm sm sm hmx hby hbase;exact⟨v',w',hr,ho,hg⟩
 obtain⟨a,rfl,hc⟩:=hsrc hm;obtain⟨v',w',hr,ho,hg,_,_⟩:=run_append_own_at (P:=P) w base sl ty el i z k bytes hu hi hz hs hb hzs hk v n xs hown a m c news hl hc h1 hmx hby hbase;exact⟨v',w',hr,ho,hg⟩
theorem Keep.grown {w0 w w1:World}{row:Option Nat}(h:Keep au w0 w)(hg:w.grownBy w1 row)(hr:∀k,row=some k→w0.heap.size≤k):Keep au w0 w1:=
 Keep.of_below ((Keep.bel h).grown hg h.size hr) (Nat.le_refl _)
abbrev TI:TypeId:=3
theorem J5:(Tryz.prog.info? 3).map (fun i=>(i.zero,i.size,i.bytes))=some (some (.int .i64 0),1,8):=kr
def iv (xs:List Int):List Value:=xs.map (Value.int .i64)
theorem Nz (xs:List Int)(i:Nat):(iv xs)[i]? =(xs[i]?).map (Value.int .i64):=by simp [iv]
theorem D9 (xs ys:List Int):iv (xs++ys)=iv xs++iv ys:=by simp [iv]
theorem zan (xs:List Int):∀u∈iv xs,u.oneCell'=true:=by
 intro u hu;obtain⟨x,_,rfl⟩:=List.mem_map.1 hu;rfl
def bD (w:World)(base:Nat)(v:Value)(xs:List Int):Prop:=w.ownsRow base TI 1 v xs.length (iv xs)
theorem bD.nil (w:World)(base:Nat):bD w base (.slice none 0 0) []:=World.ownsRow_nil _ _ _ _
theorem bD.block {w:World}{base:Nat}{v:Value}{xs:List Int}(h:bD w base v xs):∀k,v.ownBlock=some k→base≤k:=fun k hk=>(World.ownsRow.lt h k hk).1
theorem bD.keep {w w':World}{base:Nat}{v:Value}{xs:List Int}(h:bD w base v xs)(k:Keep au w w'):bD w' base v xs:=by
 obtain⟨hl,h | ⟨g,cap,cur,hv,hb,hg,hl',hm,hs,ht⟩⟩:=h
 ·exact ⟨hl,.inl h⟩
 exact⟨hl,.inr ⟨g,cap,cur,hv,hb,by rw [k.block g (lt_of_heap hg) fun _ h=>h];exact hg,hl',hm,hs,ht⟩⟩
theorem bD.len {w:World}{base:Nat}{v:Value}{xs:List Int}(h:bD w base v xs):∃oa cap,v= .slice oa xs.length cap:=by
 obtain⟨hl,h | ⟨g,cap,cur,hv,hb,hg,hl',hm,hs,ht⟩⟩:=h
 ·obtain ⟨rfl,h0⟩:=h;exact⟨none,0,by rw [h0]⟩
 exact⟨_,cap,hv⟩
theorem bD.max {w:World}{base:Nat}{v:Value}{xs:List Int}(h:bD w base v xs):xs.length≤maxLen:=by
 obtain⟨hl,h | ⟨g,cap,cur,hv,hb,hg,hl',hm,hs,ht⟩⟩:=h
 ·obtain ⟨rfl,h0⟩:=h;rw [h0];exact Nat.zero_le _
 omega
theorem bD.ints {w:World}{base:Nat}{v:Value}{xs:List Int}(h:bD w base v xs)(hx:∀x∈xs,fT x):aW w v xs:=by
 have hm:=h.max;obtain⟨hl,h' | ⟨g,cap,cur,hv,hb,hg,hl',_,hs,ht⟩⟩:=h
 ·obtain ⟨rfl,h0⟩:=h';have:xs= []:=List.eq_nil_of_length_eq_zero h0;subst this;exact⟨none,0,rfl,sm,sm,fun h=>absurd rfl h⟩
 refine⟨_,cap,hv,hm,hx,fun _=>⟨g,0,rfl,lt_of_heap hg,fun i x hi=> ?_⟩⟩;have h1:(cur.toList.take (xs.length*1))[i]? =(iv xs)[i]? :=by rw [ht]
 have hil:i<xs.length:=(List.getElem?_eq_some_iff.1 hi).1;rw [List.getElem?_take,if_pos om,Nz,hi]at h1;rw [Nat.zero_add];exact cell_of_heap hg (by simpa using h1)
theorem aW.len {w:World}{v:Value}{l:List Int}(h:aW w v l):∃oa cap,v= .slice oa l.length cap∧l.length≤maxLen:=by
 obtain⟨oa,cap,hv,hm,_⟩:=h;exact⟨oa,cap,hv,hm⟩
theorem aW.all {w:World}{v:Value}{l:List Int}(h:aW w v l):∀x∈l,fT x:=by obtain⟨_,_,_,_,h,_⟩:=h;exact h
theorem World.ownsRow_mono {w:World}{base base':Nat}{e:TypeId}{size:Nat}{v:Value}{n:Nat}{xs:List Value}(h:w.ownsRow base e size v n xs)(hb:base'≤base):w.ownsRow base' e size v n xs:=by
 obtain⟨hl,h | ⟨g,cap,cur,hv,hg,h⟩⟩:=h
 ·exact ⟨hl,.inl h⟩
 exact⟨hl,.inr ⟨g,cap,cur,hv,om,h⟩⟩
theorem aW.src {w:World}{v:Value}{l:List Int}(h:aW w v l):∃oa cap,v= .slice oa l.length cap∧(0<l.length→∃a,oa=some a∧∀j u,(iv l)[j]? =some u→w.cell? (a.add j)=some u):=by
 obtain⟨oa,cap,rfl,hm,hx,hc⟩:=h;refine⟨oa,cap,rfl,fun h0=> ?_⟩;obtain⟨b,o,rfl,hb,hcell⟩:=hc (by rintro rfl;simp at h0);refine⟨_,rfl,fun j u hj=> ?_⟩;rw [Nz]at hj;rcases hl:l[j]? with _ | x
 ·rw [hl]at hj;cases hj
 rw [hl]at hj;simp at hj;subst hj;rw [show(⟨b,o,none⟩:Addr).add j=⟨b,o+j,none⟩from by unfold Addr.add;split<;>simp_all];exact hcell j x hl
theorem jd {w:World}{base:Nat}{v:Value}{xs:List Int}(hown:bD w base v xs){u:Value}{ys:List Int}(hu:aW w u ys)(hl:xs.length+ys.length≤1000000)(hb:base≤w.heap.size):
  ∃v' w',(Builtin.append_ #[38,38] 38 #[v,u]).run Tryz.prog w= .ok v' w'∧bD w' base v' (xs++ys)∧w.grownBy w' v.ownBlock:=by
 obtain⟨i0,hi0,hz0,hz1,hz2⟩:=info_parts J5;obtain⟨oa,cap,rfl,hsrc⟩:=hu.src;obtain⟨v',w',hr,ho,hg⟩:=sJ (P:=Tryz.prog) (w:=w) (ty:=38) Tryz.underlying38 hi0 hz0 hz1 hz2 rfl dc base v xs.length (iv xs) hown oa ys.length cap (iv ys) (by simp [iv]) hsrc (zan ys) (by unfold maxLen;omega) om hb;exact⟨v',w',hr,by unfold bD;rw [D9,List.length_append];exact ho,hg⟩
theorem qC (w:World)(x:Int)(hx:fT x):aW (w.alloc (.cells #[.int .i64 x] TI)) (.slice (some ⟨w.heap.size,0,none⟩) 1 1) [x]:=by
 refine⟨_,1,rfl,by simp [maxLen],by simpa using hx,fun _=>⟨w.heap.size,0,rfl,sm,fun i y hi=> ?_⟩⟩;rcases i with _ | i
 ·simp at hi;subst hi;simp
 simp at hi
structure Rw where
 of:List Int
 kind:Int
 «to» :Int
def pz (v:Value):Prop:=∃oa n cap,v= .slice oa n cap∧n≤cap
theorem bD.cap {w:World}{base:Nat}{v:Value}{xs:List Int}(h:bD w base v xs):pz v:=by
 obtain⟨_,h | ⟨g,cap,cur,hv,hb,hg,hl,_⟩⟩:=h
 ·exact ⟨none,0,0,h.1,Nat.le_refl _⟩
 exact⟨_,_,cap,hv,hl⟩
def pE (w:World)(v:Value)(r:Rw):Prop:=∃sv,v= .agg #[sv,.int .i64 r.kind,.int .i64 r.to]∧aW w sv r.of∧fT r.kind∧fT r.to∧pz sv
theorem pE.keep {w w':World}{v:Value}{r:Rw}(h:pE w v r)(k:Keep au w w'):pE w' v r:=by
 obtain⟨sv,hv,hi,h1,h2⟩:=h;exact⟨sv,hv,hi.keep k,h1,h2⟩
section
variable {H:Type} {enc:TypeId × Value→H} {W:World} {base:Nat} {d:DataW H} {p:List MemPlace} {v:Value}
theorem Q5 {n:Nat}{c:Value}{y:DataW H × List MemPlace}(hf:DataW.trod enc Tryz.prog W 0 (fun _=>true) true n 38 [c]=some y):∃l,aW W c l∧pz c:=by
 rcases open_ints Tryz.underlying38 Tryz.underlying3 kr hf with⟨hcs,_⟩ | ⟨a,len,cap,zs,hcs,_,hl,hm,hz,_,hc,hwf⟩
 ·simp at hcs;subst hcs;exact⟨[],⟨none,0,rfl,sm,sm,fun h=>absurd rfl h⟩,none,0,0,rfl,Nat.le_refl _⟩
 simp at hcs;subst hcs;simp at hz;refine⟨zs.take len,⟨some a,cap,by rw [List.length_take];congr 1;omega,by rw [List.length_take];omega,fun x hx=>wD (hwf x (List.mem_of_mem_take hx)),fun hne=> ?_⟩,_,_,_,rfl,hl⟩;have hp:0<zs.length:=by
  rcases zs with _ | ⟨z,zs⟩
  ·simp at hne
  simp
 obtain⟨b,off,rfl,hq⟩:=ints_at hc hp;have hx:∀i x,(zs.take len)[i]? =some x→W.cell? ⟨b,off+i,none⟩=some (.int .i64 x):=by
  intro i x hx;obtain⟨hi,hx⟩:=List.getElem?_eq_some_iff.1 hx;rw [List.length_take]at hi;rw [hq i om,dX,fG om];rw [List.getElem_take]at hx;simp [hx]
 exact⟨b,off,rfl,Iz (hq 0 hp),hx⟩
end
def kP (w:World)(g:Nat)(T:TypeId)(n:Nat)(vs:Nat→Value):Prop:=∃A:Array Value,w.heap[g]? =some (.cells A T (0,0))∧∀i,i<n→A[i]? =some (vs i)
section
variable {w w':World} {g g' n:Nat} {T T':TypeId} {vs vs':Nat→Value}
theorem kP.lt (h:kP w g T n vs):g<w.heap.size:=by obtain⟨A,h,_⟩:=h;exact lt_of_heap h
theorem kP.cell (h:kP w g T n vs){i:Nat}(hi:i<n):w.cell? ⟨g,i,none⟩=some (vs i):=by
 obtain⟨A,h,hA⟩:=h;exact cell_of_heap h (hA i hi)
theorem kP.free (h:kP w g T n vs)(i:Nat):w.frozen? ⟨g,i,none⟩=false:=by obtain⟨A,h,_⟩:=h;exact kQ h
theorem kP.keepS {S:Nat→Nat→Prop}(h:kP w g T n vs)(k:Keep S w w')(hS:∀i,¬S g i):kP w' g T n vs:=by
 obtain⟨A,h,hA⟩:=h;exact⟨A,by rw [k.block g (lt_of_heap h) hS];exact h,hA⟩
theorem kP.keep (h:kP w g T n vs)(k:Keep au w w'):kP w' g T n vs:=h.keepS k fun _ h=>h
theorem kP.old (h:kP w g T n vs)(o:Obj):kP (w.alloc o) g T n vs:=h.keep ((Keep.refl _ _).alloc o)
theorem kP.set (h:kP w g T n vs)(i:Nat)(v:Value):kP (w.setCell ⟨g,i,none⟩ v) g T n fun j=>if j=i then v else vs j:=by
 obtain⟨A,h,hA⟩:=h;refine⟨_,heap_setCell_same i v h,fun j hj=> ?_⟩;have hjA:j<A.size:=(Array.getElem?_eq_some_iff.1 (hA j hj)).1;rw [Array.getElem?_setIfInBounds];by_cases hij:i=j
 ·subst hij;simp [hjA]
 show _=some (if j=i then v else vs j);rw [if_neg hij,if_neg (fun h=>hij h.symm)];exact hA j hj
theorem kP.other (h:kP w g T n vs)(i:Nat)(v:Value)(hne:¬g=g'):kP (w.setCell ⟨g',i,none⟩ v) g T n vs:=by
 obtain⟨A,h,hA⟩:=h;exact⟨A,by rw [heap_setCell_other _ _ _ _ hne];exact h,hA⟩
theorem kP.congr (h:kP w g T n vs)(he:∀i,i<n→vs i=vs' i):kP w g T n vs':=by
 obtain⟨A,h,hA⟩:=h;exact⟨A,h,fun i hi=>by rw [← he i hi];exact hA i hi⟩
theorem kP.mono {m:Nat}(h:kP w g T n vs)(hm:m≤n):kP w g T m vs:=by
 obtain⟨A,h,hA⟩:=h;exact⟨A,h,fun i hi=>hA i om⟩
theorem kP.ne {m:Nat}(h:kP w g T n vs)(h':kP w g' T' m vs')(hT:T≠T'):¬g=g':=by
 rintro rfl;obtain⟨A,h,_⟩:=h;obtain⟨A',h',_⟩:=h';rw [h]at h';simp at h';exact hT h'.2
theorem kP.grown {row:Option Nat}(h:kP w g T n vs)(hg:w.grownBy w' row)(hr:some g≠row):kP w' g T n vs:=by
 obtain⟨A,h,hA⟩:=h;exact⟨A,by rw [hg.block g (lt_of_heap h) hr];exact h,hA⟩
theorem fq {base cap m:Nat}{xs:List Value}(h:w.ownsRow base T 1 (.slice (some ⟨g,0,none⟩) m cap) m xs)(hx:∀i,i<n→xs[i]? =some (vs i)):kP w g T n vs:=by
 obtain⟨hl,h | ⟨g',cap',cur,hv,hb,hg,hl',hm,hs,ht⟩⟩:=h
 ·obtain ⟨h,_⟩:=h;cases h
 cases hv;refine⟨cur,hg,fun i hi=> ?_⟩;have h1:=hx i hi;have hil:i<xs.length:=(List.getElem?_eq_some_iff.1 h1).1;rw [← ht,List.getElem?_take,if_pos om]at h1;simpa using h1
end
def dv (f:Nat→Nat):Nat→Nat
 | 0=>0
 | k+1=>dv f k+4294967296^k*f k
theorem iB {f g:Nat→Nat}:∀ {k:Nat},(∀i,i<k→f i=g i)→dv f k=dv g k
 | 0,_=>rfl
 | k+1,h=>by rw [dv,dv,iB fun i hi=>h i om,h k om]
theorem kF {f:Nat→Nat}:∀ {k:Nat},(∀i,i<k→f i<4294967296)→dv f k<4294967296^k
 | 0,_=>by simp [dv]
 | k+1,h=>by
  have h1:=kF (k:=k) fun i hi=>h i om;have h2:=h k om;rw [dv,Nat.pow_succ];have h3:4294967296^k*(f k+1)≤4294967296^k*4294967296:=Nat.mul_le_mul_left _ om;rw [Nat.mul_add]at h3;omega
theorem sK {f:Nat→Nat}{n:Nat}:∀m,(∀i,n≤i→i<n+m→f i=0)→dv f (n+m)=dv f n
 | 0,_=>rfl
 | m+1,h=>by
  rw [← Nat.add_assoc,dv,h (n+m) om om,sK m fun i h1 h2=>h i h1 om];omega
theorem rG (f:Nat→Nat)(n:Nat):∀m,dv f (n+m)=dv f n+4294967296^n*dv (fun i=>f (n+i)) m
 | 0=>by simp [dv]
 | m+1=>by
  rw [← Nat.add_assoc,dv,rG f n m,dv,Nat.mul_add,Nat.pow_add,Nat.mul_assoc,Nat.add_assoc]
theorem Ea (f:Nat→Nat)(p v:Nat):∀n,p<n→dv (fun i=>if i=p then v else f i) n+4294967296^p*f p=dv f n+4294967296^p*v
 | 0,h=>absurd h om
 | n+1,h=>by
  rw [dv,dv];by_cases hp:n=p
  ·subst hp;rw [if_pos rfl,iB (f:=fun i=>if i=n then v else f i) (g:=f) fun i hi=>if_neg om];omega
  have ih:=Ea f p v n om;rw [if_neg hp];omega
theorem mP:∀(ds:List Nat),dval ds=dv (fun i=>ds.getD i 0) ds.length:=by
 have h:∀(ds:List Nat) (k:Nat),k≤ds.length→dval (ds.take k)=dv (fun i=>ds.getD i 0) k:=by
  intro ds k
  induction k with
  | zero=>intro _;simp [dval,dv]
  | succ k ih=>intro hk;rw [fI ds k om,ih om,dv]
 intro ds;have:=h ds ds.length (Nat.le_refl _);rwa [List.take_length]at this
theorem mW (ds:List Nat)(n:Nat)(h:ds.length≤n):dv (fun i=>ds.getD i 0) n=dval ds:=by
 rw [show n=ds.length+(n-ds.length)from om,sK _ fun i h1 _=>by simp [List.getD,List.getElem?_eq_none h1],mP]
def yL (f:Nat→Nat)(n:Nat):List Nat:=(List.range n).map f
theorem fJ (f:Nat→Nat)(n:Nat):(yL f n).length=n:=by simp [yL]
theorem Eb (f:Nat→Nat){n i:Nat}(h:i<n):(yL f n).getD i 0=f i:=by simp [yL,List.getD,h]
theorem je (f:Nat→Nat)(n:Nat):dval (yL f n)=dv f n:=by
 rw [mP,fJ];exact iB fun i hi=>Eb f hi
theorem Yd {f:Nat→Nat}{n:Nat}(h:∀i,i<n→f i<4294967296):∀d∈yL f n,d<4294967296:=by
 intro d hd;obtain⟨i,hi,rfl⟩:=List.mem_map.1 hd;exact h i (by simpa using hi)
abbrev dn (w:World)(g n:Nat)(f:Nat→Nat):Prop:=kP w g Ec n fun i=> .int .u32 (f i:Nat)
theorem fC {w:World}{g n cap:Nat}{f:Nat→Nat}(h:dn w g n f)(hn:n≤cap)(hc:cap≤maxLen)(hf:∀i,i<n→f i<4294967296):eF w (.slice (some ⟨g,0,none⟩) n cap) (yL f n):=by
 obtain⟨A,hA,hv⟩:=h;exact⟨g,cap,A,(0,0),by rw [fJ],hA,by rw [fJ];exact hn,hc,fun i hi=>by
  rw [fJ]at hi;rw [Eb f hi];exact hv i hi,Yd hf⟩
theorem eF.open {w:World}{v:Value}{ds:List Nat}(h:eF w v ds):∃g cap,v= .slice (some ⟨g,0,none⟩) ds.length cap∧ds.length≤cap∧cap≤maxLen∧g<w.heap.size∧
  (∀w',Keep au w w'→∀i,i<ds.length→w'.cell? ⟨g,i,none⟩=some (.int .u32 (ds.getD i 0:Nat)))∧∀i,ds.getD i 0<4294967296:=by
 obtain⟨g,cap,c,fr,hv,hg,hl,hm,hc,hd⟩:=h;refine⟨g,cap,hv,hl,hm,lt_of_heap hg,fun w' hk i hi=> ?_,fun i=> ?_⟩
 ·rw [hk.cell (lt_of_heap hg)];exact cell_of_heap hg (hc i hi)
 by_cases hi:i<ds.length
 ·rw [mq hi];exact hd _ (List.getElem_mem hi)
 simp [List.getD,List.getElem?_eq_none (Nat.le_of_not_lt hi)]
theorem eF.form {w:World}{v:Value}{ds:List Nat}(h:eF w v ds):∃g cap,v= .slice (some ⟨g,0,none⟩) ds.length cap:=by
 obtain⟨g,cap,hv,_⟩:=h.open;exact⟨g,cap,hv⟩
theorem eF.ofNewer {w w':World}{v:Value}{ds:List Nat}(h:eF w v ds)(k:Keep au w w'):eF w' v ds:=h.keep k fun _ _ _ _ h=>h.elim
theorem dn.set {w:World}{g n:Nat}{f:Nat→Nat}(h:dn w g n f)(k d:Nat){v:Value}(hv:v= .int .u32 (d:Nat)):dn (w.setCell ⟨g,k,none⟩ v) g n fun i=>if i=k then d else f i:=by
 subst hv;exact(kP.set h k _).congr fun i _=>by by_cases e:i=k<;>simp [e]
def NA (P:List Nat→Prop)(w:World)(e:Ending)(w':World):Prop:=∃v ds,e= .returned v∧Keep au w w'∧eF w' v ds∧P ds
theorem jf {z:Value}(hz:z.cells= #[z])(n i:Nat)(h:i<n):(madeCells z.cells (n*1)).toList[i]? =some z:=by
 rw [hz];simp [madeCells,h,Nat.mod_one]
theorem J6 {P x y c:Nat}(k:Nat)(hP:P=4294967296^k){o X Y:Nat}(h:o+P*c=X+Y):o+P*((c+x+y)%4294967296)+4294967296^(k+1)*((c+x+y)/4294967296)=X+P*x+(Y+P*y):=by
 have e:=Nat.div_add_mod (c+x+y) 4294967296;rw [Nat.pow_succ,←hP];generalize (c+x+y)/4294967296=q at *;generalize (c+x+y)%4294967296=r at *;have e2:P*(c+x+y)=P*4294967296*q+P*r:=by rw [← e,Nat.mul_add,Nat.mul_assoc]
 rw [Nat.mul_add,Nat.mul_add]at e2;omega
def xQ (xs ys:List Nat)(k c:Nat)(f:Nat→Nat):Prop:=
 c≤1∧(∀i,i<k→f i<4294967296)∧dv f k+4294967296^k*c=dv (fun i=>xs.getD i 0) k+dv (fun i=>ys.getD i 0) k
theorem xQ.step {xs ys:List Nat}{k c:Nat}{f:Nat→Nat}(h:xQ xs ys k c f)(hx:xs.getD k 0<4294967296)(hy:ys.getD k 0<4294967296){c1 d:Nat}(hd:d=(c+xs.getD k 0+ys.getD k 0)%4294967296)(hc:c1=(c+xs.getD k 0+ys.getD k 0)/4294967296):
  xQ xs ys (k+1) c1 fun i=>if i=k then d else f i:=by
 obtain⟨h1,h2,h3⟩:=h;subst hd hc;refine⟨om,fun i hi=> ?_,?_⟩
 ·by_cases e:i=k
  ·simp only [e,if_true];omega
  simp only [e,if_false];exact h2 i om
 rw [dv,if_pos rfl,iB (f:=fun i=>if i=k then _ else f i) (g:=f) fun i hi=>if_neg om,dv,dv];exact J6 k rfl h3
theorem xQ.fin {xs ys:List Nat}{q:Nat}{f:Nat→Nat}(h:xQ xs ys xs.length q f)(hl:ys.length≤xs.length):
  (∀i,i<xs.length+1→(if i=xs.length then q else f i)<4294967296)∧dv (fun i=>if i=xs.length then q else f i) (xs.length+1)=dval xs+dval ys:=by
 obtain⟨h1,h2,h3⟩:=h;refine⟨fun i hi=> ?_,?_⟩
 ·by_cases e:i=xs.length
  ·simp only [e,if_true];omega
  simp only [e,if_false];exact h2 i om
 rw [dv,if_pos rfl,iB (f:=fun i=>if i=xs.length then q else f i) (g:=f) fun i hi=>if_neg om,h3,mW xs _ (Nat.le_refl _),mW ys _ hl]
theorem Q6 (w:World)(vx vy:Value)(xs ys:List Nat)(hx:eF w vx xs)(hy:eF w vy ys)(hlx:xs.length≤200000)(ZN:ys.length≤200000):
  Calls Tryz.prog 135 #[vx,vy] w (NA (fun ds=>dval ds=dval xs+dval ys∧ds.length≤200001) w):=by
 have HX:=zh hx;have HY:=zh hy;obtain⟨gx,cx,rfl⟩:=hx.form;obtain⟨gy,cy,rfl⟩:=hy.form;clear hx hy;go_enter Tryz.func135,Tryz.ntmps135;go_upto_if 13 with fail;go_cut [0,1] (fun s t wx=>∃xs' ys':List Nat,∃g c g' c',s= .slice (some ⟨g,0,none⟩) xs'.length c∧t= .slice (some ⟨g',0,none⟩) ys'.length c'∧Keep au w wx∧eF wx (.slice (some ⟨g,0,none⟩) xs'.length c) xs'∧
  eF wx (.slice (some ⟨g',0,none⟩) ys'.length c') ys'∧ys'.length≤xs'.length∧xs'.length≤200000∧dval xs'+dval ys'=dval xs+dval ys)
 case first=>
  by_cases hl:xs.length<ys.length
  ·have e1:decide (xs.length<ys.length)=true:=decide_eq_true hl;have e2:decide ((xs.length:Int)<(ys.length:Int))=true:=bL om;go_wp2_with fail;go_meet;exact⟨ys,xs,_,_,_,_,rfl,rfl,Keep.refl _ _,HY.out,HX.out,om,om,om⟩
  have e1:decide (xs.length<ys.length)=false:=decide_eq_false hl;have e2:decide ((xs.length:Int)<(ys.length:Int))=false:=aZ om;go_wp2_with fail;go_meet;exact⟨xs,ys,_,_,_,_,rfl,rfl,Keep.refl _ _,HX.out,HY.out,om,om,om⟩
 obtain⟨xs',ys',g,c,g',c',rfl,rfl,hk,hx,hy,hl,hl2,hsum⟩:=hcut;obtain⟨w1,rfl⟩:∃W:World,W=wc:=⟨_,rfl⟩;have HK:=zh hk;have HX':=zh hx;have HY':=zh hy;have zao:=zh hsum;clear hk hx hy hsum HX HY;obtain⟨i0,hi0,hz0,hs0,hb0⟩:=info_parts iT;obtain⟨w2,hr2,ho2,hg2⟩:=run_make_full (P:=Tryz.prog) w1 w1.heap.size 123 166 i0 (.int .u32 0) 1 Tryz.underlying123 hi0 hz0 hs0 .i64 .i64 (xs'.length+1) (by rw [hb0];omega) (by unfold maxLen;omega) om;rw [show((xs'.length+1:Nat):Int)=(xs'.length:Int)+1 from om]at hr2;have P2:dn w2 w1.heap.size (xs'.length+1) (fun _=>0):=fq ho2 fun i hi=>jf rfl _ i hi;have L2:Keep au w1 w2:=Keep.of_below (dH hg2 w1.heap.size (Nat.le_refl _) sm) (Nat.le_refl _);have IB:=zh P2;have HL2:=zh L2;clear ho2 hg2 P2 L2;generalize hgo:w1.heap.size=go at *;have oO:=zh hgo;clear hgo;go_wp2;clear hr2;go_loopw [22,6] (fun s t wr=>∃k:Nat,k≤xs'.length∧s= .int .i64 k∧∃q:Nat,∃f,t= .int .u64 q∧Keep au w1 wr∧dn wr go (xs'.length+1) f∧xQ xs' ys' k q f) (fun s _ _=>(xs'.length-intOf s).toNat)
 case atStart=>exact⟨0,om,rfl,0,fun _=>0,rfl,HL2.out,IB.out,om,fun i hi=>absurd hi om,rfl⟩
 obtain⟨k,hk,rfl,q,f,rfl,hkp,har,hinv⟩:=hrel;have nQ:=zh hkp;have rH:=zh har;have jV:=zh hinv;have hgl:=har.lt;have hq1:q≤1:=hinv.1;have hfr:=har.free k;by_cases hkl:k<xs'.length
 ·have hlt:(k:Int)<(xs'.length:Int):=om;have hlt2:(k:Int)<(xs'.length:Int)+1:=om;obtain⟨_,_,hv,_,_,hg,hcx,hbx⟩:=HX'.out.open
  cases hv;obtain⟨_,_,hv,_,_,hg',hcy,hby⟩:=HY'.out.open
  cases hv;have cx0:=hcx wr hkp k hkl;have cy0:=hcy wr hkp k;have cf0:=har.cell (i:=k) om;have bx0:=hbx k;have by0:=hby k;have HST:Hid (∀q1 d,d=(q+xs'.getD k 0+ys'.getD k 0)%4294967296→q1=(q+xs'.getD k 0+ys'.getD k 0)/4294967296→xQ xs' ys' (k+1) q1 fun i=>if i=k then d else f i):=zh fun q1 d h1 h2=>hinv.step bx0 by0 h1 h2;have y0:¬k<ys'.length→ys'.getD k 0=0:=fun h=>by simp [List.getD,List.getElem?_eq_none (Nat.le_of_not_lt h)]
  clear hcx hbx hcy hby hkp har hinv;generalize xs'.getD k 0=x at *;generalize ys'.getD k 0=y at *;generalize f k=z at cf0;by_cases hky:k<ys'.length
  ·have e1:decide (k<ys'.length)=true:=decide_eq_true hky;have e2:decide ((k:Int)<(ys'.length:Int))=true:=bL om;have cy1:=cy0 hky;clear cy0 y0;go_wp2;go_roundw
   case rel=>
    exact⟨k+1,om,gn,(q+x+y)/4294967296,_,congrArg (Value.int .u64) om,nQ.out.setCell _ (fun h=>absurd h (by have:=oO.out;omega)),
     dn.set rH.out k ((q+x+y)%4294967296) (congrArg (Value.int .u32) om),HST.out _ _ rfl rfl⟩
   simp [intOf];omega
  have e1:decide (k<ys'.length)=false:=decide_eq_false hky;have e2:decide ((k:Int)<(ys'.length:Int))=false:=aZ om;obtain rfl:y=0:=y0 hky;clear cy0 y0;go_wp2;go_roundw
  case rel=>
   exact⟨k+1,om,gn,(q+x+0)/4294967296,_,congrArg (Value.int .u64) om,nQ.out.setCell _ (fun h=>absurd h (by have:=oO.out;omega)),
    dn.set rH.out k ((q+x+0)%4294967296) (congrArg (Value.int .u32) om),HST.out _ _ rfl rfl⟩
  simp [intOf];omega
 have hlt:¬(k:Int)<(xs'.length:Int):=om;obtain rfl:k=xs'.length:=om;have hlt2:(xs'.length:Int)<(xs'.length:Int)+1:=om;have cf0:=har.cell (i:=xs'.length) om;have wE:=zh (hinv.fin hl);clear hkp har hinv;generalize f xs'.length=z at cf0;go_wp2;go_ret;have ha:=dn.set rH.out xs'.length q (v:= .int .u32 (q:Nat)) rfl;refine⟨_,_,rfl,HK.out.trans (nQ.out.setCell _ (fun h=>absurd h (by have:=oO.out;omega))) fun _ _ _ h=>h,fC ha (Nat.le_refl _) (by unfold maxLen;omega) wE.out.1,?_,?_⟩
 ·rw [je,wE.out.2,zao.out]
 rw [fJ];omega
def sM (xs ys:List Nat)(k c:Nat)(f:Nat→Nat):Prop:=
 c≤1∧(∀i,i<k→f i<4294967296)∧dv f k+dv (fun i=>ys.getD i 0) k=dv (fun i=>xs.getD i 0) k+4294967296^k*c
theorem NC (x y q:Nat)(hx:x<4294967296)(hy:y<4294967296)(hq:q≤1):∃d q1:Nat,IntKind.u64.wrap (IntKind.u64.wrap ((x:Int)-q)-y)/9223372036854775808=(q1:Int)∧
  IntKind.u64.wrap (IntKind.u64.wrap ((x:Int)-q)-y)%4294967296=(d:Int)∧d+y+q=x+4294967296*q1∧q1≤1∧d<4294967296:=by
 rw [IntKind.wrap_u64,IntKind.wrap_u64];by_cases h:y+q≤x
 ·exact ⟨x-y-q,0,om,om,om,om,om⟩
 exact⟨x+4294967296-y-q,1,om,om,om,om,om⟩
theorem sM.step {xs ys:List Nat}{k c:Nat}{f:Nat→Nat}(h:sM xs ys k c f){c1 d:Nat}(he:d+ys.getD k 0+c=xs.getD k 0+4294967296*c1)(hd:d<4294967296)(hc:c1≤1):
  sM xs ys (k+1) c1 fun i=>if i=k then d else f i:=by
 obtain⟨h1,h2,h3⟩:=h;refine⟨hc,fun i hi=> ?_,?_⟩
 ·by_cases e:i=k
  ·simp only [e,if_true];exact hd
  simp only [e,if_false];exact h2 i om
 rw [dv,if_pos rfl,iB (f:=fun i=>if i=k then _ else f i) (g:=f) fun i hi=>if_neg om,dv,dv,Nat.pow_succ];have e2:4294967296^k*(d+ys.getD k 0+c)=4294967296^k*(xs.getD k 0+4294967296*c1):=by rw [he]
 rw [Nat.mul_add,Nat.mul_add,Nat.mul_add,←Nat.mul_assoc]at e2;omega
theorem sM.fin {xs ys:List Nat}{q:Nat}{f:Nat→Nat}(h:sM xs ys xs.length q f)(hl:ys.length≤xs.length)(hle:dval ys≤dval xs):(∀i,i<xs.length→f i<4294967296)∧dv f xs.length=dval xs-dval ys:=by
 obtain⟨h1,h2,h3⟩:=h;refine⟨h2,?_⟩;rw [mW xs _ (Nat.le_refl _),mW ys _ hl]at h3;have h4:=kF h2;have:q=0∨q=1:=om;rcases this with rfl | rfl
 ·omega
 omega
theorem Ed (w:World)(vx vy:Value)(xs ys:List Nat)(hx:eF w vx xs)(hy:eF w vy ys)(hlx:xs.length≤200000)(hl:ys.length≤xs.length)(hle:dval ys≤dval xs):
  Calls Tryz.prog 136 #[vx,vy] w (NA (fun ds=>dval ds=dval xs-dval ys∧ds.length=xs.length) w):=by
 have HX:=zh hx;have HY:=zh hy;have XI:=zh hle;obtain⟨gx,cx,rfl⟩:=hx.form;obtain⟨gy,cy,rfl⟩:=hy.form;clear hx hy hle;obtain⟨i0,hi0,hz0,hs0,hb0⟩:=info_parts iT;obtain⟨w2,hr2,ho2,hg2⟩:=run_make_full (P:=Tryz.prog) w w.heap.size 123 166 i0 (.int .u32 0) 1 Tryz.underlying123 hi0 hz0 hs0 .i64 .i64 xs.length (by rw [hb0];omega) (by unfold maxLen;omega) om;have P2:dn w2 w.heap.size xs.length (fun _=>0):=fq ho2 fun i hi=>jf rfl _ i hi;have L2:Keep au w w2:=Keep.of_below (dH hg2 w.heap.size (Nat.le_refl _) sm) (Nat.le_refl _);have IB:=zh P2;have HL2:=zh L2;clear ho2 hg2 P2 L2;generalize hgo:w.heap.size=go at *;have oO:=zh hgo;clear hgo;go_enter Tryz.func136,Tryz.ntmps136;go_wp2;clear hr2;go_loopw [15,6] (fun s t wr=>∃k:Nat,k≤xs.length∧s= .int .i64 k∧∃q:Nat,∃f,t= .int .u64 q∧Keep au w wr∧dn wr go xs.length f∧sM xs ys k q f) (fun s _ _=>(xs.length-intOf s).toNat)
 case atStart=>exact⟨0,om,rfl,0,fun _=>0,rfl,HL2.out,IB.out,om,fun i hi=>absurd hi om,rfl⟩
 obtain⟨k,hk,rfl,q,f,rfl,hkp,har,hinv⟩:=hrel;have nQ:=zh hkp;have rH:=zh har;have jV:=zh hinv;have hgl:=har.lt;have hq1:q≤1:=hinv.1;have hfr:=har.free k;by_cases hkl:k<xs.length
 ·have hlt:(k:Int)<(xs.length:Int):=om;obtain⟨_,_,hv,_,_,hg,hcx,hbx⟩:=HX.out.open
  cases hv;obtain⟨_,_,hv,_,_,hg',hcy,hby⟩:=HY.out.open
  cases hv;have cx0:=hcx wr hkp k hkl;have cy0:=hcy wr hkp k;have cf0:=har.cell (i:=k) hkl;have bx0:=hbx k;have by0:=hby k;have y0:¬k<ys.length→ys.getD k 0=0:=fun h=>by simp [List.getD,List.getElem?_eq_none (Nat.le_of_not_lt h)]
  have hst:∀d q1,d+ys.getD k 0+q=xs.getD k 0+4294967296*q1→d<4294967296→q1≤1→sM xs ys (k+1) q1 fun i=>if i=k then d else f i:=fun d q1 h1 h2 h3=>hinv.step h1 h2 h3;obtain⟨d,q1,E1,E2,E3,E4,E5⟩:=NC (xs.getD k 0) (ys.getD k 0) q bx0 by0 hq1;have HST:=zh (hst d q1 E3 E5 E4);clear hcx hbx hcy hby hkp har hinv hst E3;generalize xs.getD k 0=x at *;generalize ys.getD k 0=y at *;generalize f k=z at cf0;have FU:=zh E1;have HE2:=zh E2;clear E1 E2;by_cases hky:k<ys.length
  ·have e1:decide (k<ys.length)=true:=decide_eq_true hky;have e2:decide ((k:Int)<(ys.length:Int))=true:=bL om;have cy1:=cy0 hky;clear cy0 y0;go_wp2;go_roundw
   case rel=>
    exact⟨k+1,om,gn,q1,_,congrArg (Value.int .u64) FU.out,nQ.out.setCell _ (fun h=>absurd h (by have:=oO.out;omega)),dn.set rH.out k d (congrArg (Value.int .u32) HE2.out),HST.out⟩
   simp [intOf];omega
  have e1:decide (k<ys.length)=false:=decide_eq_false hky;have e2:decide ((k:Int)<(ys.length:Int))=false:=aZ om;obtain rfl:y=0:=y0 hky;have w0:IntKind.u64.wrap (IntKind.u64.wrap ((x:Int)-q)-(0:Nat))=IntKind.u64.wrap ((x:Int)-q):=by
   rw [IntKind.wrap_u64,IntKind.wrap_u64];omega
  have HE3:=zh (w0 ▸ FU.out);have HE4:=zh (w0 ▸ HE2.out);clear cy0 y0 w0 FU HE2;go_wp2;go_roundw
  case rel=>
   exact⟨k+1,om,gn,q1,_,congrArg (Value.int .u64) HE3.out,nQ.out.setCell _ (fun h=>absurd h (by have:=oO.out;omega)),dn.set rH.out k d (congrArg (Value.int .u32) HE4.out),HST.out⟩
  simp [intOf];omega
 have hlt:¬(k:Int)<(xs.length:Int):=om;obtain rfl:k=xs.length:=om;have wE:=zh (hinv.fin hl XI.out);clear hkp har hinv;go_wp2;go_ret;refine⟨_,_,rfl,nQ.out,fC rH.out (Nat.le_refl _) (by unfold maxLen;omega) wE.out.1,?_,?_⟩
 ·rw [je,wE.out.2]
 rw [fJ]
theorem jy.parts {w:World}{b o:Nat}{neg:Bool}{ds:List Nat}(h:jy w b o neg ds):∃g cap,w.cell? ⟨b,o,none⟩=some (.bool neg)∧w.cell? ⟨b,o+1,none⟩=some (.slice (some ⟨g,0,none⟩) ds.length cap)∧
  eF w (.slice (some ⟨g,0,none⟩) ds.length cap) ds∧b<w.heap.size:=by
 obtain⟨c,t,v,hb,ht,h0,h1,hd⟩:=h;obtain⟨g,cap,rfl⟩:=hd.form;exact⟨g,cap,cell_of_heap hb h0,cell_of_heap hb h1,hd,lt_of_heap hb⟩
theorem add_same {neg dN:Bool}{a b:Nat}(h:neg=dN):iP neg (a+b)=iP neg a+iP dN b:=by
 subst h;cases neg<;>simp [iP];omega
theorem J7 {neg dN:Bool}{a b:Nat}(h:neg≠dN)(hab:b≤a):iP neg (a-b)=iP neg a+iP dN b:=by
 cases neg<;>cases dN<;>simp [iP]at* <;>omega
theorem J8 {neg dN:Bool}{a b:Nat}(h:neg≠dN)(hab:a≤b):iP dN (b-a)=iP neg a+iP dN b:=by
 cases neg<;>cases dN<;>simp [iP]at* <;>omega
theorem BH {ds ds':List Nat}(hn:iQ ds')(hd:∀d∈ds,d<4294967296)(h:dval ds'≤dval ds):ds'.length≤ds.length:=by
 apply Classical.byContradiction;intro hl;have:=pF ds ds' hn om hd;omega
theorem Dg (a b:Nat):decide (0≤eY a b)=decide (b≤a):=by
 unfold eY;rw [decide_eq_decide];split
 ·omega
 split<;>omega
theorem Dh (w:World)(bz oz bx ox eP oy:Nat)(x y:Int)(hz:bQ w bz oz)(hx:bC w bx ox x)(hy:bC w eP oy y)(hbx:x.natAbs<BIG)(hby:y.natAbs<BIG):
  Calls Tryz.prog 111 #[.pointer (some ⟨bz,oz,none⟩),.pointer (some ⟨bx,ox,none⟩),.pointer (some ⟨eP,oy,none⟩)] w fun e w'=>e= .returned (.pointer (some ⟨bz,oz,none⟩))∧Keep (At bz oz) w w'∧bC w' bz oz (x+y):=by
 have C:Hid (∀k,Calls Tryz.prog 107 #[.pointer (some ⟨bx,ox,none⟩),.pointer (some ⟨eP,oy,none⟩)] (w.drewN k) fun e w'=>e= .returned (.int .i64 (eY x.natAbs y.natAbs))∧∃n,w'=w.drewN n):=
  zh fun k=>(pG (w.drewN k) bx ox eP oy x y (hx.ofNewer (dO w k)) (hy.ofNewer (dO w k))).mono fun e w' ⟨he,m,hm⟩=>⟨he,k+m,by rw [hm,World.drewN_drewN]⟩
 obtain⟨neg,ds,hrx,hn,hne,hzx,h1,h2,h3⟩:=hx.open;obtain⟨dN,ds',yM,hn',hne',hzy,h1',h2',h3'⟩:=hy.open;have hlx:=mE ds hn (by rw [h3];exact hbx)
 have ZN:=mE ds' hn' (by rw [h3'];exact hby);have HZX:=zh hzx;have HZY:=zh hzy;have HL1:Hid (dval ds'≤dval ds→ds'.length≤ds.length):=zh (BH hn' hrx.lt);have HL2:Hid (dval ds≤dval ds'→ds.length≤ds'.length):=zh (BH hn yM.lt);rw [← h3,←h3']at C;obtain⟨g,cap,cx0,cx1,BI,yN⟩:=hrx.parts;obtain⟨g',cap',cy0,cy1,hdy,uK⟩:=yM.parts;have HZ:=zh hz;have Pf:=zh BI;have Ub:=zh hdy;clear hx hy hz hrx yM hn hne hzx h1 h2 h3 hn' hne' hzy h1' h2' h3' hbx hby BI hdy;by_cases hs:neg=dN
 ·have e1:(neg==dN)=true:=by simpa using hs
  have HA:Hid (iP neg (dval ds+dval ds')=x+y):=zh (by rw [HZX.out,HZY.out];exact add_same hs);clear hs C;go_enter Tryz.func111,Tryz.ntmps111;go_wp2;go_quiet (fail);go_wp2;refine aD (fun w'=>Keep au w w') [0,1,17,18,19,20] [([0,1,2,3,4,5,6,7,8,9,10,11,12,13],14),([15,16],17),([18,19],20)] [] kr kr kp ?_;intro X W hne hF hcl;have HF:=zh hF;have aQ:=zh hcl;have hx0:=fun x=>((hF x).cell yN).trans cx0;have hx1:=fun x=>((hF x).cell yN).trans cx1;have hy0:=fun x=>((hF x).cell uK).trans cy0;have hy1:=fun x=>((hF x).cell uK).trans cy1;clear hF hcl;simp only [aO,aJ,zl0,zl1,zl2,aR,Bool.false_eq_true,if_false]
  (repeat(quiet_step (fail)));refine wpQuiet_nil ?_
  refine ay rfl rfl fun K hK=> ?_;go_simp;refine(Q6 _ _ _ ds ds' (Pf.out.ofNewer kp) (Ub.out.ofNewer kp) om om).mono ?_;rintro e w1 ⟨v1,ds1,rfl,hk1,hd1,hv1⟩;have k1:Keep au w w1:=Keep.trans kp hk1 fun _ _ _ h=>h;obtain⟨g1,cap1,rfl⟩:=hd1.form;refine hK _ _ ⟨fun _=>aQ.out _ k1,?_⟩;have Nn:=zh k1;have HD1:=zh hd1;have Pg:=zh hv1;have HZ1:=zh (HZ.out.ofNewer k1);obtain⟨UH,za,zm1,zm2,zc0,zc1,zf0,zf1,zb⟩:=HZ1.out.open;clear hK K hk1 k1 hd1 hv1 hx0 hx1 hy0 hy1 HF aQ
  (repeat(quiet_step (fail)));refine wpQuiet_nil ?_
  refine ay rfl rfl fun K hK=> ?_;go_simp;refine hK _ _ ⟨fun h=>(by simp at h),?_⟩;clear hK K
  (repeat(quiet_step (fail)));refine wpQuiet_nil ?_
  refine ay rfl rfl fun K hK=> ?_;go_simp;refine hK _ _ ⟨fun h=>(by simp at h),?_⟩;clear hK K
  (repeat(quiet_step (fail)));refine wpQuiet_nil ?_
  refine NoPanic.normal ?_;have HR:=zh (pI HZ1.out neg HD1.out);go_wp2_with fail;refine(kR _ bz oz _ _ HR.out).mono ?_;rintro e w2 ⟨rfl,hk2,hi2⟩;have Ab:=zh hk2;have HI2:=zh hi2;clear hk2 hi2;go_wp2;go_returns;refine⟨rfl,?_,?_⟩
  ·exact (((Nn.out.any (S:=At bz oz)).setCell _ (fun _=>wT bz oz)).setCell _ (fun _=>FV bz oz)).trans Ab.out fun _ _ _ h=>h
  rw [← HA.out,←Pg.out.1];exact HI2.out
 have e1:(neg==dN)=false:=by simpa using hs
 by_cases hge:dval ds'≤dval ds
 ·have HA:Hid (iP neg (dval ds-dval ds')=x+y):=zh (by rw [HZX.out,HZY.out];exact J7 hs hge);have e2:decide (0≤eY (dval ds) (dval ds'))=true:=by rw [Dg];exact decide_eq_true hge
  have FI:=zh (HL1.out hge);have ZO:=zh hge;generalize eY (dval ds) (dval ds')=cc at *;clear hs hge;go_enter Tryz.func111,Tryz.ntmps111;go_wp2;go_quiet (fail);go_wp2_with fail;refine(C.out _).mono ?_;rintro e w0 ⟨rfl,nd,rfl⟩;go_wp2;refine aD (fun w'=>Keep au w w') [0,1,17,18,19,20] [([0,1,2,3,4,5,6,7,8,9,10,11,12,13],14),([15,16],17),([18,19],20)] [] kr kr kp ?_;intro X W hne hF hcl;have HF:=zh hF;have aQ:=zh hcl;have hx0:=fun x=>((hF x).cell yN).trans cx0;have hx1:=fun x=>((hF x).cell yN).trans cx1;have hy0:=fun x=>((hF x).cell uK).trans cy0;have hy1:=fun x=>((hF x).cell uK).trans cy1;clear hF hcl;simp only [aO,aJ,zl0,zl1,zl2,aR,Bool.false_eq_true,if_false]
  (repeat(quiet_step (fail)));refine wpQuiet_nil ?_
  refine ay rfl rfl fun K hK=> ?_;go_simp;refine(Ed _ _ _ ds ds' (Pf.out.ofNewer kp) (Ub.out.ofNewer kp) om FI.out ZO.out).mono ?_;rintro e w1 ⟨v1,ds1,rfl,hk1,hd1,hv1⟩;have k1:Keep au w w1:=Keep.trans kp hk1 fun _ _ _ h=>h;obtain⟨g1,cap1,rfl⟩:=hd1.form;refine hK _ _ ⟨fun _=>aQ.out _ k1,?_⟩;have Nn:=zh k1;have HD1:=zh hd1;have Pg:=zh hv1;have HZ1:=zh (HZ.out.ofNewer k1);obtain⟨UH,za,zm1,zm2,zc0,zc1,zf0,zf1,zb⟩:=HZ1.out.open;clear hK K hk1 k1 hd1 hv1 hx0 hx1 hy0 hy1 HF aQ
  (repeat(quiet_step (fail)));refine wpQuiet_nil ?_
  refine ay rfl rfl fun K hK=> ?_;go_simp;refine hK _ _ ⟨fun h=>(by simp at h),?_⟩;clear hK K
  (repeat(quiet_step (fail)));refine wpQuiet_nil ?_
  refine ay rfl rfl fun K hK=> ?_;go_simp;refine hK _ _ ⟨fun h=>(by simp at h),?_⟩;clear hK K
  (repeat(quiet_step (fail)));refine wpQuiet_nil ?_
  refine NoPanic.normal ?_;have HR:=zh (pI HZ1.out neg HD1.out);go_wp2_with fail;refine(kR _ bz oz _ _ HR.out).mono ?_;rintro e w2 ⟨rfl,hk2,hi2⟩;have Ab:=zh hk2;have HI2:=zh hi2;clear hk2 hi2;go_wp2;go_returns;refine⟨rfl,?_,?_⟩
  ·exact (((Nn.out.any (S:=At bz oz)).setCell _ (fun _=>wT bz oz)).setCell _ (fun _=>FV bz oz)).trans Ab.out fun _ _ _ h=>h
  rw [← HA.out,←Pg.out.1];exact HI2.out
 have HA:Hid (iP dN (dval ds'-dval ds)=x+y):=zh (by rw [HZX.out,HZY.out];exact J8 hs om);have e2:decide (0≤eY (dval ds) (dval ds'))=false:=by rw [Dg];exact decide_eq_false hge
 have FI:=zh (HL2.out om);have ZO:Hid (dval ds≤dval ds'):=zh om;generalize eY (dval ds) (dval ds')=cc at *;clear hs hge;go_enter Tryz.func111,Tryz.ntmps111;go_wp2;go_quiet (fail);go_wp2_with fail;refine(C.out _).mono ?_;rintro e w0 ⟨rfl,nd,rfl⟩;go_wp2;refine aD (fun w'=>Keep au w w') [0,1,17,18,19,20] [([0,1,2,3,4,5,6,7,8,9,10,11,12,13],14),([15,16],17),([18,19],20)] [] kr kr kp ?_;intro X W hne hF hcl;have HF:=zh hF;have aQ:=zh hcl;have hx0:=fun x=>((hF x).cell yN).trans cx0;have hx1:=fun x=>((hF x).cell yN).trans cx1;have hy0:=fun x=>((hF x).cell uK).trans cy0;have hy1:=fun x=>((hF x).cell uK).trans cy1;clear hF hcl;simp only [aO,aJ,zl0,zl1,zl2,aR,Bool.false_eq_true,if_false]
 (repeat(quiet_step (fail)));refine wpQuiet_nil ?_
 refine ay rfl rfl fun K hK=> ?_;go_simp;refine(Ed _ _ _ ds' ds (Ub.out.ofNewer kp) (Pf.out.ofNewer kp) om FI.out ZO.out).mono ?_;rintro e w1 ⟨v1,ds1,rfl,hk1,hd1,hv1⟩;have k1:Keep au w w1:=Keep.trans kp hk1 fun _ _ _ h=>h;obtain⟨g1,cap1,rfl⟩:=hd1.form;refine hK _ _ ⟨fun _=>aQ.out _ k1,?_⟩;have Nn:=zh k1;have HD1:=zh hd1;have Pg:=zh hv1;have HZ1:=zh (HZ.out.ofNewer k1);obtain⟨UH,za,zm1,zm2,zc0,zc1,zf0,zf1,zb⟩:=HZ1.out.open;clear hK K hk1 k1 hd1 hv1 hx0 hx1 hy0 hy1 HF aQ
 (repeat(quiet_step (fail)));refine wpQuiet_nil ?_
 refine ay rfl rfl fun K hK=> ?_;go_simp;refine hK _ _ ⟨fun h=>(by simp at h),?_⟩;clear hK K
 (repeat(quiet_step (fail)));refine wpQuiet_nil ?_
 refine ay rfl rfl fun K hK=> ?_;go_simp;refine hK _ _ ⟨fun h=>(by simp at h),?_⟩;clear hK K
 (repeat(quiet_step (fail)));refine wpQuiet_nil ?_
 refine NoPanic.normal ?_;have HR:=zh (pI HZ1.out dN HD1.out);go_wp2_with fail;refine(kR _ bz oz _ _ HR.out).mono ?_;rintro e w2 ⟨rfl,hk2,hi2⟩;have Ab:=zh hk2;have HI2:=zh hi2;clear hk2 hi2;go_wp2;go_returns;refine⟨rfl,?_,?_⟩
 ·exact (((Nn.out.any (S:=At bz oz)).setCell _ (fun _=>wT bz oz)).setCell _ (fun _=>FV bz oz)).trans Ab.out fun _ _ _ h=>h
 rw [← HA.out,←Pg.out.1];exact HI2.out
theorem Ph (w:World)(bz oz bx ox eP oy:Nat)(x y:Int)(hz:bQ w bz oz)(hx:bC w bx ox x)(hy:bC w eP oy y)(hbx:x.natAbs<BIG)(hby:y.natAbs<BIG):
  Calls Tryz.prog 160 #[.pointer (some ⟨bz,oz,none⟩),.pointer (some ⟨bx,ox,none⟩),.pointer (some ⟨eP,oy,none⟩)] w fun e w'=>e= .returned (.pointer (some ⟨bz,oz,none⟩))∧Keep (At bz oz) w w'∧bC w' bz oz (x-y):=by
 have Hz:=zh hz;have Hx:=zh hx;have Hy:=zh hy;have ZP:=zh hbx;have Ye:=zh hby;clear hz hx hy hbx hby;go_enter Tryz.func160,Tryz.ntmps160;go_wp2_with fail;have k1:Keep au w (w.alloc (.cells intCells 125)):=(Keep.refl _ _).alloc _;refine(Di _ w.heap.size 0 eP oy y (dY w) (Hy.out.ofNewer k1) Ye.out).mono ?_;rintro e w1 ⟨rfl,hk1,hi1⟩;have K1:=zh (k1.trans hk1 fun n o hn h=>by have:=h.1;omega);have Hi:=zh hi1;clear k1 hk1 hi1;go_wp2_with fail;refine(Dh w1 bz oz bx ox w.heap.size 0 x (-y) (Hz.out.ofNewer K1.out) (Hx.out.ofNewer K1.out) Hi.out ZP.out (by rw [Int.natAbs_neg];exact Ye.out)).mono ?_;rintro e w2 ⟨rfl,hk2,hi2⟩;go_wp2;go_returns;exact⟨rfl,K1.out.any.trans hk2 fun _ _ _ h=>h,by rw [Int.sub_eq_add_neg];exact hi2⟩
structure Ee (X Y:Nat→Nat)(n m i:Nat)(f:Nat→Nat):Prop where
 lt:∀p,p<n+m→f p<4294967296
 zero:∀p,i+m≤p→p<n+m→f p=0
 val:dv f (n+m)=dv X i*dv Y m
structure qR (X Y:Nat→Nat)(n m i j q:Nat)(f:Nat→Nat):Prop where
 lt:∀p,p<n+m→f p<4294967296
 zero:∀p,i+m≤p→p<n+m→f p=0
 qlt:q<4294967296
 val:dv f (n+m)+4294967296^(i+j)*q=dv X i*dv Y m+X i*4294967296^i*dv Y j
theorem Ee.start {X Y f:Nat→Nat}{n m i:Nat}(h:Ee X Y n m i f):qR X Y n m i 0 0 f:=⟨h.lt,h.zero,om,by rw [h.val];simp [dv]⟩
theorem mul_lt {a b:Nat}(ha:a<4294967296)(hb:b<4294967296):a*b≤18446744065119617025:=
 Nat.mul_le_mul (show a≤4294967295 from om) (show b≤4294967295 from om)
theorem wF {a b:Nat}(ha:a<4294967296)(hb:b<4294967296):0≤(a:Int)*(b:Int)∧(a:Int)*(b:Int)≤18446744065119617025:=by
 have:=mul_lt ha hb;rw [← Int.natCast_mul];omega
theorem qR.step {X Y f:Nat→Nat}{n m i j q:Nat}(h:qR X Y n m i j q f)(hi:i<n)(hj:j<m)(hX:X i<4294967296)(hY:Y j<4294967296){d q1:Nat}(hd:d=(q+(X i*Y j+f (i+j)))%4294967296)(hq:q1=(q+(X i*Y j+f (i+j)))/4294967296):
  qR X Y n m i (j+1) q1 fun p=>if p=i+j then d else f p:=by
 have hxy:=mul_lt hX hY;have hf:=h.lt (i+j) om;have hqq:=h.qlt;refine⟨fun p hp=> ?_,fun p h1 h2=> ?_,om,?_⟩
 ·by_cases e:p=i+j
  ·simp only [e,if_true];omega
  simp only [e,if_false];exact h.lt p hp
 ·rw [if_neg om];exact h.zero p h1 h2
 have hu:=Ea f (i+j) d (n+m) om;have hv:=h.val;have e:=Nat.div_add_mod (q+(X i*Y j+f (i+j))) 4294967296;rw [← hd,←hq]at e;have e2:4294967296^(i+j)*(4294967296*q1+d)=4294967296^(i+j)*(q+(X i*Y j+f (i+j))):=by rw [e]
 rw [Nat.mul_add,Nat.mul_add,Nat.mul_add,←Nat.mul_assoc]at e2;have e3:X i*4294967296^i*(4294967296^j*Y j)=4294967296^(i+j)*(X i*Y j):=by
  rw [Nat.pow_add];simp only [Nat.mul_assoc,Nat.mul_comm,Nat.mul_left_comm]
 rw [dv,Nat.mul_add,e3,←Nat.add_assoc i j 1,Nat.pow_succ];omega
theorem qR.fin {X Y f:Nat→Nat}{n m i q:Nat}(h:qR X Y n m i m q f)(hi:i<n):Ee X Y n m (i+1) fun p=>if p=i+m then q else f p:=by
 refine⟨fun p hp=> ?_,fun p h1 h2=> ?_,?_⟩
 ·by_cases e:p=i+m
  ·simp only [e,if_true];exact h.qlt
  simp only [e,if_false];exact h.lt p hp
 ·rw [if_neg om];exact h.zero p om h2
 have hu:=Ea f (i+m) q (n+m) om;have hv:=h.val;have h0:=h.zero (i+m) (Nat.le_refl _) om;rw [h0,Nat.mul_zero,Nat.add_zero]at hu;rw [hu,hv,dv,Nat.add_mul,Nat.mul_comm (4294967296^i) (X i)]
theorem Pj (neg dN:Bool)(a b:Nat):iP (neg != dN) (a*b)=iP neg a*iP dN b:=by
 cases neg<;>cases dN<;>simp [iP,Int.mul_neg,Int.neg_mul]
theorem yO (w:World)(bz oz bx ox eP oy:Nat)(x y:Int)(hz:bQ w bz oz)(hx:bC w bx ox x)(hy:bC w eP oy y)(hbx:x.natAbs<BIG)(hby:y.natAbs<BIG):
  Calls Tryz.prog 108 #[.pointer (some ⟨bz,oz,none⟩),.pointer (some ⟨bx,ox,none⟩),.pointer (some ⟨eP,oy,none⟩)] w fun e w'=>e= .returned (.pointer (some ⟨bz,oz,none⟩))∧Keep (At bz oz) w w'∧bC w' bz oz (x*y):=by
 obtain⟨neg,ds,hrx,hn,hne,hzx,h1,h2,h3⟩:=hx.open;obtain⟨dN,ds',yM,hn',hne',hzy,h1',h2',h3'⟩:=hy.open;have hlx:=mE ds hn (by rw [h3];exact hbx)
 have ZN:=mE ds' hn' (by rw [h3'];exact hby);have HA:Hid (iP (neg != dN) (dval ds*dval ds')=x*y):=zh (by rw [hzx,hzy];exact Pj _ _ _ _);obtain⟨g,cap,cx0,cx1,BI,yN⟩:=hrx.parts;obtain⟨g',cap',cy0,cy1,hdy,uK⟩:=yM.parts;have HZ:=zh hz;have Pf:=zh BI;have Ub:=zh hdy;clear hx hy hz hrx yM hn hne hzx h1 h2 h3 hn' hne' hzy h1' h2' h3' hbx hby BI hdy;obtain⟨i0,hi0,hz0,hs0,hb0⟩:=info_parts iT;obtain⟨w2,hr2,ho2,hg2⟩:=run_make_full (P:=Tryz.prog) w.drew w.heap.size 123 166 i0 (.int .u32 0) 1 Tryz.underlying123 hi0 hz0 hs0 .i64 .i64 (ds.length+ds'.length) (by rw [hb0];omega) (by unfold maxLen;omega) sm;rw [show((ds.length+ds'.length:Nat):Int)=(ds.length:Int)+(ds'.length:Int)from om]at hr2;obtain⟨go,hgo⟩:∃go,go=w.heap.size:=⟨_,rfl⟩;rw [show w.drew.heap.size=go from hgo.symm]at hr2 ho2;have hwr:IntKind.i64.wrap ((ds.length:Int)+(ds'.length:Int))=(ds.length:Int)+(ds'.length:Int):=Go.IntWalk.i64_in _ om;have P2:dn w2 go (ds.length+ds'.length) (fun _=>0):=fq ho2 fun i hi=>jf rfl _ i hi;have L2:Keep au w w2:=(Keep.refl au w).drew.trans (Keep.of_below (dH hg2 w.heap.size sm sm) sm) fun _ _ _ h=>h;have IB:=zh P2;have HL2:=zh L2;have oO:=zh hgo;clear ho2 hg2 P2 L2 hgo;go_enter Tryz.func108,Tryz.ntmps108;go_wp2;refine aD (fun w'=>Keep au w w') [] [([0,1,2,3,4,5,6,7,8,9,10],11)] [12] kr kr kp ?_;intro X W hne hF hcl;have HF:=zh hF;have aQ:=zh hcl;have hx0:=fun x=>((hF x).cell yN).trans cx0;have hx1:=fun x=>((hF x).cell yN).trans cx1;have hy0:=fun x=>((hF x).cell uK).trans cy0;have hy1:=fun x=>((hF x).cell uK).trans cy1;clear hF hcl;simp only [aO,aJ,zl0,zl1,zl2,aR,Bool.false_eq_true,if_false]
 (repeat(quiet_step (fail)));refine wpQuiet_nil ?_
 refine ay rfl rfl fun K hK=> ?_;go_simp;refine hK _ _ ⟨fun _=>aQ.out _ HL2.out,?_⟩;clear hK K hr2
 (repeat(quiet_step (fail)));refine wpQuiet_nil ?_
 refine NoPanic.normal ?_;clear hx0 hx1 hy0 hy1 HF aQ hwr;have dx0:=(HL2.out.cell yN).trans cx1;have dy0:=(HL2.out.cell uK).trans cy1;have dlx:=dJ yN HL2.out.size;have dly:=dJ uK HL2.out.size;go_wp2;clear dx0 dy0 dlx dly;go_loopw [30] (fun s wr=>∃i:Nat,i≤ds.length∧s= .int .i64 i∧Keep au w wr∧∃f,dn wr go (ds.length+ds'.length) f∧Ee (fun p=>ds.getD p 0) (fun p=>ds'.getD p 0) ds.length ds'.length i f) (fun s _=>(ds.length-intOf s).toNat)
 case atStart=>exact⟨0,om,rfl,HL2.out,fun _=>0,IB.out,fun _ _=>om,fun _ _ _=>rfl,by
  have:=sK (f:=fun _=>0) (n:=0) (ds.length+ds'.length) (fun _ _ _=>rfl);rw [Nat.zero_add]at this;rw [this];simp [dv]⟩
 obtain⟨i,hi,rfl,hkp,f,har,hrow⟩:=hrel;have nQ:=zh hkp;have rH:=zh har;have Yf:=zh hrow;clear hkp har hrow;by_cases hil:i<ds.length
 ·have hlt:(i:Int)<(ds.length:Int):=om;obtain⟨_,_,hv,_,_,hg,hcx,hbx⟩:=Pf.out.open
  cases hv;have ca:=hcx _ nQ.out i hil;have ba:=hbx i;have hgl:=dJ hg nQ.out.size;have dy0:=(nQ.out.cell uK).trans cy1;have dly:=dJ uK nQ.out.size;clear hcx hbx;have HCO:=zh Yf.out.start;clear Yf;obtain⟨w3,rfl⟩:∃W:World,W=wr:=⟨_,rfl⟩;generalize hX:(fun p=>ds.getD p 0)=X at*;have hXi:ds.getD i 0=X i:=by rw [← hX]
  rw [hXi]at ca ba;have HXX:=zh hX;clear hX hXi;generalize hx:X i=xi at ca ba;have XJ:=zh hx;clear hx;go_wp2;clear ca dy0 dly;have bxi:(xi:Int)<4294967296:=om;go_loopw [40,10] (fun s t wr=>∃j:Nat,j≤ds'.length∧s= .int .i64 j∧Keep au w wr∧∃q:Nat,∃f,t= .int .u64 q∧dn wr go (ds.length+ds'.length) f∧qR X (fun p=>ds'.getD p 0) ds.length ds'.length i j q f) (fun s _ _=>(ds'.length-intOf s).toNat)
  case atStart=>exact⟨0,om,rfl,nQ.out,0,f,rfl,rH.out,HCO.out⟩
  obtain⟨j,hj,rfl,hkq,q,f2,rfl,har,uR⟩:=hrel;have HKQ:=zh hkq;have HA2:=zh har;have ND:=zh uR;have hgo2:=har.lt;have hfree:=har.free;have dy0:=(hkq.cell uK).trans cy1;have dly:=dJ uK hkq.size;have bq:(q:Int)<4294967296:=by have:=uR.qlt;omega
  by_cases hjl:j<ds'.length
  ·have UJ:(j:Int)<(ds'.length:Int):=om;obtain⟨_,_,hv,_,_,hg',hcy,hby⟩:=Ub.out.open
   cases hv;have cb:=hcy _ hkq j hjl;have bb:=hby j;have zcN:=dJ hg' hkq.size;have co:=har.cell (i:=i+j) om;have bo:=uR.lt (i+j) om;have fij:=hfree (i+j);have hst:∀d q1,d=(q+(xi*ds'.getD j 0+f2 (i+j)))%4294967296→q1=(q+(xi*ds'.getD j 0+f2 (i+j)))/4294967296→qR X (fun p=>ds'.getD p 0) ds.length ds'.length i (j+1) q1 fun p=>if p=i+j then d else f2 p:=fun d q1 h1 h2=>
    uR.step hil hjl (by rw [XJ.out];exact ba) bb (by rw [XJ.out];exact h1) (by rw [XJ.out];exact h2)
   have HST:=zh hst;clear hcy hby hkq har uR hst hfree dy0 dly;generalize ds'.getD j 0=b at *;generalize f2 (i+j)=o at *;obtain⟨hm3,hm2⟩:=wF ba bb;have hix:(i:Int)+(j:Int)<(ds.length:Int)+(ds'.length:Int):=om;go_wp2;go_roundw
   case rel=>
    exact⟨j+1,om,gn,HKQ.out.setCell _ (fun h=>absurd h (by have:=oO.out;omega)),(q+(xi*b+o))/4294967296,_,congrArg (Value.int .u64) (by rw [← Int.natCast_mul];omega),
     dn.set HA2.out (i+j) ((q+(xi*b+o))%4294967296) (congrArg (Value.int .u32) (by rw [← Int.natCast_mul];omega)),HST.out _ _ rfl rfl⟩
   simp [intOf];omega
  have UJ:¬(j:Int)<(ds'.length:Int):=om;obtain rfl:j=ds'.length:=om;have co:=har.cell (i:=i+ds'.length) om;have fij:=hfree (i+ds'.length);have wE:=zh (uR.fin hil);clear hkq har uR hfree;generalize f2 (i+ds'.length)=o at co;have hix:(i:Int)+(ds'.length:Int)<(ds.length:Int)+(ds'.length:Int):=om;go_wp2;go_roundw
  case rel=>
   exact⟨i+1,om,gn,HKQ.out.setCell _ (fun h=>absurd h (by have:=oO.out;omega)),_,dn.set HA2.out (i+ds'.length) q rfl,wE.out⟩
  simp [intOf];omega
 have hlt:¬(i:Int)<(ds.length:Int):=om;obtain rfl:i=ds.length:=om;have HZ1:=zh (HZ.out.ofNewer nQ.out);obtain⟨UH,za,zm1,zm2,zc0,zc1,zf0,zf1,zb⟩:=HZ1.out.open;have HD1:=zh (fC rH.out (Nat.le_refl _) (by unfold maxLen;omega) Yf.out.lt)
 obtain⟨w3,rfl⟩:∃W:World,W=wr:=⟨_,rfl⟩;go_wp2;have hbx3:=dJ yN nQ.out.size;have hby3:=dJ uK nQ.out.size;have ex0:=(nQ.out.cell yN).trans cx0;have ey0:=(nQ.out.cell uK).trans cy0;refine aD (fun w'=>Keep au w3 w') [0,1,11,14,15,16,17] [([11,0,1,2,3,4,5,6,7,8,9,10,12,13],14),([15,16],17)] [] kr kr kp ?_;intro X W hne hF hcl;have hx0:=fun x=>((hF x).cell hbx3).trans ex0;have hy0:=fun x=>((hF x).cell hby3).trans ey0;clear hF hcl;simp only [aO,aJ,zl0,zl1,zl2,aR,Bool.false_eq_true,if_false]
 (repeat(quiet_step (fail)));refine wpQuiet_nil ?_
 refine ay rfl rfl fun K hK=> ?_;go_simp;refine hK _ _ ⟨fun h=>(by simp at h),?_⟩;clear hK K
 (repeat(quiet_step (fail)));refine wpQuiet_nil ?_
 refine ay rfl rfl fun K hK=> ?_;go_simp;refine hK _ _ ⟨fun h=>(by simp at h),?_⟩;clear hK K
 (repeat(quiet_step (fail)));refine wpQuiet_nil ?_
 refine NoPanic.normal ?_;have HR:=zh ((pI HZ1.out (!(neg==dN)) HD1.out).keep (Keep.refl au _).drew (Off.noS _ _ _));go_wp2_with fail;refine(kR _ bz oz _ _ HR.out).mono ?_;rintro e w4 ⟨rfl,hk4,hi4⟩;have Yg:=zh hk4;have HI4:=zh hi4;clear hk4 hi4;go_wp2;go_returns;refine⟨rfl,?_,?_⟩
 ·exact ((((nQ.out.any (S:=At bz oz)).setCell _ (fun _=>wT bz oz)).setCell _ (fun _=>FV bz oz)).drew).trans Yg.out fun _ _ _ h=>h
 have:=HI4.out;rw [je,Yf.out.val,←mP,←mP]at this;rw [← HA.out];exact this
def ZQ (N:Nat):Prop:=∀a b:Int,b≠0→a.natAbs<N→b.natAbs<N→∀(w:World) (bz oz ba oa bb ob:Nat),iK w bz oz→bC w ba oa a→bC w bb ob b→
  Calls Tryz.prog 72 #[.pointer (some ⟨bz,oz,none⟩),.pointer (some ⟨ba,oa,none⟩),.pointer (some ⟨bb,ob,none⟩)] w fun e w'=>
   e= .returned (.pointer (some ⟨bz,oz,none⟩))∧Keep (AtR bz oz) w w'∧eZ w' bz oz (Rat.divInt a b)
def RB (N:Nat)(q:Rat):Prop:=q.num.natAbs<N∧q.den<N
theorem RB.mono {N M:Nat}{q:Rat}(h:RB N q)(hm:N≤M):RB M q:=⟨dJ h.1 hm,dJ h.2 hm⟩
theorem Keep.newer {w0 w w':World}{b o:Nat}(h:Keep au w0 w)(k:Keep (At b o) w w')(hb:w0.heap.size≤b):Keep au w0 w':=h.trans k fun n o hn h=>by have:=h.1;omega
theorem Keep.newerR {w0 w w':World}{b o:Nat}(h:Keep au w0 w)(k:Keep (AtR b o) w w')(hb:w0.heap.size≤b):Keep au w0 w':=h.trans k fun n o hn h=>by rcases h with h | h<;>(have:=h.1;omega)
theorem Keep.both {w0 w w':World}(h:Keep au w0 w)(k:Keep au w w'):Keep au w0 w':=h.trans k fun _ _ _ h=>h
theorem jA (q:Rat):(q.den:Int)≠0:=by have:=q.den_pos;omega
theorem IC (x y:Rat):Rat.divInt (x.num*y.num) (x.den*y.den)=x*y:=by
 rw [← Rat.divInt_mul_divInt,Rat.num_divInt_den,Rat.num_divInt_den]
theorem IE (x y:Rat):Rat.divInt (x.num*y.den+y.num*x.den) (x.den*y.den)=x+y:=by
 rw [← Rat.divInt_add_divInt _ _ (jA x) (jA y),Rat.num_divInt_den,Rat.num_divInt_den]
theorem Pk {x y:Rat}(hy:y≠0):Rat.divInt (x.num*y.den) (x.den*y.num)=x/y:=by
 rw [← Rat.divInt_mul_divInt,Rat.num_divInt_den,←Rat.inv_def,Rat.div_def]
theorem UL (x:Rat):Rat.divInt (-x.num) x.den= -x:=by
 rw [← Rat.neg_num,←Rat.neg_den,Rat.num_divInt_den]
abbrev bK:Array Value:= #[.bool false,.slice none 0 0,.bool false,.slice none 0 0]
section
variable {N:Nat} (hN:N≤BIG) (S:ZQ N) (w:World) (bz oz bx ox eP oy:Nat) (x y:Rat)
include hN S in
theorem Q7 (hz:iK w bz oz)(hx:eZ w bx ox x)(hy:eZ w eP oy y)(h1:RB BIG x)(h2:RB BIG y)(h3:(x.num*y.num).natAbs<N)(h4:x.den*y.den<N):
  Calls Tryz.prog 67 #[.pointer (some ⟨bz,oz,none⟩),.pointer (some ⟨bx,ox,none⟩),.pointer (some ⟨eP,oy,none⟩)] w fun e w'=>
   e= .returned (.pointer (some ⟨bz,oz,none⟩))∧Keep (AtR bz oz) w w'∧eZ w' bz oz (x*y):=by
 have HZ:=zh hz;have HX:=zh hx;have HY:=zh hy;have H1:=zh h1;have H2:=zh h2;have H3:=zh h3;have H4:=zh h4;have Ac:=zh hN;have HS:=zh S;clear hz hx hy h1 h2 h3 h4 hN S;go_enter Tryz.func67,Tryz.ntmps67;go_wp2_with fail;have k1:Keep au w (w.alloc (.cells intCells 125)):=(Keep.refl _ _).alloc _;refine(Dj _ bx ox x (HX.out.ofNewer k1) H1.out.1).mono ?_;rintro e w1 ⟨b1,hb1,rfl,hk1,hi1⟩;have K1:=zh (k1.both hk1);have HH:=zh (bQ.ofNewer (dY w) hk1);have HI1:=zh hi1;clear k1 hk1 hi1 hb1;go_wp2_with fail;refine(Dj w1 eP oy y (HY.out.ofNewer K1.out) H2.out.1).mono ?_;rintro e w2 ⟨b2,hb2,rfl,hk2,hi2⟩;have K2:=zh (K1.out.both hk2);have HH2:=zh (bQ.ofNewer HH.out hk2);have IG:=zh (HI1.out.ofNewer hk2);have HI2:=zh hi2;clear hk2 hi2 hb2 K1 HI1 HH;go_wp2_with fail;refine(yO w2 w.heap.size 0 b1 0 b2 0 _ _ HH2.out IG.out HI2.out H1.out.1 H2.out.1).mono ?_;rintro e w3 ⟨rfl,hk3,hi3⟩;have K3:=zh (K2.out.newer hk3 (Nat.le_refl _));have HI3:=zh hi3;have hs3:=HI3.out.lt;clear hk3 hi3 K2 IG HI2 HH2;go_wp2_with fail;have k4:Keep au w3 (w3.alloc (.cells intCells 125)):=(Keep.refl _ _).alloc _;refine(mF _ bx ox x (HX.out.ofNewer (K3.out.both k4)) H1.out.2).mono ?_;rintro e w4 ⟨b4,hb4,rfl,hk4,hi4⟩;have K4:=zh (k4.both hk4);have HH:=zh (bQ.ofNewer (dY w3) hk4);have HI4:=zh hi4;clear k4 hk4 hi4 hb4;go_wp2_with fail;refine(mF w4 eP oy y (HY.out.ofNewer (K3.out.both K4.out)) H2.out.2).mono ?_;rintro e w5 ⟨b5,hb5,rfl,hk5,hi5⟩;have K5:=zh (K4.out.both hk5);have Ef:=zh (bQ.ofNewer HH.out hk5);have Eh:=zh (HI4.out.ofNewer hk5);have Dk:=zh hi5;clear hk5 hi5 hb5 K4 HI4 HH;go_wp2_with fail;refine(yO w5 w3.heap.size 0 b4 0 b5 0 _ _ Ef.out Eh.out Dk.out (by simpa using H1.out.2) (by simpa using H2.out.2)).mono ?_;rintro e w6 ⟨rfl,hk6,hi6⟩;have K6:=zh (K5.out.newer hk6 (Nat.le_refl _));have Uc:=zh hi6;clear hk6 hi6 K5 Eh Dk Ef;go_wp2_with fail;refine(HS.out (x.num*y.num) (x.den*y.den) (Int.mul_ne_zero (jA x) (jA y)) H3.out (by rw [Int.natAbs_mul];exact H4.out) w6 bz oz w.heap.size 0 w3.heap.size 0 (HZ.out.ofNewer (K3.out.both K6.out)) (HI3.out.ofNewer K6.out) Uc.out).mono ?_;rintro e w7 ⟨rfl,hk7,hi7⟩;have UM:=zh hk7;have HI7:=zh hi7;clear hk7 hi7;go_wp2;go_returns;exact⟨rfl,(K3.out.both K6.out).any.trans UM.out fun _ _ _ h=>h,by rw [← IC];exact HI7.out⟩
include hN S in
theorem Gw (hz:iK w bz oz)(hx:eZ w bx ox x)(hy:eZ w eP oy y)(h1:RB BIG x)(h2:RB BIG y)(h3:(x.num*y.den+y.num*x.den).natAbs<N)(h4:x.den*y.den<N)(h5:(x.num*y.den).natAbs<BIG)(h6:(y.num*x.den).natAbs<BIG):
  Calls Tryz.prog 69 #[.pointer (some ⟨bz,oz,none⟩),.pointer (some ⟨bx,ox,none⟩),.pointer (some ⟨eP,oy,none⟩)] w fun e w'=>
   e= .returned (.pointer (some ⟨bz,oz,none⟩))∧Keep (AtR bz oz) w w'∧eZ w' bz oz (x+y):=by
 have HZ:=zh hz;have HX:=zh hx;have HY:=zh hy;have H1:=zh h1;have H2:=zh h2;have H3:=zh h3;have H4:=zh h4;have H5:=zh h5;have H6:=zh h6;have Ac:=zh hN;have HS:=zh S;clear hz hx hy h1 h2 h3 h4 h5 h6 hN S;go_enter Tryz.func69,Tryz.ntmps69;go_wp2_with fail;have k1:Keep au w (w.alloc (.cells intCells 125)):=(Keep.refl _ _).alloc _;refine(Dj _ bx ox x (HX.out.ofNewer k1) H1.out.1).mono ?_;rintro e w1 ⟨b1,hb1,rfl,hk1,hi1⟩;have K1:=zh (k1.both hk1);have HH:=zh (bQ.ofNewer (dY w) hk1);have HI1:=zh hi1;clear k1 hk1 hi1 hb1;go_wp2_with fail;refine(mF w1 eP oy y (HY.out.ofNewer K1.out) H2.out.2).mono ?_;rintro e w2 ⟨b2,hb2,rfl,hk2,hi2⟩;have K2:=zh (K1.out.both hk2);have HH2:=zh (bQ.ofNewer HH.out hk2);have IG:=zh (HI1.out.ofNewer hk2);have HI2:=zh hi2;clear hk2 hi2 hb2 K1 HI1 HH;go_wp2_with fail;refine(yO w2 w.heap.size 0 b1 0 b2 0 _ _ HH2.out IG.out HI2.out H1.out.1 (by simpa using H2.out.2)).mono ?_;rintro e w3 ⟨rfl,hk3,hi3⟩;have K3:=zh (K2.out.newer hk3 (Nat.le_refl _));have HI3:=zh hi3;have hs3:=HI3.out.lt;clear hk3 hi3 K2 IG HI2 HH2;go_wp2_with fail;have k4:Keep au w3 (w3.alloc (.cells intCells 125)):=(Keep.refl _ _).alloc _;refine(Dj _ eP oy y (HY.out.ofNewer (K3.out.both k4)) H2.out.1).mono ?_;rintro e w4 ⟨b4,hb4,rfl,hk4,hi4⟩;have K4:=zh (k4.both hk4);have HH:=zh (bQ.ofNewer (dY w3) hk4);have HI4:=zh hi4;clear k4 hk4 hi4 hb4;go_wp2_with fail;refine(mF w4 bx ox x (HX.out.ofNewer (K3.out.both K4.out)) H1.out.2).mono ?_;rintro e w5 ⟨b5,hb5,rfl,hk5,hi5⟩;have K5:=zh (K4.out.both hk5);have Ef:=zh (bQ.ofNewer HH.out hk5);have Eh:=zh (HI4.out.ofNewer hk5);have Dk:=zh hi5;clear hk5 hi5 hb5 K4 HI4 HH;go_wp2_with fail;refine(yO w5 w3.heap.size 0 b4 0 b5 0 _ _ Ef.out Eh.out Dk.out H2.out.1 (by simpa using H1.out.2)).mono ?_;rintro e w6 ⟨rfl,hk6,hi6⟩;have K6:=zh (K5.out.newer hk6 (Nat.le_refl _));have Uc:=zh hi6;have zaq:=zh (HI3.out.ofNewer K6.out);clear hk6 hi6 K5 Eh Dk Ef;go_wp2_with fail;refine(Dh w6 w.heap.size 0 w.heap.size 0 w3.heap.size 0 _ _ zaq.out.hdr zaq.out Uc.out H5.out H6.out).mono ?_;rintro e w7 ⟨rfl,hk7,hi7⟩;have K7:=zh ((K3.out.both K6.out).newer hk7 (Nat.le_refl _));have HI7:=zh hi7;have hs7:=HI7.out.lt;clear hk7 hi7 K6 Uc zaq HI3 K3;go_wp2_with fail;have k8:Keep au w7 (w7.alloc (.cells intCells 125)):=(Keep.refl _ _).alloc _;refine(mF _ bx ox x (HX.out.ofNewer (K7.out.both k8)) H1.out.2).mono ?_;rintro e w8 ⟨b8,hb8,rfl,hk8,hi8⟩;have K8:=zh (k8.both hk8);have HH:=zh (bQ.ofNewer (dY w7) hk8);have HI8:=zh hi8;clear k8 hk8 hi8 hb8;go_wp2_with fail;refine(mF w8 eP oy y (HY.out.ofNewer (K7.out.both K8.out)) H2.out.2).mono ?_;rintro e w9 ⟨b9,hb9,rfl,hk9,hi9⟩;have K9:=zh (K8.out.both hk9);have HH9:=zh (bQ.ofNewer HH.out hk9);have zbu:=zh (HI8.out.ofNewer hk9);have XK:=zh hi9;clear hk9 hi9 hb9 K8 HI8 HH;go_wp2_with fail;refine(yO w9 w7.heap.size 0 b8 0 b9 0 _ _ HH9.out zbu.out XK.out (by simpa using H1.out.2) (by simpa using H2.out.2)).mono ?_;rintro e wa ⟨rfl,hka,hia⟩;have KA:=zh (K9.out.newer hka (Nat.le_refl _));have HIA:=zh hia;clear hka hia K9 zbu XK HH9;go_wp2_with fail;refine(HS.out (x.num*y.den+y.num*x.den) (x.den*y.den) (Int.mul_ne_zero (jA x) (jA y)) H3.out (by rw [Int.natAbs_mul];exact H4.out) wa bz oz w.heap.size 0 w7.heap.size 0 (HZ.out.ofNewer (K7.out.both KA.out)) (HI7.out.ofNewer KA.out) HIA.out).mono ?_;rintro e wb ⟨rfl,hkb,hib⟩;have HKB:=zh hkb;have HIB:=zh hib;clear hkb hib;go_wp2;go_returns;exact⟨rfl,(K7.out.both KA.out).any.trans HKB.out fun _ _ _ h=>h,by rw [← IE];exact HIB.out⟩
include hN S in
theorem Q8 (hz:iK w bz oz)(hx:eZ w bx ox x)(h1:RB N x):
  Calls Tryz.prog 112 #[.pointer (some ⟨bz,oz,none⟩),.pointer (some ⟨bx,ox,none⟩)] w fun e w'=>
   e= .returned (.pointer (some ⟨bz,oz,none⟩))∧Keep (AtR bz oz) w w'∧eZ w' bz oz (-x):=by
 have HZ:=zh hz;have HX:=zh hx;have H0:=zh h1;have H1:=zh (h1.mono hN);have HS:=zh S;clear hz hx h1 hN S;go_enter Tryz.func112,Tryz.ntmps112;go_wp2_with fail;have k1:Keep au w (w.alloc (.cells intCells 125)):=(Keep.refl _ _).alloc _;refine(Di _ w.heap.size 0 bx ox x.num (dY w) (HX.out.1.ofNewer k1) H1.out.1).mono ?_;rintro e w1 ⟨rfl,hk1,hi1⟩;have K1:=zh (k1.newer hk1 (Nat.le_refl _));have HI1:=zh hi1;clear k1 hk1 hi1;go_wp2_with fail;refine(mF w1 bx ox x (HX.out.ofNewer K1.out) H1.out.2).mono ?_;rintro e w2 ⟨b2,hb2,rfl,hk2,hi2⟩;have K2:=zh (K1.out.both hk2);have IG:=zh (HI1.out.ofNewer hk2);have HI2:=zh hi2;clear hk2 hi2 hb2 K1 HI1;go_wp2_with fail;refine(HS.out (-x.num) x.den (jA x) (by rw [Int.natAbs_neg];exact H0.out.1) (by simpa using H0.out.2) w2 bz oz w.heap.size 0 b2 0 (HZ.out.ofNewer K2.out) IG.out HI2.out).mono ?_;rintro e w3 ⟨rfl,hk3,hi3⟩;have yI:=zh hk3;have HI3:=zh hi3;clear hk3 hi3;go_wp2;go_returns;exact⟨rfl,K2.out.any.trans yI.out fun _ _ _ h=>h,by rw [← UL];exact HI3.out⟩
include hN S in
theorem Q9 (hz:iK w bz oz)(hx:eZ w bx ox x)(hy:eZ w eP oy y)(h1:RB BIG x)(h2:RB N y)(h3:(x.num*y.den-y.num*x.den).natAbs<N)(h4:x.den*y.den<N)(h5:(x.num*y.den).natAbs<BIG)(h6:(y.num*x.den).natAbs<BIG):
  Calls Tryz.prog 70 #[.pointer (some ⟨bz,oz,none⟩),.pointer (some ⟨bx,ox,none⟩),.pointer (some ⟨eP,oy,none⟩)] w fun e w'=>
   e= .returned (.pointer (some ⟨bz,oz,none⟩))∧Keep (AtR bz oz) w w'∧eZ w' bz oz (x-y):=by
 have HZ:=zh hz;have HX:=zh hx;have HY:=zh hy;have H1:=zh h1;have H2:=zh h2;have H3:Hid ((x.num*(-y).den+(-y).num*x.den).natAbs<N):=zh (by rw [Rat.neg_num,Rat.neg_den,Int.neg_mul,←Int.sub_eq_add_neg];exact h3);have H4:Hid (x.den*(-y).den<N):=zh (by rw [Rat.neg_den];exact h4);have H5:Hid ((x.num*(-y).den).natAbs<BIG):=zh (by rw [Rat.neg_den];exact h5);have H6:Hid (((-y).num*x.den).natAbs<BIG):=zh (by rw [Rat.neg_num,Int.neg_mul,Int.natAbs_neg];exact h6);have H7:Hid (RB BIG (-y)):=zh ⟨by rw [Rat.neg_num,Int.natAbs_neg];exact(h2.mono hN).1,by rw [Rat.neg_den];exact(h2.mono hN).2⟩;have Ac:=zh hN;have HS:=zh S;clear hz hx hy h1 h2 h3 h4 h5 h6 hN S;go_enter Tryz.func70,Tryz.ntmps70;go_wp2_with fail;have k1:Keep au w (w.alloc (.cells bK 130)):=(Keep.refl _ _).alloc _;refine(Q8 Ac.out HS.out _ w.heap.size 0 eP oy y (gT w) (HY.out.ofNewer k1) H2.out).mono ?_;rintro e w1 ⟨rfl,hk1,hi1⟩;have K1:=zh (k1.newerR hk1 (Nat.le_refl _));have HI1:=zh hi1;clear k1 hk1 hi1;go_wp2_with fail;refine(Gw Ac.out HS.out w1 bz oz bx ox w.heap.size 0 x (-y) (HZ.out.ofNewer K1.out) (HX.out.ofNewer K1.out) HI1.out H1.out H7.out H3.out H4.out H5.out H6.out).mono ?_;rintro e w3 ⟨rfl,hk3,hi3⟩;have yI:=zh hk3;have HI3:=zh hi3;clear hk3 hi3;go_wp2;go_returns;exact⟨rfl,K1.out.any.trans yI.out fun _ _ _ h=>h,by rw [Rat.sub_eq_add_neg];exact HI3.out⟩
theorem qD (hx:eZ w bx ox x):Calls Tryz.prog 71 #[.pointer (some ⟨bx,ox,none⟩)] w fun e w'=>e= .returned (.int .i64 x.num.sign)∧w'=w:=by
 have HX:=zh hx;clear hx;go_enter Tryz.func71,Tryz.ntmps71;go_wp2_with fail;refine(yP w bx ox _ HX.out.1).mono ?_;rintro e w1 ⟨rfl,rfl⟩;go_wp2;go_ret;exact⟨rfl,rfl⟩
include hN S in
theorem Ra (hx:eZ w bx ox x)(hy:eZ w eP oy y)(h1:RB BIG x)(h2:RB N y)(h3:(x.num*y.den-y.num*x.den).natAbs<N)(h4:x.den*y.den<N)(h5:(x.num*y.den).natAbs<BIG)(h6:(y.num*x.den).natAbs<BIG):
  Calls Tryz.prog 37 #[.pointer (some ⟨bx,ox,none⟩),.pointer (some ⟨eP,oy,none⟩)] w fun e w'=>e= .returned (.int .i64 (x-y).num.sign)∧Keep au w w':=by
 have HX:=zh hx;have HY:=zh hy;have H1:=zh h1;have H2:=zh h2;have H3:=zh h3;have H4:=zh h4;have H5:=zh h5;have H6:=zh h6;have Ac:=zh hN;have HS:=zh S;clear hx hy h1 h2 h3 h4 h5 h6 hN S;go_enter Tryz.func37,Tryz.ntmps37;go_wp2_with fail;have k1:Keep au w (w.alloc (.cells bK 130)):=(Keep.refl _ _).alloc _;refine(Q9 Ac.out HS.out _ w.heap.size 0 bx ox eP oy x y (gT w) (HX.out.ofNewer k1) (HY.out.ofNewer k1) H1.out H2.out H3.out H4.out H5.out H6.out).mono ?_;rintro e w1 ⟨rfl,hk1,hi1⟩;have K1:=zh (k1.newerR hk1 (Nat.le_refl _));have HI1:=zh hi1;clear k1 hk1 hi1;go_wp2_with fail;refine(qD w1 w.heap.size 0 _ HI1.out).mono ?_;rintro e w2 ⟨rfl,rfl⟩;go_wp2;go_ret;exact⟨rfl,K1.out⟩
def Yh (q:Rat)(w:World)(e:Ending)(w':World):Prop:=∃b,w.heap.size≤b∧e= .returned (.pointer (some ⟨b,0,none⟩))∧Keep au w w'∧eZ w' b 0 q
theorem iE (a b:Int)(hb:b≠0)(a1: -9223372036854775808≤a)(a2:a≤9223372036854775807)(b1: -9223372036854775808≤b)(b2:b≤9223372036854775807):Calls Tryz.prog 38 #[.int .i64 a,.int .i64 b] w (Yh (Rat.divInt a b) w):=by
 have HB:=zh hb;have A1:=zh (show -9223372036854775808≤a∧a≤9223372036854775807 from⟨a1,a2⟩);have B1:=zh (show -9223372036854775808≤b∧b≤9223372036854775807 from⟨b1,b2⟩);clear hb a1 a2 b1 b2;go_enter Tryz.func38,Tryz.ntmps38;go_wp2_with fail;have k1:Keep au w (w.alloc (.cells bK 130)):=(Keep.refl _ _).alloc _;refine(fO _ a A1.out.1 A1.out.2).mono ?_;rintro e w1 ⟨b1,hb1,rfl,hk1,hi1⟩;have K1:=zh (k1.both hk1);have HH:=zh (iK.ofNewer (gT w) hk1);have HI1:=zh hi1;clear k1 hk1 hi1 hb1;go_wp2_with fail;refine(fO w1 b B1.out.1 B1.out.2).mono ?_;rintro e w2 ⟨b2,hb2,rfl,hk2,hi2⟩;have K2:=zh (K1.out.both hk2);have HH2:=zh (iK.ofNewer HH.out hk2);have IG:=zh (HI1.out.ofNewer hk2);have HI2:=zh hi2;clear hk2 hi2 hb2 K1 HI1 HH;go_wp2_with fail;refine(FW w2 w.heap.size 0 b1 0 b2 0 a b HH2.out IG.out HI2.out HB.out (by have:=A1.out;omega) (by have:=B1.out;omega)).mono ?_;rintro e w3 ⟨rfl,hk3,hi3⟩;have K3:=zh (K2.out.newerR hk3 (Nat.le_refl _));have HI3:=zh hi3;clear hk3 hi3;go_wp2;go_returns;exact⟨_,Nat.le_refl _,rfl,K3.out,HI3.out⟩
end
theorem Gx (a b:Nat):eY a b=((a:Int)-b).sign:=by
 unfold eY;split
 ·rw [Int.sign_eq_neg_one_of_neg om]
 split
 ·rename_i h1 h2;subst h2;simp
 rw [Int.sign_eq_one_of_pos om]
theorem xR (w:World)(b o b' o':Nat)(x y:Int)(hx:bC w b o x)(hy:bC w b' o' y):
  Calls Tryz.prog 66 #[.pointer (some ⟨b,o,none⟩),.pointer (some ⟨b',o',none⟩)] w fun e w'=>e= .returned (.int .i64 (x-y).sign)∧∃n,w'=w.drewN n:=by
 have C:∀k,Hid (Calls Tryz.prog 107 #[.pointer (some ⟨b,o,none⟩),.pointer (some ⟨b',o',none⟩)] (w.drewN k) fun e w'=>e= .returned (.int .i64 (eY x.natAbs y.natAbs))∧∃n,w'=w.drewN n):=
  fun k=>zh ((pG (w.drewN k) b o b' o' x y (hx.ofNewer (dO w k)) (hy.ofNewer (dO w k))).mono fun e w' ⟨he,m,hm⟩=>⟨he,k+m,by rw [hm,World.drewN_drewN]⟩)
 have C':∀k,Hid (Calls Tryz.prog 107 #[.pointer (some ⟨b',o',none⟩),.pointer (some ⟨b,o,none⟩)] (w.drewN k) fun e w'=>e= .returned (.int .i64 (eY y.natAbs x.natAbs))∧∃n,w'=w.drewN n):=
  fun k=>zh ((pG (w.drewN k) b' o' b o y x (hy.ofNewer (dO w k)) (hx.ofNewer (dO w k))).mono fun e w' ⟨he,m,hm⟩=>⟨he,k+m,by rw [hm,World.drewN_drewN]⟩)
 obtain⟨neg,ds,hrx,hn,hne,hzx,h1,h2,h3⟩:=hx.open;obtain⟨dN,ds',yM,hn',hne',hzy,h1',h2',h3'⟩:=hy.open;obtain⟨g,cap,cx0,cx1,BI,yN⟩:=hrx.parts;obtain⟨g',cap',cy0,cy1,hdy,uK⟩:=yM.parts
 by_cases hs:neg=dN
 ·subst hs;have e1:(neg==neg)=true:=sm;by_cases hneg:neg=true
  ·subst hneg;have HV:Hid ((x-y).sign=eY y.natAbs x.natAbs):=zh (by
    rw [Gx];congr 1;have:=h1.1 rfl;have:=h1'.1 rfl;omega)
   clear hx hy hrx yM hn hne hzx h1 h2 h3 hn' hne' hzy h1' h2' h3' BI hdy C;go_enter Tryz.func66,Tryz.ntmps66;go_wp2;go_quiet (fail);go_wp2_with fail;refine(C' _).out.mono ?_;rintro e w1 ⟨rfl,m,rfl⟩;go_wp2;go_ret;exact⟨dQ HV.out.symm,_,rfl⟩
  obtain rfl:neg=false:=by simpa using hneg
  have HV:Hid ((x-y).sign=eY x.natAbs y.natAbs):=zh (by
   rw [Gx];congr 1;have a:¬x<0:=fun h=>by have:=h1.2 h;cases this
   have b:¬y<0:=fun h=>by have:=h1'.2 h;cases this
   omega)
  clear hx hy hrx yM hn hne hzx h1 h2 h3 hn' hne' hzy h1' h2' h3' BI hdy C' hneg;go_enter Tryz.func66,Tryz.ntmps66;go_wp2;go_quiet (fail);go_wp2_with fail;refine(C _).out.mono ?_;rintro e w1 ⟨rfl,m,rfl⟩;go_wp2;go_ret;exact⟨dQ HV.out.symm,_,rfl⟩
 have e1:(neg==dN)=false:=by simpa using hs
 by_cases hneg:neg=true
 ·subst hneg;have HV:Hid ((x-y).sign= -1):=zh (by
   refine Int.sign_eq_neg_one_of_neg ?_;have:=h1.1 rfl;have b:¬y<0:=fun h=>hs (h1'.2 h).symm;omega)
  clear hx hy hrx yM hn hne hzx h1 h2 h3 hn' hne' hzy h1' h2' h3' BI hdy C C' hs;go_enter Tryz.func66,Tryz.ntmps66;go_wp2;go_quiet (fail);go_wp2;go_ret;exact⟨dQ HV.out.symm,_,rfl⟩
 obtain rfl:neg=false:=by simpa using hneg
 obtain rfl:dN=true:=by
  cases dN
  ·exact absurd rfl hs
  rfl
 have HV:Hid ((x-y).sign=1):=zh (by
  refine Int.sign_eq_one_of_pos ?_;have:=h1'.1 rfl;have b:¬x<0:=fun h=>by have:=h1.2 h;cases this
  omega)
 clear hx hy hrx yM hn hne hzx h1 h2 h3 hn' hne' hzy h1' h2' h3' BI hdy C C' hs hneg;go_enter Tryz.func66,Tryz.ntmps66;go_wp2;go_quiet (fail);go_wp2;go_ret;exact⟨dQ HV.out.symm,_,rfl⟩
def zbv (N:Nat):Prop:=∀x y:Int,y≠0→x.natAbs<N→y.natAbs<N→∀(w:World) (bz oz bx ox eP oy br or:Nat),bQ w bz oz→bQ w br or→Rb bz oz br or→bC w bx ox x→bC w eP oy y→
  Calls Tryz.prog 137 #[.pointer (some ⟨bz,oz,none⟩),.pointer (some ⟨bx,ox,none⟩),.pointer (some ⟨eP,oy,none⟩),.pointer (some ⟨br,or,none⟩)] w fun e w'=>
   e= .returned (.tuple #[.pointer (some ⟨bz,oz,none⟩),.pointer (some ⟨br,or,none⟩)])∧Keep (Rf (At bz oz) (At br or)) w w'∧bC w' bz oz (x.tdiv y)∧bC w' br or (x.tmod y)
theorem BJ {x y:Int}(hy:y≠0)(h:x.tmod y<0):(y<0→x/y=x.tdiv y+1∧x%y=x.tmod y-y)∧(¬y<0→x/y=x.tdiv y-1∧x%y=x.tmod y+y):=by
 have h1:=Int.tmod_add_mul_tdiv x y;have h2:=Int.emod_add_mul_ediv x y;have h3:=Int.emod_nonneg x hy;have hx:¬0≤x:=fun hx=>by have:=Int.tmod_nonneg y hx;omega
 have h4:¬(y∣x):=fun hd=>by rw [Int.tmod_eq_zero_of_dvd hd]at h;omega
 rw [Int.tdiv_eq_ediv]at *;rw [if_neg (by rintro(h | h);exact hx h;exact h4 h)]at*;constructor
 ·intro hy0;rw [Int.sign_eq_neg_one_of_neg hy0]at *;refine⟨om,?_⟩;rw [Int.mul_add]at h1;omega
 intro hy0;rw [Int.sign_eq_one_of_pos om]at *;refine⟨om,?_⟩;rw [Int.mul_add]at h1;omega
theorem uT {x y:Int}(hy:y≠0)(h:¬x.tmod y<0):x/y=x.tdiv y∧x%y=x.tmod y:=by
 have h1:=Int.tmod_add_mul_tdiv x y;have h2:=Int.emod_add_mul_ediv x y;have e:x/y=x.tdiv y:=by
  rw [Int.tdiv_eq_ediv];split
  ·omega
  rename_i hc;exfalso;apply hc;by_cases hx:0≤x
  ·exact .inl hx
  right;have h3:x.tmod y≤0:=by have:=Int.tmod_nonneg y (show 0≤ -x from om);rw [Int.neg_tmod]at this;omega
  exact Int.dvd_of_tmod_eq_zero om
 refine⟨e,?_⟩;rw [e]at h2;omega
section
variable {N:Nat} (hN:N≤BIG) (S:zbv N) (w:World) (bz oz bx ox eP oy br or:Nat) (x y:Int)
include hN S in
theorem Rh (hz:bQ w bz oz)(hr:bQ w br or)(Ad:Rb bz oz br or)(hx:bC w bx ox x)(hy:bC w eP oy y)(hy0:y≠0)(h1:x.natAbs<N)(h2:y.natAbs<N):
  Calls Tryz.prog 134 #[.pointer (some ⟨bz,oz,none⟩),.pointer (some ⟨bx,ox,none⟩),.pointer (some ⟨eP,oy,none⟩),.pointer (some ⟨br,or,none⟩)] w fun e w'=>
   e= .returned (.tuple #[.pointer (some ⟨bz,oz,none⟩),.pointer (some ⟨br,or,none⟩)])∧Keep (Rf (At bz oz) (At br or)) w w'∧bC w' bz oz (x/y)∧bC w' br or (x%y):=by
 have HZ:=zh hz;have HR:=zh hr;have HX:=zh hx;have HY:=zh hy;have H0:=zh hy0;have H1:=zh h1;have H2:=zh h2;have Ac:=zh hN;have HS:=zh S;have hzl:=hz.lt;have hrl:=hr.lt;clear hz hr hx hy hy0 h1 h2 hN S;go_enter Tryz.func134,Tryz.ntmps134;go_wp2_with fail;have k1:Keep au w (w.alloc (.cells intCells 125)):=(Keep.refl _ _).alloc _;refine(jK _ w.heap.size 0 eP oy y (dY w) (HY.out.ofNewer k1) (dJ H2.out Ac.out)).mono ?_;rintro e w1 ⟨rfl,hk1,hi1⟩;have K1:=zh (k1.newer hk1 (Nat.le_refl _));have HD:=zh hi1;clear k1 hk1 hi1;go_wp2_with fail;refine(HS.out x y H0.out H1.out H2.out w1 bz oz bx ox eP oy br or (HZ.out.ofNewer K1.out) (HR.out.ofNewer K1.out) Ad (HX.out.ofNewer K1.out) (HY.out.ofNewer K1.out)).mono ?_;rintro e w2 ⟨rfl,hk2,hq2,hm2⟩;have K2:Hid (Keep (Rf (At bz oz) (At br or)) w w2):=zh (K1.out.any.trans hk2 fun _ _ _ h=>h);have HD2:Hid (bC w2 w.heap.size 0 y):=zh (HD.out.keep hk2 ⟨fun n i c fr h hh=>by
   rcases h with h | h
   ·exact ((HZ.out.ofNewer K1.out).off (b':=w.heap.size) (o':=0) (.inl om)).1 n i c fr h hh
   exact((HR.out.ofNewer K1.out).off (b':=w.heap.size) (o':=0) (.inl om)).1 n i c fr h hh,fun h=>by rcases h with h | h<;>(have:=h.1;omega),fun h=>by rcases h with h | h<;>(have:=h.1;omega)⟩)
 have yQ:=zh hq2;have HM2:=zh hm2;have hmd:=hm2;clear hk2 hq2 hm2 HD;obtain⟨neg,ds,hr',hn,hne,hzx,g1,g2,g3⟩:=hmd.open;obtain⟨g',cap',mc0,mc1,_,mb⟩:=hr'.parts;have G1:=zh g1;have hdd:=HD2.out;obtain⟨dN,ds',hr'',hn',hne',zcO,g1',g2',g3'⟩:=hdd.open;obtain⟨g'',zdB,dc0,dc1,_,db⟩:=hr''.parts;have G1':=zh g1';clear hr' hn hne hzx g1 g2 g3 hr'' hn' hne' zcO g1' g2' g3' hmd hdd mc1 dc1;have BQ:Hid ((x.tdiv y).natAbs<BIG):=zh (Nat.lt_of_le_of_lt (by rw [Int.natAbs_tdiv];exact Nat.div_le_self _ _) (dJ H1.out Ac.out))
 have BM:Hid ((x.tmod y).natAbs<BIG):=zh (Nat.lt_of_le_of_lt (by rw [Int.natAbs_tmod];exact Nat.mod_le _ _) (dJ H1.out Ac.out));have B1:Hid ((1:Int).natAbs<BIG):=zh (xV (k:=1) om dc);have BY:Hid (y.natAbs<BIG):=zh (dJ H2.out Ac.out);by_cases hneg:x.tmod y<0
 ·obtain rfl:neg=true:=G1.out.2 hneg;have HE:=zh (BJ H0.out hneg);by_cases hy:y<0
  ·obtain rfl:dN=true:=G1'.out.2 hy;have FU:=zh (HE.out.1 hy);clear HE hneg hy;go_wp2_with fail;refine(fO w2 1 om om).mono ?_;rintro e w3 ⟨b3,hb3,rfl,hk3,hi3⟩;have K3:=zh hk3;have HI3:=zh hi3;clear hk3 hi3 mc0 dc0 mb db;go_wp2_with fail;refine(Dh w3 bz oz bz oz b3 0 _ _ (yQ.out.hdr.ofNewer K3.out) (yQ.out.ofNewer K3.out) HI3.out BQ.out B1.out).mono ?_;rintro e w4 ⟨rfl,hk4,hi4⟩;have K4:Hid (Keep (Rf (At bz oz) (At br or)) w w4):=zh ((K2.out.trans K3.out fun _ _ _ h=>h.elim).trans hk4 fun _ _ _ h=> .inl h);have HI4:=zh hi4;have HM4:=zh ((HM2.out.ofNewer K3.out).keep hk4 ((yQ.out.hdr.ofNewer K3.out).off Ad));have HD4:=zh ((HD2.out.ofNewer K3.out).keep hk4 ((yQ.out.hdr.ofNewer K3.out).off (.inl om)));clear hk4 hi4 K3 HI3 yQ HM2 HD2;go_wp2_with fail;refine(Ph w4 br or br or w.heap.size 0 _ _ HM4.out.hdr HM4.out HD4.out BM.out BY.out).mono ?_;rintro e w5 ⟨rfl,hk5,hi5⟩;have K5:Hid (Keep (Rf (At bz oz) (At br or)) w w5):=zh (K4.out.trans hk5 fun _ _ _ h=> .inr h);have Dk:=zh hi5;have HQ5:=zh (HI4.out.keep hk5 (HM4.out.hdr.off Ad.symm));clear hk5 hi5;go_wp2;go_returns;exact⟨rfl,K5.out,by rw [FU.out.1];exact HQ5.out,by rw [FU.out.2];exact Dk.out⟩
  obtain rfl:dN=false:=by
   cases dN
   ·rfl
   exact absurd (G1'.out.1 rfl) hy
  have FU:=zh (HE.out.2 hy);clear HE hneg hy;go_wp2_with fail;refine(fO w2 1 om om).mono ?_;rintro e w3 ⟨b3,hb3,rfl,hk3,hi3⟩;have K3:=zh hk3;have HI3:=zh hi3;clear hk3 hi3 mc0 dc0 mb db;go_wp2_with fail;refine(Ph w3 bz oz bz oz b3 0 _ _ (yQ.out.hdr.ofNewer K3.out) (yQ.out.ofNewer K3.out) HI3.out BQ.out B1.out).mono ?_;rintro e w4 ⟨rfl,hk4,hi4⟩;have K4:Hid (Keep (Rf (At bz oz) (At br or)) w w4):=zh ((K2.out.trans K3.out fun _ _ _ h=>h.elim).trans hk4 fun _ _ _ h=> .inl h);have HI4:=zh hi4;have HM4:=zh ((HM2.out.ofNewer K3.out).keep hk4 ((yQ.out.hdr.ofNewer K3.out).off Ad));have HD4:=zh ((HD2.out.ofNewer K3.out).keep hk4 ((yQ.out.hdr.ofNewer K3.out).off (.inl om)));clear hk4 hi4 K3 HI3 yQ HM2 HD2;go_wp2_with fail;refine(Dh w4 br or br or w.heap.size 0 _ _ HM4.out.hdr HM4.out HD4.out BM.out BY.out).mono ?_;rintro e w5 ⟨rfl,hk5,hi5⟩;have K5:Hid (Keep (Rf (At bz oz) (At br or)) w w5):=zh (K4.out.trans hk5 fun _ _ _ h=> .inr h);have Dk:=zh hi5;have HQ5:=zh (HI4.out.keep hk5 (HM4.out.hdr.off Ad.symm));clear hk5 hi5;go_wp2;go_returns;exact⟨rfl,K5.out,by rw [FU.out.1];exact HQ5.out,by rw [FU.out.2];exact Dk.out⟩
 obtain rfl:neg=false:=by
  cases neg
  ·rfl
  exact absurd (G1.out.1 rfl) hneg
 have HE:=zh (uT H0.out hneg);clear hneg;go_wp2;go_returns;exact⟨rfl,K2.out,by rw [HE.out.1];exact yQ.out,by rw [HE.out.2];exact HM2.out⟩
include hN S in
theorem zar (hz:bQ w bz oz)(hx:bC w bx ox x)(hy:bC w eP oy y)(hy0:y≠0)(h1:x.natAbs<N)(h2:y.natAbs<N):
  Calls Tryz.prog 104 #[.pointer (some ⟨bz,oz,none⟩),.pointer (some ⟨bx,ox,none⟩),.pointer (some ⟨eP,oy,none⟩)] w fun e w'=>
   e= .returned (.pointer (some ⟨bz,oz,none⟩))∧Keep (At bz oz) w w'∧bC w' bz oz (x%y):=by
 have HZ:=zh hz;have HX:=zh hx;have HY:=zh hy;have H0:=zh hy0;have H1:=zh h1;have H2:=zh h2;have Ac:=zh hN;have HS:=zh S;have hzl:=hz.lt;clear hz hx hy hy0 h1 h2 hN S;go_enter Tryz.func104,Tryz.ntmps104;go_wp2_with fail;have k1:Keep au w (w.alloc (.cells intCells 125)):=(Keep.refl _ _).alloc _;refine(Rh Ac.out HS.out _ w.heap.size 0 bx ox eP oy bz oz x y (dY w) (HZ.out.ofNewer k1) (.inl om) (HX.out.ofNewer k1) (HY.out.ofNewer k1) H0.out H1.out H2.out).mono ?_;rintro e w1 ⟨rfl,hk1,hq,hm⟩;have Hk:=zh (k1.any (S:=At bz oz) |>.trans hk1 fun n o hn h=>by rcases h with h | h;(have:=h.1;omega);exact h);have Hm:=zh hm;clear hk1 hq hm k1;go_wp2;go_returns;exact⟨rfl,Hk.out,Hm.out⟩
end
theorem NG (n d:Int)(h1:1≤d)(h2:d≤1073741824)(h3: -1073741824≤n)(h4:n≤1073741824):((((Nat.gcd n.natAbs d.natAbs:Nat):Int)-1).sign==0)=decide (dW n d):=by
 by_cases h:Nat.gcd n.natAbs d.natAbs=1
 ·rw [bL ⟨h1,h2,h3,h4,h⟩,h];rfl
 rw [aZ (fun hk=>h hk.2.2.2.2),beq_eq_false_iff_ne];intro h0;rw [Int.sign_eq_zero_iff_zero]at h0;omega
theorem J9 (n d:Int)(w:World)(a1:1≤d)(a2:d≤1073741824)(a3: -1073741824≤n)(a4:n≤1073741824):
  Calls Tryz.prog 35 #[.agg #[.int .i64 n,.int .i64 d]] w fun e w'=>e= .returned (.bool (decide (dW n d)))∧Keep au w w':=by
 have e1:decide (d<1)=false:=aZ om;have e2:decide (1073741824<d)=false:=aZ om;have e3:decide (n< -1073741824)=false:=aZ om;have e4:decide (1073741824<n)=false:=aZ om;have HV:=zh (NG n d a1 a2 a3 a4);go_enter Tryz.func35,Tryz.ntmps35;go_wp2;have B:=(show aL (w.alloc (.cells #[.int .i64 n,.int .i64 d] 47)) w.heap.size #[.int .i64 n,.int .i64 d] by exact kc);have qz:=zh (show Keep au w (w.alloc (.cells #[.int .i64 n,.int .i64 d] 47)) by exact kp);have hlt:=B.lt;generalize hw0:w.alloc (.cells #[.int .i64 n,.int .i64 d] 47)=w0 at *;clear hw0;obtain⟨p0,p1,_,_,_⟩:=B.two;refine jB (fun w'=>Keep au w0 w') (.two [1,2,4,5] 0 (.one [] 3 (.one [] 6 (.one [] 7 (.fin [8])))) 3 (.two [] 0 (.one [] 6 (.one [] 7 (.fin [8]))) 6 (.one [] 0 (.one [] 7 (.fin [8]))))) kr kr kp ?_;intro X W hne hF hcl;have aQ:=zh hcl;have hx0:=fun x=>((hF x).cell hlt).trans p0;have hx1:=fun x=>((hF x).cell hlt).trans p1;have hs0:=hlt;clear hF hcl;simp only [mQ,aJ,zl0,zl1,zl2,aR,Bool.false_eq_true,if_false]
 (repeat(quiet_step (fail)));refine wpQuiet_nil ?_
 refine⟨?_,?_⟩
 ·refine ay rfl rfl fun K hK=> ?_;go_simp;have k1:Keep au w0 ((w0.alloc (.cells intCells 125)).drew):=kp;refine hK _ _ ⟨aQ.out _ k1,?_⟩;have HA:Hid (bQ ((w0.alloc (.cells intCells 125)).drew) w0.heap.size 0):=zh (dY (w0.drew));have K1:=zh k1;clear hK K k1;generalize FJ:w0.heap.size=bA at HA ⊢;have JV:w0.heap.size≤bA:=by rw [← FJ];exact Nat.le_refl _
  clear FJ;generalize (w0.alloc (.cells intCells 125)).drew=v1 at*
  (repeat(quiet_step (fail)));refine wpQuiet_nil ?_
  refine ay rfl rfl fun K hK=> ?_;go_simp;refine(fO _ n om om).mono ?_;rintro e v2 ⟨b1,hb1,rfl,hk,hi⟩;have K2:=zh (K1.out.both hk);have HI1:=zh hi;have HA:=zh (bQ.ofNewer HA.out hk);refine hK _ _ ⟨aQ.out _ K2.out,?_⟩;clear hK K hk hi hb1
  (repeat(quiet_step (fail)));refine wpQuiet_nil ?_
  refine ay rfl rfl fun K hK=> ?_;go_simp;refine(fO _ d om om).mono ?_;rintro e v3 ⟨b2,hb2,rfl,hk,hi⟩;have K3:=zh (K2.out.both hk);have HI2:=zh hi;have HA:=zh (bQ.ofNewer HA.out hk);have HI1:=zh (HI1.out.ofNewer hk);refine hK _ _ ⟨aQ.out _ K3.out,?_⟩;clear hK K hk hi hb2
  (repeat(quiet_step (fail)));refine wpQuiet_nil ?_
  refine ay rfl rfl fun K hK=> ?_;go_simp;refine(sN v3 bA 0 b1 0 b2 0 n d HA.out HI1.out HI2.out om om).mono ?_;rintro e v4 ⟨rfl,hk,hi⟩;have K4:=zh (K3.out.trans hk fun k i hk h=>absurd h.1 om);have HI4:=zh hi;refine hK _ _ ⟨aQ.out _ K4.out,?_⟩;clear hK K hk hi
  (repeat(quiet_step (fail)));refine wpQuiet_nil ?_
  refine NoPanic.normal ?_;go_wp2_with fail;refine(fO v4 1 om om).mono ?_;rintro e v5 ⟨b5,hb5,rfl,hk5,hi5⟩;have K5:=zh (K4.out.both hk5);have Eh:=zh (HI4.out.ofNewer hk5);have Dk:=zh hi5;clear hk5 hi5 hb5;go_wp2_with fail;refine(xR v5 bA 0 b5 0 _ _ Eh.out Dk.out).mono ?_;rintro e v6 ⟨rfl,nd,rfl⟩;have K6:=zh (K5.out.both (dO v5 nd));go_wp2;go_ret;refine⟨?_,qz.out.both K6.out⟩;exact congrArg (fun b:Bool=>Ending.returned (.bool b)) HV.out
 refine ay rfl rfl fun K hK=> ?_;go_simp;refine(fO _ n om om).mono ?_;rintro e v1 ⟨b1,hb1,rfl,hk,hi⟩;have K1:=zh ((show Keep au w0 (w0.drew) by exact kp).both hk);have HI1:=zh hi;refine hK _ _ ⟨aQ.out _ K1.out,?_⟩;clear hK K hk hi hb1
 (repeat(quiet_step (fail)));refine wpQuiet_nil ?_
 refine⟨?_,?_⟩
 ·refine ay rfl rfl fun K hK=> ?_;go_simp;have k2:Keep au w0 (v1.alloc (.cells intCells 125)):=K1.out.alloc _;refine hK _ _ ⟨aQ.out _ k2,?_⟩;have HA:Hid (bQ (v1.alloc (.cells intCells 125)) v1.heap.size 0):=zh (dY (v1));have K2:=zh k2;have HI1:=zh (HI1.out.ofNewer ((Keep.refl au v1).alloc (.cells intCells 125)));clear hK K k2;generalize FJ:v1.heap.size=bA at HA ⊢;have JV:w0.heap.size≤bA:=by rw [← FJ];exact K1.out.size
  clear FJ;generalize v1.alloc (.cells intCells 125)=v2 at*
  (repeat(quiet_step (fail)));refine wpQuiet_nil ?_
  refine ay rfl rfl fun K hK=> ?_;go_simp;refine(fO _ d om om).mono ?_;rintro e v3 ⟨b2,hb2,rfl,hk,hi⟩;have K3:=zh (K2.out.both hk);have HI2:=zh hi;have HA:=zh (bQ.ofNewer HA.out hk);have HI1:=zh (HI1.out.ofNewer hk);refine hK _ _ ⟨aQ.out _ K3.out,?_⟩;clear hK K hk hi hb2
  (repeat(quiet_step (fail)));refine wpQuiet_nil ?_
  refine ay rfl rfl fun K hK=> ?_;go_simp;refine(sN v3 bA 0 b1 0 b2 0 n d HA.out HI1.out HI2.out om om).mono ?_;rintro e v4 ⟨rfl,hk,hi⟩;have K4:=zh (K3.out.trans hk fun k i hk h=>absurd h.1 om);have HI4:=zh hi;refine hK _ _ ⟨aQ.out _ K4.out,?_⟩;clear hK K hk hi
  (repeat(quiet_step (fail)));refine wpQuiet_nil ?_
  refine NoPanic.normal ?_;go_wp2_with fail;refine(fO v4 1 om om).mono ?_;rintro e v5 ⟨b5,hb5,rfl,hk5,hi5⟩;have K5:=zh (K4.out.both hk5);have Eh:=zh (HI4.out.ofNewer hk5);have Dk:=zh hi5;clear hk5 hi5 hb5;go_wp2_with fail;refine(xR v5 bA 0 b5 0 _ _ Eh.out Dk.out).mono ?_;rintro e v6 ⟨rfl,nd,rfl⟩;have K6:=zh (K5.out.both (dO v5 nd));go_wp2;go_ret;refine⟨?_,qz.out.both K6.out⟩;exact congrArg (fun b:Bool=>Ending.returned (.bool b)) HV.out
 refine ay rfl rfl fun K hK=> ?_;go_simp;refine(fO _ d om om).mono ?_;rintro e v2 ⟨b2,hb2,rfl,hk,hi⟩;have K2:=zh (K1.out.both hk);have HI2:=zh hi;have HI1:=zh (HI1.out.ofNewer hk);refine hK _ _ ⟨aQ.out _ K2.out,?_⟩;clear hK K hk hi hb2
 (repeat(quiet_step (fail)));refine wpQuiet_nil ?_
 refine ay rfl rfl fun K hK=> ?_;go_simp;have k3:Keep au w0 (v2.alloc (.cells intCells 125)):=K2.out.alloc _;refine hK _ _ ⟨aQ.out _ k3,?_⟩;have HA:Hid (bQ (v2.alloc (.cells intCells 125)) v2.heap.size 0):=zh (dY (v2));have K3:=zh k3;have HI1:=zh (HI1.out.ofNewer ((Keep.refl au v2).alloc (.cells intCells 125)));have HI2:=zh (HI2.out.ofNewer ((Keep.refl au v2).alloc (.cells intCells 125)));clear hK K k3;generalize FJ:v2.heap.size=bA at HA ⊢;have JV:w0.heap.size≤bA:=by rw [← FJ];exact K2.out.size
 clear FJ;generalize v2.alloc (.cells intCells 125)=v3 at*
 (repeat(quiet_step (fail)));refine wpQuiet_nil ?_
 refine ay rfl rfl fun K hK=> ?_;go_simp;refine(sN v3 bA 0 b1 0 b2 0 n d HA.out HI1.out HI2.out om om).mono ?_;rintro e v4 ⟨rfl,hk,hi⟩;have K4:=zh (K3.out.trans hk fun k i hk h=>absurd h.1 om);have HI4:=zh hi;refine hK _ _ ⟨aQ.out _ K4.out,?_⟩;clear hK K hk hi
 (repeat(quiet_step (fail)));refine wpQuiet_nil ?_
 refine NoPanic.normal ?_;go_wp2_with fail;refine(fO v4 1 om om).mono ?_;rintro e v5 ⟨b5,hb5,rfl,hk5,hi5⟩;have K5:=zh (K4.out.both hk5);have Eh:=zh (HI4.out.ofNewer hk5);have Dk:=zh hi5;clear hk5 hi5 hb5;go_wp2_with fail;refine(xR v5 bA 0 b5 0 _ _ Eh.out Dk.out).mono ?_;rintro e v6 ⟨rfl,nd,rfl⟩;have K6:=zh (K5.out.both (dO v5 nd));go_wp2;go_ret;refine⟨?_,qz.out.both K6.out⟩;exact congrArg (fun b:Bool=>Ending.returned (.bool b)) HV.out
theorem sO (n d:Int)(w:World):Calls Tryz.prog 35 #[.agg #[.int .i64 n,.int .i64 d]] w fun e w'=>e= .returned (.bool (decide (dW n d)))∧Keep au w w':=by
 by_cases h:1≤d∧d≤1073741824∧ -1073741824≤n∧n≤1073741824
 ·exact J9 n d w h.1 h.2.1 h.2.2.1 h.2.2.2
 have hno:decide (dW n d)=false:=aZ fun hk=>h ⟨hk.1,hk.2.1,hk.2.2.1,hk.2.2.2.1⟩;rw [hno];clear hno;by_cases h1:d<1
 ·have e1:decide (d<1)=true:=bL h1;clear h;go_enter Tryz.func35,Tryz.ntmps35;go_wp2;go_ret;exact⟨rfl,kp⟩
 have e1:decide (d<1)=false:=aZ h1;by_cases h2:1073741824<d
 ·have e2:decide (1073741824<d)=true:=bL h2;clear h;go_enter Tryz.func35,Tryz.ntmps35;go_wp2;go_ret;exact⟨rfl,kp⟩
 have e2:decide (1073741824<d)=false:=aZ h2;by_cases h3:n< -1073741824
 ·have e3:decide (n< -1073741824)=true:=bL h3;clear h;go_enter Tryz.func35,Tryz.ntmps35;go_wp2;go_ret;exact⟨rfl,kp⟩
 have e3:decide (n< -1073741824)=false:=aZ h3;have e4:decide (1073741824<n)=true:=bL om;clear h;go_enter Tryz.func35,Tryz.ntmps35;go_wp2;go_ret;exact⟨rfl,kp⟩
theorem pJ (n d:Int)(w:World)(hb:d≠0)(a1: -9223372036854775808≤n)(a2:n≤9223372036854775807)(b1: -9223372036854775808≤d)(b2:d≤9223372036854775807):
  Calls Tryz.prog 68 #[.agg #[.int .i64 n,.int .i64 d]] w (Yh (Rat.divInt n d) w):=by
 have HB:=zh hb;have HA:Hid (-9223372036854775808≤n∧n≤9223372036854775807∧ -9223372036854775808≤d∧d≤9223372036854775807):=zh ⟨a1,a2,b1,b2⟩;clear hb a1 a2 b1 b2;go_enter Tryz.func68,Tryz.ntmps68;go_wp2_with fail;have k1:Keep au w (w.alloc (.cells #[.int .i64 n,.int .i64 d] 47)):=(Keep.refl _ _).alloc _;refine(iE _ n d HB.out HA.out.1 HA.out.2.1 HA.out.2.2.1 HA.out.2.2.2).mono ?_;rintro e w1 ⟨b,hb,rfl,hk,hi⟩;have K1:=zh (k1.both hk);have HI:=zh hi;have hb':w.heap.size≤b:=by simp at hb;omega
 clear k1 hk hi hb;go_wp2;go_returns;exact⟨_,hb',rfl,K1.out,HI.out⟩
end Go.Proofs.YtaiffmebphhdaaaGreat
