/- What the walks are told of arguments that are slices of integers. A block that holds integers: a []int of the program's own. slices.Reverse over it. umpirageref5.SameInts: are two lists of integers the same? Appending: what the walks need, for whatever element type. Rows of the call's own; integers. What the walks are told of arguments that are rows. A block that holds a row of n cells of one element type, told as a function of the place. Numbers in digits of 32 bits, told as functions of the place: plain arithmetic. umpiragewide.sumOf, lessOf: digits added, taken off. The wide numbers' Add, Sub. The wide numbers' Mul. The wide fractions' Add, Neg, Sub, Mul, Inv, Quo, Sign, Cmp; NewRat: under whatever bound SetFrac holds. The wide whole numbers' Cmp, DivMod, Div, Mod: under whatever bound QuoRem holds. The reference's FracRight, Rat; what they answer. -/
import Derived.Test.YtaiffmebphhdaaaGreatBaseA
import Derived.Maps.AppendAt
import Derived.Deep.AppendLies
import Derived.Lib.SmallJoins
import Derived.Lib.OwnKind
import Derived.IntWalk
import Derived.Deep.DeepCutAuto
namespace Go.Proofs.YtaiffmebphhdaaaGreat
set_option maxRecDepth 100000
set_option linter.unusedSimpArgs false
set_option linter.unusedVariables false
open Go.ChangeShapes Go.WideShapes Go.ChangeAt Go.RowKit Go.Joins Go.Deep
def IsInts (w:World)(v:Value)(l:List Int):Prop:=
 ∃oa cap,v= .slice oa l.length cap∧l.length≤maxLen∧(∀x∈l,I64 x)∧(l≠ []→∃b o,oa=some ⟨b,o,none⟩∧b<w.heap.size∧∀i x,l[i]? =some x→w.cell? ⟨b,o+i,none⟩=some (.int .i64 x))
theorem cell_lt {w:World}{b o:Nat}{s:Option Nat}{v:Value}(h:w.cell? ⟨b,o,s⟩=some v):b<w.heap.size:=by
 apply Classical.byContradiction
 intro h';rw [World.cell?,Array.getElem?_eq_none (Nat.le_of_not_lt h')]at h
 cases h
theorem IsInts.keep {w w':World}{v:Value}{l:List Int}(h:IsInts w v l)(k:Keep NoS w w'):IsInts w' v l:=by
 obtain⟨oa,cap,h1,h2,h3,h4⟩:=h;refine⟨oa,cap,h1,h2,h3,fun hne=> ?_⟩
 obtain⟨b,o,e,hb,hc⟩:=h4 hne;exact⟨b,o,e,Nat.lt_of_lt_of_le hb k.size,fun i x hx=>by rw [k.cell hb];exact hc i x hx⟩
section
variable {H:Type} {enc:TypeId × Value→H} {W:World} {base:Nat} {d:DataW H} {p:List MemPlace} {v:Value}
end
theorem IsInts.at {w:World}{v:Value}{l:List Int}(h:IsInts w v l){k:Nat}(hk:k<l.length):∃b o cap,v= .slice (some ⟨b,o,none⟩) l.length cap∧b<w.heap.size∧w.cell? ⟨b,o+k,none⟩=some (.int .i64 l[k]):=by
 obtain⟨oa,cap,h1,h2,h3,h4⟩:=h;obtain⟨b,o,rfl,hb,hc⟩:=h4 (by rintro rfl;simp at hk)
 exact⟨b,o,cap,h1,hb,hc k _ (List.getElem?_eq_getElem hk)⟩
theorem IsInts.form {w:World}{v:Value}{l:List Int}(h:IsInts w v l){n:Nat}(hn:n=l.length):∃oa cap,v= .slice oa n cap:=by
 obtain⟨oa,cap,rfl,_⟩:=h;exact⟨oa,cap,by rw [hn]⟩
theorem IsInts.same {w w':World}{v:Value}{l:List Int}(h:IsInts w v l)(hc:∀a,w'.cell? a=w.cell? a)(hs:w.heap.size≤w'.heap.size):IsInts w' v l:=by
 obtain⟨oa,cap,h1,h2,h3,h4⟩:=h;refine⟨oa,cap,h1,h2,h3,fun hne=> ?_⟩
 obtain⟨b,o,e,hb,hq⟩:=h4 hne;exact⟨b,o,e,by omega,fun i x hx=>by rw [hc];exact hq i x hx⟩
open Go.ChangeShapes Go.WideShapes Go.RowKit
def IntBlk (w:World)(g:Nat)(xs:List Int):Prop:=∃A:Array Value,Blk w g A∧∀i,i<xs.length→A[i]? =some (.int .i64 (xs.getD i 0))
theorem IntBlk.lt {w:World}{g:Nat}{xs:List Int}(h:IntBlk w g xs):g<w.heap.size:=by obtain⟨A,h,_⟩:=h;exact h.lt
theorem IntBlk.cell {w:World}{g:Nat}{xs:List Int}(h:IntBlk w g xs){i:Nat}(hi:i<xs.length):w.cell? ⟨g,i,none⟩=some (.int .i64 (xs.getD i 0)):=by
 obtain⟨A,h,hA⟩:=h;rw [h.cell i];exact hA i hi
theorem IntBlk.free {w:World}{g:Nat}{xs:List Int}(h:IntBlk w g xs)(i:Nat):w.frozen? ⟨g,i,none⟩=false:=by
 obtain⟨A,h,hA⟩:=h;exact h.free i
theorem IntBlk.keep {w w':World}{g:Nat}{xs:List Int}(h:IntBlk w g xs)(k:Keep NoS w w'):IntBlk w' g xs:=by
 obtain⟨A,h,hA⟩:=h;exact⟨A,h.keep k,hA⟩
theorem IntBlk.old {w:World}{g:Nat}{xs:List Int}(h:IntBlk w g xs)(o:Obj):IntBlk (w.alloc o) g xs:=by
 obtain⟨A,h,hA⟩:=h;exact⟨A,h.old o,hA⟩
theorem Blk.set {w:World}{g:Nat}{A:Array Value}(h:Blk w g A)(i:Nat)(v:Value):Blk (w.setCell ⟨g,i,none⟩ v) g (A.setIfInBounds i v):=by
 obtain⟨t,h⟩:=h;exact⟨t,Go.Joins.block_setCell h v⟩
theorem Blk.setOther {w:World}{g g':Nat}{A:Array Value}(h:Blk w g A)(i:Nat)(v:Value)(hne:g≠g'):Blk (w.setCell ⟨g',i,none⟩ v) g A:=by
 obtain⟨t,h⟩:=h;exact⟨t,by rw [heap_setCell_other _ _ _ _ hne];exact h⟩
theorem IntBlk.set {w:World}{g:Nat}{xs:List Int}(h:IntBlk w g xs){i:Nat}(v:Int):IntBlk (w.setCell ⟨g,i,none⟩ (.int .i64 v)) g (xs.set i v):=by
 obtain⟨A,h,hA⟩:=h;refine⟨_,h.set i _,fun j hj=> ?_⟩
 rw [List.length_set]at hj;have hjA:j<A.size:=by
  have:=hA j hj;exact(Array.getElem?_eq_some_iff.1 this).1
 rw [Array.getElem?_setIfInBounds,List.getD_eq_getElem?_getD,List.getElem?_set]
 by_cases hij:i=j
 ·subst hij
  simp [hjA,hj]
 ·simp only [hij,if_false]
  rw [hA j hj,List.getD_eq_getElem?_getD]
theorem IntBlk.setOther {w:World}{g g':Nat}{xs:List Int}(h:IntBlk w g xs)(i:Nat)(v:Value)(hne:g≠g'):IntBlk (w.setCell ⟨g',i,none⟩ v) g xs:=by
 obtain⟨A,h,hA⟩:=h;exact⟨A,h.setOther i v hne,hA⟩
theorem IntBlk.ints {w:World}{g:Nat}{xs:List Int}(h:IntBlk w g xs)(cap:Nat)(hl:xs.length≤maxLen)(hx:∀x∈xs,I64 x):IsInts w (.slice (some ⟨g,0,none⟩) xs.length cap) xs:=by
 refine⟨_,cap,rfl,hl,hx,fun _=>⟨g,0,rfl,h.lt,fun i x hi=> ?_⟩⟩
 obtain⟨hq,rfl⟩:=List.getElem?_eq_some_iff.1 hi;have:=h.cell hq;rw [List.getD_eq_getElem?_getD,List.getElem?_eq_getElem hq]at this
 simpa using this
theorem wpList_app_run {P:Program}{w w':World}{v':Value}{ops:Array Oper}{rest:List Oper}{o:Oper}{a:Act}{Q:Exit→Act→World→Prop}(s x:Operand)(t:TypeId)(v u:Value)(hgd:o.guard=none)
  (ho:o.op= .call {callee:= .builtin .append,args:= #[s,x],argTypes:= #[t,t]}) (hs:a.eval s=v) (hx:a.eval x=u) (hrun:(Builtin.append_ #[t,t] o.type #[v,u]).run P w= .ok v' w')
  (h:wpList P ops Q rest (a.put o.dst v') w'):wpList P ops Q (o::rest) a w:=by
 refine wpList_plain hgd fun K hK=> ?_
 unfold Oper.wp execOp;simp only [ho,resolve,invoke,builtin,Sem.run_bind,Sem.run_pure,Result.andThen_ok,List.map_toArray,List.map_cons,List.map_nil,hs,hx,hrun];exact hK _ _ h
theorem wp_app_run {P:Program}{w w':World}{v':Value}{o:Oper}{a:Act}{Q:Exit→Act→World→Prop}{K:Act→World→Prop}(s x:Operand)(t:TypeId)(v u:Value)
  (ho:o.op= .call {callee:= .builtin .append,args:= #[s,x],argTypes:= #[t,t]}) (hs:a.eval s=v) (hx:a.eval x=u) (hrun:(Builtin.append_ #[t,t] o.type #[v,u]).run P w= .ok v' w')
  (h:K (a.put o.dst v') w'):o.wp P a w K Q:=by
 unfold Oper.wp execOp;simp only [ho,resolve,invoke,builtin,Sem.run_bind,Sem.run_pure,Result.andThen_ok,List.map_toArray,List.map_cons,List.map_nil,hs,hx,hrun];exact h
theorem app_none {P:Program}{w:World}{sl el ty:TypeId}{i:TypeInfo}{z:Value}(hu:P.underlying sl=some (.slice el))(hi:P.info? el=some i)(hz:i.zero=some z)(v:Value)(base n k:Nat)(xs:List Value)(hown:w.ownsRow base el k v n xs)(c:Nat):
  (Builtin.append_ #[sl,sl] ty #[v,.slice none 0 c]).run P w= .ok v w:=by
 obtain⟨_,h | ⟨g,cap,cur,rfl,_,_,hl,_⟩⟩:=hown
 ·obtain ⟨rfl,rfl⟩:=h
  simp [Builtin.append_,run_underlying hu,sizeOf,typeInfo,hi,hz,Builtin.lenOf,Builtin.firstCells,loadCells,loadCellsFrom]
 ·simp [Builtin.append_,run_underlying hu,sizeOf,typeInfo,hi,hz,Builtin.lenOf,Builtin.firstCells,loadCells,loadCellsFrom,hl,storeCells]
theorem app_run {P:Program}{w:World}{sl el ty:TypeId}{i:TypeInfo}{z:Value}{k bytes:Nat}(hu:P.underlying sl=some (.slice el))(hi:P.info? el=some i)(hz:i.zero=some z)(hs:i.size=k)(hb:i.bytes=bytes)(hzs:z.cells.size=k)(hk:0<k)
  (base:Nat) (v:Value) (n:Nat) (xs:List Value) (hown:w.ownsRow base el k v n xs) (oa:Option Addr) (m c:Nat) (news:List Value) (hl:news.length=m*k) (hsrc:0<m→∃a,oa=some a∧∀j u,news[j]? =some u→w.cell? (a.add j)=some u)
  (h1:∀u∈news,u.oneCell'=true) (hmx:n+m≤maxLen) (hby:(n+m)*bytes≤140737488355328) (hbase:base≤w.heap.size):
  ∃v' w',(Builtin.append_ #[sl,sl] ty #[v,.slice oa m c]).run P w= .ok v' w'∧w'.ownsRow base el k v' (n+m) (xs++news)∧w.grownBy w' v.ownBlock:=by
 rcases Nat.eq_zero_or_pos m with rfl | hm
 ·rw [Nat.zero_mul]at hl
  have:news= []:=List.eq_nil_of_length_eq_zero hl;subst this
  rcases oa with _ | a
  ·refine ⟨v,w,app_none hu hi hz v base n k xs hown c,by simpa using hown,⟨rfl,rfl,rfl,Nat.le_refl _,fun _ _ _=>rfl⟩⟩
  ·obtain ⟨v',w',hr,ho,hg,_,_⟩:=run_append_own_at (P:=P) w base sl ty el i z k bytes hu hi hz hs hb hzs hk v n xs hown a 0 c [] (by simp) (by simp) (by simp) hmx hby hbase
   exact⟨v',w',hr,ho,hg⟩
 ·obtain ⟨a,rfl,hc⟩:=hsrc hm
  obtain⟨v',w',hr,ho,hg,_,_⟩:=run_append_own_at (P:=P) w base sl ty el i z k bytes hu hi hz hs hb hzs hk v n xs hown a m c news hl hc h1 hmx hby hbase;exact⟨v',w',hr,ho,hg⟩
theorem Keep.grown {w0 w w1:World}{row:Option Nat}(h:Keep NoS w0 w)(hg:w.grownBy w1 row)(hr:∀k,row=some k→w0.heap.size≤k):Keep NoS w0 w1:=
 Keep.of_below ((Keep.bel h).grown hg h.size hr) (Nat.le_refl _)
abbrev TI:TypeId:=3
theorem infoI:(Tryz.prog.info? 3).map (fun i=>(i.zero,i.size,i.bytes))=some (some (.int .i64 0),1,8):=by kernel_rfl
def iv (xs:List Int):List Value:=xs.map (Value.int .i64)
theorem iv_get (xs:List Int)(i:Nat):(iv xs)[i]? =(xs[i]?).map (Value.int .i64):=by simp [iv]
theorem iv_app (xs ys:List Int):iv (xs++ys)=iv xs++iv ys:=by simp [iv]
theorem iv_one (xs:List Int):∀u∈iv xs,u.oneCell'=true:=by
 intro u hu;obtain⟨x,_,rfl⟩:=List.mem_map.1 hu;rfl
def OwnI (w:World)(base:Nat)(v:Value)(xs:List Int):Prop:=w.ownsRow base TI 1 v xs.length (iv xs)
theorem OwnI.nil (w:World)(base:Nat):OwnI w base (.slice none 0 0) []:=World.ownsRow_nil _ _ _ _
theorem OwnI.block {w:World}{base:Nat}{v:Value}{xs:List Int}(h:OwnI w base v xs):∀k,v.ownBlock=some k→base≤k:=fun k hk=>(World.ownsRow.lt h k hk).1
theorem OwnI.keep {w w':World}{base:Nat}{v:Value}{xs:List Int}(h:OwnI w base v xs)(k:Keep NoS w w'):OwnI w' base v xs:=by
 obtain⟨hl,h | ⟨g,cap,cur,hv,hb,hg,hl',hm,hs,ht⟩⟩:=h
 ·exact ⟨hl,.inl h⟩
 ·exact ⟨hl,.inr ⟨g,cap,cur,hv,hb,by rw [k.block g (lt_of_heap hg) fun _ h=>h];exact hg,hl',hm,hs,ht⟩⟩
theorem OwnI.len {w:World}{base:Nat}{v:Value}{xs:List Int}(h:OwnI w base v xs):∃oa cap,v= .slice oa xs.length cap:=by
 obtain⟨hl,h | ⟨g,cap,cur,hv,hb,hg,hl',hm,hs,ht⟩⟩:=h
 ·obtain ⟨rfl,h0⟩:=h
  exact⟨none,0,by rw [h0]⟩
 ·exact ⟨_,cap,hv⟩
theorem OwnI.max {w:World}{base:Nat}{v:Value}{xs:List Int}(h:OwnI w base v xs):xs.length≤maxLen:=by
 obtain⟨hl,h | ⟨g,cap,cur,hv,hb,hg,hl',hm,hs,ht⟩⟩:=h
 ·obtain ⟨rfl,h0⟩:=h;rw [h0];exact Nat.zero_le _
 ·omega
theorem OwnI.ints {w:World}{base:Nat}{v:Value}{xs:List Int}(h:OwnI w base v xs)(hx:∀x∈xs,I64 x):IsInts w v xs:=by
 have hm:=h.max;obtain⟨hl,h' | ⟨g,cap,cur,hv,hb,hg,hl',_,hs,ht⟩⟩:=h
 ·obtain ⟨rfl,h0⟩:=h'
  have:xs= []:=List.eq_nil_of_length_eq_zero h0;subst this;exact⟨none,0,rfl,by simp,by simp,fun h=>absurd rfl h⟩
 ·refine ⟨_,cap,hv,hm,hx,fun _=>⟨g,0,rfl,lt_of_heap hg,fun i x hi=> ?_⟩⟩
  have h1:(cur.toList.take (xs.length*1))[i]? =(iv xs)[i]? :=by rw [ht]
  have hil:i<xs.length:=(List.getElem?_eq_some_iff.1 hi).1;rw [List.getElem?_take,if_pos (by omega),iv_get,hi]at h1
  rw [Nat.zero_add];exact cell_of_heap hg (by simpa using h1)
theorem IsInts.len {w:World}{v:Value}{l:List Int}(h:IsInts w v l):∃oa cap,v= .slice oa l.length cap∧l.length≤maxLen:=by
 obtain⟨oa,cap,hv,hm,_⟩:=h;exact⟨oa,cap,hv,hm⟩
theorem IsInts.all {w:World}{v:Value}{l:List Int}(h:IsInts w v l):∀x∈l,I64 x:=by obtain⟨_,_,_,_,h,_⟩:=h;exact h
theorem World.ownsRow_mono {w:World}{base base':Nat}{e:TypeId}{size:Nat}{v:Value}{n:Nat}{xs:List Value}(h:w.ownsRow base e size v n xs)(hb:base'≤base):w.ownsRow base' e size v n xs:=by
 obtain⟨hl,h | ⟨g,cap,cur,hv,hg,h⟩⟩:=h
 ·exact ⟨hl,.inl h⟩
 ·exact ⟨hl,.inr ⟨g,cap,cur,hv,by omega,h⟩⟩
theorem IsInts.src {w:World}{v:Value}{l:List Int}(h:IsInts w v l):∃oa cap,v= .slice oa l.length cap∧(0<l.length→∃a,oa=some a∧∀j u,(iv l)[j]? =some u→w.cell? (a.add j)=some u):=by
 obtain⟨oa,cap,rfl,hm,hx,hc⟩:=h;refine⟨oa,cap,rfl,fun h0=> ?_⟩
 obtain⟨b,o,rfl,hb,hcell⟩:=hc (by rintro rfl;simp at h0)
 refine⟨_,rfl,fun j u hj=> ?_⟩
 rw [iv_get]at hj
 rcases hl:l[j]? with _ | x
 ·rw [hl]at hj;cases hj
 ·rw [hl]at hj
  simp at hj;subst hj;rw [show(⟨b,o,none⟩:Addr).add j=⟨b,o+j,none⟩from by unfold Addr.add;split<;>simp_all]
  exact hcell j x hl
theorem app_ints {w:World}{base:Nat}{v:Value}{xs:List Int}(hown:OwnI w base v xs){u:Value}{ys:List Int}(hu:IsInts w u ys)(hl:xs.length+ys.length≤1000000)(hb:base≤w.heap.size):
  ∃v' w',(Builtin.append_ #[38,38] 38 #[v,u]).run Tryz.prog w= .ok v' w'∧OwnI w' base v' (xs++ys)∧w.grownBy w' v.ownBlock:=by
 obtain⟨i0,hi0,hz0,hz1,hz2⟩:=info_parts infoI;obtain⟨oa,cap,rfl,hsrc⟩:=hu.src;obtain⟨v',w',hr,ho,hg⟩:=app_run (P:=Tryz.prog) (w:=w) (ty:=38) Tryz.underlying38 hi0 hz0 hz1 hz2 rfl (by decide) base v xs.length (iv xs) hown oa ys.length cap (iv ys) (by simp [iv]) hsrc (iv_one ys) (by unfold maxLen;omega) (by omega) hb
 exact⟨v',w',hr,by unfold OwnI;rw [iv_app,List.length_append];exact ho,hg⟩
theorem one_int (w:World)(x:Int)(hx:I64 x):IsInts (w.alloc (.cells #[.int .i64 x] TI)) (.slice (some ⟨w.heap.size,0,none⟩) 1 1) [x]:=by
 refine⟨_,1,rfl,by simp [maxLen],by simpa using hx,fun _=>⟨w.heap.size,0,rfl,by simp,fun i y hi=> ?_⟩⟩
 rcases i with _ | i
 ·simp at hi;subst hi;simp
 ·simp at hi
structure Rw where
 of:List Int
 kind:Int
 «to» :Int
def CapOK (v:Value):Prop:=∃oa n cap,v= .slice oa n cap∧n≤cap
theorem OwnI.cap {w:World}{base:Nat}{v:Value}{xs:List Int}(h:OwnI w base v xs):CapOK v:=by
 obtain⟨_,h | ⟨g,cap,cur,hv,hb,hg,hl,_⟩⟩:=h
 ·exact ⟨none,0,0,h.1,Nat.le_refl _⟩
 ·exact ⟨_,_,cap,hv,hl⟩
def IsRow (w:World)(v:Value)(r:Rw):Prop:=∃sv,v= .agg #[sv,.int .i64 r.kind,.int .i64 r.to]∧IsInts w sv r.of∧I64 r.kind∧I64 r.to∧CapOK sv
theorem IsRow.keep {w w':World}{v:Value}{r:Rw}(h:IsRow w v r)(k:Keep NoS w w'):IsRow w' v r:=by
 obtain⟨sv,hv,hi,h1,h2⟩:=h;exact⟨sv,hv,hi.keep k,h1,h2⟩
section
variable {H:Type} {enc:TypeId × Value→H} {W:World} {base:Nat} {d:DataW H} {p:List MemPlace} {v:Value}
theorem ints_trod {n:Nat}{c:Value}{y:DataW H × List MemPlace}(hf:DataW.trod enc Tryz.prog W 0 (fun _=>true) true n 38 [c]=some y):∃l,IsInts W c l∧CapOK c:=by
 rcases open_ints Tryz.underlying38 Tryz.underlying3 (by kernel_rfl) hf with⟨hcs,_⟩ | ⟨a,len,cap,zs,hcs,_,hl,hm,hz,_,hc,hwf⟩
 ·simp at hcs
  subst hcs;exact⟨[],⟨none,0,rfl,by simp,by simp,fun h=>absurd rfl h⟩,none,0,0,rfl,Nat.le_refl _⟩
 ·simp at hcs
  subst hcs;simp at hz;refine⟨zs.take len,⟨some a,cap,by rw [List.length_take];congr 1;omega,by rw [List.length_take];omega,fun x hx=>i64_of_wf (hwf x (List.mem_of_mem_take hx)),fun hne=> ?_⟩,_,_,_,rfl,hl⟩
  have hp:0<zs.length:=by
   rcases zs with _ | ⟨z,zs⟩
   ·simp at hne
   ·simp
  obtain⟨b,off,rfl,hq⟩:=ints_at hc hp;have hx:∀i x,(zs.take len)[i]? =some x→W.cell? ⟨b,off+i,none⟩=some (.int .i64 x):=by
   intro i x hx;obtain⟨hi,hx⟩:=List.getElem?_eq_some_iff.1 hx;rw [List.length_take]at hi;rw [hq i (by omega),List.getD_eq_getElem?_getD,List.getElem?_eq_getElem (by omega)]
   rw [List.getElem_take]at hx;simp [hx]
  exact⟨b,off,rfl,cell_lt (hq 0 hp),hx⟩
end
def Arr (w:World)(g:Nat)(T:TypeId)(n:Nat)(vs:Nat→Value):Prop:=∃A:Array Value,w.heap[g]? =some (.cells A T (0,0))∧∀i,i<n→A[i]? =some (vs i)
section
variable {w w':World} {g g' n:Nat} {T T':TypeId} {vs vs':Nat→Value}
theorem Arr.lt (h:Arr w g T n vs):g<w.heap.size:=by obtain⟨A,h,_⟩:=h;exact lt_of_heap h
theorem Arr.cell (h:Arr w g T n vs){i:Nat}(hi:i<n):w.cell? ⟨g,i,none⟩=some (vs i):=by
 obtain⟨A,h,hA⟩:=h;exact cell_of_heap h (hA i hi)
theorem Arr.free (h:Arr w g T n vs)(i:Nat):w.frozen? ⟨g,i,none⟩=false:=by obtain⟨A,h,_⟩:=h;exact free_of_heap h
theorem Arr.keepS {S:Nat→Nat→Prop}(h:Arr w g T n vs)(k:Keep S w w')(hS:∀i,¬S g i):Arr w' g T n vs:=by
 obtain⟨A,h,hA⟩:=h;exact⟨A,by rw [k.block g (lt_of_heap h) hS];exact h,hA⟩
theorem Arr.keep (h:Arr w g T n vs)(k:Keep NoS w w'):Arr w' g T n vs:=h.keepS k fun _ h=>h
theorem Arr.old (h:Arr w g T n vs)(o:Obj):Arr (w.alloc o) g T n vs:=h.keep ((Keep.refl _ _).alloc o)
theorem Arr.set (h:Arr w g T n vs)(i:Nat)(v:Value):Arr (w.setCell ⟨g,i,none⟩ v) g T n fun j=>if j=i then v else vs j:=by
 obtain⟨A,h,hA⟩:=h;refine⟨_,heap_setCell_same i v h,fun j hj=> ?_⟩
 have hjA:j<A.size:=(Array.getElem?_eq_some_iff.1 (hA j hj)).1;rw [Array.getElem?_setIfInBounds]
 by_cases hij:i=j
 ·subst hij;simp [hjA]
 ·show _=some (if j=i then v else vs j)
  rw [if_neg hij,if_neg (fun h=>hij h.symm)];exact hA j hj
theorem Arr.other (h:Arr w g T n vs)(i:Nat)(v:Value)(hne:¬g=g'):Arr (w.setCell ⟨g',i,none⟩ v) g T n vs:=by
 obtain⟨A,h,hA⟩:=h;exact⟨A,by rw [heap_setCell_other _ _ _ _ hne];exact h,hA⟩
theorem Arr.congr (h:Arr w g T n vs)(he:∀i,i<n→vs i=vs' i):Arr w g T n vs':=by
 obtain⟨A,h,hA⟩:=h;exact⟨A,h,fun i hi=>by rw [← he i hi];exact hA i hi⟩
theorem Arr.mono {m:Nat}(h:Arr w g T n vs)(hm:m≤n):Arr w g T m vs:=by
 obtain⟨A,h,hA⟩:=h;exact⟨A,h,fun i hi=>hA i (by omega)⟩
theorem Arr.ne {m:Nat}(h:Arr w g T n vs)(h':Arr w g' T' m vs')(hT:T≠T'):¬g=g':=by
 rintro rfl;obtain⟨A,h,_⟩:=h;obtain⟨A',h',_⟩:=h';rw [h]at h';simp at h';exact hT h'.2
theorem Arr.grown {row:Option Nat}(h:Arr w g T n vs)(hg:w.grownBy w' row)(hr:some g≠row):Arr w' g T n vs:=by
 obtain⟨A,h,hA⟩:=h;exact⟨A,by rw [hg.block g (lt_of_heap h) hr];exact h,hA⟩
theorem arr_of_own {base cap m:Nat}{xs:List Value}(h:w.ownsRow base T 1 (.slice (some ⟨g,0,none⟩) m cap) m xs)(hx:∀i,i<n→xs[i]? =some (vs i)):Arr w g T n vs:=by
 obtain⟨hl,h | ⟨g',cap',cur,hv,hb,hg,hl',hm,hs,ht⟩⟩:=h
 ·obtain ⟨h,_⟩:=h;cases h
 ·cases hv
  refine⟨cur,hg,fun i hi=> ?_⟩
  have h1:=hx i hi;have hil:i<xs.length:=(List.getElem?_eq_some_iff.1 h1).1;rw [← ht,List.getElem?_take,if_pos (by omega)]at h1
  simpa using h1
end
def dv (f:Nat→Nat):Nat→Nat
 | 0=>0
 | k+1=>dv f k+4294967296^k*f k
theorem dv_congr {f g:Nat→Nat}:∀ {k:Nat},(∀i,i<k→f i=g i)→dv f k=dv g k
 | 0,_=>rfl
 | k+1,h=>by rw [dv,dv,dv_congr fun i hi=>h i (by omega),h k (by omega)]
theorem dv_lt {f:Nat→Nat}:∀ {k:Nat},(∀i,i<k→f i<4294967296)→dv f k<4294967296^k
 | 0,_=>by simp [dv]
 | k+1,h=>by
  have h1:=dv_lt (k:=k) fun i hi=>h i (by omega)
  have h2:=h k (by omega)
  rw [dv,Nat.pow_succ];have h3:4294967296^k*(f k+1)≤4294967296^k*4294967296:=Nat.mul_le_mul_left _ (by omega)
  rw [Nat.mul_add]at h3;omega
theorem dv_pad {f:Nat→Nat}{n:Nat}:∀m,(∀i,n≤i→i<n+m→f i=0)→dv f (n+m)=dv f n
 | 0,_=>rfl
 | m+1,h=>by
  rw [← Nat.add_assoc,dv,h (n+m) (by omega) (by omega),dv_pad m fun i h1 h2=>h i h1 (by omega)]
  omega
theorem dv_split (f:Nat→Nat)(n:Nat):∀m,dv f (n+m)=dv f n+4294967296^n*dv (fun i=>f (n+i)) m
 | 0=>by simp [dv]
 | m+1=>by
  rw [← Nat.add_assoc,dv,dv_split f n m,dv,Nat.mul_add,Nat.pow_add,Nat.mul_assoc,Nat.add_assoc]
theorem dv_upd (f:Nat→Nat)(p v:Nat):∀n,p<n→dv (fun i=>if i=p then v else f i) n+4294967296^p*f p=dv f n+4294967296^p*v
 | 0,h=>absurd h (by omega)
 | n+1,h=>by
  rw [dv,dv]
  by_cases hp:n=p
  ·subst hp
   rw [if_pos rfl,dv_congr (f:=fun i=>if i=n then v else f i) (g:=f) fun i hi=>if_neg (by omega)]
   omega
  ·have ih:=dv_upd f p v n (by omega)
   rw [if_neg hp];omega
theorem dval_dv:∀(ds:List Nat),dval ds=dv (fun i=>ds.getD i 0) ds.length:=by
 have h:∀(ds:List Nat) (k:Nat),k≤ds.length→dval (ds.take k)=dv (fun i=>ds.getD i 0) k:=by
  intro ds k
  induction k with
  | zero=>intro _;simp [dval,dv]
  | succ k ih=>intro hk;rw [dval_take_succ ds k (by omega),ih (by omega),dv]
 intro ds;have:=h ds ds.length (Nat.le_refl _)
 rwa [List.take_length]at this
theorem dval_dv' (ds:List Nat)(n:Nat)(h:ds.length≤n):dv (fun i=>ds.getD i 0) n=dval ds:=by
 rw [show n=ds.length+(n-ds.length) by omega,dv_pad _ fun i h1 _=>by simp [List.getD,List.getElem?_eq_none h1],dval_dv]
def digs (f:Nat→Nat)(n:Nat):List Nat:=(List.range n).map f
theorem digs_len (f:Nat→Nat)(n:Nat):(digs f n).length=n:=by simp [digs]
theorem digs_get (f:Nat→Nat){n i:Nat}(h:i<n):(digs f n).getD i 0=f i:=by simp [digs,List.getD,h]
theorem digs_val (f:Nat→Nat)(n:Nat):dval (digs f n)=dv f n:=by
 rw [dval_dv,digs_len];exact dv_congr fun i hi=>digs_get f hi
theorem digs_lt {f:Nat→Nat}{n:Nat}(h:∀i,i<n→f i<4294967296):∀d∈digs f n,d<4294967296:=by
 intro d hd;obtain⟨i,hi,rfl⟩:=List.mem_map.1 hd;exact h i (by simpa using hi)
abbrev DigA (w:World)(g n:Nat)(f:Nat→Nat):Prop:=Arr w g U32 n fun i=> .int .u32 (f i:Nat)
theorem dig_of_arr {w:World}{g n cap:Nat}{f:Nat→Nat}(h:DigA w g n f)(hn:n≤cap)(hc:cap≤maxLen)(hf:∀i,i<n→f i<4294967296):IsDig w (.slice (some ⟨g,0,none⟩) n cap) (digs f n):=by
 obtain⟨A,hA,hv⟩:=h;exact⟨g,cap,A,(0,0),by rw [digs_len],hA,by rw [digs_len];exact hn,hc,fun i hi=>by
  rw [digs_len]at hi;rw [digs_get f hi];exact hv i hi,digs_lt hf⟩
theorem IsDig.open {w:World}{v:Value}{ds:List Nat}(h:IsDig w v ds):∃g cap,v= .slice (some ⟨g,0,none⟩) ds.length cap∧ds.length≤cap∧cap≤maxLen∧g<w.heap.size∧
  (∀w',Keep NoS w w'→∀i,i<ds.length→w'.cell? ⟨g,i,none⟩=some (.int .u32 (ds.getD i 0:Nat)))∧∀i,ds.getD i 0<4294967296:=by
 obtain⟨g,cap,c,fr,hv,hg,hl,hm,hc,hd⟩:=h;refine⟨g,cap,hv,hl,hm,lt_of_heap hg,fun w' hk i hi=> ?_,fun i=> ?_⟩
 ·rw [hk.cell (lt_of_heap hg)];exact cell_of_heap hg (hc i hi)
 ·by_cases hi:i<ds.length
  ·rw [getD_of_lt hi];exact hd _ (List.getElem_mem hi)
  ·simp [List.getD,List.getElem?_eq_none (Nat.le_of_not_lt hi)]
theorem IsDig.form {w:World}{v:Value}{ds:List Nat}(h:IsDig w v ds):∃g cap,v= .slice (some ⟨g,0,none⟩) ds.length cap:=by
 obtain⟨g,cap,hv,_⟩:=h.open;exact⟨g,cap,hv⟩
theorem DigA.set {w:World}{g n:Nat}{f:Nat→Nat}(h:DigA w g n f)(k d:Nat){v:Value}(hv:v= .int .u32 (d:Nat)):DigA (w.setCell ⟨g,k,none⟩ v) g n fun i=>if i=k then d else f i:=by
 subst hv;exact(Arr.set h k _).congr fun i _=>by by_cases e:i=k<;>simp [e]
def NewDig (P:List Nat→Prop)(w:World)(e:Ending)(w':World):Prop:=∃v ds,e= .returned v∧Keep NoS w w'∧IsDig w' v ds∧P ds
theorem made_get {z:Value}(hz:z.cells= #[z])(n i:Nat)(h:i<n):(madeCells z.cells (n*1)).toList[i]? =some z:=by
 rw [hz];simp [madeCells,h,Nat.mod_one]
theorem sum_step {P x y c:Nat}(k:Nat)(hP:P=4294967296^k){o X Y:Nat}(h:o+P*c=X+Y):o+P*((c+x+y)%4294967296)+4294967296^(k+1)*((c+x+y)/4294967296)=X+P*x+(Y+P*y):=by
 have e:=Nat.div_add_mod (c+x+y) 4294967296;rw [Nat.pow_succ,←hP];generalize (c+x+y)/4294967296=q at *;generalize (c+x+y)%4294967296=r at *;have e2:P*(c+x+y)=P*4294967296*q+P*r:=by rw [← e,Nat.mul_add,Nat.mul_assoc]
 rw [Nat.mul_add,Nat.mul_add]at e2;omega
def SumInv (xs ys:List Nat)(k c:Nat)(f:Nat→Nat):Prop:=
 c≤1∧(∀i,i<k→f i<4294967296)∧dv f k+4294967296^k*c=dv (fun i=>xs.getD i 0) k+dv (fun i=>ys.getD i 0) k
theorem SumInv.step {xs ys:List Nat}{k c:Nat}{f:Nat→Nat}(h:SumInv xs ys k c f)(hx:xs.getD k 0<4294967296)(hy:ys.getD k 0<4294967296){c1 d:Nat}(hd:d=(c+xs.getD k 0+ys.getD k 0)%4294967296)(hc:c1=(c+xs.getD k 0+ys.getD k 0)/4294967296):
  SumInv xs ys (k+1) c1 fun i=>if i=k then d else f i:=by
 obtain⟨h1,h2,h3⟩:=h;subst hd hc;refine⟨by omega,fun i hi=> ?_,?_⟩
 ·by_cases e:i=k
  ·simp only [e,if_true];omega
  ·simp only [e,if_false];exact h2 i (by omega)
 ·rw [dv,if_pos rfl,dv_congr (f:=fun i=>if i=k then _ else f i) (g:=f) fun i hi=>if_neg (by omega),dv,dv]
  exact sum_step k rfl h3
theorem SumInv.fin {xs ys:List Nat}{q:Nat}{f:Nat→Nat}(h:SumInv xs ys xs.length q f)(hl:ys.length≤xs.length):
  (∀i,i<xs.length+1→(if i=xs.length then q else f i)<4294967296)∧dv (fun i=>if i=xs.length then q else f i) (xs.length+1)=dval xs+dval ys:=by
 obtain⟨h1,h2,h3⟩:=h;refine⟨fun i hi=> ?_,?_⟩
 ·by_cases e:i=xs.length
  ·simp only [e,if_true];omega
  ·simp only [e,if_false];exact h2 i (by omega)
 ·rw [dv,if_pos rfl,dv_congr (f:=fun i=>if i=xs.length then q else f i) (g:=f) fun i hi=>if_neg (by omega),h3,dval_dv' xs _ (Nat.le_refl _),dval_dv' ys _ hl]
def LessInv (xs ys:List Nat)(k c:Nat)(f:Nat→Nat):Prop:=
 c≤1∧(∀i,i<k→f i<4294967296)∧dv f k+dv (fun i=>ys.getD i 0) k=dv (fun i=>xs.getD i 0) k+4294967296^k*c
theorem LessInv.step {xs ys:List Nat}{k c:Nat}{f:Nat→Nat}(h:LessInv xs ys k c f){c1 d:Nat}(he:d+ys.getD k 0+c=xs.getD k 0+4294967296*c1)(hd:d<4294967296)(hc:c1≤1):
  LessInv xs ys (k+1) c1 fun i=>if i=k then d else f i:=by
 obtain⟨h1,h2,h3⟩:=h;refine⟨hc,fun i hi=> ?_,?_⟩
 ·by_cases e:i=k
  ·simp only [e,if_true];exact hd
  ·simp only [e,if_false];exact h2 i (by omega)
 ·rw [dv,if_pos rfl,dv_congr (f:=fun i=>if i=k then _ else f i) (g:=f) fun i hi=>if_neg (by omega),dv,dv,Nat.pow_succ]
  have e2:4294967296^k*(d+ys.getD k 0+c)=4294967296^k*(xs.getD k 0+4294967296*c1):=by rw [he]
  rw [Nat.mul_add,Nat.mul_add,Nat.mul_add,←Nat.mul_assoc]at e2;omega
theorem LessInv.fin {xs ys:List Nat}{q:Nat}{f:Nat→Nat}(h:LessInv xs ys xs.length q f)(hl:ys.length≤xs.length)(hle:dval ys≤dval xs):(∀i,i<xs.length→f i<4294967296)∧dv f xs.length=dval xs-dval ys:=by
 obtain⟨h1,h2,h3⟩:=h;refine⟨h2,?_⟩;rw [dval_dv' xs _ (Nat.le_refl _),dval_dv' ys _ hl]at h3;have h4:=dv_lt h2;have:q=0∨q=1:=by omega
 rcases this with rfl | rfl
 ·omega
 ·omega
theorem IsRaw.parts {w:World}{b o:Nat}{neg:Bool}{ds:List Nat}(h:IsRaw w b o neg ds):∃g cap,w.cell? ⟨b,o,none⟩=some (.bool neg)∧w.cell? ⟨b,o+1,none⟩=some (.slice (some ⟨g,0,none⟩) ds.length cap)∧
  IsDig w (.slice (some ⟨g,0,none⟩) ds.length cap) ds∧b<w.heap.size:=by
 obtain⟨c,t,v,hb,ht,h0,h1,hd⟩:=h;obtain⟨g,cap,rfl⟩:=hd.form;exact⟨g,cap,cell_of_heap hb h0,cell_of_heap hb h1,hd,lt_of_heap hb⟩
theorem add_same {neg neg':Bool}{a b:Nat}(h:neg=neg'):sgn neg (a+b)=sgn neg a+sgn neg' b:=by
 subst h;cases neg<;>simp [sgn];omega
theorem add_more {neg neg':Bool}{a b:Nat}(h:neg≠neg')(hab:b≤a):sgn neg (a-b)=sgn neg a+sgn neg' b:=by
 cases neg<;>cases neg'<;>simp [sgn]at* <;>omega
theorem add_less {neg neg':Bool}{a b:Nat}(h:neg≠neg')(hab:a≤b):sgn neg' (b-a)=sgn neg a+sgn neg' b:=by
 cases neg<;>cases neg'<;>simp [sgn]at* <;>omega
theorem cmpN_ge (a b:Nat):decide (0≤cmpN a b)=decide (b≤a):=by
 unfold cmpN;rw [decide_eq_decide]
 split
 ·omega
 ·split<;>omega
structure MulRow (X Y:Nat→Nat)(n m i:Nat)(f:Nat→Nat):Prop where
 lt:∀p,p<n+m→f p<4294967296
 zero:∀p,i+m≤p→p<n+m→f p=0
 val:dv f (n+m)=dv X i*dv Y m
structure MulCol (X Y:Nat→Nat)(n m i j q:Nat)(f:Nat→Nat):Prop where
 lt:∀p,p<n+m→f p<4294967296
 zero:∀p,i+m≤p→p<n+m→f p=0
 qlt:q<4294967296
 val:dv f (n+m)+4294967296^(i+j)*q=dv X i*dv Y m+X i*4294967296^i*dv Y j
theorem MulRow.start {X Y f:Nat→Nat}{n m i:Nat}(h:MulRow X Y n m i f):MulCol X Y n m i 0 0 f:=⟨h.lt,h.zero,by omega,by rw [h.val];simp [dv]⟩
theorem mul_lt {a b:Nat}(ha:a<4294967296)(hb:b<4294967296):a*b≤18446744065119617025:=
 Nat.mul_le_mul (show a≤4294967295 by omega) (show b≤4294967295 by omega)
theorem mul_ltI {a b:Nat}(ha:a<4294967296)(hb:b<4294967296):0≤(a:Int)*(b:Int)∧(a:Int)*(b:Int)≤18446744065119617025:=by
 have:=mul_lt ha hb;rw [← Int.natCast_mul];omega
theorem MulCol.step {X Y f:Nat→Nat}{n m i j q:Nat}(h:MulCol X Y n m i j q f)(hi:i<n)(hj:j<m)(hX:X i<4294967296)(hY:Y j<4294967296){d q1:Nat}(hd:d=(q+(X i*Y j+f (i+j)))%4294967296)(hq:q1=(q+(X i*Y j+f (i+j)))/4294967296):
  MulCol X Y n m i (j+1) q1 fun p=>if p=i+j then d else f p:=by
 have hxy:=mul_lt hX hY;have hf:=h.lt (i+j) (by omega)
 have hqq:=h.qlt;refine⟨fun p hp=> ?_,fun p h1 h2=> ?_,by omega,?_⟩
 ·by_cases e:p=i+j
  ·simp only [e,if_true];omega
  ·simp only [e,if_false];exact h.lt p hp
 ·rw [if_neg (by omega)];exact h.zero p h1 h2
 ·have hu:=dv_upd f (i+j) d (n+m) (by omega)
  have hv:=h.val;have e:=Nat.div_add_mod (q+(X i*Y j+f (i+j))) 4294967296;rw [← hd,←hq]at e;have e2:4294967296^(i+j)*(4294967296*q1+d)=4294967296^(i+j)*(q+(X i*Y j+f (i+j))):=by rw [e]
  rw [Nat.mul_add,Nat.mul_add,Nat.mul_add,←Nat.mul_assoc]at e2;have e3:X i*4294967296^i*(4294967296^j*Y j)=4294967296^(i+j)*(X i*Y j):=by
   rw [Nat.pow_add];simp only [Nat.mul_assoc,Nat.mul_comm,Nat.mul_left_comm]
  rw [dv,Nat.mul_add,e3,←Nat.add_assoc i j 1,Nat.pow_succ];omega
theorem MulCol.fin {X Y f:Nat→Nat}{n m i q:Nat}(h:MulCol X Y n m i m q f)(hi:i<n):MulRow X Y n m (i+1) fun p=>if p=i+m then q else f p:=by
 refine⟨fun p hp=> ?_,fun p h1 h2=> ?_,?_⟩
 ·by_cases e:p=i+m
  ·simp only [e,if_true];exact h.qlt
  ·simp only [e,if_false];exact h.lt p hp
 ·rw [if_neg (by omega)];exact h.zero p (by omega) h2
 ·have hu:=dv_upd f (i+m) q (n+m) (by omega)
  have hv:=h.val;have h0:=h.zero (i+m) (Nat.le_refl _) (by omega)
  rw [h0,Nat.mul_zero,Nat.add_zero]at hu;rw [hu,hv,dv,Nat.add_mul,Nat.mul_comm (4294967296^i) (X i)]
theorem sgn_mul (neg neg':Bool)(a b:Nat):sgn (neg != neg') (a*b)=sgn neg a*sgn neg' b:=by
 cases neg<;>cases neg'<;>simp [sgn,Int.mul_neg,Int.neg_mul]
def SetOK (N:Nat):Prop:=∀a b:Int,b≠0→a.natAbs<N→b.natAbs<N→∀(w:World) (bz oz ba oa bb ob:Nat),IsRHdr w bz oz→IsInt w ba oa a→IsInt w bb ob b→
  Calls Tryz.prog 72 #[.pointer (some ⟨bz,oz,none⟩),.pointer (some ⟨ba,oa,none⟩),.pointer (some ⟨bb,ob,none⟩)] w fun e w'=>
   e= .returned (.pointer (some ⟨bz,oz,none⟩))∧Keep (AtR bz oz) w w'∧IsRat w' bz oz (Rat.divInt a b)
def RB (N:Nat)(q:Rat):Prop:=q.num.natAbs<N∧q.den<N
theorem RB.mono {N M:Nat}{q:Rat}(h:RB N q)(hm:N≤M):RB M q:=⟨Nat.lt_of_lt_of_le h.1 hm,Nat.lt_of_lt_of_le h.2 hm⟩
theorem Keep.newer {w0 w w':World}{b o:Nat}(h:Keep NoS w0 w)(k:Keep (At b o) w w')(hb:w0.heap.size≤b):Keep NoS w0 w':=h.trans k fun n o hn h=>by have:=h.1;omega
theorem Keep.both {w0 w w':World}(h:Keep NoS w0 w)(k:Keep NoS w w'):Keep NoS w0 w':=h.trans k fun _ _ _ h=>h
theorem den_ne (q:Rat):(q.den:Int)≠0:=by have:=q.den_pos;omega
theorem rat_mul (x y:Rat):Rat.divInt (x.num*y.num) (x.den*y.den)=x*y:=by
 rw [← Rat.divInt_mul_divInt,Rat.num_divInt_den,Rat.num_divInt_den]
theorem rat_add (x y:Rat):Rat.divInt (x.num*y.den+y.num*x.den) (x.den*y.den)=x+y:=by
 rw [← Rat.divInt_add_divInt _ _ (den_ne x) (den_ne y),Rat.num_divInt_den,Rat.num_divInt_den]
theorem rat_quo {x y:Rat}(hy:y≠0):Rat.divInt (x.num*y.den) (x.den*y.num)=x/y:=by
 rw [← Rat.divInt_mul_divInt,Rat.num_divInt_den,←Rat.inv_def,Rat.div_def]
section
variable {N:Nat} (hN:N≤BIG) (S:SetOK N) (w:World) (bz oz bx ox by' oy:Nat) (x y:Rat)
end
def QROK (N:Nat):Prop:=∀x y:Int,y≠0→x.natAbs<N→y.natAbs<N→∀(w:World) (bz oz bx ox by' oy br or:Nat),IsHdr w bz oz→IsHdr w br or→Dis bz oz br or→IsInt w bx ox x→IsInt w by' oy y→
  Calls Tryz.prog 137 #[.pointer (some ⟨bz,oz,none⟩),.pointer (some ⟨bx,ox,none⟩),.pointer (some ⟨by',oy,none⟩),.pointer (some ⟨br,or,none⟩)] w fun e w'=>
   e= .returned (.tuple #[.pointer (some ⟨bz,oz,none⟩),.pointer (some ⟨br,or,none⟩)])∧Keep (Or2 (At bz oz) (At br or)) w w'∧IsInt w' bz oz (x.tdiv y)∧IsInt w' br or (x.tmod y)
theorem ediv_of_neg {x y:Int}(hy:y≠0)(h:x.tmod y<0):(y<0→x/y=x.tdiv y+1∧x%y=x.tmod y-y)∧(¬y<0→x/y=x.tdiv y-1∧x%y=x.tmod y+y):=by
 have h1:=Int.tmod_add_mul_tdiv x y;have h2:=Int.emod_add_mul_ediv x y;have h3:=Int.emod_nonneg x hy;have hx:¬0≤x:=fun hx=>by have:=Int.tmod_nonneg y hx;omega
 have h4:¬(y∣x):=fun hd=>by rw [Int.tmod_eq_zero_of_dvd hd]at h;omega
 rw [Int.tdiv_eq_ediv]at *;rw [if_neg (by rintro(h | h);exact hx h;exact h4 h)]at*
 constructor
 ·intro hy0
  rw [Int.sign_eq_neg_one_of_neg hy0]at *;refine⟨by omega,?_⟩
  rw [Int.mul_add]at h1;omega
 ·intro hy0
  rw [Int.sign_eq_one_of_pos (by omega)]at*
  refine⟨by omega,?_⟩
  rw [Int.mul_add]at h1;omega
theorem ediv_of_nonneg {x y:Int}(hy:y≠0)(h:¬x.tmod y<0):x/y=x.tdiv y∧x%y=x.tmod y:=by
 have h1:=Int.tmod_add_mul_tdiv x y;have h2:=Int.emod_add_mul_ediv x y;have e:x/y=x.tdiv y:=by
  rw [Int.tdiv_eq_ediv]
  split
  ·omega
  ·rename_i hc
   exfalso
   apply hc
   by_cases hx:0≤x
   ·exact .inl hx
   ·right
    have h3:x.tmod y≤0:=by have:=Int.tmod_nonneg y (show 0≤ -x by omega);rw [Int.neg_tmod]at this;omega
    exact Int.dvd_of_tmod_eq_zero (by omega)
 refine⟨e,?_⟩;rw [e]at h2;omega
section
variable {N:Nat} (hN:N≤BIG) (S:QROK N) (w:World) (bz oz bx ox by' oy br or:Nat) (x y:Int)
end
end Go.Proofs.YtaiffmebphhdaaaGreat
