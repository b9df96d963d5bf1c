/- Package cut: how the search lies in memory. Package cut: maps whose keys are pairs of integers. Package cut: a limit; bools as they lie; what is open. Package cut: the slices' functions that it calls. Package cut: the variable of a row. -/
import Derived.Test.YtmepglhdcphffaaGreatCuSS
import Derived.Test.YtmepglhdcphffaaGreatOwGG
import Derived.Maps.RangeWalk
import Derived.Test.YtmepglhdcphffaaGreatExAA
namespace Go.Proofs.YtmepglhdcphffaaGreat
set_option maxRecDepth 100000
set_option linter.unusedSimpArgs false
set_option linter.unusedVariables false
open Go.ChangeShapes Go.WideShapes Go.RowKit
variable {P:Nat→Prop}
abbrev jc:TypeId:=66
abbrev TSr:TypeId:=263
def Hot (o:Obj):Prop:=∃A e f,o= .cells A e f∧(e=PL∨e=jc∨e=TSr)
structure KT (P:Nat→Prop)(w w':World):Prop where
 size:w.heap.size≤w'.heap.size
 same:∀(b:Nat) (o:Obj),w.heap[b]? =some o→(¬Hot o∨P b)→w'.heap[b]? =some o
theorem KT.refl (w:World):KT P w w:=⟨Nat.le_refl _,fun _ _ h _=>h⟩
theorem KT.trans {w w1 w2:World}(h:KT P w w1)(k:KT P w1 w2):KT P w w2:=⟨Nat.le_trans h.size k.size,fun b o hb ho=>k.same b o (h.same b o hb ho) ho⟩
theorem KT.of {w w':World}(k:Keep au w w'):KT P w w':=⟨k.size,fun b o hb _=>by rw [k.block b (lt_of_heap hb) fun _ h=>h];exact hb⟩
theorem KT.set {w:World}{b i:Nat}{A:Array Value}{e:TypeId}{f:Nat × Nat}(hb:w.heap[b]? =some (.cells A e f))(he:e=PL∨e=jc∨e=TSr)(hp:¬P b)(v:Value):KT P w (w.setCell ⟨b,i,none⟩ v):=by
 refine⟨sm,fun c o hc ho=> ?_⟩;have hne:c≠b:=fun e1=>by
  subst e1;rw [hb]at hc;cases hc;exact ho.elim (fun ho=>ho ⟨_,_,_,rfl,he⟩) hp
 rw [heap_setCell_other _ _ _ _ hne];exact hc
theorem KT.grown {w w':World}{row:Option Nat}(hg:w.grownBy w' row)(hr:∀b,row=some b→(∃A e f,w.heap[b]? =some (.cells A e f)∧(e=PL∨e=jc∨e=TSr))∧¬P b):KT P w w':=by
 refine⟨hg.size,fun c o hc ho=> ?_⟩;have hne:some c≠row:=fun e1=>by
  obtain⟨⟨A,e,f,h1,h2⟩,h3⟩:=hr c e1.symm;rw [h1]at hc;cases hc;exact ho.elim (fun ho=>ho ⟨_,_,_,rfl,h2⟩) h3
 rw [hg.block c (lt_of_heap hc) hne];exact hc
theorem KT.own {w w':World}{base:Nat}{e:TypeId}{size:Nat}{v:Value}{n:Nat}{xs:List Value}(k:KT P w w')(h:w.ownsRow base e size v n xs)(he:e≠PL∧e≠jc∧e≠TSr):w'.ownsRow base e size v n xs:=by
 obtain⟨hl,h | ⟨g,cap,cur,hv,hb,hg,hl',hm,hs,ht⟩⟩:=h
 ·exact ⟨hl,.inl h⟩
 refine⟨hl,.inr ⟨g,cap,cur,hv,hb,k.same _ _ hg (.inl ?_),hl',hm,hs,ht⟩⟩;rintro⟨A,e',f,h1,h2⟩;cases h1;exact h2.elim he.1 fun h2=>h2.elim he.2.1 he.2.2
theorem KT.ints {w w':World}{base:Nat}{v:Value}{l:List Int}(k:KT P w w')(h:bC w base v l):bC w' base v l:=k.own h ⟨dc,dc,dc⟩
theorem KT.fracs {w w':World}{base:Nat}{v:Value}{l:List Fq}(k:KT P w w')(h:lJ w base v l):lJ w' base v l:=k.own h ⟨dc,dc,dc⟩
structure ji where
 lv:Value
 nv:Value
 rv:Value
 st:JR
def akC (k:Int):Int:=if k=5 then 3 else 0
def zN (x:ji):List Value:= [.int .i64 x.st.kind,x.lv,x.nv,.int .i64 (akC x.st.kind),.int .i64 0,.int .i64 0,x.rv,.int .i64 x.st.row.kind,.int .i64 x.st.row.to]
theorem yK (x:ji):(zN x).length=9:=rfl
theorem infoSt:(Tryz.prog.info? jc).map (fun i=>(i.zero,i.size,i.bytes))=some (some (.agg #[.int .i64 0,.slice none 0 0,.slice none 0 0,.int .i64 0,.int .i64 0,.int .i64 0,.slice none 0 0,.int .i64 0,.int .i64 0]),9,120):=kr
structure JU (w:World)(base:Nat)(x:ji):Prop where
 l:bC w base x.lv x.st.lits
 n:lJ w base x.nv x.st.nums
 r:bC w base x.rv x.st.row.of
theorem JU.kt {w w':World}{base:Nat}{x:ji}(h:JU w base x)(k:KT P w w'):JU w' base x:=⟨k.ints h.l,k.fracs h.n,k.ints h.r⟩
theorem JU.one {w:World}{base:Nat}{x:ji}(h:JU w base x):∀u∈zN x,u.oneCell'=true:=by
 obtain⟨o1,c1,e1⟩:=h.l.len;obtain⟨o2,c2,e2,_⟩:=h.n.len;obtain⟨o3,c3,e3⟩:=h.r.len;intro u hu;simp only [zN,List.mem_cons,List.not_mem_nil,or_false]at hu;rcases hu with rfl | rfl | rfl | rfl | rfl | rfl | rfl | rfl | rfl
 ·rfl
 ·rw [e1];rfl
 ·rw [e2];rfl
 ·rfl
 ·rfl
 ·rfl
 ·rw [e3];rfl
 ·rfl
 rfl
structure wW (P:Nat→Prop)(w0 w:World)(bS:Nat)(vr vi:Value)(s:wJ)(va vt vp:Value)(xs:List xQ)(ys:List ji):Prop where
 k:Keep au w0 w
 hb:w0.heap.size≤bS
 b:w.heap[bS]? =some (.cells #[vr,vi,.int .i64 (s.fuel:Int),va,vt,vp,.bool s.much] TSr (0,0))
 a:aO PL 3 JK w w0.heap.size va xs
 ax:xs.map xQ.r=s.atoms
 ai:∀x∈xs,bC w w0.heap.size x.sv x.r.of
 t:aO jc 9 zN w w0.heap.size vt ys
 tx:ys.map ji.st=s.steps
 ti:∀y∈ys,JU w w0.heap.size y
 p:lJ w w0.heap.size vp s.point
 av:∀c,P c→c<w.heap.size∧c≠bS∧va.ownBlock≠some c∧vt.ownBlock≠some c
def Vs (P:Nat→Prop)(w0 w:World)(bS:Nat)(vr vi:Value)(s:wJ):Prop:=∃va vt vp xs ys,wW P w0 w bS vr vi s va vt vp xs ys
theorem wW.keep {w0 w w':World}{bS:Nat}{vr vi:Value}{s:wJ}{va vt vp:Value}{xs:List xQ}{ys:List ji}(h:wW P w0 w bS vr vi s va vt vp xs ys)(k:Keep au w w'):wW P w0 w' bS vr vi s va vt vp xs ys:=
 ⟨h.k.both k,h.hb,by rw [k.block bS (lt_of_heap h.b) fun _ h=>h];exact h.b,h.a.keep k,h.ax,fun x hx=>(h.ai x hx).keep k,h.t.keep k,h.tx,fun y hy=>(h.ti y hy).kt (.of (P:=P) k),h.p.keep k,fun c hc=>by obtain⟨h1,h2⟩:=h.av c hc;exact⟨bJ h1 k.size,h2⟩⟩
theorem Vs.keep {w0 w w':World}{bS:Nat}{vr vi:Value}{s:wJ}(h:Vs P w0 w bS vr vi s)(k:Keep au w w'):Vs P w0 w' bS vr vi s:=by
 obtain⟨va,vt,vp,xs,ys,h⟩:=h;exact⟨va,vt,vp,xs,ys,h.keep k⟩
theorem jh {w:World}{base:Nat}{e:TypeId}{size:Nat}{v:Value}{n:Nat}{xs:List Value}(h:w.ownsRow base e size v n xs){b:Nat}(hb:v.ownBlock=some b):∃A,w.heap[b]? =some (.cells A e (0,0)):=by
 obtain⟨hl,h | ⟨g,cap,cur,hv,hbb,hg,hl',hm,hs,ht⟩⟩:=h
 ·rw [h.1]at hb;cases hb
 rw [hv]at hb;cases hb;exact⟨_,hg⟩
theorem wW.aNe {w0 w:World}{bS:Nat}{vr vi:Value}{s:wJ}{va vt vp:Value}{xs:List xQ}{ys:List ji}(h:wW P w0 w bS vr vi s va vt vp xs ys):va.ownBlock≠some bS:=fun e=>by
 obtain⟨A,e1⟩:=jh h.a e;rw [h.b]at e1;have:=(Obj.cells.inj (Option.some.inj e1)).2.1;exact absurd this dc
theorem wW.tNe {w0 w:World}{bS:Nat}{vr vi:Value}{s:wJ}{va vt vp:Value}{xs:List xQ}{ys:List ji}(h:wW P w0 w bS vr vi s va vt vp xs ys):vt.ownBlock≠some bS:=fun e=>by
 obtain⟨A,e1⟩:=jh h.t e;rw [h.b]at e1;have:=(Obj.cells.inj (Option.some.inj e1)).2.1;exact absurd this dc
theorem wW.atNe {w0 w:World}{bS:Nat}{vr vi:Value}{s:wJ}{va vt vp:Value}{xs:List xQ}{ys:List ji}(h:wW P w0 w bS vr vi s va vt vp xs ys):∀k,va.ownBlock=some k→vt.ownBlock≠some k:=fun k e e'=>by
 obtain⟨A,e1⟩:=jh h.a e;obtain⟨B,e2⟩:=jh h.t e';rw [e1]at e2;have:=(Obj.cells.inj (Option.some.inj e2)).2.1;exact absurd this dc
theorem wW.set {w0 w:World}{bS:Nat}{vr vi:Value}{s s':wJ}{va vt vp vp':Value}{xs:List xQ}{ys:List ji}(h:wW P w0 w bS vr vi s va vt vp xs ys)(i:Nat)(v:Value)
  (he: #[vr,vi,.int .i64 (s.fuel:Int),va,vt,vp,.bool s.much].setIfInBounds i v= #[vr,vi,.int .i64 (s'.fuel:Int),va,vt,vp',.bool s'.much]) (e1:s'.atoms=s.atoms) (e2:s'.steps=s.steps) (hp:lJ w w0.heap.size vp' s'.point):wW P w0 (w.setCell ⟨bS,i,none⟩ v) bS vr vi s' va vt vp' xs ys:=by
 have kt:KT P w (w.setCell ⟨bS,i,none⟩ v):=KT.set h.b (.inr (.inr rfl)) (fun hp=>(h.av bS hp).2.1 rfl) v;refine⟨aQ h.k _ h.hb,h.hb,?_,?_,h.ax.trans e1.symm,fun x hx=>kt.ints (h.ai x hx),?_,h.tx.trans e2.symm,fun y hy=>(h.ti y hy).kt kt,kt.fracs hp,fun c hc=>by have:=h.av c hc;simpa using this⟩
 ·rw [← he];exact heap_setCell_same _ _ h.b
 ·exact ownsRow_setCell_other h.a h.aNe _
 exact ownsRow_setCell_other h.t h.tNe _
theorem wW.grownT {w0 w w':World}{bS:Nat}{vr vi:Value}{s:wJ}{va vt vp:Value}{xs:List xQ}{ys:List ji}(h:wW P w0 w bS vr vi s va vt vp xs ys)(hg:w.grownBy w' vt.ownBlock):KT P w w'∧Keep au w0 w'∧w'.heap[bS]? =w.heap[bS]? ∧aO PL 3 JK w' w0.heap.size va xs:=by
 have kt:KT P w w':=KT.grown hg fun b hb=>by
  obtain⟨A,e⟩:=jh h.t hb;exact⟨⟨A,jc,(0,0),e,.inr (.inl rfl)⟩,fun hp=>(h.av b hp).2.2.2 hb⟩
 exact⟨kt,h.k.grown hg fun k hk=>h.t.block k hk,hg.block bS (lt_of_heap h.b) fun e=>h.tNe e.symm,h.a.grown0 hg fun k hk e=>h.atNe k hk e.symm⟩
theorem wW.pushT {w0 w:World}{bS:Nat}{vr vi:Value}{s:wJ}{va vt vp:Value}{xs:List xQ}{ys:List ji}(h:wW P w0 w bS vr vi s va vt vp xs ys){y:ji}(hy:JU w w0.heap.size y){b:Nat}(hb:aL w b (zN y).toArray)(hl:s.steps.length≤100000):
  ∃v' w',(Builtin.append_ #[44,44] 44 #[vt,.slice (some ⟨b,0,none⟩) 1 1]).run Tryz.prog w= .ok v' w'∧(∃o c,v'= .slice o (s.steps.length+1) c)∧wW P w0 (w'.setCell ⟨bS,4,none⟩ v') bS vr vi {s with steps:=s.steps++ [y.st]} va v' vp xs (ys++ [y])∧KT P w (w'.setCell ⟨bS,4,none⟩ v')∧w'.heap[bS]? =w.heap[bS]? ∧w.grownBy w' vt.ownBlock:=by
 obtain⟨i0,hi0,hz0,hz1,hz2⟩:=info_parts infoSt;have hyl:ys.length=s.steps.length:=by rw [← h.tx,List.length_map]
 obtain⟨v',w',hr,ho,hg,hv⟩:=aO.app yK Tryz.underlying44 hi0 hz0 hz1 hz2 rfl dc h.t (x:=y) hb hy.one (by unfold maxLen;omega) om (Nat.le_trans h.k.size (Nat.le_refl _));obtain⟨kt,k1,eb,ha⟩:=h.grownT hg;have hb':w'.heap[bS]? =some (.cells #[vr,vi,.int .i64 (s.fuel:Int),va,vt,vp,.bool s.much] TSr (0,0)):=eb.trans h.b;have kt2:KT P w' (w'.setCell ⟨bS,4,none⟩ v'):=KT.set hb' (.inr (.inr rfl)) (fun hp=>(h.av bS hp).2.1 rfl) v';have hne:v'.ownBlock≠some bS:=fun e=>by
  obtain⟨A,e1⟩:=jh ho e;rw [hb']at e1;exact absurd (Obj.cells.inj (Option.some.inj e1)).2.1 dc
 refine⟨v',w',hr,?_,⟨aQ k1 _ h.hb,h.hb,heap_setCell_same _ _ hb',ownsRow_setCell_other ha h.aNe _,h.ax,fun x hx=>kt2.ints (kt.ints (h.ai x hx)),ownsRow_setCell_other ho hne _,by simp [h.tx],fun z hz=> ?_,kt2.fracs (kt.fracs h.p),fun c hc=>by
  obtain⟨h1,h2,h3,h4⟩:=h.av c hc;refine⟨by have:=kt.size;simp;omega,h2,h3,fun e=> ?_⟩;rcases hv with hv | hv
  ·exact h4 (hv ▸ e)
  rw [hv]at e;cases e;omega⟩,kt.trans kt2,eb,hg⟩
 ·obtain ⟨o,c,e,_⟩:=ho.len;exact⟨o,c,by rw [e,List.length_append,hyl];rfl⟩
 rcases List.mem_append.1 hz with hz | hz
 ·exact ((h.ti z hz).kt kt).kt kt2
 rw [List.mem_singleton.1 hz];exact(hy.kt kt).kt kt2
theorem KT.weak {P':Nat→Prop}{w w':World}(h:KT P' w w')(hp:∀c,P c→P' c):KT P w w':=⟨h.size,fun b o hb ho=>h.same b o hb (ho.elim .inl fun h=> .inr (hp _ h))⟩
theorem wW.weak {P':Nat→Prop}{w0 w:World}{bS:Nat}{vr vi:Value}{s:wJ}{va vt vp:Value}{xs:List xQ}{ys:List ji}(h:wW P' w0 w bS vr vi s va vt vp xs ys)(hp:∀c,P c→P' c):wW P w0 w bS vr vi s va vt vp xs ys:= {h with av:=fun c hc=>h.av c (hp c hc)}
theorem wW.guard {w0 w w':World}{bS:Nat}{vr vi:Value}{s:wJ}{va vt vp:Value}{xs:List xQ}{ys:List ji}(h:wW P w0 w bS vr vi s va vt vp xs ys)(k:Keep au w w'){b:Nat}(h1:w.heap.size≤b)(h2:b<w'.heap.size):wW (fun c=>P c∨c=b) w0 w' bS vr vi s va vt vp xs ys:=by
 have h':=h.keep k;refine⟨h'.k,h'.hb,h'.b,h'.a,h'.ax,h'.ai,h'.t,h'.tx,h'.ti,h'.p,fun c hc=> ?_⟩;rcases hc with hc | rfl
 ·exact h'.av c hc
 exact⟨h2,fun e=>by have:=lt_of_heap h.b;omega,fun e=>by have:=h.a.lt c e;omega,fun e=>by have:=h.t.lt c e;omega⟩
variable {P:Nat→Prop}
abbrev TMp:TypeId:=266
abbrev TKy:TypeId:=207
theorem eqI (w:World)(n:Nat)(a b:Int):(Op.equalIn (n+1) 3 (.int .i64 a) (.int .i64 b)).run Tryz.prog w= .ok (a==b) w:=by
 unfold Op.equalIn;simp [run_underlying Tryz.underlying3,Result.andThen]
theorem eqK (w:World)(a b c d:Int):(Op.equal TKy (.agg #[.int .i64 a,.int .i64 b]) (.agg #[.int .i64 c,.int .i64 d])).run Tryz.prog w= .ok (decide (a=c∧b=d)) w:=by
 unfold Op.equal Op.maxDepth Op.equalIn;simp [run_underlying Tryz.underlying207,Result.andThen,List.range',eqI,part,Tryz.isAgg3,Tryz.sizeOf3];by_cases h1:a=c<;>by_cases h2:b=d<;>simp [h1,h2,eqI,part,Tryz.isAgg3,Tryz.sizeOf3,Result.andThen]
structure Dw where
 k:Int
 s:Int
 sv:Value
 b:CB
 born:Nat
def EY (k s:Int):Value:= .agg #[.int .i64 k,.int .i64 s]
def bdV (sv:Value)(b:CB):Value:= .agg #[sv,.int .i64 b.row.kind,.int .i64 b.row.to,.int .i64 b.id]
def Dw.v (e:Dw):Value:=bdV e.sv e.b
def Dw.ent (e:Dw):MapEntry:=⟨EY e.k e.s,e.v,e.born⟩
def Bn (L:List Dw)(k s:Int):Option Dw:=L.find? fun e=>decide (e.k=k∧e.s=s)
def JM (L:List Dw)(k s:Int):Value:=match Bn L k s with
 | some e=> .tuple #[e.v,.bool true]
 | none=> .tuple #[.agg #[.slice none 0 0,.int .i64 0,.int .i64 0,.int .i64 0],.bool false]
theorem FV (w:World)(k s:Int):∀(L:List Dw) (i:Nat),∃j,(Instr.findAsking TKy (EY k s) (L.map Dw.ent) i).run Tryz.prog w= .ok ((Bn L k s).map fun e=>(j,e.v)) w
 | [],i=>⟨0,by simp [Instr.findAsking,Bn]⟩
 | e::L,i=>by
  obtain⟨j,hj⟩:=FV w k s L (i+1);by_cases h:e.k=k∧e.s=s
  ·refine ⟨i,?_⟩;obtain⟨rfl,rfl⟩:=h;simp [Instr.findAsking,Dw.ent,EY,eqK,Bn,Result.andThen]
  refine⟨j,?_⟩;have h':¬(k=e.k∧s=e.s):=fun h1=>h ⟨h1.1.symm,h1.2.symm⟩;have e1:Bn (e::L) k s=Bn L k s:=by unfold Bn;rw [List.find?_cons_of_neg (by simpa using h)]
  rw [e1,←hj];simp [Instr.findAsking,Dw.ent,EY,eqK,Result.andThen,h']
theorem Ox (w:World)(em:Bool)(n:Nat)(k s:Int):(Instr.checkKey em (n+2) TKy (EY k s)).run Tryz.prog w= .ok () w:=by
 unfold Instr.checkKey EY;simp [run_underlying Tryz.underlying207,Result.andThen,List.range',part,Tryz.isAgg3,Tryz.sizeOf3];unfold Instr.checkKey;simp [run_underlying Tryz.underlying3,Result.andThen]
theorem Sk (w:World)(k s:Int)(L:List Dw):∃j,(Instr.findKey TKy (EY k s) (L.map Dw.ent)).run Tryz.prog w= .ok ((Bn L k s).map fun e=>(j,e.v)) w:=by
 obtain⟨j,hj⟩:=FV w k s L 0;cases L with
 | nil=>exact⟨0,by simp [Instr.findKey,run_underlying Tryz.underlying207,Result.andThen,Instr.findNow,Bn]⟩
 | cons e L=>
  refine⟨j,?_⟩;rw [← hj];simp [Instr.findKey,run_underlying Tryz.underlying207,Result.andThen,Instr.findNow,Instr.sameNow,Dw.ent,EY]
theorem Sm {w:World}{g:Nat}{L:List Dw}{clock:Nat}(h:w.heap[g]? =some (.map (L.map Dw.ent).toArray clock))(k s:Int):(Instr.lookup TMp (.map (some g)) (EY k s) true).run Tryz.prog w= .ok (JM L k s) w:=by
 obtain⟨j,hj⟩:=Sk w k s L;have hc:=fun em=>Ox w em 9998 k s;unfold JM;rcases hg:Bn L k s with _ | e
 ·rw [hg]at hj;simp [Instr.lookup,run_underlying Tryz.underlying266,Result.andThen,MapKept.run_getObj_map h,hj,Tryz.zeroValue287,hc]
 rw [hg]at hj;simp [Instr.lookup,run_underlying Tryz.underlying266,Result.andThen,MapKept.run_getObj_map h,hj,hc]
structure OkL (L:List Dw)(clock:Nat):Prop where
 nd:L.Pairwise fun a b=>¬(a.k=b.k∧a.s=b.s)
 bn:L.Pairwise fun a b=>a.born≠b.born
 lt:∀e∈L,e.born<clock
structure IsM (w:World)(base g:Nat)(L:List Dw)(clock:Nat):Prop where
 h:w.heap[g]? =some (.map (L.map Dw.ent).toArray clock)
 ok:OkL L clock
 own:∀e∈L,bC w base e.sv e.b.row.of
def IsB (w:World)(base g:Nat)(B:vH):Prop:=∃L clock,IsM w base g L clock∧∀k s,(Bn L k s).map Dw.b=oM B k s
theorem IsM.kt {w w':World}{base g:Nat}{L:List Dw}{clock:Nat}(h:IsM w base g L clock)(k:KT P w w'):IsM w' base g L clock:=
 ⟨k.same _ _ h.h (.inl (by rintro⟨A,e,f,h1,_⟩;cases h1)),h.ok,fun e he=>k.ints (h.own e he)⟩
theorem IsB.kt {w w':World}{base g:Nat}{B:vH}(h:IsB w base g B)(k:KT P w w'):IsB w' base g B:=by
 obtain⟨L,c,h1,h2⟩:=h;exact⟨L,c,h1.kt k,h2⟩
section
variable (w:World) {ops:Array Oper} {rest:List Oper} {o:Oper} {a:Act} {Q:Exit→Act→World→Prop}
theorem Ht (hg:o.guard=none)(m x:Operand)(hop:o.op=Op.lookup TMp m x true)(g:Nat)(L:List Dw)(clock:Nat)(k s:Int)(v:Value)(hm:a.eval m= .map (some g))(hx:a.eval x=EY k s)(h:w.heap[g]? =some (.map (L.map Dw.ent).toArray clock))(hv:JM L k s=v)
  (hK:wpList Tryz.prog ops Q rest (a.put o.dst v) w):wpList Tryz.prog ops Q (o::rest) a w:=by
 subst hv;refine wpList_plain hg fun K' hK'=> ?_;unfold Oper.wp;simp [execOp,hop,hm,hx,Sm h,Result.andThen];exact hK' _ _ hK
end
variable {P:Nat→Prop}
theorem Sn (n:Nat):(madeCells (Value.int .i64 0).cells (n*1)).toList=List.replicate n (Value.int .i64 0):=by
 apply List.ext_getElem?;intro i;by_cases hi:i<n
 ·have hm:i%1=0:=Nat.mod_one i;simp [madeCells,Value.cells,hi,hm]
 rw [List.getElem?_eq_none (by simp [madeCells];omega),List.getElem?_eq_none (by simp;omega)]
theorem Sr (w:World)(n:Nat)(hn:n≤1000000):∃w',(Instr.makeSlice 22 (.int .i64 (n:Int)) (.int .i64 (n:Int))).run Tryz.prog w= .ok (.slice (some ⟨w.heap.size,0,none⟩) n n) w'∧bC w' w.heap.size (.slice (some ⟨w.heap.size,0,none⟩) n n) (List.replicate n 0)∧Keep au w w':=by
 obtain⟨i0,hi0,hz0,hz1,hz2⟩:=info_parts Fy;obtain⟨w',hr,ho,hg⟩:=run_make_full (P:=Tryz.prog) w w.heap.size 22 TI i0 (.int .i64 0) 1 Tryz.underlying22 hi0 hz0 hz1 .i64 .i64 n (by rw [hz2];omega) (by unfold maxLen;omega) (Nat.le_refl _);refine⟨w',hr,?_,Keep.of_below (dB hg w.heap.size (Nat.le_refl _) sm) (Nat.le_refl _)⟩;unfold bC;rw [List.length_replicate];have e:iv (List.replicate n 0)=List.replicate n (Value.int .i64 0):=by simp [iv]
 rw [e,←Sn];exact ho
theorem bC.set {w:World}{base b c:Nat}{xs:List Int}(h:bC w base (.slice (some ⟨b,0,none⟩) xs.length c) xs){i:Nat}(hi:i<xs.length)(x:Int):bC (w.setCell ⟨b,i,none⟩ (.int .i64 x)) base (.slice (some ⟨b,0,none⟩) xs.length c) (xs.set i x):=by
 obtain⟨hl,h | ⟨g,cap,cur,hv,hb,hg,hl',hm,hs,ht⟩⟩:=h
 ·cases h.1
 cases hv;refine⟨?_,.inr ⟨b,c,cur.setIfInBounds i (.int .i64 x),by rw [List.length_set],hb,heap_setCell_same _ _ hg,by rw [List.length_set];exact hl',hm,by rw [Array.size_setIfInBounds];exact hs,?_⟩⟩
 ·simp [iv]
 rw [Array.toList_setIfInBounds,List.take_set,List.length_set,ht];simp [iv,List.map_set]
def dZ (w:World)(v:Value)(l:List Bool):Prop:=
 ∃oa cap,v= .slice oa l.length cap∧l.length≤cap∧cap≤maxLen∧(l≠ []→∃b o,oa=some ⟨b,o,none⟩∧b<w.heap.size∧∀i x,l[i]? =some x→w.cell? ⟨b,o+i,none⟩=some (.bool x))
theorem dZ.keep {w w':World}{v:Value}{l:List Bool}(h:dZ w v l)(k:Keep au w w'):dZ w' v l:=by
 obtain⟨oa,cap,h1,h2,h3,h4⟩:=h;refine⟨oa,cap,h1,h2,h3,fun hne=> ?_⟩;obtain⟨b,o,e,hb,hc⟩:=h4 hne;exact⟨b,o,e,bJ hb k.size,fun i x hx=>(k.cell hb).trans (hc i x hx)⟩
theorem dZ.len {w:World}{v:Value}{l:List Bool}(h:dZ w v l):∃oa cap,v= .slice oa l.length cap∧l.length≤cap∧cap≤maxLen:=by
 obtain⟨oa,cap,h1,h2,h3,_⟩:=h;exact⟨oa,cap,h1,h2,h3⟩
theorem dZ.at {w:World}{oa:Option Addr}{n cap:Nat}{l:List Bool}(h:dZ w (.slice oa n cap) l){k:Nat}(hk:k<l.length):∃b o,oa=some ⟨b,o,none⟩∧b<w.heap.size∧w.cell? ⟨b,o+k,none⟩=some (.bool l[k]):=by
 obtain⟨MP,cap',hv,_,_,h4⟩:=h;cases hv;obtain⟨b,o,e,hb,hc⟩:=h4 (by rintro rfl;simp at hk);exact⟨b,o,e,hb,hc k _ (eD hk)⟩
def WQ (ints:List Bool)(pt:List Rat)(i:Nat):Bool:=ints.getD i false&& !decide ((pt.getD i 0).den=1)
theorem Oy {ints:List Bool}{pt:List Rat}{k:Nat}(hk:k<ints.length)(h1:WQ ints pt k=true)(h2:∀j,j<k→WQ ints pt j=false):uw ints pt=some k:=by
 unfold uw;rw [List.find?_range_eq_some];exact⟨h1,List.mem_range.2 hk,fun j hj=>by have:=h2 j hj;unfold WQ at this;rw [this];rfl⟩
theorem Sw {ints:List Bool}{pt:List Rat}(h2:∀j,j<ints.length→WQ ints pt j=false):uw ints pt=none:=by
 unfold uw;rw [List.find?_range_eq_none];exact fun j hj=>by have:=h2 j hj;unfold WQ at this;rw [this];rfl
def Cv (ints:List Bool)(pt:List Rat):Int:=match uw ints pt with | none=> -1 | some k=>k
theorem VD (w:World)(bS:Nat)(a0 a2 a3 a4 a5 a6 vi:Value)(ints:List Bool)(v:Value)(pt:List Rat)(hb:aL w bS #[a0,vi,a2,a3,a4,a5,a6])(hi:dZ w vi ints)(h:jf w v pt)(hn:∀q∈pt,NB 1000 q)(hl:pt.length=ints.length):
  Calls Tryz.prog 220 #[.pointer (some ⟨bS,0,none⟩),v] w fun e w'=>e= .returned (.int .i64 (Cv ints pt))∧Keep au w w':=by
 have HI:=zh hi;have HP:=zh h;have HN:=zh hn;have HL:=zh hl;obtain⟨oi,ci,rfl,_,hmi⟩:=hi.len;obtain⟨op,cp,rfl,_,hmp⟩:=h.len;unfold maxLen at hmi hmp;have t1:=hb.cell 1;have lS:=hb.lt;simp only [zl0,zl2,zl1]at t1;rw [hl];clear h hi hn hl hb;go_enter Tryz.func220,Tryz.ntmps220;go_wp2;go_loopw [12] (fun s wr=>∃k:Nat,k≤ints.length∧s= .int .i64 k∧Keep au w wr∧∀j,j<k→WQ ints pt j=false) (fun s _=>(ints.length-intOf s).toNat)
 case atStart=>exact⟨0,om,rfl,kp,fun j h=>absurd h om⟩
 obtain⟨k,hk,rfl,hkr,hno⟩:=hrel;have KR:=zh hkr;have YR:=zh hno;clear hkr hno;by_cases hkl:k<ints.length
 case neg=>
  have hlt:¬(k:Int)<(ints.length:Int):=om;have HF:Hid (Cv ints pt= -1):=zh (by unfold Cv;rw [Sw fun j hj=>YR.out j om]);clear YR;go_wp2;refine bodyPost_ret (by simp [results,Tryz.results220,go_sem];rfl) rfl ?_;exact⟨by rw [HF.out],KR.out⟩
 have hlt:(k:Int)<(ints.length:Int):=om;obtain⟨b,o,rfl,hbl,q0⟩:=(HI.out.keep KR.out).at hkl;have hkp:k<pt.length:=by rw [HL.out];exact hkl
 have HFD:Hid (WQ ints pt k=true→Cv ints pt=k):=zh fun h=>by unfold Cv;rw [Oy hkl h YR.out]
 have lY:Hid (WQ ints pt k=false→∀j,j<k+1→WQ ints pt j=false):=zh fun h j hj=>by
  by_cases hjk:j=k
  ·rw [hjk];exact h
  exact YR.out j om
 have HO:Hid (WQ ints pt k=(ints[k]&& !decide (pt[k].den=1))):=zh (by
  unfold WQ;rw [dV,dV,eD hkl,eD hkp];rfl)
 obtain⟨b',o',hop,hb',xb,xS,xc,xU,p0,p1,p2,p3,hx⟩:=(HP.out.keep KR.out).at hkp;subst hop;have CW:=fun w=>zh (Ky w _ _ hx (HN.out _ (List.getElem_mem hkp)));clear YR hx;generalize ints[k]=is at *;generalize pt[k]=q at*;cases is
 case false=>
  have lY:=zh (lY.out (by rw [HO.out];rfl));clear HFD HO CW;go_wp2;go_roundw
  case rel=>exact⟨k+1,om,gn,KR.out,lY.out⟩
  simp [intOf];omega
 by_cases hd:q.den=1
 ·have lY:=zh (lY.out (by rw [HO.out,decide_eq_true hd];rfl));rw [decide_eq_true hd]at CW;clear HFD HO hd;go_wp2_with fail;refine(CW _).out.mono ?_;rintro e w4 ⟨rfl,hk4⟩;have k4:Keep au wr w4:=Keep.trans kp hk4 fun _ _ _ h=>h;have K4:=zh (KR.out.both k4);clear hk4 k4 CW p0 p1 p2 p3 q0;go_wp2;go_roundw
  case rel=>exact⟨k+1,om,gn,K4.out,lY.out⟩
  simp [intOf];omega
 have HF:=zh (HFD.out (by rw [HO.out,decide_eq_false hd];rfl));rw [decide_eq_false hd]at CW;clear lY HO hd;go_wp2_with fail;refine(CW _).out.mono ?_;rintro e w4 ⟨rfl,hk4⟩;have k4:Keep au wr w4:=Keep.trans kp hk4 fun _ _ _ h=>h;have K4:=zh (KR.out.both k4);clear hk4 k4 CW p0 p1 p2 p3 q0;go_wp2;refine bodyPost_ret (by simp [results,Tryz.results220,go_sem];rfl) rfl ?_;exact⟨by rw [HF.out],K4.out⟩
theorem AL (w:World)(v:Value)(l:List Int)(x:Int)(h:aR w v l):Calls Tryz.prog 182 #[v,.int .i64 x] w fun e w'=>(∃z,e= .returned (.int .i64 z)∧(0≤z↔x∈l))∧Keep au w w':=by
 have HX:=zh h;obtain⟨oa,ca,rfl,hml⟩:=h.len;unfold maxLen at hml;clear h;go_enter Tryz.func182,Tryz.ntmps182;go_wp2;go_loopw [8] (fun s wr=>∃k:Nat,k≤l.length∧s= .int .i64 k∧Keep au w wr∧x∉l.take k) (fun s _=>(l.length-intOf s).toNat)
 case atStart=>exact⟨0,om,rfl,kp,sm⟩
 obtain⟨k,hk,rfl,hkr,hnot⟩:=hrel;have KR:=zh hkr;have HN:=zh hnot;clear hkr hnot;by_cases hkl:k<l.length
 case neg=>
  have hlt:¬(k:Int)<(l.length:Int):=om;have HNM:Hid (x∉l):=zh (by have:=HN.out;rwa [List.take_of_length_le om]at this);clear HN;go_wp2;refine bodyPost_ret (by simp [results,Tryz.results182,go_sem];rfl) rfl ?_;exact⟨⟨-1,rfl,⟨fun h=>absurd h om,fun h=>absurd h HNM.out⟩⟩,KR.out⟩
 have hlt:(k:Int)<(l.length:Int):=om;obtain⟨b,o,cap,hv,hb,p0⟩:=HX.out.at hkl;injection hv with q1 q2 q3;clear q2;subst q1;subst q3;have p0:=(KR.out.cell hb).trans p0;have hbr:=bJ hb KR.out.size;have HM:Hid (l[k]∈l):=zh (List.getElem_mem hkl);have HS:Hid (x≠l[k]→x∉l.take (k+1)):=zh (fun hne=>by
  rw [List.take_succ_eq_append_getElem hkl,List.mem_append];rintro(h | h)
  ·exact HN.out h
  exact hne (by simpa using h))
 generalize l[k]=y at *;clear HN;by_cases hxy:x=y
 case pos=>
  subst hxy;go_wp2;refine bodyPost_ret (by simp [results,Tryz.results182,go_sem];rfl) rfl ?_;exact⟨⟨k,rfl,⟨fun _=>HM.out,fun _=>om⟩⟩,KR.out⟩
 have e1:(x==y)=false:=by rw [beq_eq_false_iff_ne];exact hxy
 have HS:=zh (HS.out hxy);clear hxy HM;go_wp2;go_roundw
 case rel=>exact⟨k+1,om,gn,KR.out,HS.out⟩
 simp [intOf];omega
theorem Dr (w:World)(v:Value)(l:List Int)(x:Int)(h:aR w v l):Calls Tryz.prog 177 #[v,.int .i64 x] w fun e w'=>e= .returned (.bool (decide (x∈l)))∧Keep au w w':=by
 have CI:=fun w' (k:Keep au w w')=>zh (AL w' v l x (h.keep k));obtain⟨oa,ca,rfl,_⟩:=h.len;clear h;go_enter Tryz.func177,Tryz.ntmps177;go_wp2_with fail;refine(CI _ kp).out.mono ?_;rintro e w1 ⟨⟨z,rfl,hz⟩,hk⟩;have K1:Hid (Keep au w w1):=zh (Keep.both kp hk);clear hk CI;have HE:Hid (decide (0≤z)=decide (x∈l)):=zh (decide_eq_decide.2 hz);clear hz;go_wp2;refine bodyPost_ret (by simp [results,Tryz.results177,go_sem];rfl) rfl ?_;exact⟨by rw [← HE.out],K1.out⟩
theorem zac (w:World)(n c:Nat):Sem.run Tryz.prog (binOp BinOp.eql 22 (Value.slice none n c) (Value.slice none 0 0)) w= .ok (.bool true) w:=rfl
theorem WS (w:World)(a:Addr)(n c:Nat):Sem.run Tryz.prog (binOp BinOp.eql 22 (Value.slice (some a) n c) (Value.slice none 0 0)) w= .ok (.bool false) w:=rfl
theorem zad (w:World)(n c:Nat):Sem.run Tryz.prog (binOp BinOp.eql 56 (Value.slice none n c) (Value.slice none 0 0)) w= .ok (.bool true) w:=rfl
theorem WT (w:World)(a:Addr)(n c:Nat):Sem.run Tryz.prog (binOp BinOp.eql 56 (Value.slice (some a) n c) (Value.slice none 0 0)) w= .ok (.bool false) w:=rfl
theorem Kz {w:World}{e:TypeId}{size:Nat}:(w.alloc (.cells #[] e)).ownsRow w.heap.size e size (.slice (some ⟨w.heap.size,0,none⟩) 0 0) 0 []:=⟨sm,.inr ⟨w.heap.size,0,#[],rfl,Nat.le_refl _,aK _ _ _ rfl,Nat.le_refl _,by unfold maxLen;omega,sm,sm⟩⟩
theorem AP (w:World)(v:Value)(l:List Int)(h:aR w v l)(hl:l.length≤900000):Calls Tryz.prog 26 #[v] w fun e w'=>∃u,e= .returned u∧bC w' w.heap.size u l∧Keep au w w':=by
 obtain⟨oa,ca,rfl,hml⟩:=h.len;rcases oa with _ | a
 ·have hl0:l= []:=by
   obtain⟨oa,cap,h1,_,_,h4⟩:=h;refine Classical.byContradiction fun hne=> ?_;obtain⟨b,o,e,_⟩:=h4 hne;cases h1;cases e
  subst hl0;have hnil:=fun w=>zac w 0 ca;clear h;go_enter Tryz.func26,Tryz.ntmps26;go_wp2;refine bodyPost_ret (by simp [results,Tryz.results26,go_sem];rfl) rfl ?_;exact⟨_,rfl,bC.nil _ _,kp⟩
 have hnil:=fun w=>WS w a l.length ca;have k1:Keep au w (w.alloc (.cells #[] TI)):=(Keep.refl _ _).alloc _;obtain⟨v2,w2,hr2,ho2,hg2⟩:=yx (base:=w.heap.size) (show bC (w.alloc (.cells #[] TI)) w.heap.size (.slice (some ⟨w.heap.size,0,none⟩) 0 0) []from Kz) (h.keep k1) (by simp;omega) k1.size;have K2:=zh (k1.grown hg2 fun k hk=>by cases hk;exact Nat.le_refl _);have HO:=zh ho2;obtain⟨o2,c2,hv2⟩:=ho2.len;subst hv2;clear h ho2 hg2 k1;go_enter Tryz.func26,Tryz.ntmps26;go_wp2_with (at_builtin;refine aV _ _ 22 _ _ rfl rfl rfl rfl hr2 ?_);refine bodyPost_ret (by simp [results,Tryz.results26,go_sem];rfl) rfl ?_;exact⟨_,rfl,by simpa using HO.out,K2.out⟩
theorem Hf (w:World)(v:Value)(l:List Rw)(h:iH w v l)(hl:l.length≤1000):Calls Tryz.prog 218 #[v] w fun e w'=>∃u,e= .returned u∧kC w w' w.heap.size u l∧Keep au w w':=by
 obtain⟨oa,ca,rfl,hml,hcm⟩:=h.len;rcases oa with _ | a
 ·have hl0:l= []:=by
   obtain⟨oa,cap,h1,_,_,h4⟩:=h;refine Classical.byContradiction fun hne=> ?_;obtain⟨b,o,e,_⟩:=h4 hne;cases h1;cases e
  subst hl0;have hnil:=fun w=>zad w 0 ca;clear h;go_enter Tryz.func218,Tryz.ntmps218;go_wp2;refine bodyPost_ret (by simp [results,Tryz.results218,go_sem];rfl) rfl ?_;exact⟨_,rfl,kC.nil _ _ _,kp⟩
 have hnil:=fun w=>WT w a l.length ca;have k1:Keep au w (w.alloc (.cells #[] PL)):=(Keep.refl _ _).alloc _;obtain⟨v2,w2,hr2,ho2,hg2⟩:=WU (w0:=w) (base:=w.heap.size) (show kC w (w.alloc (.cells #[] PL)) w.heap.size (.slice (some ⟨w.heap.size,0,none⟩) 0 0) []from⟨[],rfl,sm,Kz⟩) h k1 (by simp;omega) k1.size;have K2:=zh (k1.grown hg2 fun k hk=>by cases hk;exact Nat.le_refl _);have HO:=zh ho2;obtain⟨o2,c2,hv2,_⟩:=ho2.len;subst hv2;clear h ho2 hg2 k1;go_enter Tryz.func218,Tryz.ntmps218;go_wp2_with (at_builtin;refine aV _ _ 56 _ _ rfl rfl rfl rfl hr2 ?_);refine bodyPost_ret (by simp [results,Tryz.results218,go_sem];rfl) rfl ?_;exact⟨_,rfl,by simpa using HO.out,K2.out⟩
variable {P:Nat→Prop}
theorem wW.blk {w0 w:World}{bS:Nat}{vr vi:Value}{s:wJ}{va vt vp:Value}{xs:List xQ}{ys:List ji}(h:wW P w0 w bS vr vi s va vt vp xs ys):aL w bS #[vr,vi,.int .i64 (s.fuel:Int),va,vt,vp,.bool s.much]:=⟨_,h.b⟩
theorem yu {w:World}{k:Nat}{a0 a1 a2 a3 a4 a5 a6:Value}(h:aL w k #[a0,a1,a2,a3,a4,a5,a6]):
  w.cell? ⟨k,0,none⟩=some a0∧w.cell? ⟨k,1,none⟩=some a1∧w.cell? ⟨k,2,none⟩=some a2∧w.cell? ⟨k,3,none⟩=some a3∧w.cell? ⟨k,4,none⟩=some a4∧w.cell? ⟨k,5,none⟩=some a5∧w.cell? ⟨k,6,none⟩=some a6∧k<w.heap.size:=
 ⟨h.cell 0,h.cell 1,h.cell 2,h.cell 3,h.cell 4,h.cell 5,h.cell 6,h.lt⟩
theorem wW.forms {w0 w:World}{bS:Nat}{vr vi:Value}{s:wJ}{va vt vp:Value}{xs:List xQ}{ys:List ji}(h:wW P w0 w bS vr vi s va vt vp xs ys):(∃oa ca,va= .slice oa s.atoms.length ca)∧(∃ot ct,vt= .slice ot s.steps.length ct)∧∃op cp,vp= .slice op s.point.length cp:=by
 obtain⟨oa,ca,e1,_⟩:=h.a.len;obtain⟨ot,ct,e2,_⟩:=h.t.len;obtain⟨op,cp,e3,_⟩:=h.p.len;have l1:xs.length=s.atoms.length:=by rw [← h.ax,List.length_map]
 have l2:ys.length=s.steps.length:=by rw [← h.tx,List.length_map]
 exact⟨⟨oa,ca,by rw [e1,l1]⟩,⟨ot,ct,by rw [e2,l2]⟩,⟨op,cp,e3⟩⟩
end Go.Proofs.YtmepglhdcphffaaGreat
