/- Package cut: how the search lies in memory. Package cut: maps whose keys are pairs of integers. Package cut: a limit; bools as they lie; what is open. Package cut: the slices' functions that it calls. Package cut: bounds with one more. Package cut: the variable of a row. Package cut: slices.Grow of nothing, slices.Concat of two. -/
import Derived.Test.YtaiffmebphhdaaaGreatCuSS
import Derived.Test.YtaiffmebphhdaaaGreatOwGG
import Derived.Maps.RangeWalk
import Derived.Test.YtaiffmebphhdaaaGreatExAA
import Derived.Lib.AppendZerosOnto
import Derived.Lib.Walk
namespace Go.Proofs.YtaiffmebphhdaaaGreat
set_option maxRecDepth 100000
set_option maxHeartbeats 8000000
set_option linter.unusedSimpArgs false
set_option linter.unusedVariables false
open Go.ChangeShapes Go.WideShapes Go.RowKit
variable {P:Nat→Prop}
abbrev sD:TypeId:=57
abbrev Y7:TypeId:=72
def Hot (o:Obj):Prop:=∃A e f,o= .cells A e f∧(e=nN∨e=sD∨e=Y7)
structure KT (P:Nat→Prop)(w w':World):Prop where
 size:w.heap.size≤w'.heap.size
 same:∀(b:Nat) (o:Obj),w.heap[b]? =some o→(¬Hot o∨P b)→w'.heap[b]? =some o
theorem KT.refl (w:World):KT P w w:=⟨Nat.le_refl _,fun _ _ h _=>h⟩
theorem KT.trans {w w1 w2:World}(h:KT P w w1)(k:KT P w1 w2):KT P w w2:=⟨Nat.le_trans h.size k.size,fun b o hb ho=>k.same b o (h.same b o hb ho) ho⟩
theorem KT.of {w w':World}(k:Keep au w w'):KT P w w':=⟨k.size,fun b o hb _=>by rw [k.block b (lt_of_heap hb) fun _ h=>h];exact hb⟩
theorem KT.set {w:World}{b i:Nat}{A:Array Value}{e:TypeId}{f:Nat × Nat}(hb:w.heap[b]? =some (.cells A e f))(he:e=nN∨e=sD∨e=Y7)(hp:¬P b)(v:Value):KT P w (w.setCell ⟨b,i,none⟩ v):=by
 refine⟨sm,fun c o hc ho=> ?_⟩;have hne:c≠b:=fun e1=>by
  subst e1;rw [hb]at hc;cases hc;exact ho.elim (fun ho=>ho ⟨_,_,_,rfl,he⟩) hp
 rw [heap_setCell_other _ _ _ _ hne];exact hc
theorem KT.grown {w w':World}{row:Option Nat}(hg:w.grownBy w' row)(hr:∀b,row=some b→(∃A e f,w.heap[b]? =some (.cells A e f)∧(e=nN∨e=sD∨e=Y7))∧¬P b):KT P w w':=by
 refine⟨hg.size,fun c o hc ho=> ?_⟩;have hne:some c≠row:=fun e1=>by
  obtain⟨⟨A,e,f,h1,h2⟩,h3⟩:=hr c e1.symm;rw [h1]at hc;cases hc;exact ho.elim (fun ho=>ho ⟨_,_,_,rfl,h2⟩) h3
 rw [hg.block c (lt_of_heap hc) hne];exact hc
theorem KT.own {w w':World}{base:Nat}{e:TypeId}{size:Nat}{v:Value}{n:Nat}{xs:List Value}(k:KT P w w')(h:w.ownsRow base e size v n xs)(he:e≠nN∧e≠sD∧e≠Y7):w'.ownsRow base e size v n xs:=by
 obtain⟨hl,h | ⟨g,cap,cur,hv,hb,hg,hl',hm,hs,ht⟩⟩:=h
 ·exact ⟨hl,.inl h⟩
 refine⟨hl,.inr ⟨g,cap,cur,hv,hb,k.same _ _ hg (.inl ?_),hl',hm,hs,ht⟩⟩;rintro⟨A,e',f,h1,h2⟩;cases h1;exact h2.elim he.1 fun h2=>h2.elim he.2.1 he.2.2
theorem KT.ints {w w':World}{base:Nat}{v:Value}{l:List Int}(k:KT P w w')(h:bD w base v l):bD w' base v l:=k.own h ⟨dc,dc,dc⟩
theorem KT.fracs {w w':World}{base:Nat}{v:Value}{l:List Fq}(k:KT P w w')(h:pK w base v l):pK w' base v l:=k.own h ⟨dc,dc,dc⟩
structure DT where
 lv:Value
 nv:Value
 rv:Value
 st:eG
def OO (k:Int):Int:=if k=5 then 3 else 0
def stC (x:DT):List Value:= [.int .i64 x.st.kind,x.lv,x.nv,.int .i64 (OO x.st.kind),.int .i64 0,.int .i64 0,x.rv,.int .i64 x.st.row.kind,.int .i64 x.st.row.to]
theorem Qr (x:DT):(stC x).length=9:=rfl
theorem infoSt:(Tryz.prog.info? sD).map (fun i=>(i.zero,i.size,i.bytes))=some (some (.agg #[.int .i64 0,.slice none 0 0,.slice none 0 0,.int .i64 0,.int .i64 0,.int .i64 0,.slice none 0 0,.int .i64 0,.int .i64 0]),9,120):=kr
structure Mt (w:World)(base:Nat)(x:DT):Prop where
 l:bD w base x.lv x.st.lits
 n:pK w base x.nv x.st.nums
 r:bD w base x.rv x.st.row.of
theorem Mt.kt {w w':World}{base:Nat}{x:DT}(h:Mt w base x)(k:KT P w w'):Mt w' base x:=⟨k.ints h.l,k.fracs h.n,k.ints h.r⟩
theorem Mt.one {w:World}{base:Nat}{x:DT}(h:Mt w base x):∀u∈stC x,u.oneCell'=true:=by
 obtain⟨o1,c1,e1⟩:=h.l.len;obtain⟨o2,c2,e2,_⟩:=h.n.len;obtain⟨o3,c3,e3⟩:=h.r.len;intro u hu;simp only [stC,List.mem_cons,List.not_mem_nil,or_false]at hu;rcases hu with rfl | rfl | rfl | rfl | rfl | rfl | rfl | rfl | rfl
 ·rfl
 ·rw [e1];rfl
 ·rw [e2];rfl
 ·rfl
 ·rfl
 ·rfl
 ·rw [e3];rfl
 ·rfl
 rfl
structure uI (P:Nat→Prop)(w0 w:World)(bS:Nat)(vr vi:Value)(s:jh)(va vt vp:Value)(xs:List wL)(ys:List DT):Prop where
 k:Keep au w0 w
 hb:w0.heap.size≤bS
 b:w.heap[bS]? =some (.cells #[vr,vi,.int .i64 (s.fuel:Int),va,vt,vp,.bool s.much] Y7 (0,0))
 a:dR nN 3 AR w w0.heap.size va xs
 ax:xs.map wL.r=s.atoms
 ai:∀x∈xs,bD w w0.heap.size x.sv x.r.of
 t:dR sD 9 stC w w0.heap.size vt ys
 tx:ys.map DT.st=s.steps
 ti:∀y∈ys,Mt w w0.heap.size y
 p:pK w w0.heap.size vp s.point
 av:∀c,P c→c<w.heap.size∧c≠bS∧va.ownBlock≠some c∧vt.ownBlock≠some c
def BO (P:Nat→Prop)(w0 w:World)(bS:Nat)(vr vi:Value)(s:jh):Prop:=∃va vt vp xs ys,uI P w0 w bS vr vi s va vt vp xs ys
theorem uI.keep {w0 w w':World}{bS:Nat}{vr vi:Value}{s:jh}{va vt vp:Value}{xs:List wL}{ys:List DT}(h:uI P w0 w bS vr vi s va vt vp xs ys)(k:Keep au w w'):uI P w0 w' bS vr vi s va vt vp xs ys:=
 ⟨h.k.both k,h.hb,by rw [k.block bS (lt_of_heap h.b) fun _ h=>h];exact h.b,h.a.keep k,h.ax,fun x hx=>(h.ai x hx).keep k,h.t.keep k,h.tx,fun y hy=>(h.ti y hy).kt (.of (P:=P) k),h.p.keep k,fun c hc=>by obtain⟨h1,h2⟩:=h.av c hc;exact⟨dJ h1 k.size,h2⟩⟩
theorem BO.keep {w0 w w':World}{bS:Nat}{vr vi:Value}{s:jh}(h:BO P w0 w bS vr vi s)(k:Keep au w w'):BO P w0 w' bS vr vi s:=by
 obtain⟨va,vt,vp,xs,ys,h⟩:=h;exact⟨va,vt,vp,xs,ys,h.keep k⟩
theorem gF {w:World}{base:Nat}{e:TypeId}{size:Nat}{v:Value}{n:Nat}{xs:List Value}(h:w.ownsRow base e size v n xs){b:Nat}(hb:v.ownBlock=some b):∃A,w.heap[b]? =some (.cells A e (0,0)):=by
 obtain⟨hl,h | ⟨g,cap,cur,hv,hbb,hg,hl',hm,hs,ht⟩⟩:=h
 ·rw [h.1]at hb;cases hb
 rw [hv]at hb;cases hb;exact⟨_,hg⟩
theorem uI.aNe {w0 w:World}{bS:Nat}{vr vi:Value}{s:jh}{va vt vp:Value}{xs:List wL}{ys:List DT}(h:uI P w0 w bS vr vi s va vt vp xs ys):va.ownBlock≠some bS:=fun e=>by
 obtain⟨A,e1⟩:=gF h.a e;rw [h.b]at e1;have:=(Obj.cells.inj (Option.some.inj e1)).2.1;exact absurd this dc
theorem uI.tNe {w0 w:World}{bS:Nat}{vr vi:Value}{s:jh}{va vt vp:Value}{xs:List wL}{ys:List DT}(h:uI P w0 w bS vr vi s va vt vp xs ys):vt.ownBlock≠some bS:=fun e=>by
 obtain⟨A,e1⟩:=gF h.t e;rw [h.b]at e1;have:=(Obj.cells.inj (Option.some.inj e1)).2.1;exact absurd this dc
theorem uI.atNe {w0 w:World}{bS:Nat}{vr vi:Value}{s:jh}{va vt vp:Value}{xs:List wL}{ys:List DT}(h:uI P w0 w bS vr vi s va vt vp xs ys):∀k,va.ownBlock=some k→vt.ownBlock≠some k:=fun k e e'=>by
 obtain⟨A,e1⟩:=gF h.a e;obtain⟨B,e2⟩:=gF h.t e';rw [e1]at e2;have:=(Obj.cells.inj (Option.some.inj e2)).2.1;exact absurd this dc
theorem uI.set {w0 w:World}{bS:Nat}{vr vi:Value}{s s':jh}{va vt vp vp':Value}{xs:List wL}{ys:List DT}(h:uI P w0 w bS vr vi s va vt vp xs ys)(i:Nat)(v:Value)
  (he: #[vr,vi,.int .i64 (s.fuel:Int),va,vt,vp,.bool s.much].setIfInBounds i v= #[vr,vi,.int .i64 (s'.fuel:Int),va,vt,vp',.bool s'.much]) (e1:s'.atoms=s.atoms) (e2:s'.steps=s.steps) (hp:pK w w0.heap.size vp' s'.point):uI P w0 (w.setCell ⟨bS,i,none⟩ v) bS vr vi s' va vt vp' xs ys:=by
 have kt:KT P w (w.setCell ⟨bS,i,none⟩ v):=KT.set h.b (.inr (.inr rfl)) (fun hp=>(h.av bS hp).2.1 rfl) v;refine⟨iC h.k _ h.hb,h.hb,?_,?_,h.ax.trans e1.symm,fun x hx=>kt.ints (h.ai x hx),?_,h.tx.trans e2.symm,fun y hy=>(h.ti y hy).kt kt,kt.fracs hp,fun c hc=>by have:=h.av c hc;simpa using this⟩
 ·rw [← he];exact heap_setCell_same _ _ h.b
 ·exact ownsRow_setCell_other h.a h.aNe _
 exact ownsRow_setCell_other h.t h.tNe _
theorem uI.grownA {w0 w w':World}{bS:Nat}{vr vi:Value}{s:jh}{va vt vp:Value}{xs:List wL}{ys:List DT}(h:uI P w0 w bS vr vi s va vt vp xs ys)(hg:w.grownBy w' va.ownBlock):KT P w w'∧Keep au w0 w'∧w'.heap[bS]? =w.heap[bS]? ∧dR sD 9 stC w' w0.heap.size vt ys:=by
 have kt:KT P w w':=KT.grown hg fun b hb=>by
  obtain⟨A,e⟩:=gF h.a hb;exact⟨⟨A,nN,(0,0),e,.inl rfl⟩,fun hp=>(h.av b hp).2.2.1 hb⟩
 exact⟨kt,h.k.grown hg fun k hk=>h.a.block k hk,hg.block bS (lt_of_heap h.b) fun e=>h.aNe e.symm,h.t.grown0 hg fun k hk e=>h.atNe k e.symm hk⟩
theorem uI.grownT {w0 w w':World}{bS:Nat}{vr vi:Value}{s:jh}{va vt vp:Value}{xs:List wL}{ys:List DT}(h:uI P w0 w bS vr vi s va vt vp xs ys)(hg:w.grownBy w' vt.ownBlock):KT P w w'∧Keep au w0 w'∧w'.heap[bS]? =w.heap[bS]? ∧dR nN 3 AR w' w0.heap.size va xs:=by
 have kt:KT P w w':=KT.grown hg fun b hb=>by
  obtain⟨A,e⟩:=gF h.t hb;exact⟨⟨A,sD,(0,0),e,.inr (.inl rfl)⟩,fun hp=>(h.av b hp).2.2.2 hb⟩
 exact⟨kt,h.k.grown hg fun k hk=>h.t.block k hk,hg.block bS (lt_of_heap h.b) fun e=>h.tNe e.symm,h.a.grown0 hg fun k hk e=>h.atNe k hk e.symm⟩
theorem uI.pushA {w0 w:World}{bS:Nat}{vr vi:Value}{s:jh}{va vt vp:Value}{xs:List wL}{ys:List DT}(h:uI P w0 w bS vr vi s va vt vp xs ys){u:Value}{r:Rw}(hu:bD w w0.heap.size u r.of){b:Nat}(hb:aL w b #[u,.int .i64 r.kind,.int .i64 r.to])(hl:s.atoms.length≤1000):
  ∃v' w',(Builtin.append_ #[22,22] 22 #[va,.slice (some ⟨b,0,none⟩) 1 1]).run Tryz.prog w= .ok v' w'∧(∃o c,v'= .slice o (s.atoms.length+1) c)∧uI P w0 (w'.setCell ⟨bS,3,none⟩ v') bS vr vi {s with atoms:=s.atoms++ [r]} v' vt vp (xs++ [⟨u,r⟩]) ys∧KT P w (w'.setCell ⟨bS,3,none⟩ v')∧w'.heap[bS]? =w.heap[bS]? ∧w.grownBy w' va.ownBlock:=by
 obtain⟨i0,hi0,hz0,hz1,hz2⟩:=info_parts WO;have hxl:xs.length=s.atoms.length:=by rw [← h.ax,List.length_map]
 have h1:u.oneCell'=true:=by obtain⟨o,c,e⟩:=hu.len;rw [e];rfl
 obtain⟨v',w',hr,ho,hg,hv⟩:=dR.app wM Tryz.underlying22 hi0 hz0 hz1 hz2 rfl dc h.a (x:=⟨u,r⟩) hb (by
  intro y hy;simp [AR]at hy;rcases hy with rfl | rfl | rfl
  ·exact h1
  ·rfl
  rfl) (by unfold maxLen;omega) om (Nat.le_trans h.k.size (Nat.le_refl _))
 obtain⟨kt,k1,eb,ht⟩:=h.grownA hg;have hb':w'.heap[bS]? =some (.cells #[vr,vi,.int .i64 (s.fuel:Int),va,vt,vp,.bool s.much] Y7 (0,0)):=eb.trans h.b;have kt2:KT P w' (w'.setCell ⟨bS,3,none⟩ v'):=KT.set hb' (.inr (.inr rfl)) (fun hp=>(h.av bS hp).2.1 rfl) v';have hne:v'.ownBlock≠some bS:=fun e=>by
  obtain⟨A,e1⟩:=gF ho e;rw [hb']at e1;exact absurd (Obj.cells.inj (Option.some.inj e1)).2.1 dc
 refine⟨v',w',hr,?_,⟨iC k1 _ h.hb,h.hb,heap_setCell_same _ _ hb',ownsRow_setCell_other ho hne _,by simp [h.ax],fun x hx=> ?_,ownsRow_setCell_other ht h.tNe _,h.tx,fun y hy=>((h.ti y hy).kt kt).kt kt2,kt2.fracs (kt.fracs h.p),fun c hc=>by
  obtain⟨h1,h2,h3,h4⟩:=h.av c hc;refine⟨by have:=kt.size;simp;omega,h2,fun e=> ?_,h4⟩;rcases hv with hv | hv
  ·exact h3 (hv ▸ e)
  rw [hv]at e;cases e;omega⟩,kt.trans kt2,eb,hg⟩
 ·obtain ⟨o,c,e,_⟩:=ho.len;exact⟨o,c,by rw [e,List.length_append,hxl];rfl⟩
 rcases List.mem_append.1 hx with hx | hx
 ·exact kt2.ints (kt.ints (h.ai x hx))
 rw [List.mem_singleton.1 hx];exact kt2.ints (kt.ints hu)
theorem uI.pushT {w0 w:World}{bS:Nat}{vr vi:Value}{s:jh}{va vt vp:Value}{xs:List wL}{ys:List DT}(h:uI P w0 w bS vr vi s va vt vp xs ys){y:DT}(hy:Mt w w0.heap.size y){b:Nat}(hb:aL w b (stC y).toArray)(hl:s.steps.length≤100000):
  ∃v' w',(Builtin.append_ #[26,26] 26 #[vt,.slice (some ⟨b,0,none⟩) 1 1]).run Tryz.prog w= .ok v' w'∧(∃o c,v'= .slice o (s.steps.length+1) c)∧uI P w0 (w'.setCell ⟨bS,4,none⟩ v') bS vr vi {s with steps:=s.steps++ [y.st]} va v' vp xs (ys++ [y])∧KT P w (w'.setCell ⟨bS,4,none⟩ v')∧w'.heap[bS]? =w.heap[bS]? ∧w.grownBy w' vt.ownBlock:=by
 obtain⟨i0,hi0,hz0,hz1,hz2⟩:=info_parts infoSt;have hyl:ys.length=s.steps.length:=by rw [← h.tx,List.length_map]
 obtain⟨v',w',hr,ho,hg,hv⟩:=dR.app Qr Tryz.underlying26 hi0 hz0 hz1 hz2 rfl dc h.t (x:=y) hb hy.one (by unfold maxLen;omega) om (Nat.le_trans h.k.size (Nat.le_refl _));obtain⟨kt,k1,eb,ha⟩:=h.grownT hg;have hb':w'.heap[bS]? =some (.cells #[vr,vi,.int .i64 (s.fuel:Int),va,vt,vp,.bool s.much] Y7 (0,0)):=eb.trans h.b;have kt2:KT P w' (w'.setCell ⟨bS,4,none⟩ v'):=KT.set hb' (.inr (.inr rfl)) (fun hp=>(h.av bS hp).2.1 rfl) v';have hne:v'.ownBlock≠some bS:=fun e=>by
  obtain⟨A,e1⟩:=gF ho e;rw [hb']at e1;exact absurd (Obj.cells.inj (Option.some.inj e1)).2.1 dc
 refine⟨v',w',hr,?_,⟨iC k1 _ h.hb,h.hb,heap_setCell_same _ _ hb',ownsRow_setCell_other ha h.aNe _,h.ax,fun x hx=>kt2.ints (kt.ints (h.ai x hx)),ownsRow_setCell_other ho hne _,by simp [h.tx],fun z hz=> ?_,kt2.fracs (kt.fracs h.p),fun c hc=>by
  obtain⟨h1,h2,h3,h4⟩:=h.av c hc;refine⟨by have:=kt.size;simp;omega,h2,h3,fun e=> ?_⟩;rcases hv with hv | hv
  ·exact h4 (hv ▸ e)
  rw [hv]at e;cases e;omega⟩,kt.trans kt2,eb,hg⟩
 ·obtain ⟨o,c,e,_⟩:=ho.len;exact⟨o,c,by rw [e,List.length_append,hyl];rfl⟩
 rcases List.mem_append.1 hz with hz | hz
 ·exact ((h.ti z hz).kt kt).kt kt2
 rw [List.mem_singleton.1 hz];exact(hy.kt kt).kt kt2
theorem KT.weak {P':Nat→Prop}{w w':World}(h:KT P' w w')(hp:∀c,P c→P' c):KT P w w':=⟨h.size,fun b o hb ho=>h.same b o hb (ho.elim .inl fun h=> .inr (hp _ h))⟩
theorem uI.weak {P':Nat→Prop}{w0 w:World}{bS:Nat}{vr vi:Value}{s:jh}{va vt vp:Value}{xs:List wL}{ys:List DT}(h:uI P' w0 w bS vr vi s va vt vp xs ys)(hp:∀c,P c→P' c):uI P w0 w bS vr vi s va vt vp xs ys:= {h with av:=fun c hc=>h.av c (hp c hc)}
theorem uI.guard {w0 w w':World}{bS:Nat}{vr vi:Value}{s:jh}{va vt vp:Value}{xs:List wL}{ys:List DT}(h:uI P w0 w bS vr vi s va vt vp xs ys)(k:Keep au w w'){b:Nat}(h1:w.heap.size≤b)(h2:b<w'.heap.size):uI (fun c=>P c∨c=b) w0 w' bS vr vi s va vt vp xs ys:=by
 have h':=h.keep k;refine⟨h'.k,h'.hb,h'.b,h'.a,h'.ax,h'.ai,h'.t,h'.tx,h'.ti,h'.p,fun c hc=> ?_⟩;rcases hc with hc | rfl
 ·exact h'.av c hc
 exact⟨h2,fun e=>by have:=lt_of_heap h.b;omega,fun e=>by have:=h.a.lt c e;omega,fun e=>by have:=h.t.lt c e;omega⟩
variable {P:Nat→Prop}
abbrev TMp:TypeId:=75
abbrev TKy:TypeId:=117
theorem eqI (w:World)(n:Nat)(a b:Int):(Op.equalIn (n+1) 3 (.int .i64 a) (.int .i64 b)).run Tryz.prog w= .ok (a==b) w:=by
 unfold Op.equalIn;simp [run_underlying Tryz.underlying3,Result.andThen]
theorem eqK (w:World)(a b c d:Int):(Op.equal TKy (.agg #[.int .i64 a,.int .i64 b]) (.agg #[.int .i64 c,.int .i64 d])).run Tryz.prog w= .ok (decide (a=c∧b=d)) w:=by
 unfold Op.equal Op.maxDepth Op.equalIn;simp [run_underlying Tryz.underlying117,Result.andThen,List.range',eqI,part,Tryz.isAgg3,Tryz.sizeOf3];by_cases h1:a=c<;>by_cases h2:b=d<;>simp [h1,h2,eqI,part,Tryz.isAgg3,Tryz.sizeOf3,Result.andThen]
structure iY where
 k:Int
 s:Int
 sv:Value
 b:CB
 born:Nat
def C9 (k s:Int):Value:= .agg #[.int .i64 k,.int .i64 s]
def bdV (sv:Value)(b:CB):Value:= .agg #[sv,.int .i64 b.row.kind,.int .i64 b.row.to,.int .i64 b.id]
def iY.v (e:iY):Value:=bdV e.sv e.b
def iY.ent (e:iY):MapEntry:=⟨C9 e.k e.s,e.v,e.born⟩
def jr (L:List iY)(k s:Int):Option iY:=L.find? fun e=>decide (e.k=k∧e.s=s)
def Cm (L:List iY)(k s:Int):Value:=match jr L k s with
 | some e=> .tuple #[e.v,.bool true]
 | none=> .tuple #[.agg #[.slice none 0 0,.int .i64 0,.int .i64 0,.int .i64 0],.bool false]
theorem Hw (w:World)(k s:Int):∀(L:List iY) (i:Nat),∃j,(Instr.findAsking TKy (C9 k s) (L.map iY.ent) i).run Tryz.prog w= .ok ((jr L k s).map fun e=>(j,e.v)) w
 | [],i=>⟨0,by simp [Instr.findAsking,jr]⟩
 | e::L,i=>by
  obtain⟨j,hj⟩:=Hw w k s L (i+1);by_cases h:e.k=k∧e.s=s
  ·refine ⟨i,?_⟩;obtain⟨rfl,rfl⟩:=h;simp [Instr.findAsking,iY.ent,C9,eqK,jr,Result.andThen]
  refine⟨j,?_⟩;have h':¬(k=e.k∧s=e.s):=fun h1=>h ⟨h1.1.symm,h1.2.symm⟩;have e1:jr (e::L) k s=jr L k s:=by unfold jr;rw [List.find?_cons_of_neg (by simpa using h)]
  rw [e1,←hj];simp [Instr.findAsking,iY.ent,C9,eqK,Result.andThen,h']
theorem E9 (w:World)(em:Bool)(n:Nat)(k s:Int):(Instr.checkKey em (n+2) TKy (C9 k s)).run Tryz.prog w= .ok () w:=by
 unfold Instr.checkKey C9;simp [run_underlying Tryz.underlying117,Result.andThen,List.range',part,Tryz.isAgg3,Tryz.sizeOf3];unfold Instr.checkKey;simp [run_underlying Tryz.underlying3,Result.andThen]
theorem Ia (w:World)(k s:Int)(L:List iY):∃j,(Instr.findKey TKy (C9 k s) (L.map iY.ent)).run Tryz.prog w= .ok ((jr L k s).map fun e=>(j,e.v)) w:=by
 obtain⟨j,hj⟩:=Hw w k s L 0;cases L with
 | nil=>exact⟨0,by simp [Instr.findKey,run_underlying Tryz.underlying117,Result.andThen,Instr.findNow,jr]⟩
 | cons e L=>
  refine⟨j,?_⟩;rw [← hj];simp [Instr.findKey,run_underlying Tryz.underlying117,Result.andThen,Instr.findNow,Instr.sameNow,iY.ent,C9]
theorem Te {w:World}{g:Nat}{L:List iY}{clock:Nat}(h:w.heap[g]? =some (.map (L.map iY.ent).toArray clock))(k s:Int):(Instr.lookup TMp (.map (some g)) (C9 k s) true).run Tryz.prog w= .ok (Cm L k s) w:=by
 obtain⟨j,hj⟩:=Ia w k s L;have hc:=fun em=>E9 w em 9998 k s;unfold Cm;rcases hg:jr L k s with _ | e
 ·rw [hg]at hj;simp [Instr.lookup,run_underlying Tryz.underlying75,Result.andThen,MapKept.run_getObj_map h,hj,Tryz.zeroValue115,hc]
 rw [hg]at hj;simp [Instr.lookup,run_underlying Tryz.underlying75,Result.andThen,MapKept.run_getObj_map h,hj,hc]
theorem Mv {w:World}{g:Nat}{L:List iY}{clock:Nat}(h:w.heap[g]? =some (.map (L.map iY.ent).toArray clock))(k s:Int)(sv:Value)(b:CB)(hn:jr L k s=none):(Instr.mapUpdate TMp (.map (some g)) (C9 k s) (bdV sv b)).run Tryz.prog w= .ok () (Go.ChangeMaps.setBlock w g (.map ((L++ [(⟨k,s,sv,b,clock⟩:iY)]).map iY.ent).toArray (clock+1))):=by
 obtain⟨j,hj⟩:=Ia w k s L;have hc:=fun em=>E9 w em 9998 k s;rw [hn]at hj;simp [Instr.mapUpdate,run_underlying Tryz.underlying75,Result.andThen,MapKept.run_getObj_map h,hj,hc,iY.ent,iY.v,MapKept.run_setObj_map _ h,Go.ChangeMaps.setBlock]
theorem OP {w:World}{g:Nat}{L:List iY}{clock:Nat}(h:w.heap[g]? =some (.map (L.map iY.ent).toArray clock)):(Instr.range TMp (.map (some g))).run Tryz.prog w= .ok (.pointer (some ⟨w.heap.size,0,none⟩)) (w.alloc (.mapIter (some g) clock #[] clock)):=by
 simp [Instr.range,run_underlying Tryz.underlying75,Result.andThen,MapKept.run_getObj_map h]
structure Y8 (L:List iY)(clock:Nat):Prop where
 nd:L.Pairwise fun a b=>¬(a.k=b.k∧a.s=b.s)
 bn:L.Pairwise fun a b=>a.born≠b.born
 lt:∀e∈L,e.born<clock
structure IsM (w:World)(base g:Nat)(L:List iY)(clock:Nat):Prop where
 h:w.heap[g]? =some (.map (L.map iY.ent).toArray clock)
 ok:Y8 L clock
 own:∀e∈L,bD w base e.sv e.b.row.of
def VZ (w:World)(base g:Nat)(B:jZ):Prop:=∃L clock,IsM w base g L clock∧∀k s,(jr L k s).map iY.b=oH B k s
theorem IsM.kt {w w':World}{base g:Nat}{L:List iY}{clock:Nat}(h:IsM w base g L clock)(k:KT P w w'):IsM w' base g L clock:=
 ⟨k.same _ _ h.h (.inl (by rintro⟨A,e,f,h1,_⟩;cases h1)),h.ok,fun e he=>k.ints (h.own e he)⟩
theorem VZ.kt {w w':World}{base g:Nat}{B:jZ}(h:VZ w base g B)(k:KT P w w'):VZ w' base g B:=by
 obtain⟨L,c,h1,h2⟩:=h;exact⟨L,c,h1.kt k,h2⟩
theorem zK {L:List iY}{k s:Int}{e:iY}(h:jr L k s=some e):e∈L∧e.k=k∧e.s=s:=by
 have h1:=List.find?_some h;have h2:=List.mem_of_find?_eq_some h;have h3:=of_decide_eq_true h1;exact⟨h2,h3⟩
theorem Ib {L:List iY}{k s:Int}(h:∀e∈L,¬(e.k=k∧e.s=s)):jr L k s=none:=List.find?_eq_none.2 fun e he=>by simpa using h e he
theorem WQ {L M:List iY}{k s:Int}:jr (L++M) k s=(jr L k s).or (jr M k s):=by unfold jr;rw [List.find?_append]
theorem Y9 {L:List iY}{clock:Nat}(ok:Y8 L clock){e:iY}(he:e∈L):jr L e.k e.s=some e:=by
 rcases hg:jr L e.k e.s with _ | x
 ·have:=List.find?_eq_none.1 hg e he;simp at this
 obtain⟨h1,h2,h3⟩:=zK hg;by_cases h4:x=e
 ·rw [h4]
 exfalso;obtain⟨i,hi,rfl⟩:=List.getElem_of_mem h1;obtain⟨j,hj,rfl⟩:=List.getElem_of_mem he;rcases Nat.lt_trichotomy i j with h | h | h
 ·exact List.pairwise_iff_getElem.1 ok.nd i j hi hj h ⟨h2,h3⟩
 ·subst h;exact h4 rfl
 exact List.pairwise_iff_getElem.1 ok.nd j i hj hi h ⟨h2.symm,h3.symm⟩
section
variable (w:World) {ops:Array Oper} {rest:List Oper} {o:Oper} {a:Act} {Q:Exit→Act→World→Prop}
theorem zJ (hg:o.guard=none)(m x:Operand)(hop:o.op=Op.lookup TMp m x true)(g:Nat)(L:List iY)(clock:Nat)(k s:Int)(v:Value)(hm:a.eval m= .map (some g))(hx:a.eval x=C9 k s)(h:w.heap[g]? =some (.map (L.map iY.ent).toArray clock))(hv:Cm L k s=v)
  (hK:wpList Tryz.prog ops Q rest (a.put o.dst v) w):wpList Tryz.prog ops Q (o::rest) a w:=by
 subst hv;refine wpList_plain hg fun K' hK'=> ?_;unfold Oper.wp;simp [execOp,hop,hm,hx,Te h,Result.andThen];exact hK' _ _ hK
theorem Cq (hg:o.guard=none)(m x v:Operand)(hop:o.op=Op.mapUpdate TMp m x v∨o.op=Op.insert TMp m x v)(g:Nat)(L:List iY)(clock:Nat)(k s:Int)(sv:Value)(b:CB)(hm:a.eval m= .map (some g))(hx:a.eval x=C9 k s)(hv:a.eval v=bdV sv b)(h:w.heap[g]? =some (.map (L.map iY.ent).toArray clock))(hn:jr L k s=none)
  (hK:wpList Tryz.prog ops Q rest (a.put o.dst undef) (Go.ChangeMaps.setBlock w g (.map ((L++ [(⟨k,s,sv,b,clock⟩:iY)]).map iY.ent).toArray (clock+1)))):wpList Tryz.prog ops Q (o::rest) a w:=by
 refine wpList_plain hg fun K' hK'=> ?_;unfold Oper.wp;rcases hop with hop | hop
 ·simp [execOp,hop,hm,hx,hv,Mv h k s sv b hn,Result.andThen];exact hK' _ _ (by simpa using hK)
 simp [execOp,hop,hm,hx,hv,Mv h k s sv b hn,Result.andThen];exact hK' _ _ (by simpa using hK)
theorem Gd (hg:o.guard=none)(m:Operand)(hop:o.op=Op.range TMp m)(g:Nat)(L:List iY)(clock:Nat)(hm:a.eval m= .map (some g))(h:w.heap[g]? =some (.map (L.map iY.ent).toArray clock))
  (hK:wpList Tryz.prog ops Q rest (a.put o.dst (.pointer (some ⟨w.heap.size,0,none⟩))) (w.alloc (.mapIter (some g) clock #[] clock))):wpList Tryz.prog ops Q (o::rest) a w:=by
 refine wpList_plain hg fun K' hK'=> ?_;unfold Oper.wp;simp [execOp,hop,hm,OP h,Result.andThen];exact hK' _ _ hK
theorem ug (hg:o.guard=none)(it:Operand)(hop:o.op=Op.next it false)(r:Nat)(hit:a.eval it= .pointer (some ⟨r,0,none⟩)){v:Value}{w':World}(hrun:(Instr.next (.pointer (some ⟨r,0,none⟩)) false o.type).run Tryz.prog w= .ok v w')(hK:wpList Tryz.prog ops Q rest (a.put o.dst v) w'):wpList Tryz.prog ops Q (o::rest) a w:=by
 refine wpList_plain hg fun K' hK'=> ?_;unfold Oper.wp;simp [execOp,hop,hit,hrun,Result.andThen];exact hK' _ _ hK
end
variable {P:Nat→Prop}
theorem Tf (n:Nat):(madeCells (Value.int .i64 0).cells (n*1)).toList=List.replicate n (Value.int .i64 0):=by
 apply List.ext_getElem?;intro i;by_cases hi:i<n
 ·have hm:i%1=0:=Nat.mod_one i;simp [madeCells,Value.cells,hi,hm]
 rw [List.getElem?_eq_none (by simp [madeCells];omega),List.getElem?_eq_none (by simp;omega)]
theorem Aw (w:World)(n:Nat)(hn:n≤1000000):∃w',(Instr.makeSlice 38 (.int .i64 (n:Int)) (.int .i64 (n:Int))).run Tryz.prog w= .ok (.slice (some ⟨w.heap.size,0,none⟩) n n) w'∧bD w' w.heap.size (.slice (some ⟨w.heap.size,0,none⟩) n n) (List.replicate n 0)∧Keep au w w':=by
 obtain⟨i0,hi0,hz0,hz1,hz2⟩:=info_parts J5;obtain⟨w',hr,ho,hg⟩:=run_make_full (P:=Tryz.prog) w w.heap.size 38 TI i0 (.int .i64 0) 1 Tryz.underlying38 hi0 hz0 hz1 .i64 .i64 n (by rw [hz2];omega) (by unfold maxLen;omega) (Nat.le_refl _);refine⟨w',hr,?_,Keep.of_below (dH hg w.heap.size (Nat.le_refl _) sm) (Nat.le_refl _)⟩;unfold bD;rw [List.length_replicate];have e:iv (List.replicate n 0)=List.replicate n (Value.int .i64 0):=by simp [iv]
 rw [e,←Tf];exact ho
theorem Za {w:World}{base:Nat}{e:TypeId}{size:Nat}{v:Value}{n:Nat}{xs:List Value}(h:w.ownsRow base e size v n xs){b:Nat}(hb:v.ownBlock=some b):∃A,w.heap[b]? =some (.cells A e (0,0)):=by
 obtain⟨hl,h | ⟨g,cap,cur,hv,hbb,hg,hl',hm,hs,ht⟩⟩:=h
 ·rw [h.1]at hb;cases hb
 rw [hv]at hb;cases hb;exact⟨_,hg⟩
theorem bD.set {w:World}{base b c:Nat}{xs:List Int}(h:bD w base (.slice (some ⟨b,0,none⟩) xs.length c) xs){i:Nat}(hi:i<xs.length)(x:Int):bD (w.setCell ⟨b,i,none⟩ (.int .i64 x)) base (.slice (some ⟨b,0,none⟩) xs.length c) (xs.set i x):=by
 obtain⟨hl,h | ⟨g,cap,cur,hv,hb,hg,hl',hm,hs,ht⟩⟩:=h
 ·cases h.1
 cases hv;refine⟨?_,.inr ⟨b,c,cur.setIfInBounds i (.int .i64 x),by rw [List.length_set],hb,heap_setCell_same _ _ hg,by rw [List.length_set];exact hl',hm,by rw [Array.size_setIfInBounds];exact hs,?_⟩⟩
 ·simp [iv]
 rw [Array.toList_setIfInBounds,List.take_set,List.length_set,ht];simp [iv,List.map_set]
theorem G5 (w:World)(k:Nat)(sg tt:Int)(hk:k≤12):Calls Tryz.prog 92 #[.int .i64 (k:Int),.int .i64 sg,.int .i64 tt] w fun e w'=>∃b,e= .returned (.agg #[.slice (some ⟨b,0,none⟩) (k+1) (k+1),.int .i64 1,.int .i64 tt])∧bD w' w.heap.size (.slice (some ⟨b,0,none⟩) (k+1) (k+1)) (aK k sg tt).of∧Keep au w w':=by
 obtain⟨w1,hr1,ho1,hk1⟩:=Aw (w.alloc (.cells #[.slice none 0 0,.int .i64 0,.int .i64 0] 40)) (k+1) om;have hsz:(w.alloc (.cells #[.slice none 0 0,.int .i64 0,.int .i64 0] 40)).heap.size=w.heap.size+1:=sm;rw [hsz]at hr1 ho1;rw [show((k+1:Nat):Int)=(k:Int)+1 from om]at hr1;have HO:=zh ho1;have KA:Hid (Keep au w w1):=zh (((Keep.refl _ _).alloc _).both hk1);have HB:Hid (aL w1 w.heap.size #[.slice none 0 0,.int .i64 0,.int .i64 0]):=zh ((aP _ _ rfl).keep hk1);obtain⟨A,hA⟩:=Za ho1 (b:=w.heap.size+1) rfl;have l1:=lt_of_heap hA;have f1:w1.frozen? ⟨w.heap.size+1,k,none⟩=false:=aL.free (A:=A) ⟨_,hA⟩ k;have c1:w1.cell? ⟨w.heap.size+1,k,none⟩=some (.int .i64 0):=by
  obtain⟨b,o,cap,hv,_,hc⟩:=(aW.at (k:=k) (bD.ints (xs:=List.replicate (k+1) 0) (by simpa using ho1) (by intro x hx;rw [List.eq_of_mem_replicate hx];unfold fT;omega)) sm);injection hv with q1 _ _;cases q1;simpa using hc
 obtain⟨p0,p1,p2,q0,q1,q2,pl⟩:=HB.out.three;clear ho1 hk1 hA hsz;go_enter Tryz.func92,Tryz.ntmps92;go_wp2;refine bodyPost_ret (by simp [results,Tryz.results92,go_sem,p0,p1,p2];rfl) rfl ?_;have h1:=HO.out;have e2:(List.replicate (k+1) (0:Int)).set k sg=(aK k sg tt).of:=by
  unfold aK;rw [List.replicate_succ',List.set_append_right _ _ sm];simp
 have h2:=bD.set (xs:=List.replicate (k+1) 0) (c:=k+1) (by simpa using h1) (i:=k) sm sg;rw [e2,List.length_replicate]at h2;have hne:(Value.slice (some ⟨w.heap.size+1,0,none⟩) (k+1) (k+1)).ownBlock≠some w.heap.size:=fun h=>by
  have:w.heap.size+1=w.heap.size:=Option.some.inj h;omega
 refine⟨w.heap.size+1,rfl,World.ownsRow_mono (World.ownsRow_other (World.ownsRow_other (World.ownsRow_other h2 hne) hne) hne) (Nat.le_succ _),?_⟩;exact iC (iC (iC (iC KA.out _ (Nat.le_succ _)) _ (Nat.le_refl _)) _ (Nat.le_refl _)) _ (Nat.le_refl _)
def gJ (w:World)(v:Value)(l:List Bool):Prop:=
 ∃oa cap,v= .slice oa l.length cap∧l.length≤cap∧cap≤maxLen∧(l≠ []→∃b o,oa=some ⟨b,o,none⟩∧b<w.heap.size∧∀i x,l[i]? =some x→w.cell? ⟨b,o+i,none⟩=some (.bool x))
theorem gJ.keep {w w':World}{v:Value}{l:List Bool}(h:gJ w v l)(k:Keep au w w'):gJ w' v l:=by
 obtain⟨oa,cap,h1,h2,h3,h4⟩:=h;refine⟨oa,cap,h1,h2,h3,fun hne=> ?_⟩;obtain⟨b,o,e,hb,hc⟩:=h4 hne;exact⟨b,o,e,dJ hb k.size,fun i x hx=>(k.cell hb).trans (hc i x hx)⟩
theorem gJ.len {w:World}{v:Value}{l:List Bool}(h:gJ w v l):∃oa cap,v= .slice oa l.length cap∧l.length≤cap∧cap≤maxLen:=by
 obtain⟨oa,cap,h1,h2,h3,_⟩:=h;exact⟨oa,cap,h1,h2,h3⟩
theorem gJ.at {w:World}{oa:Option Addr}{n cap:Nat}{l:List Bool}(h:gJ w (.slice oa n cap) l){k:Nat}(hk:k<l.length):∃b o,oa=some ⟨b,o,none⟩∧b<w.heap.size∧w.cell? ⟨b,o+k,none⟩=some (.bool l[k]):=by
 obtain⟨XL,cap',hv,_,_,h4⟩:=h;cases hv;obtain⟨b,o,e,hb,hc⟩:=h4 (by rintro rfl;simp at hk);exact⟨b,o,e,hb,hc k _ (fG hk)⟩
def WS (ints:List Bool)(pt:List Rat)(i:Nat):Bool:=ints.getD i false&& !decide ((pt.getD i 0).den=1)
theorem OQ {ints:List Bool}{pt:List Rat}{k:Nat}(hk:k<ints.length)(h1:WS ints pt k=true)(h2:∀j,j<k→WS ints pt j=false):qI ints pt=some k:=by
 unfold qI;rw [List.find?_range_eq_some];exact⟨h1,List.mem_range.2 hk,fun j hj=>by have:=h2 j hj;unfold WS at this;rw [this];rfl⟩
theorem Tg {ints:List Bool}{pt:List Rat}(h2:∀j,j<ints.length→WS ints pt j=false):qI ints pt=none:=by
 unfold qI;rw [List.find?_range_eq_none];exact fun j hj=>by have:=h2 j hj;unfold WS at this;rw [this];rfl
def zL (ints:List Bool)(pt:List Rat):Int:=match qI ints pt with | none=> -1 | some k=>k
theorem WC (w:World)(bS:Nat)(a0 a2 a3 a4 a5 a6 vi:Value)(ints:List Bool)(v:Value)(pt:List Rat)(hb:aL w bS #[a0,vi,a2,a3,a4,a5,a6])(hi:gJ w vi ints)(h:jQ w v pt)(hn:∀q∈pt,NB 1000 q)(hl:pt.length=ints.length):
  Calls Tryz.prog 61 #[.pointer (some ⟨bS,0,none⟩),v] w fun e w'=>e= .returned (.int .i64 (zL ints pt))∧Keep au w w':=by
 have HI:=zh hi;have HP:=zh h;have HN:=zh hn;have HL:=zh hl;obtain⟨oi,ci,rfl,_,hmi⟩:=hi.len;obtain⟨op,cp,rfl,_,hmp⟩:=h.len;unfold maxLen at hmi hmp;have t1:=hb.cell 1;have lS:=hb.lt;simp only [zl0,zl2,zl1]at t1;rw [hl];clear h hi hn hl hb;go_enter Tryz.func61,Tryz.ntmps61;go_wp2;go_loopw [12] (fun s wr=>∃k:Nat,k≤ints.length∧s= .int .i64 k∧Keep au w wr∧∀j,j<k→WS ints pt j=false) (fun s _=>(ints.length-intOf s).toNat)
 case atStart=>exact⟨0,om,rfl,kp,fun j h=>absurd h om⟩
 obtain⟨k,hk,rfl,hkr,hno⟩:=hrel;have KR:=zh hkr;have Ni:=zh hno;clear hkr hno;by_cases hkl:k<ints.length
 case neg=>
  have hlt:¬(k:Int)<(ints.length:Int):=om;have HF:Hid (zL ints pt= -1):=zh (by unfold zL;rw [Tg fun j hj=>Ni.out j om]);clear Ni;go_wp2;refine bodyPost_ret (by simp [results,Tryz.results61,go_sem];rfl) rfl ?_;exact⟨by rw [HF.out],KR.out⟩
 have hlt:(k:Int)<(ints.length:Int):=om;obtain⟨b,o,rfl,hbl,q0⟩:=(HI.out.keep KR.out).at hkl;have hkp:k<pt.length:=by rw [HL.out];exact hkl
 have HFD:Hid (WS ints pt k=true→zL ints pt=k):=zh fun h=>by unfold zL;rw [OQ hkl h Ni.out]
 have mM:Hid (WS ints pt k=false→∀j,j<k+1→WS ints pt j=false):=zh fun h j hj=>by
  by_cases hjk:j=k
  ·rw [hjk];exact h
  exact Ni.out j om
 have HO:Hid (WS ints pt k=(ints[k]&& !decide (pt[k].den=1))):=zh (by
  unfold WS;rw [dX,dX,fG hkl,fG hkp];rfl)
 obtain⟨b',o',hop,hb',xb,xS,xc,xU,p0,p1,p2,p3,hx⟩:=(HP.out.keep KR.out).at hkp;subst hop;have CW:=fun w=>zh (Mw w _ _ hx (HN.out _ (List.getElem_mem hkp)));clear Ni hx;generalize ints[k]=is at *;generalize pt[k]=q at*;cases is
 case false=>
  have mM:=zh (mM.out (by rw [HO.out];rfl));clear HFD HO CW;go_wp2;go_roundw
  case rel=>exact⟨k+1,om,gn,KR.out,mM.out⟩
  simp [intOf];omega
 by_cases hd:q.den=1
 ·have mM:=zh (mM.out (by rw [HO.out,decide_eq_true hd];rfl));rw [decide_eq_true hd]at CW;clear HFD HO hd;go_wp2_with fail;refine(CW _).out.mono ?_;rintro e w4 ⟨rfl,hk4⟩;have k4:Keep au wr w4:=Keep.trans kp hk4 fun _ _ _ h=>h;have K4:=zh (KR.out.both k4);clear hk4 k4 CW p0 p1 p2 p3 q0;go_wp2;go_roundw
  case rel=>exact⟨k+1,om,gn,K4.out,mM.out⟩
  simp [intOf];omega
 have HF:=zh (HFD.out (by rw [HO.out,decide_eq_false hd];rfl));rw [decide_eq_false hd]at CW;clear mM HO hd;go_wp2_with fail;refine(CW _).out.mono ?_;rintro e w4 ⟨rfl,hk4⟩;have k4:Keep au wr w4:=Keep.trans kp hk4 fun _ _ _ h=>h;have K4:=zh (KR.out.both k4);clear hk4 k4 CW p0 p1 p2 p3 q0;go_wp2;refine bodyPost_ret (by simp [results,Tryz.results61,go_sem];rfl) rfl ?_;exact⟨by rw [HF.out],K4.out⟩
theorem Mx (w:World)(v:Value)(l:List Int)(x:Int)(h:aW w v l):Calls Tryz.prog 126 #[v,.int .i64 x] w fun e w'=>(∃z,e= .returned (.int .i64 z)∧(0≤z↔x∈l))∧Keep au w w':=by
 have HX:=zh h;obtain⟨oa,ca,rfl,hml⟩:=h.len;unfold maxLen at hml;clear h;go_enter Tryz.func126,Tryz.ntmps126;go_wp2;go_loopw [8] (fun s wr=>∃k:Nat,k≤l.length∧s= .int .i64 k∧Keep au w wr∧x∉l.take k) (fun s _=>(l.length-intOf s).toNat)
 case atStart=>exact⟨0,om,rfl,kp,sm⟩
 obtain⟨k,hk,rfl,hkr,hnot⟩:=hrel;have KR:=zh hkr;have HN:=zh hnot;clear hkr hnot;by_cases hkl:k<l.length
 case neg=>
  have hlt:¬(k:Int)<(l.length:Int):=om;have X5:Hid (x∉l):=zh (by have:=HN.out;rwa [List.take_of_length_le om]at this);clear HN;go_wp2;refine bodyPost_ret (by simp [results,Tryz.results126,go_sem];rfl) rfl ?_;exact⟨⟨-1,rfl,⟨fun h=>absurd h om,fun h=>absurd h X5.out⟩⟩,KR.out⟩
 have hlt:(k:Int)<(l.length:Int):=om;obtain⟨b,o,cap,hv,hb,p0⟩:=HX.out.at hkl;injection hv with q1 q2 q3;clear q2;subst q1;subst q3;have p0:=(KR.out.cell hb).trans p0;have hbr:=dJ hb KR.out.size;have HM:Hid (l[k]∈l):=zh (List.getElem_mem hkl);have HS:Hid (x≠l[k]→x∉l.take (k+1)):=zh (fun hne=>by
  rw [List.take_succ_eq_append_getElem hkl,List.mem_append];rintro(h | h)
  ·exact HN.out h
  exact hne (by simpa using h))
 generalize l[k]=y at *;clear HN;by_cases hxy:x=y
 case pos=>
  subst hxy;go_wp2;refine bodyPost_ret (by simp [results,Tryz.results126,go_sem];rfl) rfl ?_;exact⟨⟨k,rfl,⟨fun _=>HM.out,fun _=>om⟩⟩,KR.out⟩
 have e1:(x==y)=false:=by rw [beq_eq_false_iff_ne];exact hxy
 have HS:=zh (HS.out hxy);clear hxy HM;go_wp2;go_roundw
 case rel=>exact⟨k+1,om,gn,KR.out,HS.out⟩
 simp [intOf];omega
theorem pX (w:World)(v:Value)(l:List Int)(x:Int)(h:aW w v l):Calls Tryz.prog 95 #[v,.int .i64 x] w fun e w'=>e= .returned (.bool (decide (x∈l)))∧Keep au w w':=by
 have CI:=fun w' (k:Keep au w w')=>zh (Mx w' v l x (h.keep k));obtain⟨oa,ca,rfl,_⟩:=h.len;clear h;go_enter Tryz.func95,Tryz.ntmps95;go_wp2_with fail;refine(CI _ kp).out.mono ?_;rintro e w1 ⟨⟨z,rfl,hz⟩,hk⟩;have K1:Hid (Keep au w w1):=zh (Keep.both kp hk);clear hk CI;have HE:Hid (decide (0≤z)=decide (x∈l)):=zh (decide_eq_decide.2 hz);clear hz;go_wp2;refine bodyPost_ret (by simp [results,Tryz.results95,go_sem];rfl) rfl ?_;exact⟨by rw [← HE.out],K1.out⟩
theorem MB (w:World)(v u:Value)(l m:List Int)(h:aW w v l)(h':aW w u m):Calls Tryz.prog 125 #[v,u] w fun e w'=>e= .returned (.bool (decide (l=m)))∧Keep au w w':=by
 have HX:=zh h;have HY:=zh h';obtain⟨oa,ca,rfl,hml⟩:=h.len;obtain⟨ob,cb,rfl,_⟩:=h'.len;unfold maxLen at hml;obtain⟨n,hn⟩:∃n,l.length=n:=⟨_,rfl⟩;obtain⟨n',hn'⟩:∃n,m.length=n:=⟨_,rfl⟩;have HN:=zh hn;have XM:=zh hn';rw [hn]at HX hml ⊢;rw [hn']at HY ⊢;clear h h' hn hn';by_cases hln:n=n'
 case neg=>
  have e1:((n:Int) != (n':Int))=true:=by rw [bne_iff_ne];omega
  have HF:Hid (decide (l=m)=false):=zh (decide_eq_false fun e=>hln (by rw [← HN.out,←XM.out,e]));rw [HF.out];clear hln HX HY;go_enter Tryz.func125,Tryz.ntmps125;go_wp2;go_ret;exact⟨rfl,kp⟩
 subst hln;go_enter Tryz.func125,Tryz.ntmps125;go_wp2;go_loopw [13] (fun s wr=>∃k:Nat,k≤n∧s= .int .i64 k∧Keep au w wr∧l.take k=m.take k) (fun s _=>(n-intOf s).toNat)
 case atStart=>exact⟨0,om,rfl,kp,rfl⟩
 obtain⟨k,hk,rfl,hkr,htk⟩:=hrel;have KR:=zh hkr;have HT:=zh htk;clear hkr htk;by_cases hkl:k<n
 case neg=>
  have hlt:¬(k:Int)<(n:Int):=om;have HF:Hid (decide (l=m)=true):=zh (decide_eq_true (by
   have:=HT.out;rwa [List.take_of_length_le (by rw [HN.out];omega),List.take_of_length_le (by rw [XM.out];omega)]at this))
  go_wp2;refine bodyPost_ret (by simp [results,Tryz.results125,go_sem];rfl) rfl ?_;exact⟨by rw [HF.out],KR.out⟩
 have hlt:(k:Int)<(n:Int):=om;have hkx:k<l.length:=by rw [HN.out];exact hkl
 have hky:k<m.length:=by rw [XM.out];exact hkl
 obtain⟨b,o,cap,hv,hb,p0⟩:=HX.out.at hkx;injection hv with q1 q2 q3;clear q2;subst q1;subst q3;obtain⟨b',o',cap',hv,hb',p1⟩:=HY.out.at hky;injection hv with q1 q2 q3;clear q2;subst q1;subst q3;have p0:=(KR.out.cell hb).trans p0;have p1:=(KR.out.cell hb').trans p1;have hbr:=dJ hb KR.out.size;have hbr':=dJ hb' KR.out.size;have gV:Hid (l[k]≠m[k]→decide (l=m)=false):=zh fun hne=>decide_eq_false (by rintro rfl;exact hne rfl);have lJ:Hid (l[k]=m[k]→l.take (k+1)=m.take (k+1)):=zh fun he=>by
  rw [List.take_succ_eq_append_getElem hkx,List.take_succ_eq_append_getElem hky,HT.out,he]
 generalize l[k]=x at *;generalize m[k]=y at *;clear hkx hky;by_cases hxy:x=y
 case pos=>
  subst hxy;have lJ:=zh (lJ.out sm);have e1:(x != x)=false:=sm;clear gV;go_wp2;go_quiet (fail);go_wp2;go_roundw
  case rel=>exact⟨k+1,om,gn,KR.out.drewN _,by have:=lJ.out;simpa using this⟩
  simp [intOf];omega
 have e1:(x != y)=true:=by rw [bne_iff_ne];exact hxy
 have HF:=zh (gV.out hxy);clear gV lJ hxy;go_wp2;go_quiet (fail);go_wp2;refine bodyPost_ret (by simp [results,Tryz.results125,go_sem];rfl) rfl ?_;exact⟨by rw [HF.out],KR.out.drewN _⟩
theorem Zb (w:World)(n c:Nat):Sem.run Tryz.prog (binOp BinOp.eql 38 (Value.slice none n c) (Value.slice none 0 0)) w= .ok (.bool true) w:=rfl
theorem WT (w:World)(a:Addr)(n c:Nat):Sem.run Tryz.prog (binOp BinOp.eql 38 (Value.slice (some a) n c) (Value.slice none 0 0)) w= .ok (.bool false) w:=rfl
theorem Zc (w:World)(n c:Nat):Sem.run Tryz.prog (binOp BinOp.eql 22 (Value.slice none n c) (Value.slice none 0 0)) w= .ok (.bool true) w:=rfl
theorem WU (w:World)(a:Addr)(n c:Nat):Sem.run Tryz.prog (binOp BinOp.eql 22 (Value.slice (some a) n c) (Value.slice none 0 0)) w= .ok (.bool false) w:=rfl
theorem MC {w:World}{e:TypeId}{size:Nat}:(w.alloc (.cells #[] e)).ownsRow w.heap.size e size (.slice (some ⟨w.heap.size,0,none⟩) 0 0) 0 []:=⟨sm,.inr ⟨w.heap.size,0,#[],rfl,Nat.le_refl _,aX _ _ _ rfl,Nat.le_refl _,by unfold maxLen;omega,sm,sm⟩⟩
theorem BU (w:World)(v:Value)(l:List Int)(h:aW w v l)(hl:l.length≤900000):Calls Tryz.prog 57 #[v] w fun e w'=>∃u,e= .returned u∧bD w' w.heap.size u l∧Keep au w w':=by
 obtain⟨oa,ca,rfl,hml⟩:=h.len;rcases oa with _ | a
 ·have hl0:l= []:=by
   obtain⟨oa,cap,h1,_,_,h4⟩:=h;refine Classical.byContradiction fun hne=> ?_;obtain⟨b,o,e,_⟩:=h4 hne;cases h1;cases e
  subst hl0;have hnil:=fun w=>Zb w 0 ca;clear h;go_enter Tryz.func57,Tryz.ntmps57;go_wp2;refine bodyPost_ret (by simp [results,Tryz.results57,go_sem];rfl) rfl ?_;exact⟨_,rfl,bD.nil _ _,kp⟩
 have hnil:=fun w=>WT w a l.length ca;have k1:Keep au w (w.alloc (.cells #[] TI)):=(Keep.refl _ _).alloc _;obtain⟨v2,w2,hr2,ho2,hg2⟩:=jd (base:=w.heap.size) (show bD (w.alloc (.cells #[] TI)) w.heap.size (.slice (some ⟨w.heap.size,0,none⟩) 0 0) []from MC) (h.keep k1) (by simp;omega) k1.size;have K2:=zh (k1.grown hg2 fun k hk=>by cases hk;exact Nat.le_refl _);have HO:=zh ho2;obtain⟨o2,c2,hv2⟩:=ho2.len;subst hv2;clear h ho2 hg2 k1;go_enter Tryz.func57,Tryz.ntmps57;go_wp2_with (at_builtin;refine aY _ _ 38 _ _ rfl rfl rfl rfl hr2 ?_);refine bodyPost_ret (by simp [results,Tryz.results57,go_sem];rfl) rfl ?_;exact⟨_,rfl,by simpa using HO.out,K2.out⟩
theorem Jl (w:World)(v:Value)(l:List Rw)(h:dD w v l)(hl:l.length≤1000):Calls Tryz.prog 59 #[v] w fun e w'=>∃u,e= .returned u∧jE w w' w.heap.size u l∧Keep au w w':=by
 obtain⟨oa,ca,rfl,hml,hcm⟩:=h.len;rcases oa with _ | a
 ·have hl0:l= []:=by
   obtain⟨oa,cap,h1,_,_,h4⟩:=h;refine Classical.byContradiction fun hne=> ?_;obtain⟨b,o,e,_⟩:=h4 hne;cases h1;cases e
  subst hl0;have hnil:=fun w=>Zc w 0 ca;clear h;go_enter Tryz.func59,Tryz.ntmps59;go_wp2;refine bodyPost_ret (by simp [results,Tryz.results59,go_sem];rfl) rfl ?_;exact⟨_,rfl,jE.nil _ _ _,kp⟩
 have hnil:=fun w=>WU w a l.length ca;have k1:Keep au w (w.alloc (.cells #[] nN)):=(Keep.refl _ _).alloc _;obtain⟨v2,w2,hr2,ho2,hg2⟩:=ME (w0:=w) (base:=w.heap.size) (show jE w (w.alloc (.cells #[] nN)) w.heap.size (.slice (some ⟨w.heap.size,0,none⟩) 0 0) []from⟨[],rfl,sm,MC⟩) h k1 (by simp;omega) k1.size;have K2:=zh (k1.grown hg2 fun k hk=>by cases hk;exact Nat.le_refl _);have HO:=zh ho2;obtain⟨o2,c2,hv2,_⟩:=ho2.len;subst hv2;clear h ho2 hg2 k1;go_enter Tryz.func59,Tryz.ntmps59;go_wp2_with (at_builtin;refine aY _ _ 22 _ _ rfl rfl rfl rfl hr2 ?_);refine bodyPost_ret (by simp [results,Tryz.results59,go_sem];rfl) rfl ?_;exact⟨_,rfl,by simpa using HO.out,K2.out⟩
open Go.ChangeMaps (setBlock)
theorem wN {w:World}{b:Nat}{o o':Obj}(h:w.heap[b]? =some o):(setBlock w b o').heap[b]? =some o':=(Go.MapKept.heap_set h).1
theorem kE {w:World}{b c:Nat}{o o':Obj}(h:w.heap[b]? =some o)(hc:c≠b):(setBlock w b o').heap[c]? =w.heap[c]? :=(Go.MapKept.heap_set h).2 c hc
theorem OT {w:World}{b:Nat}{o o':Obj}(h:w.heap[b]? =some o):w.grownBy (setBlock w b o') (some b):=⟨rfl,rfl,rfl,by simp [setBlock],fun i _ hi=>kE h fun e=>hi (by rw [e])⟩
theorem wO {w w1:World}{b:Nat}{o o':Obj}(k:Keep au w w1)(h:w1.heap[b]? =some o)(hb:w.heap.size≤b):Keep au w (setBlock w1 b o'):=k.grown (OT h) fun c hc=>by cases hc;exact hb
theorem zcl {w:World}{k:Nat}{x y z u:Value}(h:aL w k #[x,y,z,u]):w.cell? ⟨k,0,none⟩=some x∧w.cell? ⟨k,1,none⟩=some y∧w.cell? ⟨k,2,none⟩=some z∧w.cell? ⟨k,3,none⟩=some u∧w.frozen? ⟨k,0,none⟩=false∧w.frozen? ⟨k,1,none⟩=false∧w.frozen? ⟨k,2,none⟩=false∧w.frozen? ⟨k,3,none⟩=false∧k<w.heap.size:=
 ⟨h.cell 0,h.cell 1,h.cell 2,h.cell 3,h.free 0,h.free 1,h.free 2,h.free 3,h.lt⟩
theorem bD.setB {w:World}{base r:Nat}{v:Value}{l:List Int}{o o':Obj}(h:bD w base v l)(hr:w.heap[r]? =some o)(ho:∀A e f,o≠ .cells A e f):bD (setBlock w r o') base v l:=by
 obtain⟨hl,h | ⟨g,cap,cur,hv,hb,hg,hl',hm,hs,ht⟩⟩:=h
 ·exact ⟨hl,.inl h⟩
 refine⟨hl,.inr ⟨g,cap,cur,hv,hb,(kE hr fun e=> ?_).trans hg,hl',hm,hs,ht⟩⟩;subst e;rw [hr]at hg;cases hg;exact ho _ _ _ rfl
theorem WW {es:Array MapEntry}{seen:Array Nat}(h:(leftOf es seen).size=0){e:MapEntry}(he:e∈es):seen.contains e.born=true:=by
 have h1:leftOf es seen= #[]:=Array.eq_empty_of_size_eq_zero h;unfold leftOf at h1;rw [Array.filter_eq_empty_iff]at h1;have:=h1 e he;simpa using this
theorem zad (w:World)(a b c d:Int):(Op.equalIn 10000 TKy (.agg #[.int .i64 a,.int .i64 b]) (.agg #[.int .i64 c,.int .i64 d])).run Tryz.prog w= .ok (decide (a=c∧b=d)) w:=eqK w a b c d
theorem alloc2 {w:World}{a b:Obj}{g:Nat}{o:Obj}(h:w.heap[g]? =some o):((w.alloc a).alloc b).heap[g]? =some o:=((((Keep.refl au w).alloc a).alloc b).block g (lt_of_heap h) fun _ h=>h).trans h
def Fa (L M:List iY)(k s:Int)(b:CB)(seen:Array Nat):Prop:=∀k' s',(jr M k' s').map iY.b=if k=k'∧s=s' then some b else((jr L k' s').filter fun e=>seen.contains e.born).map iY.b
theorem qm (a:Array Nat)(x y:Nat):(a.push x).contains y=(a.contains y || y==x):=by
 rw [Bool.eq_iff_iff];simp [Array.contains_iff_mem,Array.mem_push]
theorem MF {L:List iY}{clock:Nat}(ok:Y8 L clock){e x:iY}(he:e∈L){k s:Int}(hx:jr L k s=some x)(hb:x.born=e.born):k=e.k∧s=e.s:=by
 obtain⟨h1,h2,h3⟩:=zK hx;have:x=e:=by
  obtain⟨i,hi,rfl⟩:=List.getElem_of_mem h1;obtain⟨j,hj,rfl⟩:=List.getElem_of_mem he;rcases Nat.lt_trichotomy i j with h | h | h
  ·exact absurd hb (List.pairwise_iff_getElem.1 ok.bn i j hi hj h)
  ·subst h;rfl
  exact absurd hb.symm (List.pairwise_iff_getElem.1 ok.bn j i hj hi h)
 rw [← this];exact⟨h2.symm,h3.symm⟩
theorem Fa.skip {L M:List iY}{k s:Int}{b:CB}{seen:Array Nat}{clock:Nat}{e:iY}(h:Fa L M k s b seen)(ok:Y8 L clock)(he:e∈L)(hk:e.k=k∧e.s=s):Fa L M k s b (seen.push e.born):=fun k' s'=>by
 rw [h k' s'];by_cases h1:k=k'∧s=s'
 ·rw [if_pos h1,if_pos h1]
 rw [if_neg h1,if_neg h1];congr 1;rcases hg:jr L k' s' with _ | x
 ·rfl
 have hne:(x.born==e.born)=false:=by
  rw [beq_eq_false_iff_ne];intro hb;obtain⟨h2,h3⟩:=MF ok he hg hb;exact h1 ⟨hk.1.symm.trans h2.symm,hk.2.symm.trans h3.symm⟩
 simp only [Option.filter,qm,hne,Bool.or_false]
theorem Fa.take {L M:List iY}{k s:Int}{b:CB}{seen:Array Nat}{clock c2:Nat}{e:iY}(h:Fa L M k s b seen)(ok:Y8 L clock)(he:e∈L)(hs:seen.contains e.born=false)(hk:¬(e.k=k∧e.s=s)):jr M e.k e.s=none∧Fa L (M++ [(⟨e.k,e.s,e.sv,e.b,c2⟩:iY)]) k s b (seen.push e.born):=by
 have hgl:=Y9 ok he;have hne:¬(k=e.k∧s=e.s):=fun h1=>hk ⟨h1.1.symm,h1.2.symm⟩;have hn:jr M e.k e.s=none:=by
  have:=h e.k e.s;rw [if_neg hne,hgl]at this;simp only [Option.filter,hs]at this;simpa using this
 refine⟨hn,fun k' s'=> ?_⟩;rw [WQ];by_cases h1:e.k=k'∧e.s=s'
 ·obtain ⟨rfl,rfl⟩:=h1;rw [hn,if_neg hne,hgl];simp [jr,Option.filter,qm]
 have e1:jr [(⟨e.k,e.s,e.sv,e.b,c2⟩:iY)] k' s'=none:=Ib fun x hx=>by rw [List.mem_singleton.1 hx];exact h1
 rw [e1,Option.or_none,h k' s'];by_cases h2:k=k'∧s=s'
 ·rw [if_pos h2,if_pos h2]
 rw [if_neg h2,if_neg h2];congr 1;rcases hg:jr L k' s' with _ | x
 ·rfl
 have hx:(x.born==e.born)=false:=by
  rw [beq_eq_false_iff_ne];intro hb;obtain⟨h3,h4⟩:=MF ok he hg hb;exact h1 ⟨h3.symm,h4.symm⟩
 simp only [Option.filter,qm,hx,Bool.or_false]
theorem Y8.push {M:List iY}{c:Nat}(h:Y8 M c){k s:Int}(hn:jr M k s=none)(sv:Value)(b:CB):Y8 (M++ [(⟨k,s,sv,b,c⟩:iY)]) (c+1):=by
 refine⟨List.pairwise_append.2 ⟨h.nd,sm,fun x hx y hy=> ?_⟩,List.pairwise_append.2 ⟨h.bn,sm,fun x hx y hy=> ?_⟩,fun e he=> ?_⟩
 ·rw [List.mem_singleton.1 hy];have:=List.find?_eq_none.1 hn x hx;simpa using this
 ·rw [List.mem_singleton.1 hy];have:=h.lt x hx;show x.born≠c;omega
 rcases List.mem_append.1 he with he | he
 ·have:=h.lt e he;omega
 rw [List.mem_singleton.1 he];show c<c+1;omega
theorem LU (w:World)(base g:Nat)(k s:Int)(sv:Value)(b:CB)(B:jZ)(h:VZ w base g B)(hb:bD w base sv b.row.of):Calls Tryz.prog 94 #[.map (some g),.int .i64 k,.int .i64 s,bdV sv b] w fun e w'=>∃g',e= .returned (.map (some g'))∧VZ w' base g' (fK B k s b)∧Keep au w w':=by
 obtain⟨L,clock,hM,hB⟩:=h;have HM:=zh hM;have HBB:=zh hB;have HSV:=zh hb;have hlt:=lt_of_heap hM.h;clear hM hB hb;obtain⟨Fb,Fe,hsv⟩:=HSV.out.len;subst hsv;have hok:=HM.out.ok;have hborn:∀x∈((L.map iY.ent).toArray).toList,x.born<clock:=fun x hx=>by
  obtain⟨e,he,rfl⟩:=List.mem_map.1 (by simpa using hx);exact hok.lt e he
 have WX:(((L.map iY.ent).toArray).toList.map (·.born)).Nodup:=by
  rw [List.nodup_iff_pairwise_ne,List.pairwise_map];show(L.map iY.ent).Pairwise _;rw [List.pairwise_map];exact hok.bn
 have HBN:=zh hborn;have Rn:=zh WX;have Dn:=zh hok;clear hborn WX hok;unfold bdV;go_enter Tryz.func94,Tryz.ntmps94;go_upto_region 1 with fail;have k1:Keep au w (w.alloc (.cells #[.slice Fb b.row.of.length Fe,.int .i64 b.row.kind,.int .i64 b.row.to,.int .i64 b.id] 115)):=(Keep.refl _ _).alloc _;have mO:Hid (aL (w.alloc (.cells #[.slice Fb b.row.of.length Fe,.int .i64 b.row.kind,.int .i64 b.row.to,.int .i64 b.id] 115)) w.heap.size #[.slice Fb b.row.of.length Fe,.int .i64 b.row.kind,.int .i64 b.row.to,.int .i64 b.id]):=zh (aP _ _ rfl);have KA:=zh k1;clear k1;generalize w.alloc (.cells #[.slice Fb b.row.of.length Fe,.int .i64 b.row.kind,.int .i64 b.row.to,.int .i64 b.id] 115)=w1 at *;obtain⟨b7,hb7⟩:∃b7,w.heap.size=b7:=⟨_,rfl⟩;rw [hb7]at mO ⊢;have h7:=zh hb7;clear hb7;have hmk:(Instr.makeMap 75 none).run Tryz.prog w1= .ok (.map (some w1.heap.size)) (w1.alloc (.map #[] 0)):=rfl;obtain⟨p0,p1,p2,p3,q0,q1,q2,q3,pl⟩:=zcl mO.out;go_upto_region 2 with(refine Cq _ rfl _ _ _ (.inr rfl) w1.heap.size [] 0 k s _ b rfl rfl rfl (aX _ _ _ rfl) rfl ?_);clear hmk p0 p1 p2 p3 q0 q1 q2 q3 pl;have hm1:(w1.alloc (.map #[] 0)).heap[w1.heap.size]? =some (.map #[] 0):=aX _ _ _ rfl;have k2:Keep au w (setBlock (w1.alloc (.map #[] 0)) w1.heap.size (.map #[(⟨k,s,.slice Fb b.row.of.length Fe,b,0⟩:iY).ent] 1)):=wO (KA.out.alloc _) hm1 KA.out.size;have hg2:(setBlock (w1.alloc (.map #[] 0)) w1.heap.size (.map #[(⟨k,s,.slice Fb b.row.of.length Fe,b,0⟩:iY).ent] 1)).heap[w1.heap.size]? =some (.map (([(⟨k,s,.slice Fb b.row.of.length Fe,b,0⟩:iY)].map iY.ent).toArray) 1):=wN hm1;have hlg:g<w1.heap.size:=dJ hlt KA.out.size;have K2:=zh k2;have HG2:=zh hg2;have hL2:=zh ((k2.block g hlt fun _ h=>h).trans HM.out.h);have hs2:w1.heap.size<(setBlock (w1.alloc (.map #[] 0)) w1.heap.size (.map #[(⟨k,s,.slice Fb b.row.of.length Fe,b,0⟩:iY).ent] 1)).heap.size:=lt_of_heap hg2;clear hm1 k2 hg2;generalize setBlock (w1.alloc (.map #[] 0)) w1.heap.size (.map #[(⟨k,s,.slice Fb b.row.of.length Fe,b,0⟩:iY).ent] 1)=w2 at *;obtain⟨g',hg'⟩:∃g',w1.heap.size=g':=⟨_,rfl⟩;rw [hg']at HG2 hs2 hlg ⊢;have ZO:Hid (w.heap.size≤g'):=zh (by rw [← hg'];exact KA.out.size);clear hg';go_upto_region 2 with fail;go_wp2_with (refine Gd _ rfl _ rfl g L clock rfl hL2.out ?_);have K3:Hid (Keep au w (w2.alloc (.mapIter (some g) clock #[] clock))):=zh (K2.out.alloc _);have HR:Hid ((w2.alloc (.mapIter (some g) clock #[] clock)).heap[w2.heap.size]? =some (.mapIter (some g) clock #[] clock)):=zh (aX _ _ _ rfl);have hG3:Hid ((w2.alloc (.mapIter (some g) clock #[] clock)).heap[g']? =some (.map (([(⟨k,s,.slice Fb b.row.of.length Fe,b,0⟩:iY)].map iY.ent).toArray) 1)):=zh ((((Keep.refl au w2).alloc _).block g' hs2 fun _ h=>h).trans HG2.out);generalize w2.alloc (.mapIter (some g) clock #[] clock)=w3 at *;obtain⟨r,hr⟩:∃r,w2.heap.size=r:=⟨_,rfl⟩;rw [hr]at HR hs2 ⊢;have HRE:Hid (w.heap.size≤r):=zh (by rw [← hr];exact K2.out.size);clear hr;have hn1:g≠g':=om;have hn2:g≠r:=om;have hn3:g'≠r:=om;go_loopw [10] (fun _ wr=>∃(seen:Array Nat) (M:List iY) (c:Nat),wr.heap[r]? =some (.mapIter (some g) clock seen clock)∧wr.heap[g']? =some (.map ((M.map iY.ent).toArray) c)∧Y8 M c∧(∀e∈M,bD wr base e.sv e.b.row.of)∧Fa L M k s b seen∧Keep au w wr) (fun _ wr=>wr.rangeLeft g r)
 case atStart=>
  refine⟨#[],[(⟨k,s,.slice Fb b.row.of.length Fe,b,0⟩:iY)],1,HR.out,hG3.out,⟨sm,sm,sm⟩,fun e he=> ?_,fun k' s'=> ?_,K3.out⟩
  ·rw [List.mem_singleton.1 he];exact HSV.out.keep K3.out
  by_cases h1:k=k'∧s=s'
  ·rw [if_pos h1];simp [jr,h1]
  rw [if_neg h1];have e1:jr [(⟨k,s,.slice Fb b.row.of.length Fe,b,0⟩:iY)] k' s'=none:=Ib fun x hx=>by rw [List.mem_singleton.1 hx];exact h1
  rw [e1];rcases jr L k' s' with _ | x<;>simp [Option.filter]
 obtain⟨seen,M,c,hr,hgm,Zd,hown,hwp,hkr⟩:=hrel;have KR:=zh hkr;have HWP:=zh hwp;have HOWN:=zh hown;have zbb:=zh Zd;have hL:wr.heap[g]? =some (.map ((L.map iY.ent).toArray) clock):=(hkr.block g hlt fun _ h=>h).trans HM.out.h;rcases run_next_at (P:=Tryz.prog) wr 0 r g clock clock seen ((L.map iY.ent).toArray) clock hr hL HBN.out (Nat.le_refl _)with⟨h0,hrun⟩ | ⟨e,he,w4,hw4,hrun⟩
 ·have HSZ:=zh h0;clear h0;have HF:Hid (VZ wr base g' (fK B k s b)):=zh ⟨M,c,⟨hgm,Zd,hown⟩,fun k' s'=>by
   rw [hwp k' s',GL,←HBB.out k' s'];by_cases h1:k=k'∧s=s'
   ·rw [if_pos h1,if_pos (by rw [h1.1,h1.2])]
   rw [if_neg h1,if_neg fun h=>h1 (Prod.mk.inj h)];rcases hg:jr L k' s' with _ | x
   ·rfl
   have:=WW HSZ.out (e:=x.ent) (by simpa using ⟨x,(zK hg).1,rfl⟩);have e1:seen.contains x.born=true:=this;simp only [Option.filter,e1,if_pos]⟩
  clear HBN Rn Dn hr hgm Zd hown hwp hkr hL HSZ HWP HOWN zbb HBB;go_wp2_with (refine ug _ rfl _ rfl r rfl hrun ?_);refine bodyPost_ret (by simp [results,Tryz.results94,go_sem];rfl) rfl ?_;exact⟨g',rfl,HF.out,KR.out⟩
 have Qs:e∈(L.map iY.ent):=by have:=(mem_left he).1;simpa using this
 obtain⟨x,hx,rfl⟩:=List.mem_map.1 Qs;have HXM:=zh hx;have HXO:=zh (HM.out.own x hx);have uP:=zh (mem_left he).2;have HSH:=zh (left_shrinks _ _ _ he);clear hx he;obtain⟨xk,xs,xv,xb,xn⟩:=x;obtain⟨xo,xc,hxv⟩:=HXO.out.len;dsimp only at hxv;subst hxv;have e0:(⟨xk,xs,.slice xo xb.row.of.length xc,xb,xn⟩:iY).ent=⟨.agg #[.int .i64 xk,.int .i64 xs],.agg #[.slice xo xb.row.of.length xc,.int .i64 xb.row.kind,.int .i64 xb.row.to,.int .i64 xb.id],xn⟩:=rfl;rw [e0]at hrun uP HSH Qs;dsimp only at hrun uP HSH;have hr4:w4.heap[r]? =some (.mapIter (some g) clock seen clock):=by rcases hw4 with rfl | rfl<;>exact hr
 have hL4:w4.heap[g]? =some (.map ((L.map iY.ent).toArray) clock):=by rcases hw4 with rfl | rfl<;>exact hL
 have hg4:w4.heap[g']? =some (.map ((M.map iY.ent).toArray) c):=by rcases hw4 with rfl | rfl<;>exact hgm
 have k4:Keep au w w4:=by rcases hw4 with rfl | rfl<;>first | exact hkr | exact hkr.drewN _
 have k5:Keep au w (setBlock w4 r (.mapIter (some g) clock (seen.push xn) clock)):=wO k4 hr4 HRE.out;have Nj:=zh (wN (o':= .mapIter (some g) clock (seen.push xn) clock) hr4);have KD:=zh ((kE (o':= .mapIter (some g) clock (seen.push xn) clock) hr4 hn2).trans hL4);have Ze:=zh ((kE (o':= .mapIter (some g) clock (seen.push xn) clock) hr4 hn3).trans hg4);have K5:=zh k5;have hlt5:¬(setBlock w4 r (.mapIter (some g) clock (seen.push xn) clock)).heap.size=r:=by have:=lt_of_heap (wN (o':= .mapIter (some g) clock (seen.push xn) clock) hr4);omega
 have XI:Hid (wr.rangeLeft g r=(leftOf (L.map iY.ent).toArray seen).size):=zh (by simp only [World.rangeLeft,hL,hr]);have HO5:Hid (∀e∈M,bD (setBlock w4 r (.mapIter (some g) clock (seen.push xn) clock)) base e.sv e.b.row.of):=zh fun e he=>by
  have h0:bD w4 base e.sv e.b.row.of:=by rcases hw4 with rfl | rfl<;>first | exact hown e he | exact(hown e he).keep ((Keep.refl _ _).drewN _)
  exact h0.setB hr4 fun A e f=>sm
 clear hr hgm hkr hL hr4 hL4 hg4 k4 hw4 Zd hown hwp KR k5 HOWN;generalize setBlock w4 r (.mapIter (some g) clock (seen.push xn) clock)=w5 at *;have hent:=run_entry_at (P:=Tryz.prog) w5 r g clock seen ((L.map iY.ent).toArray) clock ⟨.agg #[.int .i64 xk,.int .i64 xs],.agg #[.slice xo xb.row.of.length xc,.int .i64 xb.row.kind,.int .i64 xb.row.to,.int .i64 xb.id],xn⟩ Nj.out KD.out (by simpa using Qs) Rn.out;clear Qs HBB HSV;by_cases hkk:xk=k∧xs=s
 ·have hq:=fun w=>(zad w xk xs k s).trans (by rw [decide_eq_true hkk]);have HW:=zh (HWP.out.skip Dn.out HXM.out hkk);clear hkk HWP;go_wp2_with (refine ug _ rfl _ rfl r rfl hrun ?_);go_roundw
  case rel=>exact⟨seen.push xn,M,c,alloc2 Nj.out,alloc2 Ze.out,zbb.out,fun e he=>(HO5.out e he).keep (((Keep.refl _ _).alloc _).alloc _),HW.out,(K5.out.alloc _).alloc _⟩
  have h1:=HSH.out;rw [← XI.out]at h1;simpa only [World.rangeLeft,alloc2 Nj.out,alloc2 KD.out]using h1
 have hq:=fun w=>(zad w xk xs k s).trans (by rw [decide_eq_false hkk]);have HW:=zh (HWP.out.take (c2:=c) Dn.out HXM.out uP.out hkk);have hnn:=HW.out.1;clear hkk HWP;go_wp2_with (first | refine ug _ rfl _ rfl r rfl hrun ?_ | refine Cq _ rfl _ _ _ (.inl rfl) g' M c xk xs _ xb rfl rfl rfl (alloc2 Ze.out) hnn ?_);go_roundw
 case rel=>
  refine⟨seen.push xn,(kE (alloc2 Ze.out) (Ne.symm hn3)).trans (alloc2 Nj.out),M++ [⟨xk,xs,.slice xo xb.row.of.length xc,xb,c⟩],c+1,(wN (alloc2 Ze.out)).trans sm,zbb.out.push hnn _ _,fun e he=> ?_,HW.out.2,wO ((K5.out.alloc _).alloc _) (alloc2 Ze.out) ZO.out⟩;rcases List.mem_append.1 he with he | he
  ·exact ((HO5.out e he).keep (((Keep.refl _ _).alloc _).alloc _)).setB (alloc2 Ze.out) fun A e f=>sm
  rw [List.mem_singleton.1 he];exact HXO.out.keep (wO ((K5.out.alloc _).alloc _) (alloc2 Ze.out) ZO.out)
 have h1:=HSH.out;rw [← XI.out]at h1;simpa only [World.rangeLeft,kE (alloc2 Ze.out) (Ne.symm hn3),kE (alloc2 Ze.out) hn1,alloc2 Nj.out,alloc2 KD.out]using h1
variable {P:Nat→Prop}
structure WY (r:Rw):Prop where
 o:∀x∈r.of,fT x
 k:fT r.kind
 t:fT r.to
theorem uI.rowsA {w0 w:World}{bS:Nat}{vr vi:Value}{s:jh}{va vt vp:Value}{xs:List wL}{ys:List DT}(h:uI P w0 w bS vr vi s va vt vp xs ys)(ha:∀x∈s.atoms,WY x):dD w va s.atoms:=by
 have h1:jE w w w0.heap.size va s.atoms:=⟨xs,h.ax,fun x hx=>by
  have hm:x.r∈s.atoms:=by rw [← h.ax];exact List.mem_map_of_mem hx
  exact⟨(h.ai x hx).ints (ha _ hm).o,(ha _ hm).k,(ha _ hm).t,(h.ai x hx).cap⟩,h.a⟩
 exact h1.rows (Keep.refl _ _)
theorem uI.blk {w0 w:World}{bS:Nat}{vr vi:Value}{s:jh}{va vt vp:Value}{xs:List wL}{ys:List DT}(h:uI P w0 w bS vr vi s va vt vp xs ys):aL w bS #[vr,vi,.int .i64 (s.fuel:Int),va,vt,vp,.bool s.much]:=⟨_,h.b⟩
theorem lQ {w:World}{k:Nat}{a0 a1 a2 a3 a4 a5 a6:Value}(h:aL w k #[a0,a1,a2,a3,a4,a5,a6]):
  w.cell? ⟨k,0,none⟩=some a0∧w.cell? ⟨k,1,none⟩=some a1∧w.cell? ⟨k,2,none⟩=some a2∧w.cell? ⟨k,3,none⟩=some a3∧w.cell? ⟨k,4,none⟩=some a4∧w.cell? ⟨k,5,none⟩=some a5∧w.cell? ⟨k,6,none⟩=some a6∧k<w.heap.size:=
 ⟨h.cell 0,h.cell 1,h.cell 2,h.cell 3,h.cell 4,h.cell 5,h.cell 6,h.lt⟩
theorem uI.forms {w0 w:World}{bS:Nat}{vr vi:Value}{s:jh}{va vt vp:Value}{xs:List wL}{ys:List DT}(h:uI P w0 w bS vr vi s va vt vp xs ys):(∃oa ca,va= .slice oa s.atoms.length ca)∧(∃ot ct,vt= .slice ot s.steps.length ct)∧∃op cp,vp= .slice op s.point.length cp:=by
 obtain⟨oa,ca,e1,_⟩:=h.a.len;obtain⟨ot,ct,e2,_⟩:=h.t.len;obtain⟨op,cp,e3,_⟩:=h.p.len;have l1:xs.length=s.atoms.length:=by rw [← h.ax,List.length_map]
 have l2:ys.length=s.steps.length:=by rw [← h.tx,List.length_map]
 exact⟨⟨oa,ca,by rw [e1,l1]⟩,⟨ot,ct,by rw [e2,l2]⟩,⟨op,cp,e3⟩⟩
def atP (r:Rw)(x:Rw):Bool:=decide (x.to=r.to)&&decide (x.of=r.of)
theorem OU {m:Nat}{s:jh}{r:Rw}{k:Nat}(hk:k<s.atoms.length)(h1:s.atoms[k].to=r.to)(h2:s.atoms[k].of=r.of)(hb:∀j x,j<k→s.atoms[j]? =some x→atP r x=false):eO m s r=(((m+k+1:Nat):Int),s):=by
 have:qX s.atoms r=some k:=by
  unfold qX;rw [List.findIdx?_eq_some_iff_getElem];refine⟨hk,by simp [h1,h2],fun j hj=> ?_⟩;have:=hb j s.atoms[j] hj (fG om);unfold atP at this;simp [this]
 unfold eO;rw [this]
theorem WZ {m:Nat}{s:jh}{r:Rw}{k:Nat}(hk:s.atoms.length≤k)(hb:∀j x,j<k→s.atoms[j]? =some x→atP r x=false):eO m s r=(((m+s.atoms.length+1:Nat):Int),{s with atoms:=s.atoms++ [r],steps:=s.steps++ [⟨5,[],[],r⟩]}):=by
 have:qX s.atoms r=none:=by
  unfold qX;rw [List.findIdx?_eq_none_iff];intro x hx;obtain⟨j,hj,rfl⟩:=List.getElem_of_mem hx;exact hb j _ om (fG hj)
 unfold eO;rw [this]
theorem LK (w0 w:World)(bS m:Nat)(lD:Option Addr)(cr:Nat)(vi:Value)(s:jh)(Fb:Option Addr)(Fe:Nat)(r:Rw)(h:BO P w0 w bS (.slice lD m cr) vi s)(hr:bD w w0.heap.size (.slice Fb r.of.length Fe) r.of)(hf:WY r)(ha:∀x∈s.atoms,WY x)(hal:s.atoms.length≤200)(hsl:s.steps.length≤50000)(hm:m≤64):
  Calls Tryz.prog 93 #[.pointer (some ⟨bS,0,none⟩),.agg #[.slice Fb r.of.length Fe,.int .i64 r.kind,.int .i64 r.to]] w fun e w'=>e= .returned (.int .i64 (eO m s r).1)∧BO P w0 w' bS (.slice lD m cr) vi (eO m s r).2∧KT P w w':=by
 obtain⟨va,vt,vp,xs,ys,hc⟩:=h;obtain⟨⟨oa,ca,rfl⟩,⟨ot,ct,rfl⟩,op,cp,rfl⟩:=hc.forms;have HC0:=zh hc;have HR0:=zh hr;have HAT:=zh ha;have HFR:=zh hf;have HRI:=fun w' (k:Keep au w w')=>zh ((hr.keep k).ints hf.o);clear hc hr ha hf;go_enter Tryz.func93,Tryz.ntmps93;go_upto_region 1 with fail;have k1:Keep au w (w.alloc (.cells #[.slice Fb r.of.length Fe,.int .i64 r.kind,.int .i64 r.to] nN)):=(Keep.refl _ _).alloc _;have HB3:Hid (aL (w.alloc (.cells #[.slice Fb r.of.length Fe,.int .i64 r.kind,.int .i64 r.to] nN)) w.heap.size #[.slice Fb r.of.length Fe,.int .i64 r.kind,.int .i64 r.to]):=zh (aP _ _ rfl);have K1:=zh k1;have Ns:=zh (HC0.out.keep k1);have HR1:=zh (HR0.out.keep k1);have zbc:=HC0;clear HC0 k1;generalize w.alloc (.cells #[.slice Fb r.of.length Fe,.int .i64 r.kind,.int .i64 r.to] nN)=w1 at *;obtain⟨b3,hb3⟩:∃b3,w.heap.size=b3:=⟨_,rfl⟩;rw [hb3]at HB3 ⊢;have gV:Hid (∀k,(Value.slice oa s.atoms.length ca).ownBlock=some k→k≠b3):=zh fun k hk e=>by have:=zbc.out.a.lt k hk;omega
 have Yt:Hid (b3≠bS):=zh fun e=>by have:=lt_of_heap zbc.out.b;omega
 clear hb3 zbc;have HRW:=zh (Ns.out.rowsA HAT.out);have HBS:=zh Ns.out.blk;obtain⟨t0,t1,t2,t3,t4,t5,t6,lS⟩:=lQ HBS.out;obtain⟨p0,p1,p2,f0,f1,f2,l3⟩:=HB3.out.three;go_wp2;go_loopw [12] (fun s' wr=>∃k:Nat,k≤s.atoms.length∧s'= .int .i64 k∧Keep au w1 wr∧∀j x,j<k→s.atoms[j]? =some x→atP r x=false) (fun s' _=>(s.atoms.length-intOf s').toNat)
 case atStart=>exact⟨0,om,rfl,kp,fun j x h=>absurd h om⟩
 obtain⟨k,hk,rfl,hkr,hno⟩:=hrel;have KR:=zh hkr;have Ni:=zh hno;have x0:=(hkr.cell lS).trans t0;have x3:=(hkr.cell lS).trans t3;have x4:=(hkr.cell lS).trans t4;have y0:=(hkr.cell l3).trans p0;have y1:=(hkr.cell l3).trans p1;have y2:=(hkr.cell l3).trans p2;have lSr:=dJ lS hkr.size;have l3r:=dJ l3 hkr.size;clear hkr hno t0 t1 t2 t3 t4 t5 t6 p0 p1 p2 f0 f1 f2;by_cases hkl:k<s.atoms.length
 case pos=>
  have hlt:(k:Int)<(s.atoms.length:Int):=om;obtain⟨b,o,rfl,hbl,hrow⟩:=(HRW.out.keep KR.out).at hkl;have Xa:=zh (fun h1 h2=>OU (m:=m) hkl h1 h2 Ni.out);have mM:Hid (atP r s.atoms[k]=false→∀j x,j<k+1→s.atoms[j]? =some x→atP r x=false):=zh fun h j x hj hx=>by
   by_cases hjk:j=k
   ·subst hjk;rw [fG hkl]at hx;cases hx;exact h
   exact Ni.out j x om hx
  clear Ni;generalize s.atoms[k]=x at *;obtain⟨os,cs,q0,q1,q2,hrow⟩:=hrow.row;obtain⟨sv,hv,hxi,_⟩:=hrow;cases hv;have CE:=fun w' (k':Keep au wr w')=>zh (MB w' _ _ x.of r.of (hxi.keep k') (HRI w' ((K1.out.both KR.out).both k')).out);clear hxi;by_cases hto:x.to=r.to
  case neg=>
   have e1:(x.to==r.to)=false:=by rw [beq_eq_false_iff_ne];exact hto
   have mM:=zh (mM.out (by unfold atP;rw [decide_eq_false hto];rfl));clear hto Xa CE;go_wp2;go_roundw
   case rel=>exact⟨k+1,om,gn,KR.out.alloc _,mM.out⟩
   simp [intOf];omega
  have e1:(x.to==r.to)=true:=by rw [beq_iff_eq];exact hto
  by_cases ho:x.of=r.of
  case neg=>
   have mM:=zh (mM.out (by unfold atP;rw [decide_eq_false ho,Bool.and_false]));rw [decide_eq_false ho]at CE;clear hto Xa ho;go_wp2_with fail;refine(CE _ kp).out.mono ?_;rintro e w4 ⟨rfl,hk4⟩;have k4:Keep au wr w4:=Keep.trans kp hk4 fun _ _ _ h=>h;have K4:=zh (KR.out.both k4);clear hk4 k4 q0 q1 q2 CE;go_wp2;go_roundw
   case rel=>exact⟨k+1,om,gn,K4.out,mM.out⟩
   simp [intOf];omega
  have Xa:=zh (Xa.out hto ho);rw [decide_eq_true ho]at CE;clear hto ho mM;go_wp2_with fail;refine(CE _ kp).out.mono ?_;rintro e w4 ⟨rfl,hk4⟩;have k4:Keep au wr w4:=Keep.trans kp hk4 fun _ _ _ h=>h;have K4:=zh (KR.out.both k4);have z0:=(k4.cell lSr).trans x0;have lS4:=dJ lSr k4.size;clear hk4 k4 q0 q1 q2 CE x0 x3 x4 y0 y1 y2;go_wp2;refine bodyPost_ret (by simp [results,Tryz.results93,go_sem];rfl) rfl ?_;rw [Xa.out];exact⟨sm,⟨_,_,_,_,_,Ns.out.keep K4.out⟩,KT.of (K1.out.both K4.out)⟩
 have hlt:¬(k:Int)<(s.atoms.length:Int):=om;have zdf:=zh (WZ (m:=m) om Ni.out);clear Ni;have HCr:=zh (Ns.out.keep KR.out);have HRr:=zh (HR1.out.keep KR.out);have K1r:=zh (K1.out.both KR.out);have zcm:=zh (HB3.out.keep KR.out);clear Ns HR1 HRW HBS HB3 K1;go_upto_region 7 with fail;refine aD (fun w'=>Keep au wr w') [0,7,8,9,10] [([0,1,2,3,4,5],6),([],7),([8,9],10)] [] kr kr kp ?_;intro X W hne hF hcl;have aQ:=zh hcl;have z3:=fun x=>((hF x).cell lSr).trans x3;have z0:=fun x=>((hF x).cell l3r).trans y0;have z1:=fun x=>((hF x).cell l3r).trans y1;have z2:=fun x=>((hF x).cell l3r).trans y2;have zl:=fun x=>dJ lSr (hF x).size;have zm:=fun x=>dJ l3r (hF x).size;clear hF hcl;simp only [aO,aJ,zl0,zl1,zl2,aR,Bool.false_eq_true,if_false]
 (repeat(quiet_step (fail)));refine wpQuiet_nil ?_
 refine ay rfl rfl fun K hK=> ?_;go_simp;have k5:Keep au wr (wr.alloc (.cells #[.slice Fb r.of.length Fe,.int .i64 r.kind,.int .i64 r.to] nN)).drew:=((Keep.refl _ _).alloc _).drew;refine hK _ _ ⟨fun _=>aQ.out _ k5,?_⟩;obtain⟨v6,w6,hr6,hv6,hc6,kt6,hb6,hg6⟩:=(HCr.out.keep k5).pushA (HRr.out.keep k5) (b:=wr.heap.size) (aL.keep (aP _ _ rfl) (Keep.refl _ _).drew) om;obtain⟨o6,c6,rfl⟩:=hv6;have JO:aL w6 bS #[.slice lD m cr,vi,.int .i64 (s.fuel:Int),.slice oa s.atoms.length ca,.slice ot s.steps.length ct,.slice op s.point.length cp,.bool s.much]:=⟨_,hb6.trans (HCr.out.keep k5).b⟩;have g3:=JO.cell 3;have g3f:=JO.free 3;have gl:=JO.lt;have XU:=zh hc6;have FH:Hid (KT P w (w6.setCell ⟨bS,3,none⟩ (.slice o6 (s.atoms.length+1) c6))):=zh ((KT.of (K1r.out.both k5)).trans kt6);have mO:Hid (aL (w6.setCell ⟨bS,3,none⟩ (.slice o6 (s.atoms.length+1) c6)) b3 #[.slice Fb r.of.length Fe,.int .i64 r.kind,.int .i64 r.to]):=zh (by
  obtain⟨tt,ht⟩:=zcm.out.keep k5;refine⟨tt,?_⟩;rw [heap_setCell_other _ _ _ _ Yt.out,hg6.block b3 (lt_of_heap ht) fun e=>gV.out _ e.symm rfl];exact ht)
 have JX:=zh (FH.out.ints HR0.out);clear hK k5 hc6 hb6 JO kt6 aQ hg6 HCr HRr K1r zcm KR
 (repeat(quiet_step (fail)));refine wpQuiet_nil ?_
 refine ay rfl rfl fun K hK=> ?_;refine dM _ _ 22 _ _ rfl rfl rfl hr6 ?_;refine hK _ _ ⟨fun h=>(by simp at h),?_⟩;clear hK hr6
 (repeat(quiet_step (fail)));refine wpQuiet_nil ?_
 refine ay rfl rfl fun K hK=> ?_;go_simp;refine hK _ _ ⟨fun h=>(by simp at h),?_⟩;clear hK
 (repeat(quiet_step (fail)));refine wpQuiet_nil ?_
 refine NoPanic.normal ?_;clear hne z3 z0 z1 z2 zl zm x0 x3 x4 y0 y1 y2 lSr l3r W X g3 g3f gl gV Yt;generalize w6.setCell ⟨bS,3,none⟩ (.slice o6 (s.atoms.length+1) c6)=w7 at *;obtain⟨t0,t1,t2,t3,t4,t5,t6,lS7⟩:=lQ XU.out.blk;obtain⟨p0,p1,p2,f0,f1,f2,l37⟩:=mO.out.three;go_upto_region 8 with fail;refine aD (fun w'=>Keep au w7 w') [0,9,10,11,12] [([0,1,2,3,4,5,6,7],8),([],9),([10,11],12)] [] kr kr kp ?_;intro X W hne hF hcl;have aQ:=zh hcl;have z4:=fun x=>((hF x).cell lS7).trans t4;have z0:=fun x=>((hF x).cell l37).trans p0;have z1:=fun x=>((hF x).cell l37).trans p1;have z2:=fun x=>((hF x).cell l37).trans p2;have zl:=fun x=>dJ lS7 (hF x).size;have zm:=fun x=>dJ l37 (hF x).size;clear hF hcl t0 t1 t2 t3 t4 t5 t6 p0 p1 p2 f0 f1 f2;simp only [aO,aJ,zl0,zl1,zl2,aR,Bool.false_eq_true,if_false]
 (repeat(quiet_step (fail)));refine wpQuiet_nil ?_
 refine ay rfl rfl fun K hK=> ?_;go_simp;have k8:Keep au w7 (w7.alloc (.cells #[.int .i64 5,.slice none 0 0,.slice none 0 0,.int .i64 3,.int .i64 0,.int .i64 0,.slice Fb r.of.length Fe,.int .i64 r.kind,.int .i64 r.to] sD)).drew:=((Keep.refl _ _).alloc _).drew;refine hK _ _ ⟨fun _=>aQ.out _ k8,?_⟩;obtain⟨v9,w9,hr9,hv9,hc9,kt9,hb9,hg9⟩:=(XU.out.keep k8).pushT (y:=⟨.slice none 0 0,.slice none 0 0,.slice Fb r.of.length Fe,⟨5,[],[],r⟩⟩) ⟨bD.nil _ _,dR.nil _ _,JX.out.keep k8⟩ (b:=w7.heap.size) (aL.keep (aP _ _ rfl) (Keep.refl _ _).drew) (by show s.steps.length≤_;omega);obtain⟨o9,c9,rfl⟩:=hv9;have xZ:aL w9 bS #[.slice lD m cr,vi,.int .i64 (s.fuel:Int),.slice o6 (s.atoms.length+1) c6,.slice ot s.steps.length ct,.slice op s.point.length cp,.bool s.much]:=⟨_,hb9.trans (XU.out.keep k8).b⟩;have g4:=xZ.cell 4;have g4f:=xZ.free 4;have gl:=xZ.lt;have HC9:=zh hc9;have HK9:=zh ((FH.out.trans (KT.of k8)).trans kt9);clear hK k8 hc9 hb9 xZ kt9 aQ hg9 XU mO JX FH
 (repeat(quiet_step (fail)));refine wpQuiet_nil ?_
 refine ay rfl rfl fun K hK=> ?_;refine dM _ _ 26 _ _ rfl rfl rfl hr9 ?_;refine hK _ _ ⟨fun h=>(by simp at h),?_⟩;clear hK hr9
 (repeat(quiet_step (fail)));refine wpQuiet_nil ?_
 refine ay rfl rfl fun K hK=> ?_;go_simp;refine hK _ _ ⟨fun h=>(by simp at h),?_⟩;clear hK
 (repeat(quiet_step (fail)));refine wpQuiet_nil ?_
 refine NoPanic.normal ?_;clear hne z4 z0 z1 z2 zl zm lS7 l37 W X g4 g4f gl;generalize w9.setCell ⟨bS,4,none⟩ (.slice o9 (s.steps.length+1) c9)=wz at *;obtain⟨t0,t1,t2,t3,t4,t5,t6,lSz⟩:=lQ HC9.out.blk;go_wp2;go_quiet (fail);go_wp2;refine bodyPost_ret (by simp [results,Tryz.results93,go_sem];rfl) rfl ?_;rw [zdf.out];refine⟨?_,⟨_,_,_,_,_,HC9.out.keep ((Keep.refl _ _).drewN _)⟩,HK9.out.trans (KT.of ((Keep.refl _ _).drewN _))⟩;show Ending.returned (Value.int IntKind.i64 _)=Ending.returned (Value.int IntKind.i64 ((m+s.atoms.length+1:Nat):Int));rw [show((m+s.atoms.length+1:Nat):Int)=(m:Int)+((s.atoms.length:Int)+1)from om]
theorem Ti (w:World)(ty:TypeId)(n:Nat)(h0:0<n)(hn:n≤1000000):∃w' G,(Builtin.append_ #[38,3] ty #[.slice none 0 0,.int .i64 (n:Int)]).run Tryz.prog w= .ok (.slice (some ⟨w.heap.size,0,none⟩) n G) w'∧n≤G∧G≤9223372036854775807∧bD w' w.heap.size (.slice (some ⟨w.heap.size,0,none⟩) 0 G) []∧Keep au w w':=by
 obtain⟨i0,hi0,hz0,hz1,hz2⟩:=info_parts J5;have hGn:n≤grownCap w n 0 TI:=grownCap_ge w _ _ _;have hGm:=grownCap_le_maxLen w n 0 TI (by unfold maxLen;omega);have hold:(Builtin.firstCells i0.size 0 (.slice none 0 0)).run Tryz.prog w.drew= .ok ([]:List Value).toArray w.drew:=run_firstCells_none w.drew i0.size 0 0 0;have h:=Lib.run_append_grow_zeros w 38 3 ty TI i0 (.int .i64 0) .i64 .i64 Tryz.underlying38 Tryz.underlying3 hi0 hz0 none 0 0 [] hold n h0 (by rw [hz1];decide) om om (by rw [hz2];omega) (growslice_fits om (by rw [hz2];omega));rw [Nat.zero_add]at h;refine⟨_,_,h,hGn,hGm,⟨rfl,.inr ⟨w.heap.size,_,_,rfl,Nat.le_refl _,aX _ _ _ rfl,Nat.zero_le _,hGm,?_,by simp [iv]⟩⟩,((Keep.refl _ _).drew).alloc _⟩;simp [size_zeroCells,Value.cells];omega
theorem Xb (w:World)(n:Nat)(hn:n≤1000000):Calls Tryz.prog 127 #[.slice none 0 0,.int .i64 (n:Int)] w fun e w'=>∃v,e= .returned v∧bD w' w.heap.size v []∧Keep au w w':=by
 by_cases h0:0<n
 ·obtain ⟨w2,G,hr,h1,h2,h3,h4⟩:=Ti w 38 n h0 hn;have HO:=zh h3;have HK:=zh h4;have hp:(n:Int)>0:=om;have hp':¬(n:Int)<0:=om;clear h3 h4;go_enter Tryz.func127,Tryz.ntmps127;go_wp2_with (at_builtin;refine Lib.wpList_append_run _ rfl _ _ _ _ rfl _ _ rfl rfl _ _ hr ?_);refine bodyPost_ret (by simp [results,Tryz.results127,go_sem];rfl) rfl ?_;exact⟨_,rfl,HO.out,HK.out⟩
 obtain rfl:n=0:=om;go_enter Tryz.func127,Tryz.ntmps127;go_wp2;refine bodyPost_ret (by simp [results,Tryz.results127,go_sem];rfl) rfl ?_;exact⟨_,rfl,bD.nil _ _,Keep.refl _ _⟩
theorem OC (w:World)(b:Nat)(v1 v2:Value)(l1 l2:List Int)(hb:aL w b #[v1,v2])(h1:aW w v1 l1)(h2:aW w v2 l2)(hl1:l1.length≤1000)(hl2:l2.length≤1000):
  Calls Tryz.prog 96 #[.slice (some ⟨b,0,none⟩) 2 2] w fun e w'=>∃v,e= .returned v∧bD w' w.heap.size v (l1++l2)∧Keep au w w':=by
 have H1:=zh h1;have H2:=zh h2;obtain⟨o1,c1,rfl,_⟩:=h1.len;obtain⟨o2,c2,rfl,_⟩:=h2.len;obtain⟨p0,p1,f0,f1,lb⟩:=hb.two;have CG:=fun w'=>zh (Xb w' (l1.length+l2.length) om);have P0:=zh p0;have P1:=zh p1;clear h1 h2 hb;go_enter Tryz.func96,Tryz.ntmps96;go_wp2;go_loopw [11,3] (fun s z wr=>∃k:Nat,k≤2∧s= .int .i64 k∧z= .int .i64 (((if k=0 then 0 else if k=1 then l1.length else l1.length+l2.length):Nat):Int)∧Keep au w wr) (fun s _ _=>(2-intOf s).toNat)
 case atStart=>exact⟨0,om,rfl,rfl,kp⟩
 obtain⟨k,hk,rfl,rfl,hkr⟩:=hrel;have KR:=zh hkr;have x0:=(hkr.cell lb).trans p0;have x1:=(hkr.cell lb).trans p1;have lbr:=dJ lb hkr.size;clear hkr;obtain rfl | rfl | rfl:k=0∨k=1∨k=2:=om
 ·have hn:¬((0:Int)+(l1.length:Int)<0):=om;go_wp2;go_roundw
  case rel=>exact⟨1,om,rfl,sm,KR.out⟩
  simp [intOf]
 ·have hn:¬((l1.length:Int)+(l2.length:Int)<0):=om;go_wp2;go_roundw
  case rel=>exact⟨2,om,rfl,sm,KR.out⟩
  simp [intOf]
 have e2:(((if 2=0 then 0 else if 2=1 then l1.length else l1.length+l2.length):Nat):Int)=((l1.length+l2.length:Nat):Int):=rfl;rw [e2];go_wp2_with fail;refine(CG _).out.mono ?_;rintro e w3 ⟨v,rfl,ho3,hk3⟩;have K3:=zh (KR.out.both hk3);have P8:=zh (World.ownsRow_mono ho3 KR.out.size);obtain⟨o3,c3,hv3⟩:=ho3.len;subst hv3;have y0:=(hk3.cell lbr).trans x0;have y1:=(hk3.cell lbr).trans x1;have lb3:=dJ lbr hk3.size;clear ho3 hk3 CG x0 x1 p0 p1;go_wp2;go_loopw [27,6] (fun s u wr=>∃k:Nat,k≤2∧s= .int .i64 k∧bD wr w.heap.size u (if k=0 then []else if k=1 then l1 else l1++l2)∧Keep au w wr∧wr.cell? ⟨b,0,none⟩=some (.slice o1 l1.length c1)∧wr.cell? ⟨b,1,none⟩=some (.slice o2 l2.length c2)∧b<wr.heap.size) (fun s _ _=>(2-intOf s).toNat)
 case atStart=>exact⟨0,om,rfl,P8.out,K3.out,y0,y1,lb3⟩
 obtain⟨k,hk,rfl,hou,hkr,z0,z1,lbz⟩:=hrel;have KR:=zh hkr;obtain rfl | rfl | rfl:k=0∨k=1∨k=2:=om
 ·obtain ⟨v4,w4,hr4,ho4,hg4⟩:=jd (show bD wr w.heap.size u6 []from hou) (H1.out.keep hkr) (by simp;omega) hkr.size;have K4:=zh (hkr.grown hg4 fun k hk=>bD.block hou k hk);have Nr:=zh ho4;obtain⟨o4,c4,hv4⟩:=ho4.len;subst hv4;have q0:=(K4.out.cell lb).trans (show w.cell? ⟨b,0,none⟩=some (.slice o1 l1.length c1)from P0.out);have q1:=(K4.out.cell lb).trans (show w.cell? ⟨b,1,none⟩=some (.slice o2 l2.length c2)from P1.out);have lb4:=dJ lb K4.out.size;clear hou hkr ho4 hg4;go_wp2_with (at_builtin;refine aY _ _ 38 _ _ rfl rfl rfl rfl hr4 ?_);go_roundw
  case rel=>exact⟨1,om,rfl,Nr.out,K4.out,q0,q1,lb4⟩
  simp [intOf]
 ·obtain ⟨v4,w4,hr4,ho4,hg4⟩:=jd (show bD wr w.heap.size u6 l1 from hou) (H2.out.keep hkr) om hkr.size;have K4:=zh (hkr.grown hg4 fun k hk=>bD.block hou k hk);have Nr:=zh ho4;obtain⟨o4,c4,hv4⟩:=ho4.len;subst hv4;have q0:=(K4.out.cell lb).trans (show w.cell? ⟨b,0,none⟩=some (.slice o1 l1.length c1)from P0.out);have q1:=(K4.out.cell lb).trans (show w.cell? ⟨b,1,none⟩=some (.slice o2 l2.length c2)from P1.out);have lb4:=dJ lb K4.out.size;clear hou hkr ho4 hg4;go_wp2_with (at_builtin;refine aY _ _ 38 _ _ rfl rfl rfl rfl hr4 ?_);go_roundw
  case rel=>exact⟨2,om,rfl,(by have h:=Nr.out;rw [List.length_append]at h;exact h),K4.out,q0,q1,lb4⟩
  simp [intOf]
 have kN:=zh (show bD wr w.heap.size u6 (l1++l2)from hou);clear hou hkr;go_wp2;refine bodyPost_ret (by simp [results,Tryz.results96,go_sem];rfl) rfl ?_;exact⟨_,rfl,kN.out,KR.out⟩
end Go.Proofs.YtaiffmebphhdaaaGreat
