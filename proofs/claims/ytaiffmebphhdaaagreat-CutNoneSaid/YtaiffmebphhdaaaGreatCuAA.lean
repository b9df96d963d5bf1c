/- Package cut: how the search lies in memory. Package cut: maps whose keys are pairs of integers. Package cut: a limit; bools as they lie; what is open. Package cut: the slices' functions that it calls. Package cut: bounds with one more. Package cut: the variable of a row. Package cut: slices.Grow of nothing, slices.Concat of two. -/
import Derived.Test.YtaiffmebphhdaaaGreatCuM
import Derived.Test.YtaiffmebphhdaaaGreatOwnG
import Derived.Maps.RangeWalk
import Derived.Test.YtaiffmebphhdaaaGreatExAA
import Derived.Test.YtaiffmebphhdaaaGreatSpK
import Derived.Test.YtaiffmebphhdaaaGreatCuSS
import Derived.Lib.AppendZerosOnto
import Derived.Lib.Walk
namespace Go.Proofs.YtaiffmebphhdaaaGreat
set_option maxRecDepth 100000
set_option maxHeartbeats 8000000
set_option linter.unusedSimpArgs false
set_option linter.unusedVariables false
open Go.ChangeShapes Go.WideShapes Go.RowKit
variable {P:Nat→Prop}
abbrev TSt:TypeId:=57
abbrev TSr:TypeId:=72
def Hot (o:Obj):Prop:=∃A e f,o= .cells A e f∧(e=TRw∨e=TSt∨e=TSr)
structure KT (P:Nat→Prop)(w w':World):Prop where
 size:w.heap.size≤w'.heap.size
 same:∀(b:Nat) (o:Obj),w.heap[b]? =some o→(¬Hot o∨P b)→w'.heap[b]? =some o
theorem KT.refl (w:World):KT P w w:=⟨Nat.le_refl _,fun _ _ h _=>h⟩
theorem KT.trans {w w1 w2:World}(h:KT P w w1)(k:KT P w1 w2):KT P w w2:=⟨Nat.le_trans h.size k.size,fun b o hb ho=>k.same b o (h.same b o hb ho) ho⟩
theorem KT.of {w w':World}(k:Keep NoS w w'):KT P w w':=⟨k.size,fun b o hb _=>by rw [k.block b (lt_of_heap hb) fun _ h=>h];exact hb⟩
theorem KT.set {w:World}{b i:Nat}{A:Array Value}{e:TypeId}{f:Nat × Nat}(hb:w.heap[b]? =some (.cells A e f))(he:e=TRw∨e=TSt∨e=TSr)(hp:¬P b)(v:Value):KT P w (w.setCell ⟨b,i,none⟩ v):=by
 refine⟨by simp,fun c o hc ho=> ?_⟩
 have hne:c≠b:=fun e1=>by
  subst e1;rw [hb]at hc
  cases hc
  exact ho.elim (fun ho=>ho ⟨_,_,_,rfl,he⟩) hp
 rw [heap_setCell_other _ _ _ _ hne];exact hc
theorem KT.grown {w w':World}{row:Option Nat}(hg:w.grownBy w' row)(hr:∀b,row=some b→(∃A e f,w.heap[b]? =some (.cells A e f)∧(e=TRw∨e=TSt∨e=TSr))∧¬P b):KT P w w':=by
 refine⟨hg.size,fun c o hc ho=> ?_⟩
 have hne:some c≠row:=fun e1=>by
  obtain⟨⟨A,e,f,h1,h2⟩,h3⟩:=hr c e1.symm;rw [h1]at hc
  cases hc
  exact ho.elim (fun ho=>ho ⟨_,_,_,rfl,h2⟩) h3
 rw [hg.block c (lt_of_heap hc) hne];exact hc
theorem KT.own {w w':World}{base:Nat}{e:TypeId}{size:Nat}{v:Value}{n:Nat}{xs:List Value}(k:KT P w w')(h:w.ownsRow base e size v n xs)(he:e≠TRw∧e≠TSt∧e≠TSr):w'.ownsRow base e size v n xs:=by
 obtain⟨hl,h | ⟨g,cap,cur,hv,hb,hg,hl',hm,hs,ht⟩⟩:=h
 ·exact ⟨hl,.inl h⟩
 ·refine ⟨hl,.inr ⟨g,cap,cur,hv,hb,k.same _ _ hg (.inl ?_),hl',hm,hs,ht⟩⟩
  rintro⟨A,e',f,h1,h2⟩
  cases h1
  exact h2.elim he.1 fun h2=>h2.elim he.2.1 he.2.2
theorem KT.ints {w w':World}{base:Nat}{v:Value}{l:List Int}(k:KT P w w')(h:OwnI w base v l):OwnI w' base v l:=k.own h ⟨by decide,by decide,by decide⟩
theorem KT.fracs {w w':World}{base:Nat}{v:Value}{l:List Fq}(k:KT P w w')(h:OwnF w base v l):OwnF w' base v l:=k.own h ⟨by decide,by decide,by decide⟩
structure StV where
 lv:Value
 nv:Value
 rv:Value
 st:CStep
def akC (k:Int):Int:=if k=5 then 3 else 0
def stC (x:StV):List Value:= [.int .i64 x.st.kind,x.lv,x.nv,.int .i64 (akC x.st.kind),.int .i64 0,.int .i64 0,x.rv,.int .i64 x.st.row.kind,.int .i64 x.st.row.to]
theorem stC_len (x:StV):(stC x).length=9:=rfl
theorem infoSt:(Tryz.prog.info? TSt).map (fun i=>(i.zero,i.size,i.bytes))=some (some (.agg #[.int .i64 0,.slice none 0 0,.slice none 0 0,.int .i64 0,.int .i64 0,.int .i64 0,.slice none 0 0,.int .i64 0,.int .i64 0]),9,120):=by kernel_rfl
structure StOK (w:World)(base:Nat)(x:StV):Prop where
 l:OwnI w base x.lv x.st.lits
 n:OwnF w base x.nv x.st.nums
 r:OwnI w base x.rv x.st.row.of
theorem StOK.kt {w w':World}{base:Nat}{x:StV}(h:StOK w base x)(k:KT P w w'):StOK w' base x:=⟨k.ints h.l,k.fracs h.n,k.ints h.r⟩
theorem StOK.one {w:World}{base:Nat}{x:StV}(h:StOK w base x):∀u∈stC x,u.oneCell'=true:=by
 obtain⟨o1,c1,e1⟩:=h.l.len;obtain⟨o2,c2,e2,_⟩:=h.n.len;obtain⟨o3,c3,e3⟩:=h.r.len;intro u hu;simp only [stC,List.mem_cons,List.not_mem_nil,or_false]at hu
 rcases hu with rfl | rfl | rfl | rfl | rfl | rfl | rfl | rfl | rfl
 ·rfl
 ·rw [e1];rfl
 ·rw [e2];rfl
 ·rfl
 ·rfl
 ·rfl
 ·rw [e3];rfl
 ·rfl
 ·rfl
structure IsC (P:Nat→Prop)(w0 w:World)(bS:Nat)(vr vi:Value)(s:CSt)(va vt vp:Value)(xs:List RwV)(ys:List StV):Prop where
 k:Keep NoS w0 w
 hb:w0.heap.size≤bS
 b:w.heap[bS]? =some (.cells #[vr,vi,.int .i64 (s.fuel:Int),va,vt,vp,.bool s.much] TSr (0,0))
 a:OwnG TRw 3 rwC w w0.heap.size va xs
 ax:xs.map RwV.r=s.atoms
 ai:∀x∈xs,OwnI w w0.heap.size x.sv x.r.of
 t:OwnG TSt 9 stC w w0.heap.size vt ys
 tx:ys.map StV.st=s.steps
 ti:∀y∈ys,StOK w w0.heap.size y
 p:OwnF w w0.heap.size vp s.point
 av:∀c,P c→c<w.heap.size∧c≠bS∧va.ownBlock≠some c∧vt.ownBlock≠some c
def IsS (P:Nat→Prop)(w0 w:World)(bS:Nat)(vr vi:Value)(s:CSt):Prop:=∃va vt vp xs ys,IsC P w0 w bS vr vi s va vt vp xs ys
theorem IsC.keep {w0 w w':World}{bS:Nat}{vr vi:Value}{s:CSt}{va vt vp:Value}{xs:List RwV}{ys:List StV}(h:IsC P w0 w bS vr vi s va vt vp xs ys)(k:Keep NoS w w'):IsC P w0 w' bS vr vi s va vt vp xs ys:=
 ⟨h.k.both k,h.hb,by rw [k.block bS (lt_of_heap h.b) fun _ h=>h];exact h.b,h.a.keep k,h.ax,fun x hx=>(h.ai x hx).keep k,h.t.keep k,h.tx,fun y hy=>(h.ti y hy).kt (.of (P:=P) k),h.p.keep k,fun c hc=>by obtain⟨h1,h2⟩:=h.av c hc;exact⟨Nat.lt_of_lt_of_le h1 k.size,h2⟩⟩
theorem IsS.keep {w0 w w':World}{bS:Nat}{vr vi:Value}{s:CSt}(h:IsS P w0 w bS vr vi s)(k:Keep NoS w w'):IsS P w0 w' bS vr vi s:=by
 obtain⟨va,vt,vp,xs,ys,h⟩:=h;exact⟨va,vt,vp,xs,ys,h.keep k⟩
theorem own_at {w:World}{base:Nat}{e:TypeId}{size:Nat}{v:Value}{n:Nat}{xs:List Value}(h:w.ownsRow base e size v n xs){b:Nat}(hb:v.ownBlock=some b):∃A,w.heap[b]? =some (.cells A e (0,0)):=by
 obtain⟨hl,h | ⟨g,cap,cur,hv,hbb,hg,hl',hm,hs,ht⟩⟩:=h
 ·rw [h.1]at hb;cases hb
 ·rw [hv]at hb
  cases hb
  exact⟨_,hg⟩
theorem IsC.aNe {w0 w:World}{bS:Nat}{vr vi:Value}{s:CSt}{va vt vp:Value}{xs:List RwV}{ys:List StV}(h:IsC P w0 w bS vr vi s va vt vp xs ys):va.ownBlock≠some bS:=fun e=>by
 obtain⟨A,e1⟩:=own_at h.a e;rw [h.b]at e1;have:=(Obj.cells.inj (Option.some.inj e1)).2.1;exact absurd this (by decide)
theorem IsC.tNe {w0 w:World}{bS:Nat}{vr vi:Value}{s:CSt}{va vt vp:Value}{xs:List RwV}{ys:List StV}(h:IsC P w0 w bS vr vi s va vt vp xs ys):vt.ownBlock≠some bS:=fun e=>by
 obtain⟨A,e1⟩:=own_at h.t e;rw [h.b]at e1;have:=(Obj.cells.inj (Option.some.inj e1)).2.1;exact absurd this (by decide)
theorem IsC.atNe {w0 w:World}{bS:Nat}{vr vi:Value}{s:CSt}{va vt vp:Value}{xs:List RwV}{ys:List StV}(h:IsC P w0 w bS vr vi s va vt vp xs ys):∀k,va.ownBlock=some k→vt.ownBlock≠some k:=fun k e e'=>by
 obtain⟨A,e1⟩:=own_at h.a e;obtain⟨B,e2⟩:=own_at h.t e';rw [e1]at e2;have:=(Obj.cells.inj (Option.some.inj e2)).2.1;exact absurd this (by decide)
theorem IsC.set {w0 w:World}{bS:Nat}{vr vi:Value}{s s':CSt}{va vt vp vp':Value}{xs:List RwV}{ys:List StV}(h:IsC P w0 w bS vr vi s va vt vp xs ys)(i:Nat)(v:Value)
  (he: #[vr,vi,.int .i64 (s.fuel:Int),va,vt,vp,.bool s.much].setIfInBounds i v= #[vr,vi,.int .i64 (s'.fuel:Int),va,vt,vp',.bool s'.much]) (e1:s'.atoms=s.atoms) (e2:s'.steps=s.steps) (hp:OwnF w w0.heap.size vp' s'.point):IsC P w0 (w.setCell ⟨bS,i,none⟩ v) bS vr vi s' va vt vp' xs ys:=by
 have kt:KT P w (w.setCell ⟨bS,i,none⟩ v):=KT.set h.b (.inr (.inr rfl)) (fun hp=>(h.av bS hp).2.1 rfl) v
 refine⟨keep_at h.k _ h.hb,h.hb,?_,?_,h.ax.trans e1.symm,fun x hx=>kt.ints (h.ai x hx),?_,h.tx.trans e2.symm,fun y hy=>(h.ti y hy).kt kt,kt.fracs hp,fun c hc=>by have:=h.av c hc;simpa using this⟩
 ·rw [← he]
  exact heap_setCell_same _ _ h.b
 ·exact ownsRow_setCell_other h.a h.aNe _
 ·exact ownsRow_setCell_other h.t h.tNe _
theorem IsC.grownA {w0 w w':World}{bS:Nat}{vr vi:Value}{s:CSt}{va vt vp:Value}{xs:List RwV}{ys:List StV}(h:IsC P w0 w bS vr vi s va vt vp xs ys)(hg:w.grownBy w' va.ownBlock):KT P w w'∧Keep NoS w0 w'∧w'.heap[bS]? =w.heap[bS]? ∧OwnG TSt 9 stC w' w0.heap.size vt ys:=by
 have kt:KT P w w':=KT.grown hg fun b hb=>by
  obtain⟨A,e⟩:=own_at h.a hb;exact⟨⟨A,TRw,(0,0),e,.inl rfl⟩,fun hp=>(h.av b hp).2.2.1 hb⟩
 exact⟨kt,h.k.grown hg fun k hk=>h.a.block k hk,hg.block bS (lt_of_heap h.b) fun e=>h.aNe e.symm,h.t.grown0 hg fun k hk e=>h.atNe k e.symm hk⟩
theorem IsC.grownT {w0 w w':World}{bS:Nat}{vr vi:Value}{s:CSt}{va vt vp:Value}{xs:List RwV}{ys:List StV}(h:IsC P w0 w bS vr vi s va vt vp xs ys)(hg:w.grownBy w' vt.ownBlock):KT P w w'∧Keep NoS w0 w'∧w'.heap[bS]? =w.heap[bS]? ∧OwnG TRw 3 rwC w' w0.heap.size va xs:=by
 have kt:KT P w w':=KT.grown hg fun b hb=>by
  obtain⟨A,e⟩:=own_at h.t hb;exact⟨⟨A,TSt,(0,0),e,.inr (.inl rfl)⟩,fun hp=>(h.av b hp).2.2.2 hb⟩
 exact⟨kt,h.k.grown hg fun k hk=>h.t.block k hk,hg.block bS (lt_of_heap h.b) fun e=>h.tNe e.symm,h.a.grown0 hg fun k hk e=>h.atNe k hk e.symm⟩
theorem IsC.pushA {w0 w:World}{bS:Nat}{vr vi:Value}{s:CSt}{va vt vp:Value}{xs:List RwV}{ys:List StV}(h:IsC P w0 w bS vr vi s va vt vp xs ys){u:Value}{r:Rw}(hu:OwnI w w0.heap.size u r.of){b:Nat}(hb:Blk w b #[u,.int .i64 r.kind,.int .i64 r.to])(hl:s.atoms.length≤1000):
  ∃v' w',(Builtin.append_ #[22,22] 22 #[va,.slice (some ⟨b,0,none⟩) 1 1]).run Tryz.prog w= .ok v' w'∧(∃o c,v'= .slice o (s.atoms.length+1) c)∧IsC P w0 (w'.setCell ⟨bS,3,none⟩ v') bS vr vi {s with atoms:=s.atoms++ [r]} v' vt vp (xs++ [⟨u,r⟩]) ys∧KT P w (w'.setCell ⟨bS,3,none⟩ v')∧w'.heap[bS]? =w.heap[bS]? ∧w.grownBy w' va.ownBlock:=by
 obtain⟨i0,hi0,hz0,hz1,hz2⟩:=info_parts infoRw;have hxl:xs.length=s.atoms.length:=by rw [← h.ax,List.length_map]
 have h1:u.oneCell'=true:=by obtain⟨o,c,e⟩:=hu.len;rw [e];rfl
 obtain⟨v',w',hr,ho,hg,hv⟩:=OwnG.app rwC_len Tryz.underlying22 hi0 hz0 hz1 hz2 rfl (by decide) h.a (x:=⟨u,r⟩) hb (by
  intro y hy;simp [rwC]at hy
  rcases hy with rfl | rfl | rfl
  ·exact h1
  ·rfl
  ·rfl) (by unfold maxLen;omega) (by omega) (Nat.le_trans h.k.size (Nat.le_refl _))
 obtain⟨kt,k1,eb,ht⟩:=h.grownA hg;have hb':w'.heap[bS]? =some (.cells #[vr,vi,.int .i64 (s.fuel:Int),va,vt,vp,.bool s.much] TSr (0,0)):=eb.trans h.b;have kt2:KT P w' (w'.setCell ⟨bS,3,none⟩ v'):=KT.set hb' (.inr (.inr rfl)) (fun hp=>(h.av bS hp).2.1 rfl) v'
 have hne:v'.ownBlock≠some bS:=fun e=>by
  obtain⟨A,e1⟩:=own_at ho e;rw [hb']at e1;exact absurd (Obj.cells.inj (Option.some.inj e1)).2.1 (by decide)
 refine⟨v',w',hr,?_,⟨keep_at k1 _ h.hb,h.hb,heap_setCell_same _ _ hb',ownsRow_setCell_other ho hne _,by simp [h.ax],fun x hx=> ?_,ownsRow_setCell_other ht h.tNe _,h.tx,fun y hy=>((h.ti y hy).kt kt).kt kt2,kt2.fracs (kt.fracs h.p),fun c hc=>by
  obtain⟨h1,h2,h3,h4⟩:=h.av c hc;refine⟨by have:=kt.size;simp;omega,h2,fun e=> ?_,h4⟩
  rcases hv with hv | hv
  ·exact h3 (hv ▸ e)
  ·rw [hv]at e;cases e;omega⟩,kt.trans kt2,eb,hg⟩
 ·obtain ⟨o,c,e,_⟩:=ho.len
  exact⟨o,c,by rw [e,List.length_append,hxl];rfl⟩
 ·rcases List.mem_append.1 hx with hx | hx
  ·exact kt2.ints (kt.ints (h.ai x hx))
  ·rw [List.mem_singleton.1 hx];exact kt2.ints (kt.ints hu)
theorem IsC.pushT {w0 w:World}{bS:Nat}{vr vi:Value}{s:CSt}{va vt vp:Value}{xs:List RwV}{ys:List StV}(h:IsC P w0 w bS vr vi s va vt vp xs ys){y:StV}(hy:StOK w w0.heap.size y){b:Nat}(hb:Blk w b (stC y).toArray)(hl:s.steps.length≤100000):
  ∃v' w',(Builtin.append_ #[26,26] 26 #[vt,.slice (some ⟨b,0,none⟩) 1 1]).run Tryz.prog w= .ok v' w'∧(∃o c,v'= .slice o (s.steps.length+1) c)∧IsC P w0 (w'.setCell ⟨bS,4,none⟩ v') bS vr vi {s with steps:=s.steps++ [y.st]} va v' vp xs (ys++ [y])∧KT P w (w'.setCell ⟨bS,4,none⟩ v')∧w'.heap[bS]? =w.heap[bS]? ∧w.grownBy w' vt.ownBlock:=by
 obtain⟨i0,hi0,hz0,hz1,hz2⟩:=info_parts infoSt;have hyl:ys.length=s.steps.length:=by rw [← h.tx,List.length_map]
 obtain⟨v',w',hr,ho,hg,hv⟩:=OwnG.app stC_len Tryz.underlying26 hi0 hz0 hz1 hz2 rfl (by decide) h.t (x:=y) hb hy.one (by unfold maxLen;omega) (by omega) (Nat.le_trans h.k.size (Nat.le_refl _))
 obtain⟨kt,k1,eb,ha⟩:=h.grownT hg;have hb':w'.heap[bS]? =some (.cells #[vr,vi,.int .i64 (s.fuel:Int),va,vt,vp,.bool s.much] TSr (0,0)):=eb.trans h.b;have kt2:KT P w' (w'.setCell ⟨bS,4,none⟩ v'):=KT.set hb' (.inr (.inr rfl)) (fun hp=>(h.av bS hp).2.1 rfl) v'
 have hne:v'.ownBlock≠some bS:=fun e=>by
  obtain⟨A,e1⟩:=own_at ho e;rw [hb']at e1;exact absurd (Obj.cells.inj (Option.some.inj e1)).2.1 (by decide)
 refine⟨v',w',hr,?_,⟨keep_at k1 _ h.hb,h.hb,heap_setCell_same _ _ hb',ownsRow_setCell_other ha h.aNe _,h.ax,fun x hx=>kt2.ints (kt.ints (h.ai x hx)),ownsRow_setCell_other ho hne _,by simp [h.tx],fun z hz=> ?_,kt2.fracs (kt.fracs h.p),fun c hc=>by
  obtain⟨h1,h2,h3,h4⟩:=h.av c hc;refine⟨by have:=kt.size;simp;omega,h2,h3,fun e=> ?_⟩
  rcases hv with hv | hv
  ·exact h4 (hv ▸ e)
  ·rw [hv]at e;cases e;omega⟩,kt.trans kt2,eb,hg⟩
 ·obtain ⟨o,c,e,_⟩:=ho.len
  exact⟨o,c,by rw [e,List.length_append,hyl];rfl⟩
 ·rcases List.mem_append.1 hz with hz | hz
  ·exact ((h.ti z hz).kt kt).kt kt2
  ·rw [List.mem_singleton.1 hz];exact(hy.kt kt).kt kt2
theorem KT.weak {P':Nat→Prop}{w w':World}(h:KT P' w w')(hp:∀c,P c→P' c):KT P w w':=⟨h.size,fun b o hb ho=>h.same b o hb (ho.elim .inl fun h=> .inr (hp _ h))⟩
theorem IsC.weak {P':Nat→Prop}{w0 w:World}{bS:Nat}{vr vi:Value}{s:CSt}{va vt vp:Value}{xs:List RwV}{ys:List StV}(h:IsC P' w0 w bS vr vi s va vt vp xs ys)(hp:∀c,P c→P' c):IsC P w0 w bS vr vi s va vt vp xs ys:= {h with av:=fun c hc=>h.av c (hp c hc)}
theorem IsC.guard {w0 w w':World}{bS:Nat}{vr vi:Value}{s:CSt}{va vt vp:Value}{xs:List RwV}{ys:List StV}(h:IsC P w0 w bS vr vi s va vt vp xs ys)(k:Keep NoS w w'){b:Nat}(h1:w.heap.size≤b)(h2:b<w'.heap.size):IsC (fun c=>P c∨c=b) w0 w' bS vr vi s va vt vp xs ys:=by
 have h':=h.keep k;refine⟨h'.k,h'.hb,h'.b,h'.a,h'.ax,h'.ai,h'.t,h'.tx,h'.ti,h'.p,fun c hc=> ?_⟩
 rcases hc with hc | rfl
 ·exact h'.av c hc
 ·exact ⟨h2,fun e=>by have:=lt_of_heap h.b;omega,fun e=>by have:=h.a.lt c e;omega,fun e=>by have:=h.t.lt c e;omega⟩
variable {P:Nat→Prop}
abbrev TMp:TypeId:=75
abbrev TKy:TypeId:=117
theorem eqI (w:World)(n:Nat)(a b:Int):(Op.equalIn (n+1) 3 (.int .i64 a) (.int .i64 b)).run Tryz.prog w= .ok (a==b) w:=by
 unfold Op.equalIn;simp [run_underlying Tryz.underlying3,Result.andThen]
theorem eqK (w:World)(a b c d:Int):(Op.equal TKy (.agg #[.int .i64 a,.int .i64 b]) (.agg #[.int .i64 c,.int .i64 d])).run Tryz.prog w= .ok (decide (a=c∧b=d)) w:=by
 unfold Op.equal Op.maxDepth Op.equalIn;simp [run_underlying Tryz.underlying117,Result.andThen,List.range',eqI,part,Tryz.isAgg3,Tryz.sizeOf3]
 by_cases h1:a=c<;>by_cases h2:b=d<;>simp [h1,h2,eqI,part,Tryz.isAgg3,Tryz.sizeOf3,Result.andThen]
structure MpE where
 k:Int
 s:Int
 sv:Value
 b:CB
 born:Nat
def keyV (k s:Int):Value:= .agg #[.int .i64 k,.int .i64 s]
def bdV (sv:Value)(b:CB):Value:= .agg #[sv,.int .i64 b.row.kind,.int .i64 b.row.to,.int .i64 b.id]
def MpE.v (e:MpE):Value:=bdV e.sv e.b
def MpE.ent (e:MpE):MapEntry:=⟨keyV e.k e.s,e.v,e.born⟩
def getL (L:List MpE)(k s:Int):Option MpE:=L.find? fun e=>decide (e.k=k∧e.s=s)
def lookV (L:List MpE)(k s:Int):Value:=match getL L k s with
 | some e=> .tuple #[e.v,.bool true]
 | none=> .tuple #[.agg #[.slice none 0 0,.int .i64 0,.int .i64 0,.int .i64 0],.bool false]
theorem findL_run (w:World)(k s:Int):∀(L:List MpE) (i:Nat),∃j,(Instr.findAsking TKy (keyV k s) (L.map MpE.ent) i).run Tryz.prog w= .ok ((getL L k s).map fun e=>(j,e.v)) w
 | [],i=>⟨0,by simp [Instr.findAsking,getL]⟩
 | e::L,i=>by
  obtain⟨j,hj⟩:=findL_run w k s L (i+1)
  by_cases h:e.k=k∧e.s=s
  ·refine ⟨i,?_⟩
   obtain⟨rfl,rfl⟩:=h;simp [Instr.findAsking,MpE.ent,keyV,eqK,getL,Result.andThen]
  ·refine ⟨j,?_⟩
   have h':¬(k=e.k∧s=e.s):=fun h1=>h ⟨h1.1.symm,h1.2.symm⟩
   have e1:getL (e::L) k s=getL L k s:=by unfold getL;rw [List.find?_cons_of_neg (by simpa using h)]
   rw [e1,←hj];simp [Instr.findAsking,MpE.ent,keyV,eqK,Result.andThen,h']
theorem checkL_run (w:World)(em:Bool)(n:Nat)(k s:Int):(Instr.checkKey em (n+2) TKy (keyV k s)).run Tryz.prog w= .ok () w:=by
 unfold Instr.checkKey keyV;simp [run_underlying Tryz.underlying117,Result.andThen,List.range',part,Tryz.isAgg3,Tryz.sizeOf3];unfold Instr.checkKey;simp [run_underlying Tryz.underlying3,Result.andThen]
theorem findK_run (w:World)(k s:Int)(L:List MpE):∃j,(Instr.findKey TKy (keyV k s) (L.map MpE.ent)).run Tryz.prog w= .ok ((getL L k s).map fun e=>(j,e.v)) w:=by
 obtain⟨j,hj⟩:=findL_run w k s L 0
 cases L with
 | nil=>exact⟨0,by simp [Instr.findKey,run_underlying Tryz.underlying117,Result.andThen,Instr.findNow,getL]⟩
 | cons e L=>
  refine⟨j,?_⟩;rw [← hj];simp [Instr.findKey,run_underlying Tryz.underlying117,Result.andThen,Instr.findNow,Instr.sameNow,MpE.ent,keyV]
theorem lookL_run {w:World}{g:Nat}{L:List MpE}{clock:Nat}(h:w.heap[g]? =some (.map (L.map MpE.ent).toArray clock))(k s:Int):(Instr.lookup TMp (.map (some g)) (keyV k s) true).run Tryz.prog w= .ok (lookV L k s) w:=by
 obtain⟨j,hj⟩:=findK_run w k s L;have hc:=fun em=>checkL_run w em 9998 k s
 unfold lookV
 rcases hg:getL L k s with _ | e
 ·rw [hg]at hj
  simp [Instr.lookup,run_underlying Tryz.underlying75,Result.andThen,MapKept.run_getObj_map h,hj,Tryz.zeroValue115,hc]
 ·rw [hg]at hj
  simp [Instr.lookup,run_underlying Tryz.underlying75,Result.andThen,MapKept.run_getObj_map h,hj,hc]
theorem putL_run {w:World}{g:Nat}{L:List MpE}{clock:Nat}(h:w.heap[g]? =some (.map (L.map MpE.ent).toArray clock))(k s:Int)(sv:Value)(b:CB)(hn:getL L k s=none):(Instr.mapUpdate TMp (.map (some g)) (keyV k s) (bdV sv b)).run Tryz.prog w= .ok () (Go.ChangeMaps.setBlock w g (.map ((L++ [(⟨k,s,sv,b,clock⟩:MpE)]).map MpE.ent).toArray (clock+1))):=by
 obtain⟨j,hj⟩:=findK_run w k s L;have hc:=fun em=>checkL_run w em 9998 k s
 rw [hn]at hj;simp [Instr.mapUpdate,run_underlying Tryz.underlying75,Result.andThen,MapKept.run_getObj_map h,hj,hc,MpE.ent,MpE.v,MapKept.run_setObj_map _ h,Go.ChangeMaps.setBlock]
theorem rangeL_run {w:World}{g:Nat}{L:List MpE}{clock:Nat}(h:w.heap[g]? =some (.map (L.map MpE.ent).toArray clock)):(Instr.range TMp (.map (some g))).run Tryz.prog w= .ok (.pointer (some ⟨w.heap.size,0,none⟩)) (w.alloc (.mapIter (some g) clock #[] clock)):=by
 simp [Instr.range,run_underlying Tryz.underlying75,Result.andThen,MapKept.run_getObj_map h]
structure OkL (L:List MpE)(clock:Nat):Prop where
 nd:L.Pairwise fun a b=>¬(a.k=b.k∧a.s=b.s)
 bn:L.Pairwise fun a b=>a.born≠b.born
 lt:∀e∈L,e.born<clock
structure IsM (w:World)(base g:Nat)(L:List MpE)(clock:Nat):Prop where
 h:w.heap[g]? =some (.map (L.map MpE.ent).toArray clock)
 ok:OkL L clock
 own:∀e∈L,OwnI w base e.sv e.b.row.of
def IsB (w:World)(base g:Nat)(B:Bds):Prop:=∃L clock,IsM w base g L clock∧∀k s,(getL L k s).map MpE.b=bGet B k s
theorem IsM.kt {w w':World}{base g:Nat}{L:List MpE}{clock:Nat}(h:IsM w base g L clock)(k:KT P w w'):IsM w' base g L clock:=
 ⟨k.same _ _ h.h (.inl (by rintro⟨A,e,f,h1,_⟩;cases h1)),h.ok,fun e he=>k.ints (h.own e he)⟩
theorem IsB.kt {w w':World}{base g:Nat}{B:Bds}(h:IsB w base g B)(k:KT P w w'):IsB w' base g B:=by
 obtain⟨L,c,h1,h2⟩:=h;exact⟨L,c,h1.kt k,h2⟩
theorem getL_mem {L:List MpE}{k s:Int}{e:MpE}(h:getL L k s=some e):e∈L∧e.k=k∧e.s=s:=by
 have h1:=List.find?_some h;have h2:=List.mem_of_find?_eq_some h;have h3:=of_decide_eq_true h1;exact⟨h2,h3⟩
theorem getL_none {L:List MpE}{k s:Int}(h:∀e∈L,¬(e.k=k∧e.s=s)):getL L k s=none:=List.find?_eq_none.2 fun e he=>by simpa using h e he
theorem getL_app {L M:List MpE}{k s:Int}:getL (L++M) k s=(getL L k s).or (getL M k s):=by unfold getL;rw [List.find?_append]
theorem getL_of {L:List MpE}{clock:Nat}(ok:OkL L clock){e:MpE}(he:e∈L):getL L e.k e.s=some e:=by
 rcases hg:getL L e.k e.s with _ | x
 ·have:=List.find?_eq_none.1 hg e he
  simp at this
 ·obtain ⟨h1,h2,h3⟩:=getL_mem hg
  by_cases h4:x=e
  ·rw [h4]
  ·exfalso
   obtain⟨i,hi,rfl⟩:=List.getElem_of_mem h1;obtain⟨j,hj,rfl⟩:=List.getElem_of_mem he
   rcases Nat.lt_trichotomy i j with h | h | h
   ·exact List.pairwise_iff_getElem.1 ok.nd i j hi hj h ⟨h2,h3⟩
   ·subst h;exact h4 rfl
   ·exact List.pairwise_iff_getElem.1 ok.nd j i hj hi h ⟨h2.symm,h3.symm⟩
section
variable (w:World) {ops:Array Oper} {rest:List Oper} {o:Oper} {a:Act} {Q:Exit→Act→World→Prop}
theorem wpList_lookL (hg:o.guard=none)(m x:Operand)(hop:o.op=Op.lookup TMp m x true)(g:Nat)(L:List MpE)(clock:Nat)(k s:Int)(v:Value)(hm:a.eval m= .map (some g))(hx:a.eval x=keyV k s)(h:w.heap[g]? =some (.map (L.map MpE.ent).toArray clock))(hv:lookV L k s=v)
  (hK:wpList Tryz.prog ops Q rest (a.put o.dst v) w):wpList Tryz.prog ops Q (o::rest) a w:=by
 subst hv;refine wpList_plain hg fun K' hK'=> ?_
 unfold Oper.wp;simp [execOp,hop,hm,hx,lookL_run h,Result.andThen];exact hK' _ _ hK
theorem wpList_putL (hg:o.guard=none)(m x v:Operand)(hop:o.op=Op.mapUpdate TMp m x v∨o.op=Op.insert TMp m x v)(g:Nat)(L:List MpE)(clock:Nat)(k s:Int)(sv:Value)(b:CB)(hm:a.eval m= .map (some g))(hx:a.eval x=keyV k s)(hv:a.eval v=bdV sv b)(h:w.heap[g]? =some (.map (L.map MpE.ent).toArray clock))(hn:getL L k s=none)
  (hK:wpList Tryz.prog ops Q rest (a.put o.dst undef) (Go.ChangeMaps.setBlock w g (.map ((L++ [(⟨k,s,sv,b,clock⟩:MpE)]).map MpE.ent).toArray (clock+1)))):wpList Tryz.prog ops Q (o::rest) a w:=by
 refine wpList_plain hg fun K' hK'=> ?_
 unfold Oper.wp
 rcases hop with hop | hop
 ·simp [execOp,hop,hm,hx,hv,putL_run h k s sv b hn,Result.andThen]
  exact hK' _ _ (by simpa using hK)
 ·simp [execOp,hop,hm,hx,hv,putL_run h k s sv b hn,Result.andThen]
  exact hK' _ _ (by simpa using hK)
theorem wpList_rangeL (hg:o.guard=none)(m:Operand)(hop:o.op=Op.range TMp m)(g:Nat)(L:List MpE)(clock:Nat)(hm:a.eval m= .map (some g))(h:w.heap[g]? =some (.map (L.map MpE.ent).toArray clock))
  (hK:wpList Tryz.prog ops Q rest (a.put o.dst (.pointer (some ⟨w.heap.size,0,none⟩))) (w.alloc (.mapIter (some g) clock #[] clock))):wpList Tryz.prog ops Q (o::rest) a w:=by
 refine wpList_plain hg fun K' hK'=> ?_
 unfold Oper.wp;simp [execOp,hop,hm,rangeL_run h,Result.andThen];exact hK' _ _ hK
theorem wpList_nextR (hg:o.guard=none)(it:Operand)(hop:o.op=Op.next it false)(r:Nat)(hit:a.eval it= .pointer (some ⟨r,0,none⟩)){v:Value}{w':World}(hrun:(Instr.next (.pointer (some ⟨r,0,none⟩)) false o.type).run Tryz.prog w= .ok v w')(hK:wpList Tryz.prog ops Q rest (a.put o.dst v) w'):wpList Tryz.prog ops Q (o::rest) a w:=by
 refine wpList_plain hg fun K' hK'=> ?_
 unfold Oper.wp;simp [execOp,hop,hit,hrun,Result.andThen];exact hK' _ _ hK
end
variable {P:Nat→Prop}
theorem made_ints (n:Nat):(madeCells (Value.int .i64 0).cells (n*1)).toList=List.replicate n (Value.int .i64 0):=by
 apply List.ext_getElem?
 intro i
 by_cases hi:i<n
 ·have hm:i%1=0:=Nat.mod_one i
  simp [madeCells,Value.cells,hi,hm]
 ·rw [List.getElem?_eq_none (by simp [madeCells];omega),List.getElem?_eq_none (by simp;omega)]
theorem make_ints (w:World)(n:Nat)(hn:n≤1000000):∃w',(Instr.makeSlice 38 (.int .i64 (n:Int)) (.int .i64 (n:Int))).run Tryz.prog w= .ok (.slice (some ⟨w.heap.size,0,none⟩) n n) w'∧OwnI w' w.heap.size (.slice (some ⟨w.heap.size,0,none⟩) n n) (List.replicate n 0)∧Keep NoS w w':=by
 obtain⟨i0,hi0,hz0,hz1,hz2⟩:=info_parts infoI;obtain⟨w',hr,ho,hg⟩:=run_make_full (P:=Tryz.prog) w w.heap.size 38 TI i0 (.int .i64 0) 1 Tryz.underlying38 hi0 hz0 hz1 .i64 .i64 n (by rw [hz2];omega) (by unfold maxLen;omega) (Nat.le_refl _)
 refine⟨w',hr,?_,Keep.of_below (grown_keep hg w.heap.size (Nat.le_refl _) (by simp)) (Nat.le_refl _)⟩
 unfold OwnI;rw [List.length_replicate];have e:iv (List.replicate n 0)=List.replicate n (Value.int .i64 0):=by simp [iv]
 rw [e,←made_ints];exact ho
theorem own_atC {w:World}{base:Nat}{e:TypeId}{size:Nat}{v:Value}{n:Nat}{xs:List Value}(h:w.ownsRow base e size v n xs){b:Nat}(hb:v.ownBlock=some b):∃A,w.heap[b]? =some (.cells A e (0,0)):=by
 obtain⟨hl,h | ⟨g,cap,cur,hv,hbb,hg,hl',hm,hs,ht⟩⟩:=h
 ·rw [h.1]at hb;cases hb
 ·rw [hv]at hb
  cases hb
  exact⟨_,hg⟩
theorem OwnI.set {w:World}{base b c:Nat}{xs:List Int}(h:OwnI w base (.slice (some ⟨b,0,none⟩) xs.length c) xs){i:Nat}(hi:i<xs.length)(x:Int):OwnI (w.setCell ⟨b,i,none⟩ (.int .i64 x)) base (.slice (some ⟨b,0,none⟩) xs.length c) (xs.set i x):=by
 obtain⟨hl,h | ⟨g,cap,cur,hv,hb,hg,hl',hm,hs,ht⟩⟩:=h
 ·cases h.1
 ·cases hv
  refine⟨?_,.inr ⟨b,c,cur.setIfInBounds i (.int .i64 x),by rw [List.length_set],hb,heap_setCell_same _ _ hg,by rw [List.length_set];exact hl',hm,by rw [Array.size_setIfInBounds];exact hs,?_⟩⟩
  ·simp [iv]
  ·rw [Array.toList_setIfInBounds,List.take_set,List.length_set,ht]
   simp [iv,List.map_set]
theorem limit_any (w:World)(k:Nat)(sg tt:Int)(hk:k≤12):Calls Tryz.prog 92 #[.int .i64 (k:Int),.int .i64 sg,.int .i64 tt] w fun e w'=>∃b,e= .returned (.agg #[.slice (some ⟨b,0,none⟩) (k+1) (k+1),.int .i64 1,.int .i64 tt])∧OwnI w' w.heap.size (.slice (some ⟨b,0,none⟩) (k+1) (k+1)) (limitR k sg tt).of∧Keep NoS w w':=by
 obtain⟨w1,hr1,ho1,hk1⟩:=make_ints (w.alloc (.cells #[.slice none 0 0,.int .i64 0,.int .i64 0] 40)) (k+1) (by omega)
 have hsz:(w.alloc (.cells #[.slice none 0 0,.int .i64 0,.int .i64 0] 40)).heap.size=w.heap.size+1:=by simp
 rw [hsz]at hr1 ho1;rw [show((k+1:Nat):Int)=(k:Int)+1 by omega]at hr1
 have HO:=zh ho1;have KA:Hid (Keep NoS w w1):=zh (((Keep.refl _ _).alloc _).both hk1);have HB:Hid (Blk w1 w.heap.size #[.slice none 0 0,.int .i64 0,.int .i64 0]):=zh ((blk_at _ _ rfl).keep hk1);obtain⟨A,hA⟩:=own_atC ho1 (b:=w.heap.size+1) rfl;have l1:=lt_of_heap hA;have f1:w1.frozen? ⟨w.heap.size+1,k,none⟩=false:=Blk.free (A:=A) ⟨_,hA⟩ k;have c1:w1.cell? ⟨w.heap.size+1,k,none⟩=some (.int .i64 0):=by
  obtain⟨b,o,cap,hv,_,hc⟩:=(IsInts.at (k:=k) (OwnI.ints (xs:=List.replicate (k+1) 0) (by simpa using ho1) (by intro x hx;rw [List.eq_of_mem_replicate hx];unfold I64;omega)) (by simp))
  injection hv with q1 _ _
  cases q1
  simpa using hc
 obtain⟨p0,p1,p2,q0,q1,q2,pl⟩:=HB.out.three;clear ho1 hk1 hA hsz;go_enter Tryz.func92,Tryz.ntmps92;go_wp2;refine bodyPost_ret (by simp [results,Tryz.results92,go_sem,p0,p1,p2];rfl) rfl ?_
 have h1:=HO.out;have e2:(List.replicate (k+1) (0:Int)).set k sg=(limitR k sg tt).of:=by
  unfold limitR;rw [List.replicate_succ',List.set_append_right _ _ (by simp)]
  simp
 have h2:=OwnI.set (xs:=List.replicate (k+1) 0) (c:=k+1) (by simpa using h1) (i:=k) (by simp) sg
 rw [e2,List.length_replicate]at h2;have hne:(Value.slice (some ⟨w.heap.size+1,0,none⟩) (k+1) (k+1)).ownBlock≠some w.heap.size:=fun h=>by
  have:w.heap.size+1=w.heap.size:=Option.some.inj h;omega
 refine⟨w.heap.size+1,rfl,World.ownsRow_mono (World.ownsRow_other (World.ownsRow_other (World.ownsRow_other h2 hne) hne) hne) (Nat.le_succ _),?_⟩;exact keep_at (keep_at (keep_at (keep_at KA.out _ (Nat.le_succ _)) _ (Nat.le_refl _)) _ (Nat.le_refl _)) _ (Nat.le_refl _)
def IsBools (w:World)(v:Value)(l:List Bool):Prop:=
 ∃oa cap,v= .slice oa l.length cap∧l.length≤cap∧cap≤maxLen∧(l≠ []→∃b o,oa=some ⟨b,o,none⟩∧b<w.heap.size∧∀i x,l[i]? =some x→w.cell? ⟨b,o+i,none⟩=some (.bool x))
theorem IsBools.keep {w w':World}{v:Value}{l:List Bool}(h:IsBools w v l)(k:Keep NoS w w'):IsBools w' v l:=by
 obtain⟨oa,cap,h1,h2,h3,h4⟩:=h;refine⟨oa,cap,h1,h2,h3,fun hne=> ?_⟩
 obtain⟨b,o,e,hb,hc⟩:=h4 hne;exact⟨b,o,e,Nat.lt_of_lt_of_le hb k.size,fun i x hx=>(k.cell hb).trans (hc i x hx)⟩
theorem IsBools.len {w:World}{v:Value}{l:List Bool}(h:IsBools w v l):∃oa cap,v= .slice oa l.length cap∧l.length≤cap∧cap≤maxLen:=by
 obtain⟨oa,cap,h1,h2,h3,_⟩:=h;exact⟨oa,cap,h1,h2,h3⟩
theorem IsBools.at {w:World}{oa:Option Addr}{n cap:Nat}{l:List Bool}(h:IsBools w (.slice oa n cap) l){k:Nat}(hk:k<l.length):∃b o,oa=some ⟨b,o,none⟩∧b<w.heap.size∧w.cell? ⟨b,o+k,none⟩=some (.bool l[k]):=by
 obtain⟨oa',cap',hv,_,_,h4⟩:=h
 cases hv
 obtain⟨b,o,e,hb,hc⟩:=h4 (by rintro rfl;simp at hk)
 exact⟨b,o,e,hb,hc k _ (List.getElem?_eq_getElem hk)⟩
def opP (ints:List Bool)(pt:List Rat)(i:Nat):Bool:=ints.getD i false&& !decide ((pt.getD i 0).den=1)
theorem open_found {ints:List Bool}{pt:List Rat}{k:Nat}(hk:k<ints.length)(h1:opP ints pt k=true)(h2:∀j,j<k→opP ints pt j=false):openK ints pt=some k:=by
 unfold openK;rw [List.find?_range_eq_some];exact⟨h1,List.mem_range.2 hk,fun j hj=>by have:=h2 j hj;unfold opP at this;rw [this];rfl⟩
theorem open_none {ints:List Bool}{pt:List Rat}(h2:∀j,j<ints.length→opP ints pt j=false):openK ints pt=none:=by
 unfold openK;rw [List.find?_range_eq_none];exact fun j hj=>by have:=h2 j hj;unfold opP at this;rw [this];rfl
def openZ (ints:List Bool)(pt:List Rat):Int:=match openK ints pt with | none=> -1 | some k=>k
theorem open_any (w:World)(bS:Nat)(a0 a2 a3 a4 a5 a6 vi:Value)(ints:List Bool)(v:Value)(pt:List Rat)(hb:Blk w bS #[a0,vi,a2,a3,a4,a5,a6])(hi:IsBools w vi ints)(h:IsNums w v pt)(hn:∀q∈pt,NB 1000 q)(hl:pt.length=ints.length):
  Calls Tryz.prog 61 #[.pointer (some ⟨bS,0,none⟩),v] w fun e w'=>e= .returned (.int .i64 (openZ ints pt))∧Keep NoS w w':=by
 have HI:=zh hi;have HP:=zh h;have HN:=zh hn;have HL:=zh hl;obtain⟨oi,ci,rfl,_,hmi⟩:=hi.len;obtain⟨op,cp,rfl,_,hmp⟩:=h.len;unfold maxLen at hmi hmp;have t1:=hb.cell 1;have lS:=hb.lt;simp only [zl0,zl2,zl1]at t1;rw [hl];clear h hi hn hl hb;go_enter Tryz.func61,Tryz.ntmps61;go_wp2;go_loopw [12] (fun s wr=>∃k:Nat,k≤ints.length∧s= .int .i64 k∧Keep NoS w wr∧∀j,j<k→opP ints pt j=false) (fun s _=>(ints.length-intOf s).toNat)
 case atStart=>exact⟨0,by omega,rfl,kp,fun j h=>absurd h (by omega)⟩
 case round=>
  obtain⟨k,hk,rfl,hkr,hno⟩:=hrel;have KR:=zh hkr;have HNO:=zh hno;clear hkr hno
  by_cases hkl:k<ints.length
  case neg=>
   have hlt:¬(k:Int)<(ints.length:Int):=by omega
   have HF:Hid (openZ ints pt= -1):=zh (by unfold openZ;rw [open_none fun j hj=>HNO.out j (by omega)])
   clear HNO;go_wp2;refine bodyPost_ret (by simp [results,Tryz.results61,go_sem];rfl) rfl ?_
   exact⟨by rw [HF.out],KR.out⟩
  case pos=>
   have hlt:(k:Int)<(ints.length:Int):=by omega
   obtain⟨b,o,rfl,hbl,q0⟩:=(HI.out.keep KR.out).at hkl;have hkp:k<pt.length:=by rw [HL.out];exact hkl
   have HFD:Hid (opP ints pt k=true→openZ ints pt=k):=zh fun h=>by unfold openZ;rw [open_found hkl h HNO.out]
   have HNX:Hid (opP ints pt k=false→∀j,j<k+1→opP ints pt j=false):=zh fun h j hj=>by
    by_cases hjk:j=k
    ·rw [hjk];exact h
    ·exact HNO.out j (by omega)
   have HO:Hid (opP ints pt k=(ints[k]&& !decide (pt[k].den=1))):=zh (by
    unfold opP;rw [List.getD_eq_getElem?_getD,List.getD_eq_getElem?_getD,List.getElem?_eq_getElem hkl,List.getElem?_eq_getElem hkp];rfl)
   obtain⟨b',o',hop,hb',xb,xS,xc,xU,p0,p1,p2,p3,hx⟩:=(HP.out.keep KR.out).at hkp;subst hop;have CW:=fun w=>zh (exWhole_any w _ _ hx (HN.out _ (List.getElem_mem hkp)))
   clear HNO hx;generalize ints[k]=is at *;generalize pt[k]=q at*
   cases is
   case false=>
    have HNX:=zh (HNX.out (by rw [HO.out];rfl))
    clear HFD HO CW;go_wp2;go_roundw
    case rel=>exact⟨k+1,by omega,by go_num,KR.out,HNX.out⟩
    case measure=>simp [intOf];omega
   case true=>
    by_cases hd:q.den=1
    ·have HNX:=zh (HNX.out (by rw [HO.out,decide_eq_true hd];rfl))
     rw [decide_eq_true hd]at CW;clear HFD HO hd;go_wp2_with fail;refine(CW _).out.mono ?_;rintro e w4 ⟨rfl,hk4⟩;have k4:Keep NoS wr w4:=Keep.trans kp hk4 fun _ _ _ h=>h
     have K4:=zh (KR.out.both k4);clear hk4 k4 CW p0 p1 p2 p3 q0;go_wp2;go_roundw
     case rel=>exact⟨k+1,by omega,by go_num,K4.out,HNX.out⟩
     case measure=>simp [intOf];omega
    ·have HF:=zh (HFD.out (by rw [HO.out,decide_eq_false hd];rfl))
     rw [decide_eq_false hd]at CW;clear HNX HO hd;go_wp2_with fail;refine(CW _).out.mono ?_;rintro e w4 ⟨rfl,hk4⟩;have k4:Keep NoS wr w4:=Keep.trans kp hk4 fun _ _ _ h=>h
     have K4:=zh (KR.out.both k4);clear hk4 k4 CW p0 p1 p2 p3 q0;go_wp2;refine bodyPost_ret (by simp [results,Tryz.results61,go_sem];rfl) rfl ?_
     exact⟨by rw [HF.out],K4.out⟩
theorem slIndex_any (w:World)(v:Value)(l:List Int)(x:Int)(h:IsInts w v l):Calls Tryz.prog 126 #[v,.int .i64 x] w fun e w'=>(∃z,e= .returned (.int .i64 z)∧(0≤z↔x∈l))∧Keep NoS w w':=by
 have HX:=zh h;obtain⟨oa,ca,rfl,hml⟩:=h.len;unfold maxLen at hml;clear h;go_enter Tryz.func126,Tryz.ntmps126;go_wp2;go_loopw [8] (fun s wr=>∃k:Nat,k≤l.length∧s= .int .i64 k∧Keep NoS w wr∧x∉l.take k) (fun s _=>(l.length-intOf s).toNat)
 case atStart=>exact⟨0,by omega,rfl,kp,by simp⟩
 case round=>
  obtain⟨k,hk,rfl,hkr,hnot⟩:=hrel;have KR:=zh hkr;have HN:=zh hnot;clear hkr hnot
  by_cases hkl:k<l.length
  case neg=>
   have hlt:¬(k:Int)<(l.length:Int):=by omega
   have HNM:Hid (x∉l):=zh (by have:=HN.out;rwa [List.take_of_length_le (by omega)]at this)
   clear HN;go_wp2;refine bodyPost_ret (by simp [results,Tryz.results126,go_sem];rfl) rfl ?_
   exact⟨⟨-1,rfl,⟨fun h=>absurd h (by omega),fun h=>absurd h HNM.out⟩⟩,KR.out⟩
  case pos=>
   have hlt:(k:Int)<(l.length:Int):=by omega
   obtain⟨b,o,cap,hv,hb,p0⟩:=HX.out.at hkl
   injection hv with q1 q2 q3
   clear q2;subst q1;subst q3;have p0:=(KR.out.cell hb).trans p0;have hbr:=Nat.lt_of_lt_of_le hb KR.out.size;have HM:Hid (l[k]∈l):=zh (List.getElem_mem hkl);have HS:Hid (x≠l[k]→x∉l.take (k+1)):=zh (fun hne=>by
    rw [List.take_succ_eq_append_getElem hkl,List.mem_append];rintro(h | h)
    ·exact HN.out h
    ·exact hne (by simpa using h))
   generalize l[k]=y at *;clear HN
   by_cases hxy:x=y
   case pos=>
    subst hxy;go_wp2;refine bodyPost_ret (by simp [results,Tryz.results126,go_sem];rfl) rfl ?_
    exact⟨⟨k,rfl,⟨fun _=>HM.out,fun _=>by omega⟩⟩,KR.out⟩
   case neg=>
    have e1:(x==y)=false:=by rw [beq_eq_false_iff_ne];exact hxy
    have HS:=zh (HS.out hxy);clear hxy HM;go_wp2;go_roundw
    case rel=>exact⟨k+1,by omega,by go_num,KR.out,HS.out⟩
    case measure=>simp [intOf];omega
theorem slContains_any (w:World)(v:Value)(l:List Int)(x:Int)(h:IsInts w v l):Calls Tryz.prog 95 #[v,.int .i64 x] w fun e w'=>e= .returned (.bool (decide (x∈l)))∧Keep NoS w w':=by
 have CI:=fun w' (k:Keep NoS w w')=>zh (slIndex_any w' v l x (h.keep k))
 obtain⟨oa,ca,rfl,_⟩:=h.len;clear h;go_enter Tryz.func95,Tryz.ntmps95;go_wp2_with fail;refine(CI _ kp).out.mono ?_;rintro e w1 ⟨⟨z,rfl,hz⟩,hk⟩;have K1:Hid (Keep NoS w w1):=zh (Keep.both kp hk);clear hk CI;have HE:Hid (decide (0≤z)=decide (x∈l)):=zh (decide_eq_decide.2 hz);clear hz;go_wp2;refine bodyPost_ret (by simp [results,Tryz.results95,go_sem];rfl) rfl ?_
 exact⟨by rw [← HE.out],K1.out⟩
theorem slEqual_any (w:World)(v u:Value)(l m:List Int)(h:IsInts w v l)(h':IsInts w u m):Calls Tryz.prog 125 #[v,u] w fun e w'=>e= .returned (.bool (decide (l=m)))∧Keep NoS w w':=by
 have HX:=zh h;have HY:=zh h';obtain⟨oa,ca,rfl,hml⟩:=h.len;obtain⟨ob,cb,rfl,_⟩:=h'.len;unfold maxLen at hml;obtain⟨n,hn⟩:∃n,l.length=n:=⟨_,rfl⟩;obtain⟨n',hn'⟩:∃n,m.length=n:=⟨_,rfl⟩;have HN:=zh hn;have HN':=zh hn';rw [hn]at HX hml ⊢;rw [hn']at HY ⊢;clear h h' hn hn'
 by_cases hln:n=n'
 case neg=>
  have e1:((n:Int) != (n':Int))=true:=by rw [bne_iff_ne];omega
  have HF:Hid (decide (l=m)=false):=zh (decide_eq_false fun e=>hln (by rw [← HN.out,←HN'.out,e]))
  rw [HF.out];clear hln HX HY;go_enter Tryz.func125,Tryz.ntmps125;go_wp2;go_ret;exact⟨rfl,kp⟩
 case pos=>
  subst hln;go_enter Tryz.func125,Tryz.ntmps125;go_wp2;go_loopw [13] (fun s wr=>∃k:Nat,k≤n∧s= .int .i64 k∧Keep NoS w wr∧l.take k=m.take k) (fun s _=>(n-intOf s).toNat)
  case atStart=>exact⟨0,by omega,rfl,kp,rfl⟩
  case round=>
   obtain⟨k,hk,rfl,hkr,htk⟩:=hrel;have KR:=zh hkr;have HT:=zh htk;clear hkr htk
   by_cases hkl:k<n
   case neg=>
    have hlt:¬(k:Int)<(n:Int):=by omega
    have HF:Hid (decide (l=m)=true):=zh (decide_eq_true (by
     have:=HT.out
     rwa [List.take_of_length_le (by rw [HN.out];omega),List.take_of_length_le (by rw [HN'.out];omega)]at this))
    go_wp2;refine bodyPost_ret (by simp [results,Tryz.results125,go_sem];rfl) rfl ?_
    exact⟨by rw [HF.out],KR.out⟩
   case pos=>
    have hlt:(k:Int)<(n:Int):=by omega
    have hkx:k<l.length:=by rw [HN.out];exact hkl
    have hky:k<m.length:=by rw [HN'.out];exact hkl
    obtain⟨b,o,cap,hv,hb,p0⟩:=HX.out.at hkx
    injection hv with q1 q2 q3
    clear q2;subst q1;subst q3;obtain⟨b',o',cap',hv,hb',p1⟩:=HY.out.at hky
    injection hv with q1 q2 q3
    clear q2;subst q1;subst q3;have p0:=(KR.out.cell hb).trans p0;have p1:=(KR.out.cell hb').trans p1;have hbr:=Nat.lt_of_lt_of_le hb KR.out.size;have hbr':=Nat.lt_of_lt_of_le hb' KR.out.size;have HNE:Hid (l[k]≠m[k]→decide (l=m)=false):=zh fun hne=>decide_eq_false (by rintro rfl;exact hne rfl)
    have HEQ:Hid (l[k]=m[k]→l.take (k+1)=m.take (k+1)):=zh fun he=>by
     rw [List.take_succ_eq_append_getElem hkx,List.take_succ_eq_append_getElem hky,HT.out,he]
    generalize l[k]=x at *;generalize m[k]=y at *;clear hkx hky
    by_cases hxy:x=y
    case pos=>
     subst hxy;have HEQ:=zh (HEQ.out (by simp))
     have e1:(x != x)=false:=by simp
     clear HNE;go_wp2;go_quiet (fail);go_wp2;go_roundw
     case rel=>exact⟨k+1,by omega,by go_num,KR.out.drewN _,by have:=HEQ.out;simpa using this⟩
     case measure=>simp [intOf];omega
    case neg=>
     have e1:(x != y)=true:=by rw [bne_iff_ne];exact hxy
     have HF:=zh (HNE.out hxy);clear HNE HEQ hxy;go_wp2;go_quiet (fail);go_wp2;refine bodyPost_ret (by simp [results,Tryz.results125,go_sem];rfl) rfl ?_
     exact⟨by rw [HF.out],KR.out.drewN _⟩
theorem nil_eqI (w:World)(n c:Nat):Sem.run Tryz.prog (binOp BinOp.eql 38 (Value.slice none n c) (Value.slice none 0 0)) w= .ok (.bool true) w:=rfl
theorem some_eqI (w:World)(a:Addr)(n c:Nat):Sem.run Tryz.prog (binOp BinOp.eql 38 (Value.slice (some a) n c) (Value.slice none 0 0)) w= .ok (.bool false) w:=rfl
theorem nil_eqR (w:World)(n c:Nat):Sem.run Tryz.prog (binOp BinOp.eql 22 (Value.slice none n c) (Value.slice none 0 0)) w= .ok (.bool true) w:=rfl
theorem some_eqR (w:World)(a:Addr)(n c:Nat):Sem.run Tryz.prog (binOp BinOp.eql 22 (Value.slice (some a) n c) (Value.slice none 0 0)) w= .ok (.bool false) w:=rfl
theorem own_none {w:World}{e:TypeId}{size:Nat}:(w.alloc (.cells #[] e)).ownsRow w.heap.size e size (.slice (some ⟨w.heap.size,0,none⟩) 0 0) 0 []:=⟨by simp,.inr ⟨w.heap.size,0,#[],rfl,Nat.le_refl _,heap_alloc_at _ _ _ rfl,Nat.le_refl _,by unfold maxLen;omega,by simp,by simp⟩⟩
theorem slClone_any (w:World)(v:Value)(l:List Int)(h:IsInts w v l)(hl:l.length≤900000):Calls Tryz.prog 57 #[v] w fun e w'=>∃u,e= .returned u∧OwnI w' w.heap.size u l∧Keep NoS w w':=by
 obtain⟨oa,ca,rfl,hml⟩:=h.len
 rcases oa with _ | a
 ·have hl0:l= []:=by
   obtain⟨oa,cap,h1,_,_,h4⟩:=h;refine Classical.byContradiction fun hne=> ?_
   obtain⟨b,o,e,_⟩:=h4 hne
   cases h1
   cases e
  subst hl0;have hnil:=fun w=>nil_eqI w 0 ca
  clear h;go_enter Tryz.func57,Tryz.ntmps57;go_wp2;refine bodyPost_ret (by simp [results,Tryz.results57,go_sem];rfl) rfl ?_
  exact⟨_,rfl,OwnI.nil _ _,kp⟩
 ·have hnil:=fun w=>some_eqI w a l.length ca
  have k1:Keep NoS w (w.alloc (.cells #[] TI)):=(Keep.refl _ _).alloc _;obtain⟨v2,w2,hr2,ho2,hg2⟩:=app_ints (base:=w.heap.size) (show OwnI (w.alloc (.cells #[] TI)) w.heap.size (.slice (some ⟨w.heap.size,0,none⟩) 0 0) []from own_none) (h.keep k1) (by simp;omega) k1.size
  have K2:=zh (k1.grown hg2 fun k hk=>by cases hk;exact Nat.le_refl _)
  have HO:=zh ho2;obtain⟨o2,c2,hv2⟩:=ho2.len;subst hv2;clear h ho2 hg2 k1;go_enter Tryz.func57,Tryz.ntmps57;go_wp2_with (at_builtin;refine wpList_app_run _ _ 38 _ _ rfl rfl rfl rfl hr2 ?_);refine bodyPost_ret (by simp [results,Tryz.results57,go_sem];rfl) rfl ?_
  exact⟨_,rfl,by simpa using HO.out,K2.out⟩
theorem slCloneR_any (w:World)(v:Value)(l:List Rw)(h:IsRows w v l)(hl:l.length≤1000):Calls Tryz.prog 59 #[v] w fun e w'=>∃u,e= .returned u∧OwnR w w' w.heap.size u l∧Keep NoS w w':=by
 obtain⟨oa,ca,rfl,hml,hcm⟩:=h.len
 rcases oa with _ | a
 ·have hl0:l= []:=by
   obtain⟨oa,cap,h1,_,_,h4⟩:=h;refine Classical.byContradiction fun hne=> ?_
   obtain⟨b,o,e,_⟩:=h4 hne
   cases h1
   cases e
  subst hl0;have hnil:=fun w=>nil_eqR w 0 ca
  clear h;go_enter Tryz.func59,Tryz.ntmps59;go_wp2;refine bodyPost_ret (by simp [results,Tryz.results59,go_sem];rfl) rfl ?_
  exact⟨_,rfl,OwnR.nil _ _ _,kp⟩
 ·have hnil:=fun w=>some_eqR w a l.length ca
  have k1:Keep NoS w (w.alloc (.cells #[] TRw)):=(Keep.refl _ _).alloc _;obtain⟨v2,w2,hr2,ho2,hg2⟩:=app_rows (w0:=w) (base:=w.heap.size) (show OwnR w (w.alloc (.cells #[] TRw)) w.heap.size (.slice (some ⟨w.heap.size,0,none⟩) 0 0) []from⟨[],rfl,by simp,own_none⟩) h k1 (by simp;omega) k1.size
  have K2:=zh (k1.grown hg2 fun k hk=>by cases hk;exact Nat.le_refl _)
  have HO:=zh ho2;obtain⟨o2,c2,hv2,_⟩:=ho2.len;subst hv2;clear h ho2 hg2 k1;go_enter Tryz.func59,Tryz.ntmps59;go_wp2_with (at_builtin;refine wpList_app_run _ _ 22 _ _ rfl rfl rfl rfl hr2 ?_);refine bodyPost_ret (by simp [results,Tryz.results59,go_sem];rfl) rfl ?_
  exact⟨_,rfl,by simpa using HO.out,K2.out⟩
open Go.ChangeMaps (setBlock)
theorem setB_same {w:World}{b:Nat}{o o':Obj}(h:w.heap[b]? =some o):(setBlock w b o').heap[b]? =some o':=(Go.MapKept.heap_set h).1
theorem setB_other {w:World}{b c:Nat}{o o':Obj}(h:w.heap[b]? =some o)(hc:c≠b):(setBlock w b o').heap[c]? =w.heap[c]? :=(Go.MapKept.heap_set h).2 c hc
theorem setB_grown {w:World}{b:Nat}{o o':Obj}(h:w.heap[b]? =some o):w.grownBy (setBlock w b o') (some b):=⟨rfl,rfl,rfl,by simp [setBlock],fun i _ hi=>setB_other h fun e=>hi (by rw [e])⟩
theorem keep_setB {w w1:World}{b:Nat}{o o':Obj}(k:Keep NoS w w1)(h:w1.heap[b]? =some o)(hb:w.heap.size≤b):Keep NoS w (setBlock w1 b o'):=k.grown (setB_grown h) fun c hc=>by cases hc;exact hb
theorem blk4C {w:World}{k:Nat}{x y z u:Value}(h:Blk w k #[x,y,z,u]):w.cell? ⟨k,0,none⟩=some x∧w.cell? ⟨k,1,none⟩=some y∧w.cell? ⟨k,2,none⟩=some z∧w.cell? ⟨k,3,none⟩=some u∧w.frozen? ⟨k,0,none⟩=false∧w.frozen? ⟨k,1,none⟩=false∧w.frozen? ⟨k,2,none⟩=false∧w.frozen? ⟨k,3,none⟩=false∧k<w.heap.size:=
 ⟨h.cell 0,h.cell 1,h.cell 2,h.cell 3,h.free 0,h.free 1,h.free 2,h.free 3,h.lt⟩
theorem OwnI.setB {w:World}{base r:Nat}{v:Value}{l:List Int}{o o':Obj}(h:OwnI w base v l)(hr:w.heap[r]? =some o)(ho:∀A e f,o≠ .cells A e f):OwnI (setBlock w r o') base v l:=by
 obtain⟨hl,h | ⟨g,cap,cur,hv,hb,hg,hl',hm,hs,ht⟩⟩:=h
 ·exact ⟨hl,.inl h⟩
 ·refine ⟨hl,.inr ⟨g,cap,cur,hv,hb,(setB_other hr fun e=> ?_).trans hg,hl',hm,hs,ht⟩⟩
  subst e;rw [hr]at hg
  cases hg
  exact ho _ _ _ rfl
theorem left_all {es:Array MapEntry}{seen:Array Nat}(h:(leftOf es seen).size=0){e:MapEntry}(he:e∈es):seen.contains e.born=true:=by
 have h1:leftOf es seen= #[]:=Array.eq_empty_of_size_eq_zero h;unfold leftOf at h1;rw [Array.filter_eq_empty_iff]at h1;have:=h1 e he
 simpa using this
theorem eqK10 (w:World)(a b c d:Int):(Op.equalIn 10000 TKy (.agg #[.int .i64 a,.int .i64 b]) (.agg #[.int .i64 c,.int .i64 d])).run Tryz.prog w= .ok (decide (a=c∧b=d)) w:=eqK w a b c d
theorem alloc2 {w:World}{a b:Obj}{g:Nat}{o:Obj}(h:w.heap[g]? =some o):((w.alloc a).alloc b).heap[g]? =some o:=((((Keep.refl NoS w).alloc a).alloc b).block g (lt_of_heap h) fun _ h=>h).trans h
def WithP (L M:List MpE)(k s:Int)(b:CB)(seen:Array Nat):Prop:=∀k' s',(getL M k' s').map MpE.b=if k=k'∧s=s' then some b else((getL L k' s').filter fun e=>seen.contains e.born).map MpE.b
theorem contains_pushN (a:Array Nat)(x y:Nat):(a.push x).contains y=(a.contains y || y==x):=by
 rw [Bool.eq_iff_iff];simp [Array.contains_iff_mem,Array.mem_push]
theorem getL_key {L:List MpE}{clock:Nat}(ok:OkL L clock){e x:MpE}(he:e∈L){k s:Int}(hx:getL L k s=some x)(hb:x.born=e.born):k=e.k∧s=e.s:=by
 obtain⟨h1,h2,h3⟩:=getL_mem hx;have:x=e:=by
  obtain⟨i,hi,rfl⟩:=List.getElem_of_mem h1;obtain⟨j,hj,rfl⟩:=List.getElem_of_mem he
  rcases Nat.lt_trichotomy i j with h | h | h
  ·exact absurd hb (List.pairwise_iff_getElem.1 ok.bn i j hi hj h)
  ·subst h;rfl
  ·exact absurd hb.symm (List.pairwise_iff_getElem.1 ok.bn j i hj hi h)
 rw [← this];exact⟨h2.symm,h3.symm⟩
theorem WithP.skip {L M:List MpE}{k s:Int}{b:CB}{seen:Array Nat}{clock:Nat}{e:MpE}(h:WithP L M k s b seen)(ok:OkL L clock)(he:e∈L)(hk:e.k=k∧e.s=s):WithP L M k s b (seen.push e.born):=fun k' s'=>by
 rw [h k' s']
 by_cases h1:k=k'∧s=s'
 ·rw [if_pos h1,if_pos h1]
 ·rw [if_neg h1,if_neg h1]
  congr 1
  rcases hg:getL L k' s' with _ | x
  ·rfl
  ·have hne:(x.born==e.born)=false:=by
    rw [beq_eq_false_iff_ne];intro hb;obtain⟨h2,h3⟩:=getL_key ok he hg hb;exact h1 ⟨hk.1.symm.trans h2.symm,hk.2.symm.trans h3.symm⟩
   simp only [Option.filter,contains_pushN,hne,Bool.or_false]
theorem WithP.take {L M:List MpE}{k s:Int}{b:CB}{seen:Array Nat}{clock c2:Nat}{e:MpE}(h:WithP L M k s b seen)(ok:OkL L clock)(he:e∈L)(hs:seen.contains e.born=false)(hk:¬(e.k=k∧e.s=s)):getL M e.k e.s=none∧WithP L (M++ [(⟨e.k,e.s,e.sv,e.b,c2⟩:MpE)]) k s b (seen.push e.born):=by
 have hgl:=getL_of ok he;have hne:¬(k=e.k∧s=e.s):=fun h1=>hk ⟨h1.1.symm,h1.2.symm⟩
 have hn:getL M e.k e.s=none:=by
  have:=h e.k e.s;rw [if_neg hne,hgl]at this;simp only [Option.filter,hs]at this
  simpa using this
 refine⟨hn,fun k' s'=> ?_⟩
 rw [getL_app]
 by_cases h1:e.k=k'∧e.s=s'
 ·obtain ⟨rfl,rfl⟩:=h1
  rw [hn,if_neg hne,hgl];simp [getL,Option.filter,contains_pushN]
 ·have e1:getL [(⟨e.k,e.s,e.sv,e.b,c2⟩:MpE)] k' s'=none:=getL_none fun x hx=>by rw [List.mem_singleton.1 hx];exact h1
  rw [e1,Option.or_none,h k' s']
  by_cases h2:k=k'∧s=s'
  ·rw [if_pos h2,if_pos h2]
  ·rw [if_neg h2,if_neg h2]
   congr 1
   rcases hg:getL L k' s' with _ | x
   ·rfl
   ·have hx:(x.born==e.born)=false:=by
     rw [beq_eq_false_iff_ne];intro hb;obtain⟨h3,h4⟩:=getL_key ok he hg hb;exact h1 ⟨h3.symm,h4.symm⟩
    simp only [Option.filter,contains_pushN,hx,Bool.or_false]
theorem OkL.push {M:List MpE}{c:Nat}(h:OkL M c){k s:Int}(hn:getL M k s=none)(sv:Value)(b:CB):OkL (M++ [(⟨k,s,sv,b,c⟩:MpE)]) (c+1):=by
 refine⟨List.pairwise_append.2 ⟨h.nd,by simp,fun x hx y hy=> ?_⟩,List.pairwise_append.2 ⟨h.bn,by simp,fun x hx y hy=> ?_⟩,fun e he=> ?_⟩
 ·rw [List.mem_singleton.1 hy]
  have:=List.find?_eq_none.1 hn x hx
  simpa using this
 ·rw [List.mem_singleton.1 hy]
  have:=h.lt x hx;show x.born≠c;omega
 ·rcases List.mem_append.1 he with he | he
  ·have:=h.lt e he;omega
  ·rw [List.mem_singleton.1 he];show c<c+1;omega
theorem with_any (w:World)(base g:Nat)(k s:Int)(sv:Value)(b:CB)(B:Bds)(h:IsB w base g B)(hb:OwnI w base sv b.row.of):Calls Tryz.prog 94 #[.map (some g),.int .i64 k,.int .i64 s,bdV sv b] w fun e w'=>∃g',e= .returned (.map (some g'))∧IsB w' base g' (withB B k s b)∧Keep NoS w w':=by
 obtain⟨L,clock,hM,hB⟩:=h;have HM:=zh hM;have HBB:=zh hB;have HSV:=zh hb;have hlt:=lt_of_heap hM.h;clear hM hB hb;obtain⟨osv,csv,hsv⟩:=HSV.out.len;subst hsv;have hok:=HM.out.ok;have hborn:∀x∈((L.map MpE.ent).toArray).toList,x.born<clock:=fun x hx=>by
  obtain⟨e,he,rfl⟩:=List.mem_map.1 (by simpa using hx)
  exact hok.lt e he
 have hnodup:(((L.map MpE.ent).toArray).toList.map (·.born)).Nodup:=by
  rw [List.nodup_iff_pairwise_ne,List.pairwise_map];show(L.map MpE.ent).Pairwise _;rw [List.pairwise_map];exact hok.bn
 have HBN:=zh hborn;have HND:=zh hnodup;have HOK:=zh hok;clear hborn hnodup hok;unfold bdV;go_enter Tryz.func94,Tryz.ntmps94;go_upto_region 1 with fail
 have k1:Keep NoS w (w.alloc (.cells #[.slice osv b.row.of.length csv,.int .i64 b.row.kind,.int .i64 b.row.to,.int .i64 b.id] 115)):=(Keep.refl _ _).alloc _;have HB7:Hid (Blk (w.alloc (.cells #[.slice osv b.row.of.length csv,.int .i64 b.row.kind,.int .i64 b.row.to,.int .i64 b.id] 115)) w.heap.size #[.slice osv b.row.of.length csv,.int .i64 b.row.kind,.int .i64 b.row.to,.int .i64 b.id]):=zh (blk_at _ _ rfl);have KA:=zh k1;clear k1;generalize w.alloc (.cells #[.slice osv b.row.of.length csv,.int .i64 b.row.kind,.int .i64 b.row.to,.int .i64 b.id] 115)=w1 at *;obtain⟨b7,hb7⟩:∃b7,w.heap.size=b7:=⟨_,rfl⟩;rw [hb7]at HB7 ⊢;have h7:=zh hb7;clear hb7;have hmk:(Instr.makeMap 75 none).run Tryz.prog w1= .ok (.map (some w1.heap.size)) (w1.alloc (.map #[] 0)):=rfl;obtain⟨p0,p1,p2,p3,q0,q1,q2,q3,pl⟩:=blk4C HB7.out;go_upto_region 2 with(refine wpList_putL _ rfl _ _ _ (.inr rfl) w1.heap.size [] 0 k s _ b rfl rfl rfl (heap_alloc_at _ _ _ rfl) rfl ?_)
 clear hmk p0 p1 p2 p3 q0 q1 q2 q3 pl;have hm1:(w1.alloc (.map #[] 0)).heap[w1.heap.size]? =some (.map #[] 0):=heap_alloc_at _ _ _ rfl;have k2:Keep NoS w (setBlock (w1.alloc (.map #[] 0)) w1.heap.size (.map #[(⟨k,s,.slice osv b.row.of.length csv,b,0⟩:MpE).ent] 1)):=keep_setB (KA.out.alloc _) hm1 KA.out.size;have hg2:(setBlock (w1.alloc (.map #[] 0)) w1.heap.size (.map #[(⟨k,s,.slice osv b.row.of.length csv,b,0⟩:MpE).ent] 1)).heap[w1.heap.size]? =some (.map (([(⟨k,s,.slice osv b.row.of.length csv,b,0⟩:MpE)].map MpE.ent).toArray) 1):=setB_same hm1;have hlg:g<w1.heap.size:=Nat.lt_of_lt_of_le hlt KA.out.size;have K2:=zh k2;have HG2:=zh hg2;have hL2:=zh ((k2.block g hlt fun _ h=>h).trans HM.out.h)
 have hs2:w1.heap.size<(setBlock (w1.alloc (.map #[] 0)) w1.heap.size (.map #[(⟨k,s,.slice osv b.row.of.length csv,b,0⟩:MpE).ent] 1)).heap.size:=lt_of_heap hg2;clear hm1 k2 hg2;generalize setBlock (w1.alloc (.map #[] 0)) w1.heap.size (.map #[(⟨k,s,.slice osv b.row.of.length csv,b,0⟩:MpE).ent] 1)=w2 at *;obtain⟨g',hg'⟩:∃g',w1.heap.size=g':=⟨_,rfl⟩;rw [hg']at HG2 hs2 hlg ⊢;have HGE:Hid (w.heap.size≤g'):=zh (by rw [← hg'];exact KA.out.size)
 clear hg';go_upto_region 2 with fail
 go_wp2_with (refine wpList_rangeL _ rfl _ rfl g L clock rfl hL2.out ?_);have K3:Hid (Keep NoS w (w2.alloc (.mapIter (some g) clock #[] clock))):=zh (K2.out.alloc _);have HR:Hid ((w2.alloc (.mapIter (some g) clock #[] clock)).heap[w2.heap.size]? =some (.mapIter (some g) clock #[] clock)):=zh (heap_alloc_at _ _ _ rfl);have hG3:Hid ((w2.alloc (.mapIter (some g) clock #[] clock)).heap[g']? =some (.map (([(⟨k,s,.slice osv b.row.of.length csv,b,0⟩:MpE)].map MpE.ent).toArray) 1)):=zh ((((Keep.refl NoS w2).alloc _).block g' hs2 fun _ h=>h).trans HG2.out)
 generalize w2.alloc (.mapIter (some g) clock #[] clock)=w3 at *;obtain⟨r,hr⟩:∃r,w2.heap.size=r:=⟨_,rfl⟩;rw [hr]at HR hs2 ⊢;have HRE:Hid (w.heap.size≤r):=zh (by rw [← hr];exact K2.out.size)
 clear hr;have hn1:g≠g':=by omega
 have hn2:g≠r:=by omega
 have hn3:g'≠r:=by omega
 go_loopw [10] (fun _ wr=>∃(seen:Array Nat) (M:List MpE) (c:Nat),wr.heap[r]? =some (.mapIter (some g) clock seen clock)∧wr.heap[g']? =some (.map ((M.map MpE.ent).toArray) c)∧OkL M c∧(∀e∈M,OwnI wr base e.sv e.b.row.of)∧WithP L M k s b seen∧Keep NoS w wr) (fun _ wr=>wr.rangeLeft g r)
 case atStart=>
  refine⟨#[],[(⟨k,s,.slice osv b.row.of.length csv,b,0⟩:MpE)],1,HR.out,hG3.out,⟨by simp,by simp,by simp⟩,fun e he=> ?_,fun k' s'=> ?_,K3.out⟩
  ·rw [List.mem_singleton.1 he]
   exact HSV.out.keep K3.out
  ·by_cases h1:k=k'∧s=s'
   ·rw [if_pos h1]
    simp [getL,h1]
   ·rw [if_neg h1]
    have e1:getL [(⟨k,s,.slice osv b.row.of.length csv,b,0⟩:MpE)] k' s'=none:=getL_none fun x hx=>by rw [List.mem_singleton.1 hx];exact h1
    rw [e1]
    rcases getL L k' s' with _ | x<;>simp [Option.filter]
 case round=>
  obtain⟨seen,M,c,hr,hgm,hokm,hown,hwp,hkr⟩:=hrel;have KR:=zh hkr;have HWP:=zh hwp;have HOWN:=zh hown;have HOKM:=zh hokm;have hL:wr.heap[g]? =some (.map ((L.map MpE.ent).toArray) clock):=(hkr.block g hlt fun _ h=>h).trans HM.out.h
  rcases run_next_at (P:=Tryz.prog) wr 0 r g clock clock seen ((L.map MpE.ent).toArray) clock hr hL HBN.out (Nat.le_refl _)with⟨h0,hrun⟩ | ⟨e,he,w4,hw4,hrun⟩
  ·have HSZ:=zh h0
   clear h0;have HF:Hid (IsB wr base g' (withB B k s b)):=zh ⟨M,c,⟨hgm,hokm,hown⟩,fun k' s'=>by
    rw [hwp k' s',bGet_with,←HBB.out k' s']
    by_cases h1:k=k'∧s=s'
    ·rw [if_pos h1,if_pos (by rw [h1.1,h1.2])]
    ·rw [if_neg h1,if_neg fun h=>h1 (Prod.mk.inj h)]
     rcases hg:getL L k' s' with _ | x
     ·rfl
     ·have:=left_all HSZ.out (e:=x.ent) (by simpa using ⟨x,(getL_mem hg).1,rfl⟩)
      have e1:seen.contains x.born=true:=this;simp only [Option.filter,e1,if_pos]⟩
   clear HBN HND HOK hr hgm hokm hown hwp hkr hL HSZ HWP HOWN HOKM HBB;go_wp2_with (refine wpList_nextR _ rfl _ rfl r rfl hrun ?_);refine bodyPost_ret (by simp [results,Tryz.results94,go_sem];rfl) rfl ?_
   exact⟨g',rfl,HF.out,KR.out⟩
  ·have hmemL:e∈(L.map MpE.ent):=by have:=(mem_left he).1;simpa using this
   obtain⟨x,hx,rfl⟩:=List.mem_map.1 hmemL;have HXM:=zh hx;have HXO:=zh (HM.out.own x hx);have HNS:=zh (mem_left he).2;have HSH:=zh (left_shrinks _ _ _ he);clear hx he;obtain⟨xk,xs,xv,xb,xn⟩:=x;obtain⟨xo,xc,hxv⟩:=HXO.out.len;dsimp only at hxv;subst hxv;have e0:(⟨xk,xs,.slice xo xb.row.of.length xc,xb,xn⟩:MpE).ent=⟨.agg #[.int .i64 xk,.int .i64 xs],.agg #[.slice xo xb.row.of.length xc,.int .i64 xb.row.kind,.int .i64 xb.row.to,.int .i64 xb.id],xn⟩:=rfl;rw [e0]at hrun HNS HSH hmemL;dsimp only at hrun HNS HSH;have hr4:w4.heap[r]? =some (.mapIter (some g) clock seen clock):=by rcases hw4 with rfl | rfl<;>exact hr
   have hL4:w4.heap[g]? =some (.map ((L.map MpE.ent).toArray) clock):=by rcases hw4 with rfl | rfl<;>exact hL
   have hg4:w4.heap[g']? =some (.map ((M.map MpE.ent).toArray) c):=by rcases hw4 with rfl | rfl<;>exact hgm
   have k4:Keep NoS w w4:=by rcases hw4 with rfl | rfl<;>first | exact hkr | exact hkr.drewN _
   have k5:Keep NoS w (setBlock w4 r (.mapIter (some g) clock (seen.push xn) clock)):=keep_setB k4 hr4 HRE.out;have HR5:=zh (setB_same (o':= .mapIter (some g) clock (seen.push xn) clock) hr4);have HL5:=zh ((setB_other (o':= .mapIter (some g) clock (seen.push xn) clock) hr4 hn2).trans hL4);have HG5:=zh ((setB_other (o':= .mapIter (some g) clock (seen.push xn) clock) hr4 hn3).trans hg4);have K5:=zh k5;have hlt5:¬(setBlock w4 r (.mapIter (some g) clock (seen.push xn) clock)).heap.size=r:=by have:=lt_of_heap (setB_same (o':= .mapIter (some g) clock (seen.push xn) clock) hr4);omega
   have HLE:Hid (wr.rangeLeft g r=(leftOf (L.map MpE.ent).toArray seen).size):=zh (by simp only [World.rangeLeft,hL,hr])
   have HO5:Hid (∀e∈M,OwnI (setBlock w4 r (.mapIter (some g) clock (seen.push xn) clock)) base e.sv e.b.row.of):=zh fun e he=>by
    have h0:OwnI w4 base e.sv e.b.row.of:=by rcases hw4 with rfl | rfl<;>first | exact hown e he | exact(hown e he).keep ((Keep.refl _ _).drewN _)
    exact h0.setB hr4 fun A e f=>by simp
   clear hr hgm hkr hL hr4 hL4 hg4 k4 hw4 hokm hown hwp KR k5 HOWN;generalize setBlock w4 r (.mapIter (some g) clock (seen.push xn) clock)=w5 at *;have hent:=run_entry_at (P:=Tryz.prog) w5 r g clock seen ((L.map MpE.ent).toArray) clock ⟨.agg #[.int .i64 xk,.int .i64 xs],.agg #[.slice xo xb.row.of.length xc,.int .i64 xb.row.kind,.int .i64 xb.row.to,.int .i64 xb.id],xn⟩ HR5.out HL5.out (by simpa using hmemL) HND.out
   clear hmemL HBB HSV
   by_cases hkk:xk=k∧xs=s
   ·have hq:=fun w=>(eqK10 w xk xs k s).trans (by rw [decide_eq_true hkk])
    have HW:=zh (HWP.out.skip HOK.out HXM.out hkk);clear hkk HWP;go_wp2_with (refine wpList_nextR _ rfl _ rfl r rfl hrun ?_);go_roundw
    case rel=>exact⟨seen.push xn,M,c,alloc2 HR5.out,alloc2 HG5.out,HOKM.out,fun e he=>(HO5.out e he).keep (((Keep.refl _ _).alloc _).alloc _),HW.out,(K5.out.alloc _).alloc _⟩
    case measure=>
     have h1:=HSH.out;rw [← HLE.out]at h1
     simpa only [World.rangeLeft,alloc2 HR5.out,alloc2 HL5.out]using h1
   ·have hq:=fun w=>(eqK10 w xk xs k s).trans (by rw [decide_eq_false hkk])
    have HW:=zh (HWP.out.take (c2:=c) HOK.out HXM.out HNS.out hkk);have hnn:=HW.out.1;clear hkk HWP;go_wp2_with (first | refine wpList_nextR _ rfl _ rfl r rfl hrun ?_ | refine wpList_putL _ rfl _ _ _ (.inl rfl) g' M c xk xs _ xb rfl rfl rfl (alloc2 HG5.out) hnn ?_)
    go_roundw
    case rel=>
     refine⟨seen.push xn,(setB_other (alloc2 HG5.out) (Ne.symm hn3)).trans (alloc2 HR5.out),M++ [⟨xk,xs,.slice xo xb.row.of.length xc,xb,c⟩],c+1,(setB_same (alloc2 HG5.out)).trans (by simp),HOKM.out.push hnn _ _,fun e he=> ?_,HW.out.2,keep_setB ((K5.out.alloc _).alloc _) (alloc2 HG5.out) HGE.out⟩
     rcases List.mem_append.1 he with he | he
     ·exact ((HO5.out e he).keep (((Keep.refl _ _).alloc _).alloc _)).setB (alloc2 HG5.out) fun A e f=>by simp
     ·rw [List.mem_singleton.1 he]
      exact HXO.out.keep (keep_setB ((K5.out.alloc _).alloc _) (alloc2 HG5.out) HGE.out)
    case measure=>
     have h1:=HSH.out;rw [← HLE.out]at h1
     simpa only [World.rangeLeft,setB_other (alloc2 HG5.out) (Ne.symm hn3),setB_other (alloc2 HG5.out) hn1,alloc2 HR5.out,alloc2 HL5.out]using h1
variable {P:Nat→Prop}
structure FitR (r:Rw):Prop where
 o:∀x∈r.of,I64 x
 k:I64 r.kind
 t:I64 r.to
theorem IsC.rowsA {w0 w:World}{bS:Nat}{vr vi:Value}{s:CSt}{va vt vp:Value}{xs:List RwV}{ys:List StV}(h:IsC P w0 w bS vr vi s va vt vp xs ys)(ha:∀x∈s.atoms,FitR x):IsRows w va s.atoms:=by
 have h1:OwnR w w w0.heap.size va s.atoms:=⟨xs,h.ax,fun x hx=>by
  have hm:x.r∈s.atoms:=by rw [← h.ax];exact List.mem_map_of_mem hx
  exact⟨(h.ai x hx).ints (ha _ hm).o,(ha _ hm).k,(ha _ hm).t,(h.ai x hx).cap⟩,h.a⟩
 exact h1.rows (Keep.refl _ _)
theorem IsC.blk {w0 w:World}{bS:Nat}{vr vi:Value}{s:CSt}{va vt vp:Value}{xs:List RwV}{ys:List StV}(h:IsC P w0 w bS vr vi s va vt vp xs ys):Blk w bS #[vr,vi,.int .i64 (s.fuel:Int),va,vt,vp,.bool s.much]:=⟨_,h.b⟩
theorem blk7C {w:World}{k:Nat}{a0 a1 a2 a3 a4 a5 a6:Value}(h:Blk w k #[a0,a1,a2,a3,a4,a5,a6]):
  w.cell? ⟨k,0,none⟩=some a0∧w.cell? ⟨k,1,none⟩=some a1∧w.cell? ⟨k,2,none⟩=some a2∧w.cell? ⟨k,3,none⟩=some a3∧w.cell? ⟨k,4,none⟩=some a4∧w.cell? ⟨k,5,none⟩=some a5∧w.cell? ⟨k,6,none⟩=some a6∧k<w.heap.size:=
 ⟨h.cell 0,h.cell 1,h.cell 2,h.cell 3,h.cell 4,h.cell 5,h.cell 6,h.lt⟩
theorem IsC.forms {w0 w:World}{bS:Nat}{vr vi:Value}{s:CSt}{va vt vp:Value}{xs:List RwV}{ys:List StV}(h:IsC P w0 w bS vr vi s va vt vp xs ys):(∃oa ca,va= .slice oa s.atoms.length ca)∧(∃ot ct,vt= .slice ot s.steps.length ct)∧∃op cp,vp= .slice op s.point.length cp:=by
 obtain⟨oa,ca,e1,_⟩:=h.a.len;obtain⟨ot,ct,e2,_⟩:=h.t.len;obtain⟨op,cp,e3,_⟩:=h.p.len;have l1:xs.length=s.atoms.length:=by rw [← h.ax,List.length_map]
 have l2:ys.length=s.steps.length:=by rw [← h.tx,List.length_map]
 exact⟨⟨oa,ca,by rw [e1,l1]⟩,⟨ot,ct,by rw [e2,l2]⟩,⟨op,cp,e3⟩⟩
def atP (r:Rw)(x:Rw):Bool:=decide (x.to=r.to)&&decide (x.of=r.of)
theorem atom_found {m:Nat}{s:CSt}{r:Rw}{k:Nat}(hk:k<s.atoms.length)(h1:s.atoms[k].to=r.to)(h2:s.atoms[k].of=r.of)(hb:∀j x,j<k→s.atoms[j]? =some x→atP r x=false):atomF m s r=(((m+k+1:Nat):Int),s):=by
 have:atomAt s.atoms r=some k:=by
  unfold atomAt;rw [List.findIdx?_eq_some_iff_getElem];refine⟨hk,by simp [h1,h2],fun j hj=> ?_⟩
  have:=hb j s.atoms[j] hj (List.getElem?_eq_getElem (by omega))
  unfold atP at this;simp [this]
 unfold atomF;rw [this]
theorem atom_new {m:Nat}{s:CSt}{r:Rw}{k:Nat}(hk:s.atoms.length≤k)(hb:∀j x,j<k→s.atoms[j]? =some x→atP r x=false):atomF m s r=(((m+s.atoms.length+1:Nat):Int),{s with atoms:=s.atoms++ [r],steps:=s.steps++ [⟨5,[],[],r⟩]}):=by
 have:atomAt s.atoms r=none:=by
  unfold atomAt;rw [List.findIdx?_eq_none_iff];intro x hx;obtain⟨j,hj,rfl⟩:=List.getElem_of_mem hx;exact hb j _ (by omega) (List.getElem?_eq_getElem hj)
 unfold atomF;rw [this]
theorem atom_any (w0 w:World)(bS m:Nat)(orr:Option Addr)(cr:Nat)(vi:Value)(s:CSt)(osv:Option Addr)(csv:Nat)(r:Rw)(h:IsS P w0 w bS (.slice orr m cr) vi s)(hr:OwnI w w0.heap.size (.slice osv r.of.length csv) r.of)(hf:FitR r)(ha:∀x∈s.atoms,FitR x)(hal:s.atoms.length≤200)(hsl:s.steps.length≤50000)(hm:m≤64):
  Calls Tryz.prog 93 #[.pointer (some ⟨bS,0,none⟩),.agg #[.slice osv r.of.length csv,.int .i64 r.kind,.int .i64 r.to]] w fun e w'=>e= .returned (.int .i64 (atomF m s r).1)∧IsS P w0 w' bS (.slice orr m cr) vi (atomF m s r).2∧KT P w w':=by
 obtain⟨va,vt,vp,xs,ys,hc⟩:=h;obtain⟨⟨oa,ca,rfl⟩,⟨ot,ct,rfl⟩,op,cp,rfl⟩:=hc.forms;have HC0:=zh hc;have HR0:=zh hr;have HAT:=zh ha;have HFR:=zh hf;have HRI:=fun w' (k:Keep NoS w w')=>zh ((hr.keep k).ints hf.o)
 clear hc hr ha hf;go_enter Tryz.func93,Tryz.ntmps93;go_upto_region 1 with fail
 have k1:Keep NoS w (w.alloc (.cells #[.slice osv r.of.length csv,.int .i64 r.kind,.int .i64 r.to] TRw)):=(Keep.refl _ _).alloc _;have HB3:Hid (Blk (w.alloc (.cells #[.slice osv r.of.length csv,.int .i64 r.kind,.int .i64 r.to] TRw)) w.heap.size #[.slice osv r.of.length csv,.int .i64 r.kind,.int .i64 r.to]):=zh (blk_at _ _ rfl);have K1:=zh k1;have HC1:=zh (HC0.out.keep k1);have HR1:=zh (HR0.out.keep k1);have HC00:=HC0;clear HC0 k1;generalize w.alloc (.cells #[.slice osv r.of.length csv,.int .i64 r.kind,.int .i64 r.to] TRw)=w1 at *;obtain⟨b3,hb3⟩:∃b3,w.heap.size=b3:=⟨_,rfl⟩;rw [hb3]at HB3 ⊢;have HNE:Hid (∀k,(Value.slice oa s.atoms.length ca).ownBlock=some k→k≠b3):=zh fun k hk e=>by have:=HC00.out.a.lt k hk;omega
 have HSB:Hid (b3≠bS):=zh fun e=>by have:=lt_of_heap HC00.out.b;omega
 clear hb3 HC00;have HRW:=zh (HC1.out.rowsA HAT.out);have HBS:=zh HC1.out.blk;obtain⟨t0,t1,t2,t3,t4,t5,t6,lS⟩:=blk7C HBS.out;obtain⟨p0,p1,p2,f0,f1,f2,l3⟩:=HB3.out.three;go_wp2;go_loopw [12] (fun s' wr=>∃k:Nat,k≤s.atoms.length∧s'= .int .i64 k∧Keep NoS w1 wr∧∀j x,j<k→s.atoms[j]? =some x→atP r x=false) (fun s' _=>(s.atoms.length-intOf s').toNat)
 case atStart=>exact⟨0,by omega,rfl,kp,fun j x h=>absurd h (by omega)⟩
 case round=>
  obtain⟨k,hk,rfl,hkr,hno⟩:=hrel;have KR:=zh hkr;have HNO:=zh hno;have x0:=(hkr.cell lS).trans t0;have x3:=(hkr.cell lS).trans t3;have x4:=(hkr.cell lS).trans t4;have y0:=(hkr.cell l3).trans p0;have y1:=(hkr.cell l3).trans p1;have y2:=(hkr.cell l3).trans p2;have lSr:=Nat.lt_of_lt_of_le lS hkr.size;have l3r:=Nat.lt_of_lt_of_le l3 hkr.size;clear hkr hno t0 t1 t2 t3 t4 t5 t6 p0 p1 p2 f0 f1 f2
  by_cases hkl:k<s.atoms.length
  case pos=>
   have hlt:(k:Int)<(s.atoms.length:Int):=by omega
   obtain⟨b,o,rfl,hbl,hrow⟩:=(HRW.out.keep KR.out).at hkl;have HFND:=zh (fun h1 h2=>atom_found (m:=m) hkl h1 h2 HNO.out)
   have HNX:Hid (atP r s.atoms[k]=false→∀j x,j<k+1→s.atoms[j]? =some x→atP r x=false):=zh fun h j x hj hx=>by
    by_cases hjk:j=k
    ·subst hjk
     rw [List.getElem?_eq_getElem hkl]at hx
     cases hx
     exact h
    ·exact HNO.out j x (by omega) hx
   clear HNO;generalize s.atoms[k]=x at *;obtain⟨os,cs,q0,q1,q2,hrow⟩:=hrow.row;obtain⟨sv,hv,hxi,_⟩:=hrow
   cases hv
   have CE:=fun w' (k':Keep NoS wr w')=>zh (slEqual_any w' _ _ x.of r.of (hxi.keep k') (HRI w' ((K1.out.both KR.out).both k')).out)
   clear hxi
   by_cases hto:x.to=r.to
   case neg=>
    have e1:(x.to==r.to)=false:=by rw [beq_eq_false_iff_ne];exact hto
    have HNX:=zh (HNX.out (by unfold atP;rw [decide_eq_false hto];rfl))
    clear hto HFND CE;go_wp2;go_roundw
    case rel=>exact⟨k+1,by omega,by go_num,KR.out.alloc _,HNX.out⟩
    case measure=>simp [intOf];omega
   case pos=>
    have e1:(x.to==r.to)=true:=by rw [beq_iff_eq];exact hto
    by_cases ho:x.of=r.of
    case neg=>
     have HNX:=zh (HNX.out (by unfold atP;rw [decide_eq_false ho,Bool.and_false]))
     rw [decide_eq_false ho]at CE;clear hto HFND ho;go_wp2_with fail;refine(CE _ kp).out.mono ?_;rintro e w4 ⟨rfl,hk4⟩;have k4:Keep NoS wr w4:=Keep.trans kp hk4 fun _ _ _ h=>h
     have K4:=zh (KR.out.both k4);clear hk4 k4 q0 q1 q2 CE;go_wp2;go_roundw
     case rel=>exact⟨k+1,by omega,by go_num,K4.out,HNX.out⟩
     case measure=>simp [intOf];omega
    case pos=>
     have HFND:=zh (HFND.out hto ho);rw [decide_eq_true ho]at CE;clear hto ho HNX;go_wp2_with fail;refine(CE _ kp).out.mono ?_;rintro e w4 ⟨rfl,hk4⟩;have k4:Keep NoS wr w4:=Keep.trans kp hk4 fun _ _ _ h=>h
     have K4:=zh (KR.out.both k4);have z0:=(k4.cell lSr).trans x0;have lS4:=Nat.lt_of_lt_of_le lSr k4.size;clear hk4 k4 q0 q1 q2 CE x0 x3 x4 y0 y1 y2;go_wp2;refine bodyPost_ret (by simp [results,Tryz.results93,go_sem];rfl) rfl ?_
     rw [HFND.out];exact⟨by simp,⟨_,_,_,_,_,HC1.out.keep K4.out⟩,KT.of (K1.out.both K4.out)⟩
  case neg=>
   have hlt:¬(k:Int)<(s.atoms.length:Int):=by omega
   have HNEW:=zh (atom_new (m:=m) (by omega) HNO.out)
   clear HNO;have HCr:=zh (HC1.out.keep KR.out);have HRr:=zh (HR1.out.keep KR.out);have K1r:=zh (K1.out.both KR.out);have HB3r:=zh (HB3.out.keep KR.out);clear HC1 HR1 HRW HBS HB3 K1;go_upto_region 7 with fail
   refine wp_region_by (fun w'=>Keep NoS wr w') [0,7,8,9,10] [([0,1,2,3,4,5],6),([],7),([8,9],10)] [] (by kernel_rfl) (by kernel_rfl) kp ?_
   intro X W hne hF hcl;have HCL:=zh hcl;have z3:=fun x=>((hF x).cell lSr).trans x3
   have z0:=fun x=>((hF x).cell l3r).trans y0
   have z1:=fun x=>((hF x).cell l3r).trans y1
   have z2:=fun x=>((hF x).cell l3r).trans y2
   have zl:=fun x=>Nat.lt_of_lt_of_le lSr (hF x).size
   have zm:=fun x=>Nat.lt_of_lt_of_le l3r (hF x).size
   clear hF hcl;simp only [wpPlan,pickOps,zl0,zl1,zl2,clsOf,Bool.false_eq_true,if_false]
   (repeat(quiet_step (fail)));refine wpQuiet_nil ?_
   refine wpAt rfl rfl fun K hK=> ?_
   go_simp;have k5:Keep NoS wr (wr.alloc (.cells #[.slice osv r.of.length csv,.int .i64 r.kind,.int .i64 r.to] TRw)).drew:=((Keep.refl _ _).alloc _).drew;refine hK _ _ ⟨fun _=>HCL.out _ k5,?_⟩
   obtain⟨v6,w6,hr6,hv6,hc6,kt6,hb6,hg6⟩:=(HCr.out.keep k5).pushA (HRr.out.keep k5) (b:=wr.heap.size) (Blk.keep (blk_at _ _ rfl) (Keep.refl _ _).drew) (by omega)
   obtain⟨o6,c6,rfl⟩:=hv6;have HB6:Blk w6 bS #[.slice orr m cr,vi,.int .i64 (s.fuel:Int),.slice oa s.atoms.length ca,.slice ot s.steps.length ct,.slice op s.point.length cp,.bool s.much]:=⟨_,hb6.trans (HCr.out.keep k5).b⟩;have g3:=HB6.cell 3;have g3f:=HB6.free 3;have gl:=HB6.lt;have HC6:=zh hc6;have HK6:Hid (KT P w (w6.setCell ⟨bS,3,none⟩ (.slice o6 (s.atoms.length+1) c6))):=zh ((KT.of (K1r.out.both k5)).trans kt6);have HB7:Hid (Blk (w6.setCell ⟨bS,3,none⟩ (.slice o6 (s.atoms.length+1) c6)) b3 #[.slice osv r.of.length csv,.int .i64 r.kind,.int .i64 r.to]):=zh (by
    obtain⟨tt,ht⟩:=HB3r.out.keep k5;refine⟨tt,?_⟩;rw [heap_setCell_other _ _ _ _ HSB.out,hg6.block b3 (lt_of_heap ht) fun e=>HNE.out _ e.symm rfl]
    exact ht)
   have HR7:=zh (HK6.out.ints HR0.out);clear hK k5 hc6 hb6 HB6 kt6 HCL hg6 HCr HRr K1r HB3r KR
   (repeat(quiet_step (fail)));refine wpQuiet_nil ?_
   refine wpAt rfl rfl fun K hK=> ?_
   refine wp_app_run _ _ 22 _ _ rfl rfl rfl hr6 ?_;refine hK _ _ ⟨fun h=>(by simp at h),?_⟩
   clear hK hr6
   (repeat(quiet_step (fail)));refine wpQuiet_nil ?_
   refine wpAt rfl rfl fun K hK=> ?_
   go_simp;refine hK _ _ ⟨fun h=>(by simp at h),?_⟩
   clear hK
   (repeat(quiet_step (fail)));refine wpQuiet_nil ?_
   refine NoPanic.normal ?_;clear hne z3 z0 z1 z2 zl zm x0 x3 x4 y0 y1 y2 lSr l3r W X g3 g3f gl HNE HSB;generalize w6.setCell ⟨bS,3,none⟩ (.slice o6 (s.atoms.length+1) c6)=w7 at *;obtain⟨t0,t1,t2,t3,t4,t5,t6,lS7⟩:=blk7C HC6.out.blk;obtain⟨p0,p1,p2,f0,f1,f2,l37⟩:=HB7.out.three;go_upto_region 8 with fail
   refine wp_region_by (fun w'=>Keep NoS w7 w') [0,9,10,11,12] [([0,1,2,3,4,5,6,7],8),([],9),([10,11],12)] [] (by kernel_rfl) (by kernel_rfl) kp ?_
   intro X W hne hF hcl;have HCL:=zh hcl;have z4:=fun x=>((hF x).cell lS7).trans t4
   have z0:=fun x=>((hF x).cell l37).trans p0
   have z1:=fun x=>((hF x).cell l37).trans p1
   have z2:=fun x=>((hF x).cell l37).trans p2
   have zl:=fun x=>Nat.lt_of_lt_of_le lS7 (hF x).size
   have zm:=fun x=>Nat.lt_of_lt_of_le l37 (hF x).size
   clear hF hcl t0 t1 t2 t3 t4 t5 t6 p0 p1 p2 f0 f1 f2;simp only [wpPlan,pickOps,zl0,zl1,zl2,clsOf,Bool.false_eq_true,if_false]
   (repeat(quiet_step (fail)));refine wpQuiet_nil ?_
   refine wpAt rfl rfl fun K hK=> ?_
   go_simp;have k8:Keep NoS w7 (w7.alloc (.cells #[.int .i64 5,.slice none 0 0,.slice none 0 0,.int .i64 3,.int .i64 0,.int .i64 0,.slice osv r.of.length csv,.int .i64 r.kind,.int .i64 r.to] TSt)).drew:=((Keep.refl _ _).alloc _).drew;refine hK _ _ ⟨fun _=>HCL.out _ k8,?_⟩
   obtain⟨v9,w9,hr9,hv9,hc9,kt9,hb9,hg9⟩:=(HC6.out.keep k8).pushT (y:=⟨.slice none 0 0,.slice none 0 0,.slice osv r.of.length csv,⟨5,[],[],r⟩⟩) ⟨OwnI.nil _ _,OwnG.nil _ _,HR7.out.keep k8⟩ (b:=w7.heap.size) (Blk.keep (blk_at _ _ rfl) (Keep.refl _ _).drew) (by show s.steps.length≤_;omega)
   obtain⟨o9,c9,rfl⟩:=hv9;have HB9:Blk w9 bS #[.slice orr m cr,vi,.int .i64 (s.fuel:Int),.slice o6 (s.atoms.length+1) c6,.slice ot s.steps.length ct,.slice op s.point.length cp,.bool s.much]:=⟨_,hb9.trans (HC6.out.keep k8).b⟩;have g4:=HB9.cell 4;have g4f:=HB9.free 4;have gl:=HB9.lt;have HC9:=zh hc9;have HK9:=zh ((HK6.out.trans (KT.of k8)).trans kt9);clear hK k8 hc9 hb9 HB9 kt9 HCL hg9 HC6 HB7 HR7 HK6
   (repeat(quiet_step (fail)));refine wpQuiet_nil ?_
   refine wpAt rfl rfl fun K hK=> ?_
   refine wp_app_run _ _ 26 _ _ rfl rfl rfl hr9 ?_;refine hK _ _ ⟨fun h=>(by simp at h),?_⟩
   clear hK hr9
   (repeat(quiet_step (fail)));refine wpQuiet_nil ?_
   refine wpAt rfl rfl fun K hK=> ?_
   go_simp;refine hK _ _ ⟨fun h=>(by simp at h),?_⟩
   clear hK
   (repeat(quiet_step (fail)));refine wpQuiet_nil ?_
   refine NoPanic.normal ?_;clear hne z4 z0 z1 z2 zl zm lS7 l37 W X g4 g4f gl;generalize w9.setCell ⟨bS,4,none⟩ (.slice o9 (s.steps.length+1) c9)=wz at *;obtain⟨t0,t1,t2,t3,t4,t5,t6,lSz⟩:=blk7C HC9.out.blk;go_wp2;go_quiet (fail);go_wp2;refine bodyPost_ret (by simp [results,Tryz.results93,go_sem];rfl) rfl ?_
   rw [HNEW.out];refine⟨?_,⟨_,_,_,_,_,HC9.out.keep ((Keep.refl _ _).drewN _)⟩,HK9.out.trans (KT.of ((Keep.refl _ _).drewN _))⟩;show Ending.returned (Value.int IntKind.i64 _)=Ending.returned (Value.int IntKind.i64 ((m+s.atoms.length+1:Nat):Int));rw [show((m+s.atoms.length+1:Nat):Int)=(m:Int)+((s.atoms.length:Int)+1) by omega]
theorem app_zeros (w:World)(ty:TypeId)(n:Nat)(h0:0<n)(hn:n≤1000000):∃w' G,(Builtin.append_ #[38,3] ty #[.slice none 0 0,.int .i64 (n:Int)]).run Tryz.prog w= .ok (.slice (some ⟨w.heap.size,0,none⟩) n G) w'∧n≤G∧G≤9223372036854775807∧OwnI w' w.heap.size (.slice (some ⟨w.heap.size,0,none⟩) 0 G) []∧Keep NoS w w':=by
 obtain⟨i0,hi0,hz0,hz1,hz2⟩:=info_parts infoI;have hGn:n≤grownCap w n 0 TI:=grownCap_ge w _ _ _;have hGm:=grownCap_le_maxLen w n 0 TI (by unfold maxLen;omega)
 have hold:(Builtin.firstCells i0.size 0 (.slice none 0 0)).run Tryz.prog w.drew= .ok ([]:List Value).toArray w.drew:=run_firstCells_none w.drew i0.size 0 0 0;have h:=Lib.run_append_grow_zeros w 38 3 ty TI i0 (.int .i64 0) .i64 .i64 Tryz.underlying38 Tryz.underlying3 hi0 hz0 none 0 0 [] hold n h0 (by rw [hz1];decide) (by omega) (by omega) (by rw [hz2];omega) (growslice_fits (by omega) (by rw [hz2];omega))
 rw [Nat.zero_add]at h;refine⟨_,_,h,hGn,hGm,⟨rfl,.inr ⟨w.heap.size,_,_,rfl,Nat.le_refl _,heap_alloc_at _ _ _ rfl,Nat.zero_le _,hGm,?_,by simp [iv]⟩⟩,((Keep.refl _ _).drew).alloc _⟩
 simp [size_zeroCells,Value.cells];omega
theorem grow_any (w:World)(n:Nat)(hn:n≤1000000):Calls Tryz.prog 127 #[.slice none 0 0,.int .i64 (n:Int)] w fun e w'=>∃v,e= .returned v∧OwnI w' w.heap.size v []∧Keep NoS w w':=by
 by_cases h0:0<n
 ·obtain ⟨w2,G,hr,h1,h2,h3,h4⟩:=app_zeros w 38 n h0 hn
  have HO:=zh h3;have HK:=zh h4;have hp:(n:Int)>0:=by omega
  have hp':¬(n:Int)<0:=by omega
  clear h3 h4;go_enter Tryz.func127,Tryz.ntmps127;go_wp2_with (at_builtin;refine Lib.wpList_append_run _ rfl _ _ _ _ rfl _ _ rfl rfl _ _ hr ?_);refine bodyPost_ret (by simp [results,Tryz.results127,go_sem];rfl) rfl ?_
  exact⟨_,rfl,HO.out,HK.out⟩
 ·obtain rfl:n=0:=by omega
  go_enter Tryz.func127,Tryz.ntmps127;go_wp2;refine bodyPost_ret (by simp [results,Tryz.results127,go_sem];rfl) rfl ?_
  exact⟨_,rfl,OwnI.nil _ _,Keep.refl _ _⟩
theorem concat_any (w:World)(b:Nat)(v1 v2:Value)(l1 l2:List Int)(hb:Blk w b #[v1,v2])(h1:IsInts w v1 l1)(h2:IsInts w v2 l2)(hl1:l1.length≤1000)(hl2:l2.length≤1000):
  Calls Tryz.prog 96 #[.slice (some ⟨b,0,none⟩) 2 2] w fun e w'=>∃v,e= .returned v∧OwnI w' w.heap.size v (l1++l2)∧Keep NoS w w':=by
 have H1:=zh h1;have H2:=zh h2;obtain⟨o1,c1,rfl,_⟩:=h1.len;obtain⟨o2,c2,rfl,_⟩:=h2.len;obtain⟨p0,p1,f0,f1,lb⟩:=hb.two;have CG:=fun w'=>zh (grow_any w' (l1.length+l2.length) (by omega))
 have P0:=zh p0;have P1:=zh p1;clear h1 h2 hb;go_enter Tryz.func96,Tryz.ntmps96;go_wp2;go_loopw [11,3] (fun s z wr=>∃k:Nat,k≤2∧s= .int .i64 k∧z= .int .i64 (((if k=0 then 0 else if k=1 then l1.length else l1.length+l2.length):Nat):Int)∧Keep NoS w wr) (fun s _ _=>(2-intOf s).toNat)
 case atStart=>exact⟨0,by omega,rfl,rfl,kp⟩
 case round=>
  obtain⟨k,hk,rfl,rfl,hkr⟩:=hrel;have KR:=zh hkr;have x0:=(hkr.cell lb).trans p0;have x1:=(hkr.cell lb).trans p1;have lbr:=Nat.lt_of_lt_of_le lb hkr.size;clear hkr;obtain rfl | rfl | rfl:k=0∨k=1∨k=2:=by omega
  ·have hn:¬((0:Int)+(l1.length:Int)<0):=by omega
   go_wp2;go_roundw
   case rel=>exact⟨1,by omega,rfl,by simp,KR.out⟩
   case measure=>simp [intOf]
  ·have hn:¬((l1.length:Int)+(l2.length:Int)<0):=by omega
   go_wp2;go_roundw
   case rel=>exact⟨2,by omega,rfl,by simp,KR.out⟩
   case measure=>simp [intOf]
  ·have e2:(((if 2=0 then 0 else if 2=1 then l1.length else l1.length+l2.length):Nat):Int)=((l1.length+l2.length:Nat):Int):=rfl
   rw [e2];go_wp2_with fail;refine(CG _).out.mono ?_;rintro e w3 ⟨v,rfl,ho3,hk3⟩;have K3:=zh (KR.out.both hk3);have HO3:=zh (World.ownsRow_mono ho3 KR.out.size);obtain⟨o3,c3,hv3⟩:=ho3.len;subst hv3;have y0:=(hk3.cell lbr).trans x0;have y1:=(hk3.cell lbr).trans x1;have lb3:=Nat.lt_of_lt_of_le lbr hk3.size;clear ho3 hk3 CG x0 x1 p0 p1;go_wp2;go_loopw [27,6] (fun s u wr=>∃k:Nat,k≤2∧s= .int .i64 k∧OwnI wr w.heap.size u (if k=0 then []else if k=1 then l1 else l1++l2)∧Keep NoS w wr∧wr.cell? ⟨b,0,none⟩=some (.slice o1 l1.length c1)∧wr.cell? ⟨b,1,none⟩=some (.slice o2 l2.length c2)∧b<wr.heap.size) (fun s _ _=>(2-intOf s).toNat)
   case atStart=>exact⟨0,by omega,rfl,HO3.out,K3.out,y0,y1,lb3⟩
   case round=>
    obtain⟨k,hk,rfl,hou,hkr,z0,z1,lbz⟩:=hrel;have KR:=zh hkr;obtain rfl | rfl | rfl:k=0∨k=1∨k=2:=by omega
    ·obtain ⟨v4,w4,hr4,ho4,hg4⟩:=app_ints (show OwnI wr w.heap.size u6 []from hou) (H1.out.keep hkr) (by simp;omega) hkr.size
     have K4:=zh (hkr.grown hg4 fun k hk=>OwnI.block hou k hk)
     have HO4:=zh ho4;obtain⟨o4,c4,hv4⟩:=ho4.len;subst hv4;have q0:=(K4.out.cell lb).trans (show w.cell? ⟨b,0,none⟩=some (.slice o1 l1.length c1)from P0.out)
     have q1:=(K4.out.cell lb).trans (show w.cell? ⟨b,1,none⟩=some (.slice o2 l2.length c2)from P1.out)
     have lb4:=Nat.lt_of_lt_of_le lb K4.out.size;clear hou hkr ho4 hg4;go_wp2_with (at_builtin;refine wpList_app_run _ _ 38 _ _ rfl rfl rfl rfl hr4 ?_);go_roundw
     case rel=>exact⟨1,by omega,rfl,HO4.out,K4.out,q0,q1,lb4⟩
     case measure=>simp [intOf]
    ·obtain ⟨v4,w4,hr4,ho4,hg4⟩:=app_ints (show OwnI wr w.heap.size u6 l1 from hou) (H2.out.keep hkr) (by omega) hkr.size
     have K4:=zh (hkr.grown hg4 fun k hk=>OwnI.block hou k hk)
     have HO4:=zh ho4;obtain⟨o4,c4,hv4⟩:=ho4.len;subst hv4;have q0:=(K4.out.cell lb).trans (show w.cell? ⟨b,0,none⟩=some (.slice o1 l1.length c1)from P0.out)
     have q1:=(K4.out.cell lb).trans (show w.cell? ⟨b,1,none⟩=some (.slice o2 l2.length c2)from P1.out)
     have lb4:=Nat.lt_of_lt_of_le lb K4.out.size;clear hou hkr ho4 hg4;go_wp2_with (at_builtin;refine wpList_app_run _ _ 38 _ _ rfl rfl rfl rfl hr4 ?_);go_roundw
     case rel=>exact⟨2,by omega,rfl,(by have h:=HO4.out;rw [List.length_append]at h;exact h),K4.out,q0,q1,lb4⟩
     case measure=>simp [intOf]
    ·have HOU:=zh (show OwnI wr w.heap.size u6 (l1++l2)from hou)
     clear hou hkr;go_wp2;refine bodyPost_ret (by simp [results,Tryz.results96,go_sem];rfl) rfl ?_
     exact⟨_,rfl,HOU.out,KR.out⟩
end Go.Proofs.YtaiffmebphhdaaaGreat
