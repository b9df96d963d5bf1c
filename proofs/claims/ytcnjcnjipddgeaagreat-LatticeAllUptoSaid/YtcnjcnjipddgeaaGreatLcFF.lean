/- Package lattice's solution as it lies; what step is to do. Package lattice's step: what its last region leaves, whatever the order. -/
import Derived.Test.YtcnjcnjipddgeaaGreatLcE
namespace Go.Proofs.YtcnjcnjipddgeaaGreat
set_option linter.unusedSimpArgs false
set_option linter.unusedVariables false
open Go.ChangeShapes Go.WideShapes Go.RowKit
structure FnV where
 sv:Value
 q:List Rat
def fnC (x:FnV):List Value:= [x.sv]
theorem fnC_len (x:FnV):(fnC x).length=1:=rfl
structure SX (w:World)(hi bS bY:Nat)(c1 c2 c3 pv qv fv:Value)(piv:List Int)(part:List Rat)(fs:List FnV):Prop where
 s:Blk w bS #[.pointer (some ⟨bY,0,none⟩),c1,c2,c3]
 hb:hi≤bS
 hh:hi≤w.heap.size
 p:OwnI w hi pv piv
 q:OwnN w hi qv part
 f:OwnG TYN 1 fnC w hi fv fs
 l:∀x∈fs,OwnN w hi x.sv x.q∧pv.ownBlock≠some bS∧x.sv.ownBlock≠some bS∧Apart pv x.sv∧Apart qv x.sv∧Apart fv x.sv
 apq:Apart pv qv
 apf:Apart pv fv
 aqf:Apart qv fv
 nb:pv.ownBlock≠some bS∧qv.ownBlock≠some bS∧fv.ownBlock≠some bS
abbrev SS (w:World)(hi bS bY:Nat)(pv qv fv:Value)(piv:List Int)(part:List Rat)(fs:List FnV):Prop:=SX w hi bS bY pv qv fv pv qv fv piv part fs
def SClear (c bS:Nat)(pv qv fv:Value)(fs:List FnV):Prop:=c≠bS∧pv.ownBlock≠some c∧qv.ownBlock≠some c∧fv.ownBlock≠some c∧∀x∈fs,x.sv.ownBlock≠some c
theorem OwnI.ltZ {w:World}{base:Nat}{v:Value}{xs:List Int}(h:OwnI w base v xs):∀k,v.ownBlock=some k→k<w.heap.size:=fun k hk=>(World.ownsRow.lt h k hk).2
theorem OwnN.ltZ {w:World}{base:Nat}{v:Value}{qs:List Rat}(h:OwnN w base v qs):∀k,v.ownBlock=some k→k<w.heap.size:=by
 obtain⟨l,_,h⟩:=h;exact fun k hk=>(World.ownsRow.lt h k hk).2
theorem OwnN.sameZ {w w':World}{base:Nat}{v:Value}{qs:List Rat}(h:OwnN w base v qs)(he:∀k,v.ownBlock=some k→w'.heap[k]? =w.heap[k]?):OwnN w' base v qs:=by
 obtain⟨l,hA,h⟩:=h;exact⟨l,hA,ownsRow_sameZ h he⟩
variable {w:World} {hi bS bY:Nat} {c1 c2 c3 pv qv fv:Value} {piv:List Int} {part:List Rat} {fs:List FnV}
theorem SX.fresh (h:SX w hi bS bY c1 c2 c3 pv qv fv piv part fs){c:Nat}(hc:w.heap.size≤c):SClear c bS pv qv fv fs:=
 ⟨fun e=>by have:=h.s.lt;omega,fun e=>by have:=h.p.ltZ c e;omega,fun e=>by have:=h.q.ltZ c e;omega,fun e=>by have:=h.f.lt c e;omega,fun x hx e=>by have:=(h.l x hx).1.ltZ c e;omega⟩
theorem SX.off {w':World}(h:SX w hi bS bY c1 c2 c3 pv qv fv piv part fs)(hs:w.heap.size≤w'.heap.size)(ho:∀b,b<w.heap.size→hi≤b→(b=bS∨pv.ownBlock=some b∨qv.ownBlock=some b∨fv.ownBlock=some b∨∃x∈fs,x.sv.ownBlock=some b)→w'.heap[b]? =w.heap[b]?):SX w' hi bS bY c1 c2 c3 pv qv fv piv part fs where
 s:=h.s.sameZ (ho _ h.s.lt h.hb (.inl rfl))
 hb:=h.hb
 hh:=Nat.le_trans h.hh hs
 p:=ownsRow_sameZ h.p fun k hk=>ho k (h.p.ltZ k hk) (h.p.block k hk) (.inr (.inl hk))
 q:=h.q.sameZ fun k hk=>ho k (h.q.ltZ k hk) (h.q.block k hk) (.inr (.inr (.inl hk)))
 f:=ownsRow_sameZ h.f fun k hk=>ho k (h.f.lt k hk) (h.f.block k hk) (.inr (.inr (.inr (.inl hk))))
 l:=fun x hx=>⟨(h.l x hx).1.sameZ fun k hk=>ho k ((h.l x hx).1.ltZ k hk) ((h.l x hx).1.block k hk) (.inr (.inr (.inr (.inr ⟨x,hx,hk⟩)))),(h.l x hx).2⟩
 apq:=h.apq
 apf:=h.apf
 aqf:=h.aqf
 nb:=h.nb
theorem SX.keep {w':World}(h:SX w hi bS bY c1 c2 c3 pv qv fv piv part fs)(k:Keep NoS w w'):SX w' hi bS bY c1 c2 c3 pv qv fv piv part fs:=h.off k.size fun b hb _ _=>k.block b hb fun _ h=>h
theorem SX.mid {w':World}{lo:Nat}(h:SX w hi bS bY c1 c2 c3 pv qv fv piv part fs)(k:Keep (Mid lo hi) w w'):SX w' hi bS bY c1 c2 c3 pv qv fv piv part fs:=h.off k.size fun b hb h2 _=>k.above hb (.inl h2)
theorem SX.only {w':World}{g:Nat}(h:SX w hi bS bY c1 c2 c3 pv qv fv piv part fs)(k:Keep (OnlyG g) w w')(hc:SClear g bS pv qv fv fs):SX w' hi bS bY c1 c2 c3 pv qv fv piv part fs:=
 h.off k.size fun b hb _ ho=>k.sameG hb fun e=>by
  subst e
  rcases ho with h1 | h1 | h1 | h1 | ⟨x,hx,h1⟩
  ·exact hc.1 h1
  ·exact hc.2.1 h1
  ·exact hc.2.2.1 h1
  ·exact hc.2.2.2.1 h1
  ·exact hc.2.2.2.2 x hx h1
theorem grown_apart {w w':World}{v v':Value}(hlt:∀k,v.ownBlock=some k→k<w.heap.size)(hv:v'.ownBlock=v.ownBlock∨v'.ownBlock=some w.heap.size){k:Nat}(hk:k<w.heap.size)(hn:v.ownBlock≠some k):v'.ownBlock≠some k:=by
 intro e
 rcases hv with h | h
 ·rw [h]at e;exact hn e
 ·rw [h]at e;cases e;omega
theorem SX.pushP {w':World}{v':Value}(h:SX w hi bS bY c1 c2 c3 pv qv fv piv part fs)(x:Int)(ho:OwnI w' hi v' (piv++ [x]))(hg:w.grownBy w' pv.ownBlock)(hv:v'.ownBlock=pv.ownBlock∨v'.ownBlock=some w.heap.size):SX w' hi bS bY c1 c2 c3 v' qv fv (piv++ [x]) part fs:=by
 have hb:∀b,b<w.heap.size→pv.ownBlock≠some b→w'.heap[b]? =w.heap[b]? :=fun b hb hn=>hg.block b hb fun e=>hn e.symm
 have ha:=fun k hk hn=>grown_apart (w:=w) (w':=w') h.p.ltZ hv (k:=k) hk hn
 refine⟨h.s.sameZ (hb _ h.s.lt h.nb.1),h.hb,Nat.le_trans h.hh hg.size,ho,h.q.sameZ fun k hk=>hb k (h.q.ltZ k hk) fun e=>h.apq k e hk,ownsRow_sameZ h.f fun k hk=>hb k (h.f.lt k hk) fun e=>h.apf k e hk,fun y hy=> ?_,?_,?_,h.aqf,ha _ h.s.lt h.nb.1,h.nb.2⟩
 ·obtain ⟨a1,a2,a3,a4,a5⟩:=h.l y hy
  exact⟨a1.sameZ fun k hk=>hb k (a1.ltZ k hk) fun e=>a4 k e hk,ha _ h.s.lt h.nb.1,a3,fun k hk e=>ha k (a1.ltZ k e) (fun e'=>a4 k e' e) hk,a5⟩
 ·exact fun k hk e=>ha k (h.q.ltZ k e) (fun e'=>h.apq k e' e) hk
 ·exact fun k hk e=>ha k (h.f.lt k e) (fun e'=>h.apf k e' e) hk
theorem SX.pushQ {w':World}{v':Value}(h:SX w hi bS bY c1 c2 c3 pv qv fv piv part fs)(x:Rat)(ho:OwnN w' hi v' (part++ [x]))(hg:w.grownBy w' qv.ownBlock)(hv:v'.ownBlock=qv.ownBlock∨v'.ownBlock=some w.heap.size):SX w' hi bS bY c1 c2 c3 pv v' fv piv (part++ [x]) fs:=by
 have hb:∀b,b<w.heap.size→qv.ownBlock≠some b→w'.heap[b]? =w.heap[b]? :=fun b hb hn=>hg.block b hb fun e=>hn e.symm
 have ha:=fun k hk hn=>grown_apart (w:=w) (w':=w') h.q.ltZ hv (k:=k) hk hn
 refine⟨h.s.sameZ (hb _ h.s.lt h.nb.2.1),h.hb,Nat.le_trans h.hh hg.size,ownsRow_sameZ h.p fun k hk=>hb k (h.p.ltZ k hk) fun e=>h.apq k hk e,ho,ownsRow_sameZ h.f fun k hk=>hb k (h.f.lt k hk) fun e=>h.aqf k e hk,fun y hy=> ?_,?_,h.apf,?_,h.nb.1,ha _ h.s.lt h.nb.2.1,h.nb.2.2⟩
 ·obtain ⟨a1,a2,a3,a4,a5,a6⟩:=h.l y hy
  exact⟨a1.sameZ fun k hk=>hb k (a1.ltZ k hk) fun e=>a5 k e hk,a2,a3,a4,fun k hk e=>ha k (a1.ltZ k e) (fun e'=>a5 k e' e) hk,a6⟩
 ·exact fun k hk e=>ha k (h.p.ltZ k hk) (fun e'=>h.apq k hk e') e
 ·exact fun k hk e=>ha k (h.f.lt k e) (fun e'=>h.aqf k e' e) hk
theorem SX.pushF {w':World}{v':Value}(h:SX w hi bS bY c1 c2 c3 pv qv fv piv part fs)(x:FnV)(hx:OwnN w hi x.sv x.q∧x.sv.ownBlock≠some bS∧Apart pv x.sv∧Apart qv x.sv∧Apart fv x.sv)(ho:OwnG TYN 1 fnC w' hi v' (fs++ [x]))(hg:w.grownBy w' fv.ownBlock)(hv:v'.ownBlock=fv.ownBlock∨v'.ownBlock=some w.heap.size):SX w' hi bS bY c1 c2 c3 pv qv v' piv part (fs++ [x]):=by
 have hb:∀b,b<w.heap.size→fv.ownBlock≠some b→w'.heap[b]? =w.heap[b]? :=fun b hb hn=>hg.block b hb fun e=>hn e.symm
 have ha:=fun k hk hn=>grown_apart (w:=w) (w':=w') h.f.lt hv (k:=k) hk hn
 refine⟨h.s.sameZ (hb _ h.s.lt h.nb.2.2),h.hb,Nat.le_trans h.hh hg.size,ownsRow_sameZ h.p fun k hk=>hb k (h.p.ltZ k hk) fun e=>h.apf k hk e,h.q.sameZ fun k hk=>hb k (h.q.ltZ k hk) fun e=>h.aqf k hk e,ho,fun y hy=> ?_,h.apq,?_,?_,h.nb.1,h.nb.2.1,ha _ h.s.lt h.nb.2.2⟩
 ·rcases List.mem_append.1 hy with hy | hy
  ·obtain ⟨a1,a2,a3,a4,a5,a6⟩:=h.l y hy
   exact⟨a1.sameZ fun k hk=>hb k (a1.ltZ k hk) fun e=>a6 k e hk,a2,a3,a4,a5,fun k hk e=>ha k (a1.ltZ k e) (fun e'=>a6 k e' e) hk⟩
  ·rw [List.mem_singleton.1 hy]
   obtain⟨a1,a3,a4,a5,a6⟩:=hx;exact⟨a1.sameZ fun k hk=>hb k (a1.ltZ k hk) fun e=>a6 k e hk,h.nb.1,a3,a4,a5,fun k hk e=>ha k (a1.ltZ k e) (fun e'=>a6 k e' e) hk⟩
 ·exact fun k hk e=>ha k (h.p.ltZ k hk) (fun e'=>h.apf k hk e') e
 ·exact fun k hk e=>ha k (h.q.ltZ k hk) (fun e'=>h.aqf k hk e') e
theorem SX.cells (h:SX w hi bS bY c1 c2 c3 pv qv fv piv part fs){w':World}{d1 d2 d3:Value}(hs:Blk w' bS #[.pointer (some ⟨bY,0,none⟩),d1,d2,d3])(hz:w'.heap.size=w.heap.size)(ho:∀b,b≠bS→w'.heap[b]? =w.heap[b]?):SX w' hi bS bY d1 d2 d3 pv qv fv piv part fs where
 s:=hs
 hb:=h.hb
 hh:=by rw [hz];exact h.hh
 p:=ownsRow_sameZ h.p fun k hk=>ho k fun e=>h.nb.1 (e ▸ hk)
 q:=h.q.sameZ fun k hk=>ho k fun e=>h.nb.2.1 (e ▸ hk)
 f:=ownsRow_sameZ h.f fun k hk=>ho k fun e=>h.nb.2.2 (e ▸ hk)
 l:=fun x hx=>⟨(h.l x hx).1.sameZ fun k hk=>ho k fun e=>(h.l x hx).2.2.1 (e ▸ hk),(h.l x hx).2⟩
 apq:=h.apq
 apf:=h.apf
 aqf:=h.aqf
 nb:=h.nb
theorem YC.off {w0 w w':World}{hi bY gc n L cc:Nat}{vr:Value}{xs:List ColV}(h:YC w0 w hi bY gc vr n L cc xs)(hk:Keep NoS w0 w')(hs:w.heap.size≤w'.heap.size)(ho:∀b,b<w.heap.size→b<hi→w'.heap[b]? =w.heap[b]?):YC w0 w' hi bY gc vr n L cc xs where
 k:=hk
 hw:=Nat.le_trans h.hw hs
 y:=h.y.sameZ (ho _ h.y.lt h.own.2.1)
 xl:=h.xl
 ql:=h.ql
 c:=by obtain⟨A,h1,h2⟩:=h.c;exact⟨A,h1.sameZ (ho _ h1.lt h.own.2.2.2),h2⟩
 cc:=h.cc
 r:=fun x hx=>⟨(h.r x hx).1.sameZ (ho _ (h.r x hx).1.lt (h.r x hx).2.2),(h.r x hx).2⟩
 d:=h.d
 xb:=h.xb
 yc:=h.yc
 own:=h.own
theorem YC.only {w0 w w':World}{hi bY gc n L cc g:Nat}{vr:Value}{xs:List ColV}(h:YC w0 w hi bY gc vr n L cc xs)(k:Keep (OnlyG g) w w')(hg:hi≤g)(h0:w0.heap.size≤hi):YC w0 w' hi bY gc vr n L cc xs:=
 h.off (h.k.trans k (fun b o hb ho=>by unfold OnlyG at ho;omega)) k.size fun b hb hlt=>k.sameG hb (by omega)
structure LQ where
 cols:List (List Rat)
 piv:List Int
 part:List Rat
 fs:List (List Rat)
def bdF (q:Rat):Bool:=decide (q.num.natAbs<4294967296^2850∧q.den<4294967296^12)
def bdM (c x:Rat):Bool:=decide ((c.num*x.num).natAbs<4294967296^2850)
theorem bdF_dl {q:Rat}(h:bdF q=true):dl q.num≤2850∧dl (q.den:Int)≤12:=by
 obtain⟨h1,h2⟩:=of_decide_eq_true h;exact⟨dl_le h1,dl_le (by simpa using h2)⟩
theorem allF_dl {l:List Rat}(h:l.all bdF=true):∀q∈l,dl q.num≤2850∧dl (q.den:Int)≤12:=fun q hq=>bdF_dl (List.all_eq_true.1 h q hq)
theorem dl_low {a:Int}{k:Nat}(h:k<dl a):4294967296^k≤a.natAbs:=by
 rw [← Nat.not_lt];intro hl;have:=dl_le hl;omega
theorem bdM_dl {c x:Rat}(h:bdM c x=true)(hc:dl c.num≤1500)(hx:dl x.num≤2850):dl c.num+dl x.num≤2851:=by
 have h:=of_decide_eq_true h
 rcases Nat.eq_zero_or_pos (dl c.num)with h1 | h1
 ·omega
 ·rcases Nat.eq_zero_or_pos (dl x.num)with h2 | h2
  ·omega
  ·have a:=dl_low (a:=c.num) (k:=dl c.num-1) (by omega)
   have b:=dl_low (a:=x.num) (k:=dl x.num-1) (by omega)
   rw [Int.natAbs_mul]at h;have e:=Nat.lt_of_le_of_lt (Nat.mul_le_mul a b) h;rw [← Nat.pow_add]at e;have:=(Nat.pow_lt_pow_iff_right (a:=4294967296) (by omega)).1 e
   omega
theorem dl_radd {a b:Rat}{k l:Nat}(h1:dl a.num+dl (b.den:Int)≤k)(h2:dl b.num+dl (a.den:Int)≤k)(h3:dl (a.den:Int)+dl (b.den:Int)≤l):dl (a+b).num≤k+1∧dl ((a+b).den:Int)≤l:=by
 rw [← rat_add];exact nb2_divInt (dl_add _ _ k (Nat.le_trans (dl_mul _ _) h1) (Nat.le_trans (dl_mul _ _) h2)) (Nat.le_trans (dl_mul _ _) h3) (Int.mul_ne_zero (den_ne a) (den_ne b))
theorem dl_rdiv {a b:Rat}(h0:b≠0):dl (a/b).num≤dl a.num+dl (b.den:Int)∧dl ((a/b).den:Int)≤dl (a.den:Int)+dl b.num:=by
 rw [← rat_quo h0];exact nb2_divInt (dl_mul _ _) (dl_mul _ _) (Int.mul_ne_zero (den_ne a) (rat_num_ne h0))
def unitQ (m i:Nat):List Rat:=(List.replicate m 0).set i 1
def restK (S:LQ)(m i:Nat)(tt:Rat):Nat→Rat × List Rat
 | 0=>(tt,unitQ m i)
 | k+1=>((restK S m i tt k).1-cellQ S.cols k i*S.part.getD k 0,lessQ (restK S m i tt k).2 (S.fs.getD k []) (cellQ S.cols k i))
theorem restK_len {S:LQ}{m i:Nat}{tt:Rat}:∀k,(restK S m i tt k).2.length=m
 | 0=>by simp [restK,unitQ]
 | k+1=>by simp only [restK];rw [lessQ_len];exact restK_len k
def okS (S:LQ)(m i:Nat)(tt:Rat):Bool:=bdC S.cols&&S.part.all bdF&&S.fs.all (·.all bdF)&&((List.range (S.piv.length+1)).all fun k=>bdF (restK S m i tt k).1&&(restK S m i tt k).2.all bdF)&&(List.range S.piv.length).all fun k=>bdM (cellQ S.cols k i) (S.part.getD k 0)&&(S.fs.getD k []).all (bdM (cellQ S.cols k i))
def stepR (n m f i:Nat)(tt:Rat)(S:LQ):Option (Option (List Rat) × LQ):=
 if okS S m i tt=false then none else
 let R:=restK S m i tt S.piv.length
 match clearR n i S.piv.length f S.cols with
 | none=>none
 | some (b,c)=>
  if bdC c=false then none else
  if b=false then(if R.1=0 then some (none,{S with cols:=c})else some (some (R.2.map (· *(1/(R.1+R.1)))),{S with cols:=c}))
  else
   let o:=1/cellQ c S.piv.length i
   if(R.1*o).den=1 then some (none,⟨c,S.piv++ [(i:Int)],S.part++ [R.1*o],S.fs++ [R.2.map (· *o)]⟩)
   else some (some (R.2.map (· *o)),{S with cols:=c})
theorem clearR_ne {n i fr:Nat}:∀ {f:Nat} {c:List (List Rat)} {c':List (List Rat)},c.length=n→clearR n i fr f c=some (true,c')→cellQ c' fr i≠0
 | 0,_,_,_,h=>by cases h
 | f+1,c,c',hl,h=>by
  obtain⟨h0,h1,h2⟩:=clearR_succ h;have hs:=(scan_bd (c:=c) (i:=i) (fr:=fr) (n-fr))
  by_cases e0:(scanS c i fr (n-fr)).2=0
  ·cases h0 e0
  ·obtain ⟨a1,a2,a3⟩:=hs.2 e0
   by_cases e1:(scanS c i fr (n-fr)).2=1
   ·have:=h1 e1
    cases this
    unfold cellQ at a3 ⊢;rw [swpQ_fr (by omega) (by omega)]
    exact a3
   ·exact clearR_ne (by rw [redK_len];simp [swpQ,hl]) (h2 e0 e1).2
theorem clearR_len {n i fr:Nat}:∀ {f:Nat} {c:List (List Rat)} {r:Bool × List (List Rat)},clearR n i fr f c=some r→r.2.length=c.length
 | 0,_,_,h=>by cases h
 | f+1,c,r,h=>by
  obtain⟨h0,h1,h2⟩:=clearR_succ h
  by_cases e0:(scanS c i fr (n-fr)).2=0
  ·rw [h0 e0]
  ·by_cases e1:(scanS c i fr (n-fr)).2=1
   ·rw [h1 e1];simp [swpQ]
   ·rw [clearR_len (h2 e0 e1).2,redK_len];simp [swpQ]
theorem YC.below {w0 w w':World}{hi bY gc n L cc:Nat}{vr:Value}{xs:List ColV}(h:YC w0 w hi bY gc vr n L cc xs)(k:Below hi w w')(h0:w0.heap.size≤hi):YC w0 w' hi bY gc vr n L cc xs:=
 h.off (Keep.of_below ((Keep.bel h.k).trans (k.mono h0)) (Nat.le_refl _)) k.size fun b _ hlt=>k.block b hlt
theorem app_intZ {w:World}{base:Nat}{v:Value}{xs:List Int}(hown:OwnI w base v xs){b:Nat}{x:Int}(hb:Blk w b #[.int .i64 x])(hl:xs.length≤1000)(hbase:base≤w.heap.size):
  ∃v' w',(Builtin.append_ #[24,24] 24 #[v,.slice (some ⟨b,0,none⟩) 1 1]).run Tryz.prog w= .ok v' w'∧OwnI w' base v' (xs++ [x])∧w.grownBy w' v.ownBlock∧(v'.ownBlock=v.ownBlock∨v'.ownBlock=some w.heap.size):=by
 obtain⟨i0,hi0,hz0,hz1,hz2⟩:=info_parts infoI;obtain⟨v',w',hr,ho,hgr,_,hv⟩:=run_append_own_at (P:=Tryz.prog) w base 24 24 TI i0 (.int .i64 0) 1 8 Tryz.underlying24 hi0 hz0 hz1 hz2 rfl (by decide) v xs.length (iv xs) hown ⟨b,0,none⟩ 1 1 [.int .i64 x] rfl
  (fun j u hj=>by rw [add_plain,Nat.zero_add,hb.cell j];simpa using hj) (by intro u hu;rw [List.mem_singleton.1 hu];rfl) (by unfold maxLen;omega) (by omega) hbase
 refine⟨v',w',hr,?_,hgr,hv⟩;unfold OwnI;rw [iv_app,List.length_append]
 simpa [iv]using ho
theorem app_numZ {w:World}{base:Nat}{v:Value}{qs:List Rat}(hown:OwnN w base v qs){b:Nat}{x:NV}{q:Rat}(hb:Blk w b #[.bool x.nb,.string x.nS,.bool x.db,.string x.dS])(hx:IsNum x.v q)(hl:qs.length≤1000)(hbase:base≤w.heap.size):
  ∃v' w',(Builtin.append_ #[49,49] 49 #[v,.slice (some ⟨b,0,none⟩) 1 1]).run Tryz.prog w= .ok v' w'∧OwnN w' base v' (qs++ [q])∧w.grownBy w' v.ownBlock∧(v'.ownBlock=v.ownBlock∨v'.ownBlock=some w.heap.size):=by
 obtain⟨i0,hi0,hz0,hz1,hz2⟩:=info_parts infoNum;obtain⟨l,hA,hown⟩:=hown;have hlen:=hA.1;obtain⟨v',w',hr,ho,hgr,_,hv⟩:=run_append_own_at (P:=Tryz.prog) w base 49 49 TNum i0 (.agg #[.bool false,.string ⟨#[]⟩,.bool false,.string ⟨#[]⟩]) 4 48 Tryz.underlying49 hi0 hz0 hz1 hz2 rfl (by decide) v l.length (nvs l) hown ⟨b,0,none⟩ 1 1 x.L (by simp [NV.L])
  (fun j u hj=>by rw [add_plain,Nat.zero_add,hb.cell j];simpa [NV.L]using hj) (by intro u hu;simp [NV.L]at hu;rcases hu with rfl | rfl | rfl | rfl<;>rfl) (by unfold maxLen;omega) (by omega) hbase
 exact⟨v',w',hr,⟨l++ [x],hA.push hx,by rw [← nvs_app,List.length_append];exact ho⟩,hgr,hv⟩
theorem app_fnZ {w:World}{base:Nat}{v:Value}{fs:List FnV}(hown:OwnG TYN 1 fnC w base v fs){b:Nat}{x:FnV}(hb:Blk w b #[x.sv])(h1:x.sv.oneCell'=true)(hl:fs.length≤1000)(hbase:base≤w.heap.size):
  ∃v' w',(Builtin.append_ #[50,50] 50 #[v,.slice (some ⟨b,0,none⟩) 1 1]).run Tryz.prog w= .ok v' w'∧OwnG TYN 1 fnC w' base v' (fs++ [x])∧w.grownBy w' v.ownBlock∧(v'.ownBlock=v.ownBlock∨v'.ownBlock=some w.heap.size):=by
 obtain⟨i0,hi0,hz0,hz1,hz2⟩:=info_parts infoYN;exact OwnG.app fnC_len Tryz.underlying50 hi0 hz0 hz1 hz2 rfl (by decide) hown (x:=x) hb (by
  intro y hy;simp [fnC]at hy;subst hy;exact h1) (by unfold maxLen;omega) (by omega) hbase
def EB (w:World)(bS:Nat)(P Q F:Value)(b:Nat)(A:Array Value):Prop:=Blk w b A∧b≠bS∧P.ownBlock≠some b∧Q.ownBlock≠some b∧F.ownBlock≠some b
def TE (w:World)(bS:Nat)(P Q F:Value)(c:Bool)(v:Value)(A:Array Value):Prop:=c=true→∃b,v= .slice (some ⟨b,0,none⟩) 1 1∧EB w bS P Q F b A
structure CC (wr w:World)(hi bS bY b5:Nat)(c1 c2 c3 P Q F:Value)(pl:List Int)(ql:List Rat)(fl:List FnV)(u:FnV)(X:Array Value)(s8 s15 s22:Bool)(v8 v15 v22:Value)(A8 A15 A22:Array Value):Prop where
 k:Below hi wr w
 x:SX w hi bS bY c1 c2 c3 P Q F pl ql fl
 u:OwnN w hi u.sv u.q∧u.sv.ownBlock≠some bS∧Apart P u.sv∧Apart Q u.sv∧Apart F u.sv
 t5:EB w bS P Q F b5 X
 t8:TE w bS P Q F s8 v8 A8
 t15:TE w bS P Q F s15 v15 A15
 t22:TE w bS P Q F s22 v22 A22
theorem EB.keep {w w':World}{bS b:Nat}{P Q F:Value}{A:Array Value}(h:EB w bS P Q F b A)(k:Keep NoS w w'):EB w' bS P Q F b A:=⟨h.1.keep k,h.2⟩
theorem TE.keep {w w':World}{bS:Nat}{P Q F v:Value}{c:Bool}{A:Array Value}(h:TE w bS P Q F c v A)(k:Keep NoS w w'):TE w' bS P Q F c v A:=fun hc=>by
 obtain⟨b,e,h⟩:=h hc;exact⟨b,e,h.keep k⟩
section
variable {wr w:World} {hi bS bY b5:Nat} {c1 c2 c3 P Q F:Value} {pl:List Int} {ql:List Rat} {fl:List FnV} {u:FnV} {X:Array Value} {s8 s15 s22:Bool} {v8 v15 v22:Value} {A8 A15 A22:Array Value}
theorem SX.ebNew (h:SX w hi bS bY c1 c2 c3 P Q F pl ql fl)(A:Array Value)(t:TypeId):EB (w.alloc (.cells A t)) bS P Q F w.heap.size A:=by
 have hc:=h.fresh (Nat.le_refl w.heap.size);exact⟨blk_at _ _ rfl,hc.1,hc.2.1,hc.2.2.1,hc.2.2.2.1⟩
theorem CC.keep {w':World}(h:CC wr w hi bS bY b5 c1 c2 c3 P Q F pl ql fl u X s8 s15 s22 v8 v15 v22 A8 A15 A22)(k:Keep NoS w w'):CC wr w' hi bS bY b5 c1 c2 c3 P Q F pl ql fl u X s8 s15 s22 v8 v15 v22 A8 A15 A22:=
 ⟨h.k.trans (k.below h.x.hh fun _ _ h=>h.elim),h.x.keep k,⟨h.u.1.keep k,h.u.2⟩,h.t5.keep k,h.t8.keep k,h.t15.keep k,h.t22.keep k⟩
theorem CC.build8 (h:CC wr w hi bS bY b5 c1 c2 c3 P Q F pl ql fl u X s8 s15 s22 v8 v15 v22 A8 A15 A22)(t:TypeId):CC wr (w.alloc (.cells A8 t)) hi bS bY b5 c1 c2 c3 P Q F pl ql fl u X true s15 s22 (.slice (some ⟨w.heap.size,0,none⟩) 1 1) v15 v22 A8 A15 A22:=by
 have h':=h.keep ((Keep.refl NoS w).alloc (.cells A8 t));exact⟨h'.k,h'.x,h'.u,h'.t5,fun _=>⟨_,rfl,h.x.ebNew _ _⟩,h.t15.keep ((Keep.refl _ _).alloc _),h.t22.keep ((Keep.refl _ _).alloc _)⟩
theorem CC.build15 (h:CC wr w hi bS bY b5 c1 c2 c3 P Q F pl ql fl u X s8 s15 s22 v8 v15 v22 A8 A15 A22)(t:TypeId):CC wr (w.alloc (.cells A15 t)) hi bS bY b5 c1 c2 c3 P Q F pl ql fl u X s8 true s22 v8 (.slice (some ⟨w.heap.size,0,none⟩) 1 1) v22 A8 A15 A22:=by
 have h':=h.keep ((Keep.refl NoS w).alloc (.cells A15 t));exact⟨h'.k,h'.x,h'.u,h'.t5,h.t8.keep ((Keep.refl _ _).alloc _),fun _=>⟨_,rfl,h.x.ebNew _ _⟩,h.t22.keep ((Keep.refl _ _).alloc _)⟩
theorem CC.build22 (h:CC wr w hi bS bY b5 c1 c2 c3 P Q F pl ql fl u X s8 s15 s22 v8 v15 v22 A8 A15 A22)(t:TypeId):CC wr (w.alloc (.cells A22 t)) hi bS bY b5 c1 c2 c3 P Q F pl ql fl u X s8 s15 true v8 v15 (.slice (some ⟨w.heap.size,0,none⟩) 1 1) A8 A15 A22:=by
 have h':=h.keep ((Keep.refl NoS w).alloc (.cells A22 t));exact⟨h'.k,h'.x,h'.u,h'.t5,h.t8.keep ((Keep.refl _ _).alloc _),h.t15.keep ((Keep.refl _ _).alloc _),fun _=>⟨_,rfl,h.x.ebNew _ _⟩⟩
theorem EB.grow {w':World}{R R':Value}{b:Nat}{A:Array Value}(hb:Blk w b A)(hR:R.ownBlock≠some b)(hg:w.grownBy w' R.ownBlock)(hlt:∀k,R.ownBlock=some k→k<w.heap.size)(hv:R'.ownBlock=R.ownBlock∨R'.ownBlock=some w.heap.size):Blk w' b A∧R'.ownBlock≠some b:=
 ⟨hb.sameZ (hg.block b hb.lt fun e=>hR e.symm),grown_apart (w:=w) (w':=w') hlt hv hb.lt hR⟩
theorem CC.pushP {w':World}{R':Value}(x:Int)(h:CC wr w hi bS bY b5 c1 c2 c3 P Q F pl ql fl u X s8 s15 s22 v8 v15 v22 A8 A15 A22)(ho:OwnI w' hi R' (pl++ [x]))(hg:w.grownBy w' P.ownBlock)(hv:R'.ownBlock=P.ownBlock∨R'.ownBlock=some w.heap.size):CC wr w' hi bS bY b5 c1 c2 c3 R' Q F (pl++ [x]) ql fl u X false s15 s22 v8 v15 v22 A8 A15 A22:=by
 have eb:∀ {b:Nat} {A:Array Value},EB w bS P Q F b A→EB w' bS R' Q F b A:=fun h1=>by
  have h':=h;have a:=EB.grow h1.1 h1.2.2.1 hg h.x.p.ltZ hv;have h:=h1;exact⟨a.1,h.2.1,a.2,h.2.2.2.1,h.2.2.2.2⟩
 have te:∀ {c:Bool} {v:Value} {A:Array Value},TE w bS P Q F c v A→TE w' bS R' Q F c v A:=fun h1 hc=>by
  obtain⟨b,e,h2⟩:=h1 hc;exact⟨b,e,eb h2⟩
 have ub:=fun k hk=>hg.block k (h.u.1.ltZ k hk) fun e=>h.u.2.2.1 k e.symm hk
 exact⟨h.k.grown hg h.x.hh h.x.p.block,h.x.pushP x ho hg hv,⟨h.u.1.sameZ ub,h.u.2.1,fun k hk e=>grown_apart (w:=w) (w':=w') h.x.p.ltZ hv (h.u.1.ltZ k e) (fun e'=>h.u.2.2.1 k e' e) hk,h.u.2.2.2.1,h.u.2.2.2.2⟩,eb h.t5,(fun hc=>by cases hc),te h.t15,te h.t22⟩
theorem CC.pushQ {w':World}{R':Value}(x:Rat)(h:CC wr w hi bS bY b5 c1 c2 c3 P Q F pl ql fl u X s8 s15 s22 v8 v15 v22 A8 A15 A22)(ho:OwnN w' hi R' (ql++ [x]))(hg:w.grownBy w' Q.ownBlock)(hv:R'.ownBlock=Q.ownBlock∨R'.ownBlock=some w.heap.size):CC wr w' hi bS bY b5 c1 c2 c3 P R' F pl (ql++ [x]) fl u X s8 false s22 v8 v15 v22 A8 A15 A22:=by
 have eb:∀ {b:Nat} {A:Array Value},EB w bS P Q F b A→EB w' bS P R' F b A:=fun h1=>by
  have h':=h;have a:=EB.grow h1.1 h1.2.2.2.1 hg h.x.q.ltZ hv;have h:=h1;exact⟨a.1,h.2.1,h.2.2.1,a.2,h.2.2.2.2⟩
 have te:∀ {c:Bool} {v:Value} {A:Array Value},TE w bS P Q F c v A→TE w' bS P R' F c v A:=fun h1 hc=>by
  obtain⟨b,e,h2⟩:=h1 hc;exact⟨b,e,eb h2⟩
 have ub:=fun k hk=>hg.block k (h.u.1.ltZ k hk) fun e=>h.u.2.2.2.1 k e.symm hk
 exact⟨h.k.grown hg h.x.hh h.x.q.block,h.x.pushQ x ho hg hv,⟨h.u.1.sameZ ub,h.u.2.1,h.u.2.2.1,fun k hk e=>grown_apart (w:=w) (w':=w') h.x.q.ltZ hv (h.u.1.ltZ k e) (fun e'=>h.u.2.2.2.1 k e' e) hk,h.u.2.2.2.2⟩,eb h.t5,te h.t8,(fun hc=>by cases hc),te h.t22⟩
theorem CC.pushF {w':World}{R':Value}(h:CC wr w hi bS bY b5 c1 c2 c3 P Q F pl ql fl u X s8 s15 s22 v8 v15 v22 A8 A15 A22)(ho:OwnG TYN 1 fnC w' hi R' (fl++ [u]))(hg:w.grownBy w' F.ownBlock)(hv:R'.ownBlock=F.ownBlock∨R'.ownBlock=some w.heap.size):CC wr w' hi bS bY b5 c1 c2 c3 P Q R' pl ql (fl++ [u]) u X s8 s15 false v8 v15 v22 A8 A15 A22:=by
 have eb:∀ {b:Nat} {A:Array Value},EB w bS P Q F b A→EB w' bS P Q R' b A:=fun h1=>by
  have h':=h;have a:=EB.grow h1.1 h1.2.2.2.2 hg h.x.f.lt hv;have h:=h1;exact⟨a.1,h.2.1,h.2.2.1,h.2.2.2.1,a.2⟩
 have te:∀ {c:Bool} {v:Value} {A:Array Value},TE w bS P Q F c v A→TE w' bS P Q R' c v A:=fun h1 hc=>by
  obtain⟨b,e,h2⟩:=h1 hc;exact⟨b,e,eb h2⟩
 have ub:=fun k hk=>hg.block k (h.u.1.ltZ k hk) fun e=>h.u.2.2.2.2 k e.symm hk
 exact⟨h.k.grown hg h.x.hh h.x.f.block,h.x.pushF u h.u ho hg hv,⟨h.u.1.sameZ ub,h.u.2.1,h.u.2.2.1,h.u.2.2.2.1,fun k hk e=>grown_apart (w:=w) (w':=w') h.x.f.lt hv (h.u.1.ltZ k e) (fun e'=>h.u.2.2.2.2 k e' e) hk⟩,eb h.t5,te h.t8,te h.t15,(fun hc=>by cases hc)⟩
theorem CC.store1 (h:CC wr w hi bS bY b5 c1 c2 c3 P Q F pl ql fl u X s8 s15 s22 v8 v15 v22 A8 A15 A22):CC wr (w.setCell ⟨bS,1,none⟩ P) hi bS bY b5 P c2 c3 P Q F pl ql fl u X s8 s15 s22 v8 v15 v22 A8 A15 A22:=by
 have ho:∀b,b≠bS→(w.setCell ⟨bS,1,none⟩ P).heap[b]? =w.heap[b]? :=fun b hb=>heap_setCell_other _ _ _ _ hb
 have te:∀ {c:Bool} {v:Value} {A:Array Value},TE w bS P Q F c v A→TE (w.setCell ⟨bS,1,none⟩ P) bS P Q F c v A:=fun h1 hc=>by
  obtain⟨b,e,h2,h3⟩:=h1 hc;exact⟨b,e,h2.sameZ (ho b h3.1),h3⟩
 exact⟨h.k.setCell h.x.hb _,h.x.cells (h.x.s.set 1 P) (by simp) ho,⟨h.u.1.sameZ fun k hk=>ho k fun e=>h.u.2.1 (e ▸ hk),h.u.2⟩,⟨h.t5.1.sameZ (ho _ h.t5.2.1),h.t5.2⟩,te h.t8,te h.t15,te h.t22⟩
theorem CC.store2 (h:CC wr w hi bS bY b5 c1 c2 c3 P Q F pl ql fl u X s8 s15 s22 v8 v15 v22 A8 A15 A22):CC wr (w.setCell ⟨bS,2,none⟩ Q) hi bS bY b5 c1 Q c3 P Q F pl ql fl u X s8 s15 s22 v8 v15 v22 A8 A15 A22:=by
 have ho:∀b,b≠bS→(w.setCell ⟨bS,2,none⟩ Q).heap[b]? =w.heap[b]? :=fun b hb=>heap_setCell_other _ _ _ _ hb
 have te:∀ {c:Bool} {v:Value} {A:Array Value},TE w bS P Q F c v A→TE (w.setCell ⟨bS,2,none⟩ Q) bS P Q F c v A:=fun h1 hc=>by
  obtain⟨b,e,h2,h3⟩:=h1 hc;exact⟨b,e,h2.sameZ (ho b h3.1),h3⟩
 exact⟨h.k.setCell h.x.hb _,h.x.cells (h.x.s.set 2 Q) (by simp) ho,⟨h.u.1.sameZ fun k hk=>ho k fun e=>h.u.2.1 (e ▸ hk),h.u.2⟩,⟨h.t5.1.sameZ (ho _ h.t5.2.1),h.t5.2⟩,te h.t8,te h.t15,te h.t22⟩
theorem CC.store3 (h:CC wr w hi bS bY b5 c1 c2 c3 P Q F pl ql fl u X s8 s15 s22 v8 v15 v22 A8 A15 A22):CC wr (w.setCell ⟨bS,3,none⟩ F) hi bS bY b5 c1 c2 F P Q F pl ql fl u X s8 s15 s22 v8 v15 v22 A8 A15 A22:=by
 have ho:∀b,b≠bS→(w.setCell ⟨bS,3,none⟩ F).heap[b]? =w.heap[b]? :=fun b hb=>heap_setCell_other _ _ _ _ hb
 have te:∀ {c:Bool} {v:Value} {A:Array Value},TE w bS P Q F c v A→TE (w.setCell ⟨bS,3,none⟩ F) bS P Q F c v A:=fun h1 hc=>by
  obtain⟨b,e,h2,h3⟩:=h1 hc;exact⟨b,e,h2.sameZ (ho b h3.1),h3⟩
 exact⟨h.k.setCell h.x.hb _,h.x.cells (h.x.s.set 3 F) (by simp) ho,⟨h.u.1.sameZ fun k hk=>ho k fun e=>h.u.2.1 (e ▸ hk),h.u.2⟩,⟨h.t5.1.sameZ (ho _ h.t5.2.1),h.t5.2⟩,te h.t8,te h.t15,te h.t22⟩
end
def C20 (wr:World)(hi bS bY b5:Nat)(pv qv fv:Value)(piv:List Int)(part:List Rat)(fs:List FnV)(u:FnV)(x:Int)(rq:Rat)(X:Array Value)(S:Nat→Bool)(σ:Nat→Value)(w:World):Prop:=
 CC wr w hi bS bY b5 (if S 26=true then σ 9 else pv) (if S 29=true then σ 16 else qv) (if S 32=true then σ 23 else fv) (if S 9=true then σ 9 else pv) (if S 16=true then σ 16 else qv) (if S 23=true then σ 23 else fv)
  (if S 9=true then piv++ [x]else piv) (if S 16=true then part++ [rq]else part) (if S 23=true then fs++ [u]else fs) u X (S 8&& !S 9) (S 15&& !S 16) (S 22&& !S 23) (σ 8) (σ 15) (σ 22) #[.int .i64 x] X #[u.sv]
theorem C20_q {wr:World}{hi bS bY b5:Nat}{pv qv fv:Value}{piv:List Int}{part:List Rat}{fs:List FnV}{u:FnV}{x:Int}{rq:Rat}{X:Array Value}{S:Nat→Bool}{σ:Nat→Value}{w:World}{e:Nat}{v:Value}(he:e≠8∧e≠9∧e≠15∧e≠16∧e≠22∧e≠23∧e≠26∧e≠29∧e≠32)(h:C20 wr hi bS bY b5 pv qv fv piv part fs u x rq X S σ w):C20 wr hi bS bY b5 pv qv fv piv part fs u x rq X (mark S e) (upd σ e v) w:=by
 obtain⟨h1,h2,h3,h4,h5,h6,h7,h8,h9⟩:=he;unfold C20 mark upd;simp only [if_neg (Ne.symm h1),if_neg (Ne.symm h2),if_neg (Ne.symm h3),if_neg (Ne.symm h4),if_neg (Ne.symm h5),if_neg (Ne.symm h6),if_neg (Ne.symm h7),if_neg (Ne.symm h8),if_neg (Ne.symm h9)];exact h
theorem C20_8 {wr:World}{hi bS bY b5:Nat}{pv qv fv:Value}{piv:List Int}{part:List Rat}{fs:List FnV}{u:FnV}{x:Int}{rq:Rat}{X:Array Value}{S:Nat→Bool}{σ:Nat→Value}{w:World}(h:C20 wr hi bS bY b5 pv qv fv piv part fs u x rq X S σ w)(ha:S 9=false)(t:TypeId):C20 wr hi bS bY b5 pv qv fv piv part fs u x rq X (mark S 8) (upd σ 8 (.slice (some ⟨w.heap.size,0,none⟩) 1 1)) (w.alloc (.cells #[.int .i64 x] t)):=by
 have h:=CC.build8 h t;unfold C20 mark upd;simp only [Nat.reduceEqDiff,if_true,if_false,Bool.true_and,Bool.not_true,Bool.and_false,Bool.and_true,Bool.not_false,ha,Bool.false_eq_true];simp only [ha,Bool.false_eq_true,if_false]at h;exact h
theorem C20_15 {wr:World}{hi bS bY b5:Nat}{pv qv fv:Value}{piv:List Int}{part:List Rat}{fs:List FnV}{u:FnV}{x:Int}{rq:Rat}{X:Array Value}{S:Nat→Bool}{σ:Nat→Value}{w:World}(h:C20 wr hi bS bY b5 pv qv fv piv part fs u x rq X S σ w)(ha:S 16=false)(t:TypeId):C20 wr hi bS bY b5 pv qv fv piv part fs u x rq X (mark S 15) (upd σ 15 (.slice (some ⟨w.heap.size,0,none⟩) 1 1)) (w.alloc (.cells X t)):=by
 have h:=CC.build15 h t;unfold C20 mark upd;simp only [Nat.reduceEqDiff,if_true,if_false,Bool.true_and,Bool.not_true,Bool.and_false,Bool.and_true,Bool.not_false,ha,Bool.false_eq_true];simp only [ha,Bool.false_eq_true,if_false]at h;exact h
theorem C20_22 {wr:World}{hi bS bY b5:Nat}{pv qv fv:Value}{piv:List Int}{part:List Rat}{fs:List FnV}{u:FnV}{x:Int}{rq:Rat}{X:Array Value}{S:Nat→Bool}{σ:Nat→Value}{w:World}(h:C20 wr hi bS bY b5 pv qv fv piv part fs u x rq X S σ w)(ha:S 23=false)(t:TypeId):C20 wr hi bS bY b5 pv qv fv piv part fs u x rq X (mark S 22) (upd σ 22 (.slice (some ⟨w.heap.size,0,none⟩) 1 1)) (w.alloc (.cells #[u.sv] t)):=by
 have h:=CC.build22 h t;unfold C20 mark upd;simp only [Nat.reduceEqDiff,if_true,if_false,Bool.true_and,Bool.not_true,Bool.and_false,Bool.and_true,Bool.not_false,ha,Bool.false_eq_true];simp only [ha,Bool.false_eq_true,if_false]at h;exact h
theorem C20_9 {wr:World}{hi bS bY b5:Nat}{pv qv fv:Value}{piv:List Int}{part:List Rat}{fs:List FnV}{u:FnV}{x:Int}{rq:Rat}{X:Array Value}{S:Nat→Bool}{σ:Nat→Value}{w w':World}{R':Value}(h:C20 wr hi bS bY b5 pv qv fv piv part fs u x rq X S σ w)(h0:S 9=false)(hs:S 26=false)(ho:OwnI w' hi R' (piv++ [x]))(hg:w.grownBy w' (pv).ownBlock)(hv:R'.ownBlock=(pv).ownBlock∨R'.ownBlock=some w.heap.size):C20 wr hi bS bY b5 pv qv fv piv part fs u x rq X (mark S 9) (upd σ 9 R') w':=by
 unfold C20 at h;simp only [h0,hs,Bool.false_eq_true,if_false]at h;have h:=CC.pushP x h ho hg hv;unfold C20 mark upd;simp only [Nat.reduceEqDiff,if_true,if_false,Bool.true_and,Bool.not_true,Bool.and_false,Bool.and_true,Bool.not_false,hs,Bool.false_eq_true];exact h
theorem C20_16 {wr:World}{hi bS bY b5:Nat}{pv qv fv:Value}{piv:List Int}{part:List Rat}{fs:List FnV}{u:FnV}{x:Int}{rq:Rat}{X:Array Value}{S:Nat→Bool}{σ:Nat→Value}{w w':World}{R':Value}(h:C20 wr hi bS bY b5 pv qv fv piv part fs u x rq X S σ w)(h0:S 16=false)(hs:S 29=false)(ho:OwnN w' hi R' (part++ [rq]))(hg:w.grownBy w' (qv).ownBlock)(hv:R'.ownBlock=(qv).ownBlock∨R'.ownBlock=some w.heap.size):C20 wr hi bS bY b5 pv qv fv piv part fs u x rq X (mark S 16) (upd σ 16 R') w':=by
 unfold C20 at h;simp only [h0,hs,Bool.false_eq_true,if_false]at h;have h:=CC.pushQ rq h ho hg hv;unfold C20 mark upd;simp only [Nat.reduceEqDiff,if_true,if_false,Bool.true_and,Bool.not_true,Bool.and_false,Bool.and_true,Bool.not_false,hs,Bool.false_eq_true];exact h
theorem C20_23 {wr:World}{hi bS bY b5:Nat}{pv qv fv:Value}{piv:List Int}{part:List Rat}{fs:List FnV}{u:FnV}{x:Int}{rq:Rat}{X:Array Value}{S:Nat→Bool}{σ:Nat→Value}{w w':World}{R':Value}(h:C20 wr hi bS bY b5 pv qv fv piv part fs u x rq X S σ w)(h0:S 23=false)(hs:S 32=false)(ho:OwnG TYN 1 fnC w' hi R' (fs++ [u]))(hg:w.grownBy w' (fv).ownBlock)(hv:R'.ownBlock=(fv).ownBlock∨R'.ownBlock=some w.heap.size):C20 wr hi bS bY b5 pv qv fv piv part fs u x rq X (mark S 23) (upd σ 23 R') w':=by
 unfold C20 at h;simp only [h0,hs,Bool.false_eq_true,if_false]at h;have h:=CC.pushF h ho hg hv;unfold C20 mark upd;simp only [Nat.reduceEqDiff,if_true,if_false,Bool.true_and,Bool.not_true,Bool.and_false,Bool.and_true,Bool.not_false,hs,Bool.false_eq_true];exact h
theorem C20_26 {wr:World}{hi bS bY b5:Nat}{pv qv fv:Value}{piv:List Int}{part:List Rat}{fs:List FnV}{u:FnV}{x:Int}{rq:Rat}{X:Array Value}{S:Nat→Bool}{σ:Nat→Value}{w:World}{v:Value}(h:C20 wr hi bS bY b5 pv qv fv piv part fs u x rq X S σ w)(ha:S 9=true):C20 wr hi bS bY b5 pv qv fv piv part fs u x rq X (mark S 26) (upd σ 26 v) (w.setCell ⟨bS,1,none⟩ (σ 9)):=by
 unfold C20 at h;have h:=CC.store1 h;unfold C20 mark upd;simp only [Nat.reduceEqDiff,if_true,if_false,ha];simp only [ha,if_true]at h;exact h
theorem C20_29 {wr:World}{hi bS bY b5:Nat}{pv qv fv:Value}{piv:List Int}{part:List Rat}{fs:List FnV}{u:FnV}{x:Int}{rq:Rat}{X:Array Value}{S:Nat→Bool}{σ:Nat→Value}{w:World}{v:Value}(h:C20 wr hi bS bY b5 pv qv fv piv part fs u x rq X S σ w)(ha:S 16=true):C20 wr hi bS bY b5 pv qv fv piv part fs u x rq X (mark S 29) (upd σ 29 v) (w.setCell ⟨bS,2,none⟩ (σ 16)):=by
 unfold C20 at h;have h:=CC.store2 h;unfold C20 mark upd;simp only [Nat.reduceEqDiff,if_true,if_false,ha];simp only [ha,if_true]at h;exact h
theorem C20_32 {wr:World}{hi bS bY b5:Nat}{pv qv fv:Value}{piv:List Int}{part:List Rat}{fs:List FnV}{u:FnV}{x:Int}{rq:Rat}{X:Array Value}{S:Nat→Bool}{σ:Nat→Value}{w:World}{v:Value}(h:C20 wr hi bS bY b5 pv qv fv piv part fs u x rq X S σ w)(ha:S 23=true):C20 wr hi bS bY b5 pv qv fv piv part fs u x rq X (mark S 32) (upd σ 32 v) (w.setCell ⟨bS,3,none⟩ (σ 23)):=by
 unfold C20 at h;have h:=CC.store3 h;unfold C20 mark upd;simp only [Nat.reduceEqDiff,if_true,if_false,ha];simp only [ha,if_true]at h;exact h
theorem C20_s {wr:World}{hi bS bY b5:Nat}{pv qv fv:Value}{piv:List Int}{part:List Rat}{fs:List FnV}{u:FnV}{x:Int}{rq:Rat}{X:Array Value}{S:Nat→Bool}{σ:Nat→Value}{w:World}(h:C20 wr hi bS bY b5 pv qv fv piv part fs u x rq X S σ w):Blk w bS #[.pointer (some ⟨bY,0,none⟩),(if S 26=true then σ 9 else pv),(if S 29=true then σ 16 else qv),(if S 32=true then σ 23 else fv)]:=CC.x h |>.s
theorem C20_h {wr:World}{hi bS bY b5:Nat}{pv qv fv:Value}{piv:List Int}{part:List Rat}{fs:List FnV}{u:FnV}{x:Int}{rq:Rat}{X:Array Value}{S:Nat→Bool}{σ:Nat→Value}{w:World}(h:C20 wr hi bS bY b5 pv qv fv piv part fs u x rq X S σ w):hi≤w.heap.size:=CC.x h |>.hh
theorem C20_b {wr:World}{hi bS bY b5:Nat}{pv qv fv:Value}{piv:List Int}{part:List Rat}{fs:List FnV}{u:FnV}{x:Int}{rq:Rat}{X:Array Value}{S:Nat→Bool}{σ:Nat→Value}{w:World}(h:C20 wr hi bS bY b5 pv qv fv piv part fs u x rq X S σ w):Blk w b5 X:=(CC.t5 h).1
theorem C20_p {wr:World}{hi bS bY b5:Nat}{pv qv fv:Value}{piv:List Int}{part:List Rat}{fs:List FnV}{u:FnV}{x:Int}{rq:Rat}{X:Array Value}{S:Nat→Bool}{σ:Nat→Value}{w:World}(h:C20 wr hi bS bY b5 pv qv fv piv part fs u x rq X S σ w):OwnI w hi (if S 9=true then σ 9 else pv) (if S 9=true then piv++ [x]else piv):=CC.x h |>.p
theorem C20_n {wr:World}{hi bS bY b5:Nat}{pv qv fv:Value}{piv:List Int}{part:List Rat}{fs:List FnV}{u:FnV}{x:Int}{rq:Rat}{X:Array Value}{S:Nat→Bool}{σ:Nat→Value}{w:World}(h:C20 wr hi bS bY b5 pv qv fv piv part fs u x rq X S σ w):OwnN w hi (if S 16=true then σ 16 else qv) (if S 16=true then part++ [rq]else part):=CC.x h |>.q
theorem C20_f {wr:World}{hi bS bY b5:Nat}{pv qv fv:Value}{piv:List Int}{part:List Rat}{fs:List FnV}{u:FnV}{x:Int}{rq:Rat}{X:Array Value}{S:Nat→Bool}{σ:Nat→Value}{w:World}(h:C20 wr hi bS bY b5 pv qv fv piv part fs u x rq X S σ w):OwnG TYN 1 fnC w hi (if S 23=true then σ 23 else fv) (if S 23=true then fs++ [u]else fs):=CC.x h |>.f
theorem C20_t8 {wr:World}{hi bS bY b5:Nat}{pv qv fv:Value}{piv:List Int}{part:List Rat}{fs:List FnV}{u:FnV}{x:Int}{rq:Rat}{X:Array Value}{S:Nat→Bool}{σ:Nat→Value}{w:World}(h:C20 wr hi bS bY b5 pv qv fv piv part fs u x rq X S σ w)(h1:S 8=true)(h2:S 9=false):∃b,σ 8= .slice (some ⟨b,0,none⟩) 1 1∧Blk w b #[.int .i64 x]:=by
 obtain⟨b,e,h,_⟩:=CC.t8 h (by rw [h1,h2];rfl)
 exact⟨b,e,h⟩
theorem C20_t15 {wr:World}{hi bS bY b5:Nat}{pv qv fv:Value}{piv:List Int}{part:List Rat}{fs:List FnV}{u:FnV}{x:Int}{rq:Rat}{X:Array Value}{S:Nat→Bool}{σ:Nat→Value}{w:World}(h:C20 wr hi bS bY b5 pv qv fv piv part fs u x rq X S σ w)(h1:S 15=true)(h2:S 16=false):∃b,σ 15= .slice (some ⟨b,0,none⟩) 1 1∧Blk w b X:=by
 obtain⟨b,e,h,_⟩:=CC.t15 h (by rw [h1,h2];rfl)
 exact⟨b,e,h⟩
theorem C20_t22 {wr:World}{hi bS bY b5:Nat}{pv qv fv:Value}{piv:List Int}{part:List Rat}{fs:List FnV}{u:FnV}{x:Int}{rq:Rat}{X:Array Value}{S:Nat→Bool}{σ:Nat→Value}{w:World}(h:C20 wr hi bS bY b5 pv qv fv piv part fs u x rq X S σ w)(h1:S 22=true)(h2:S 23=false):∃b,σ 22= .slice (some ⟨b,0,none⟩) 1 1∧Blk w b #[u.sv]:=by
 obtain⟨b,e,h,_⟩:=CC.t22 h (by rw [h1,h2];rfl)
 exact⟨b,e,h⟩
theorem C20_end {wr:World}{hi bS bY b5:Nat}{pv qv fv:Value}{piv:List Int}{part:List Rat}{fs:List FnV}{u:FnV}{x:Int}{rq:Rat}{X:Array Value}{S:Nat→Bool}{σ:Nat→Value}{w:World}(h:C20 wr hi bS bY b5 pv qv fv piv part fs u x rq X S σ w)(hS:∀e,e<33→S e=true):Below hi wr w∧SS w hi bS bY (σ 9) (σ 16) (σ 23) (piv++ [x]) (part++ [rq]) (fs++ [u]):=by
 refine⟨CC.k h,?_⟩;have h:=CC.x h;simp only [hS 9 (by omega),hS 16 (by omega),hS 23 (by omega),hS 26 (by omega),hS 29 (by omega),hS 32 (by omega),if_true]at h
 exact h
theorem C20_init {wr:World}{hi bS bY b5:Nat}{pv qv fv:Value}{piv:List Int}{part:List Rat}{fs:List FnV}{u:FnV}{x:Int}{rq:Rat}{X:Array Value}{S:Nat→Bool}{σ:Nat→Value}{w:World}(hS:∀e,S e=false)(h1:Below hi wr w)(h2:SS w hi bS bY pv qv fv piv part fs)(h3:OwnN w hi u.sv u.q∧u.sv.ownBlock≠some bS∧Apart pv u.sv∧Apart qv u.sv∧Apart fv u.sv)(h4:EB w bS pv qv fv b5 X):C20 wr hi bS bY b5 pv qv fv piv part fs u x rq X S σ w:=by
 unfold C20;simp only [hS,Bool.false_eq_true,if_false,Bool.false_and];exact⟨h1,h2,h3,h4,fun h=>(by cases h),fun h=>(by cases h),fun h=>(by cases h)⟩
def pst20 (bS:Nat)(pv qv fv uv:Value)(x:Int)(X:Array Value)(S:Nat→Bool):Nat→Value→World→Prop
 | 0,v,_=>v= .pointer (some ⟨bS,0,none⟩)
 | 1,v,_=>v= .pointer (some ⟨bS,0,none⟩)
 | 2,v,_=>v= .pointer (some ⟨bS,0,none⟩)
 | 3,v,_=>v= .pointer (some ⟨bS,0,none⟩)
 | 4,v,_=>v= .pointer (some ⟨bS,0,none⟩)
 | 5,v,_=>v= .pointer (some ⟨bS,1,none⟩)
 | 6,v,_=>v=pv
 | 7,v,_=>v= .int .i64 x
 | 10,v,_=>v= .pointer (some ⟨bS,0,none⟩)
 | 11,v,_=>v= .pointer (some ⟨bS,0,none⟩)
 | 12,v,_=>v= .pointer (some ⟨bS,2,none⟩)
 | 13,v,_=>v=qv
 | 14,v,_=>v= .agg X
 | 17,v,_=>v= .pointer (some ⟨bS,0,none⟩)
 | 18,v,_=>v= .pointer (some ⟨bS,0,none⟩)
 | 19,v,_=>v= .pointer (some ⟨bS,3,none⟩)
 | 20,v,_=>v=fv
 | 21,v,_=>v=uv
 | 24,v,_=>v= .pointer (some ⟨bS,0,none⟩)
 | 25,v,_=>v= .pointer (some ⟨bS,1,none⟩)
 | 27,v,_=>v= .pointer (some ⟨bS,0,none⟩)
 | 28,v,_=>v= .pointer (some ⟨bS,2,none⟩)
 | 30,v,_=>v= .pointer (some ⟨bS,0,none⟩)
 | 31,v,_=>v= .pointer (some ⟨bS,3,none⟩)
 | _,_,_=>True
theorem pst20_any {bS:Nat}{pv qv fv uv:Value}{x:Int}{X:Array Value}{S S':Nat→Bool}{w w':World}:∀(d:Nat) (v:Value),pst20 bS pv qv fv uv x X S d v w→pst20 bS pv qv fv uv x X S' d v w'
 | 0,v,h=>h
 | 1,v,h=>h
 | 2,v,h=>h
 | 3,v,h=>h
 | 4,v,h=>h
 | 5,v,h=>h
 | 6,v,h=>h
 | 7,v,h=>h
 | 8,v,h=>h
 | 9,v,h=>h
 | 10,v,h=>h
 | 11,v,h=>h
 | 12,v,h=>h
 | 13,v,h=>h
 | 14,v,h=>h
 | 15,v,h=>h
 | 16,v,h=>h
 | 17,v,h=>h
 | 18,v,h=>h
 | 19,v,h=>h
 | 20,v,h=>h
 | 21,v,h=>h
 | 22,v,h=>h
 | 23,v,h=>h
 | 24,v,h=>h
 | 25,v,h=>h
 | 26,v,h=>h
 | 27,v,h=>h
 | 28,v,h=>h
 | 29,v,h=>h
 | 30,v,h=>h
 | 31,v,h=>h
 | 32,v,h=>h
 | n+33,v,h=>h
end Go.Proofs.YtcnjcnjipddgeaaGreat
