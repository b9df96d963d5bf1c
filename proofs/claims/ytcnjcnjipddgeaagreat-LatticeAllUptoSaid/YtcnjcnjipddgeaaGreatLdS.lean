/- Package lattice's Do, plain: the sizes of all its numbers; what its answers are good for. -/
import Derived.Test.YtcnjcnjipddgeaaGreatLdW
import Derived.Test.YtcnjcnjipddgeaaGreatLcI
namespace Go.Proofs.YtcnjcnjipddgeaaGreat
set_option linter.unusedSimpArgs false
set_option linter.unusedVariables false
open Go.ChangeShapes Go.WideShapes Go.RowKit
def prodN (g:Nat→Nat):Nat→Nat
 | 0=>1
 | k+1=>prodN g k*g k
def dgN (g:Nat→Nat):Nat→Nat→Nat→Nat
 | 0,_,_=>0
 | K+1,t,q=>if q=K then t/prodN g K else dgN g K (t%prodN g K) q
theorem prodN_pos {g:Nat→Nat}:∀K,(∀q,q<K→0<g q)→0<prodN g K
 | 0,_=>Nat.one_pos
 | K+1,h=>Nat.mul_pos (prodN_pos K fun q hq=>h q (by omega)) (h K (by omega))
theorem dgN_lt {g:Nat→Nat}:∀K t,(∀q,q<K→0<g q)→t<prodN g K→∀q,q<K→dgN g K t q<g q
 | 0,_,_,_,q,hq=>absurd hq (by omega)
 | K+1,t,h,ht,q,hq=>by
  have hp:=prodN_pos K fun q hq=>h q (by omega)
  unfold dgN
  by_cases e:q=K
  ·rw [if_pos e,e]
   exact Nat.div_lt_of_lt_mul ht
  ·rw [if_neg e]
   exact dgN_lt K _ (fun q hq=>h q (by omega)) (Nat.mod_lt _ hp) q (by omega)
theorem dgN_inj {g:Nat→Nat}:∀K t t',(∀q,q<K→0<g q)→t<prodN g K→t'<prodN g K→(∀q,q<K→dgN g K t q=dgN g K t' q)→t=t'
 | 0,t,t',_,h,h',_=>by simp only [prodN]at h h';omega
 | K+1,t,t',h,ht,ht',he=>by
  have hp:=prodN_pos K fun q hq=>h q (by omega)
  have h1:=he K (by omega)
  unfold dgN at h1;rw [if_pos rfl,if_pos rfl]at h1;have h2:=dgN_inj K (t%prodN g K) (t'%prodN g K) (fun q hq=>h q (by omega)) (Nat.mod_lt _ hp) (Nat.mod_lt _ hp) (fun q hq=>by
   have:=he q (by omega)
   unfold dgN at this
   rwa [if_neg (by omega),if_neg (by omega)]at this)
  rw [← Nat.div_add_mod t (prodN g K),←Nat.div_add_mod t' (prodN g K),h1,h2]
theorem fwd {v:Nat→Nat→Rat}:∀K,(∀q,q<K→v q q≠0)→(∀q k,q<k→k<K→v q k=0)→∀y:Nat→Rat,∃s:Nat→Rat,∀q,q<K→(sQ K fun k=>s k*v q k)=y q
 | 0,_,_,y=>⟨fun _=>0,fun q hq=>absurd hq (by omega)⟩
 | K+1,h1,h2,y=>by
  obtain⟨s,hs⟩:=fwd K (fun q hq=>h1 q (by omega)) (fun q k a b=>h2 q k a (by omega)) y
  refine⟨fun k=>if k=K then(y K-sQ K fun k=>s k*v K k)/v K K else s k,fun q hq=> ?_⟩
  simp only [sQ];rw [if_pos trivial];have e1:∀q,(sQ K fun k=>(if k=K then(y K-sQ K fun k=>s k*v K k)/v K K else s k)*v q k)=sQ K fun k=>s k*v q k:=fun q=>sQ_congr K fun k hk=>by rw [if_neg (by omega)]
  rw [e1]
  by_cases e:q=K
  ·subst e
   have:=h1 q (by omega)
   grind
  ·rw [hs q (by omega),h2 q K (by omega) (by omega)];grind
theorem sQ_wi {f:Nat→Rat}{M:Rat}:∀n,(∀j,j<n→Wi M (f j))→Wi ((n:Rat)*M) (sQ n f)
 | 0,_=>by
  have e:((0:Nat):Rat)=0:=rfl;rw [e];unfold Wi sQ;grind
 | n+1,h=>by
  have h1:=sQ_wi n fun j hj=>h j (by omega)
  have h2:=h n (by omega)
  have h6:((n+1:Nat):Rat)=(n:Rat)+1:=by rw [Rat.natCast_add];rfl
  rw [h6];unfold sQ;exact(h1.add h2).mono (by grind)
theorem fl_frac (x:Rat):0≤x-(x.floor:Rat)∧x-(x.floor:Rat)≤1:=by
 have h1:=Rat.floor_le x;have h2:=Rat.lt_floor_add_one x;rw [Rat.intCast_add]at h2;have:((1:Int):Rat)=1:=rfl;rw [this]at h2
 constructor<;>grind
theorem index_bound {n K M:Nat}{B:Nat→Nat→Int}{c:Nat→Nat→Int}(hK:K≤n)(hB:∀q j,q<K→j<n→(B q j).natAbs≤M)
  (span:∀v:Nat→Int,∃z:Nat→Int,∀j,j<n→v j=sZ n fun k=>z k*c k j)
  {val:Nat→Nat→Int} (hval:∀q k,q<K→k<n→val q k=sZ n fun j=>B q j*c k j)
  (tri:∀q k,q<K→q<k→k<n→val q k=0) (ne:∀q,q<K→val q q≠0):prodN (fun q=>(val q q).natAbs) K≤(2*(n*M)+1)^K:=by
 rw [← Nat.not_lt];intro hlt;have hg:∀q,q<K→0<(val q q).natAbs:=fun q hq=>by have:=ne q hq;omega
 have key:∀t,∃p:(Nat→Int) × (Nat→Int),∀q,q<K→p.1 q=(dgN (fun q=>(val q q).natAbs) K t q:Int)-(sZ n fun j=>B q j*p.2 j)∧(p.1 q).natAbs≤n*M:=fun t=>by
  obtain⟨s,hs⟩:=fwd (v:=fun q k=>(val q k:Rat)) K (fun q hq h0=>ne q hq (by have:((val q q:Int):Rat)=((0:Int):Rat):=h0;exact Rat.intCast_inj.1 this)) (fun q k a b=>by rw [tri q k (by omega) a (by omega)];rfl) (fun q=>((dgN (fun q=>(val q q).natAbs) K t q:Nat):Int))
  obtain⟨x,hx⟩:∃x:Nat→Rat,x=fun j=>sQ K fun k=>s k*(c k j:Rat):=⟨_,rfl⟩
  refine⟨⟨fun q=>(dgN (fun q=>(val q q).natAbs) K t q:Int)-(sZ n fun j=>B q j*(x j).floor),fun j=>(x j).floor⟩,fun q hq=>⟨rfl,?_⟩⟩
  simp only;have e1:(sQ n fun j=>(B q j:Rat)*x j)=((dgN (fun q=>(val q q).natAbs) K t q:Nat):Int):=by
   rw [← hs q hq];have:(sQ n fun j=>(B q j:Rat)*x j)=sQ n fun j=>sQ K fun k=>s k*((B q j:Rat)*(c k j:Rat)):=sQ_congr n fun j _=>by rw [hx,←sQ_mul];exact sQ_congr K fun k _=>by grind
   rw [this,sQ_swap];refine sQ_congr K fun k hk=> ?_
   rw [sQ_mul,hval q k hq (by omega),sZ_cast]
   congr 1
   exact sQ_congr n fun j _=>by rw [Rat.intCast_mul]
  have e2:(((dgN (fun q=>(val q q).natAbs) K t q:Int)-(sZ n fun j=>B q j*(x j).floor):Int):Rat)=sQ n fun j=>(B q j:Rat)*(x j-((x j).floor:Rat)):=by
   rw [Rat.intCast_sub,←e1,sZ_cast,←sQ_sub];exact sQ_congr n fun j _=>by rw [Rat.intCast_mul];grind
  have h3:Wi ((n:Rat)*(M:Rat)) (((dgN (fun q=>(val q q).natAbs) K t q:Int)-(sZ n fun j=>B q j*(x j).floor):Int):Rat):=by
   rw [e2];refine sQ_wi n fun j hj=> ?_
   have h4:=hB q j hq hj;have h5:Wi (M:Rat) (B q j:Rat):=by
    unfold Wi;have a:((-(M:Int):Int):Rat)≤(B q j:Rat):=Rat.intCast_le_intCast.2 (by omega)
    have b:(B q j:Rat)≤(((M:Int)):Rat):=Rat.intCast_le_intCast.2 (by omega)
    have e:(((M:Int)):Rat)=(M:Rat):=Rat.intCast_natCast M;rw [Rat.intCast_neg,e]at a;rw [e]at b;exact⟨a,b⟩
   have:=h5.mul (a:=(M:Rat)) (b:=1) (q:=x j-((x j).floor:Rat)) (by have:=fl_frac (x j);unfold Wi;grind)
   exact this.mono (by grind)
  generalize ((dgN (fun q=>(val q q).natAbs) K t q:Int)-(sZ n fun j=>B q j*(x j).floor))=r at*
  unfold Wi at h3;have e:((n*M:Nat):Rat)=(n:Rat)*(M:Rat):=Rat.natCast_mul n M;rw [← e]at h3;have e':(((n*M:Nat):Int):Rat)=((n*M:Nat):Rat):=Rat.intCast_natCast _;rw [← e']at h3;have a:r≤((n*M:Nat):Int):=Rat.intCast_le_intCast.1 h3.2;have b: -((n*M:Nat):Int)≤r:=by have:=h3.1;rw [← Rat.intCast_neg]at this;exact Rat.intCast_le_intCast.1 this
  omega
 obtain⟨p,hp⟩:=Classical.axiomOfChoice key;have hle:∀t,∀u,u<K→((p t).1 u+(n*M:Nat)).toNat<2*(n*M)+1:=fun t u hu=>by
  have:=(hp t u hu).2;omega
 obtain⟨t,t',h1,h2,h3⟩:=pigeon ((2*(n*M)+1)^K) (prodN (fun q=>(val q q).natAbs) K) (fun t=>encN (2*(n*M)+1) K fun q=>((p t).1 q+(n*M:Nat)).toNat) (fun t _=>encN_lt K (hle t)) hlt
 have h4:=encN_inj K (hle t) (hle t') h3;obtain⟨z,hz⟩:=span fun j=>(p t).2 j-(p t').2 j
 have h5:∀q,q<K→(dgN (fun q=>(val q q).natAbs) K t q:Int)-dgN (fun q=>(val q q).natAbs) K t' q=sZ n fun k=>z k*val q k:=fun q hq=>by
  have a:=(hp t q hq).1;have b:=(hp t' q hq).1;have a':=(hp t q hq).2;have b':=(hp t' q hq).2;have d:=h4 q hq;have e:(p t).1 q=(p t').1 q:=by omega
  have f:(sZ n fun j=>B q j*(p t).2 j)-(sZ n fun j=>B q j*(p t').2 j)=sZ n fun k=>z k*val q k:=by
   rw [← Rat.intCast_inj,Rat.intCast_sub,sZ_cast,sZ_cast,sZ_cast,←sQ_sub];have e1:(sQ n fun j=>((B q j*(p t).2 j:Int):Rat)-((B q j*(p t').2 j:Int):Rat))=sQ n fun j=>sQ n fun k=>(z k:Rat)*((B q j:Rat)*(c k j:Rat)):=sQ_congr n fun j hj=>by
    have:=hz j hj;have t1:(((p t).2 j-(p t').2 j:Int):Rat)=sQ n fun k=>((z k*c k j:Int):Rat):=by rw [this,sZ_cast]
    rw [Rat.intCast_sub]at t1;rw [Rat.intCast_mul,Rat.intCast_mul];have t2:(B q j:Rat)*((p t).2 j:Rat)-(B q j:Rat)*((p t').2 j:Rat)=(B q j:Rat)*(((p t).2 j:Rat)-((p t').2 j:Rat)):=by grind
    rw [t2,t1,←sQ_mul];exact sQ_congr n fun k _=>by rw [Rat.intCast_mul];grind
   rw [e1,sQ_swap];refine sQ_congr n fun k hk=> ?_
   rw [sQ_mul,Rat.intCast_mul,hval q k hq hk,sZ_cast]
   congr 1
   exact sQ_congr n fun j _=>by rw [Rat.intCast_mul]
  omega
 have h6:∀q,q<K→z q=0∧dgN (fun q=>(val q q).natAbs) K t q=dgN (fun q=>(val q q).natAbs) K t' q:=by
  intro q
  induction q using Nat.strongRecOn with
  | _ q ih=>
   intro hq;have e1:(sZ n fun k=>z k*val q k)=z q*val q q:=by
    rw [← Rat.intCast_inj,sZ_cast,sQ_only (v:=q) n (by omega) fun k hk hne=>by
     by_cases hkq:k<q
     ·rw [(ih k hkq (by omega)).1];simp
     ·rw [tri q k hq (by omega) hk];simp]
   have e2:=h5 q hq;rw [e1]at e2;have d1:=dgN_lt K t hg (by omega) q hq
   have d2:=dgN_lt K t' hg h2 q hq;have e3:(z q*val q q).natAbs=(z q).natAbs*(val q q).natAbs:=Int.natAbs_mul _ _;have e4:z q=0:=by
    rcases Nat.eq_zero_or_pos (z q).natAbs with h | h
    ·omega
    ·exfalso
     have:(val q q).natAbs≤(z q).natAbs*(val q q).natAbs:=Nat.le_mul_of_pos_left _ h;omega
   refine⟨e4,?_⟩;rw [e4]at e2;omega
 have h7:=dgN_inj K t t' hg (by omega) h2 (fun q hq=>(h6 q hq).2)
 omega
structure LI (n m:Nat)(A:Nat→Nat→Rat)(b:Nat→Rat)(c0:List (List Rat))(i:Nat)(S:LQ):Prop where
 cols:Cols n (m+n) S.cols
 pn:S.piv.length≤n
 pi:S.piv.length≤i
 pl:S.part.length=S.piv.length
 fl:S.fs.length=S.piv.length
 fm:∀q,q<S.piv.length→(S.fs.getD q []).length=m
 pv:∀q,q<S.piv.length→∃r:Nat,S.piv.getD q 0=(r:Int)∧r<i∧cellQ S.cols q r≠0∧∀k,q<k→k<n→cellQ S.cols k r=0
 lin:∀k,k<n→∀r,r<m→cellQ S.cols k r=sQ n fun j=>A r j*cellQ S.cols k (m+j)
 zero:∀k,S.piv.length≤k→k<n→∀r,r<i→cellQ S.cols k r=0
 span:∀j,j<n→∃z:Nat→Rat,(∀k,IsZ (z k))∧∀t,cellQ c0 j t=sQ n fun k=>z k*cellQ S.cols k t
 free:∀y:Nat→Rat,(∀t,(sQ n fun k=>y k*cellQ S.cols k t)=0)→∀k,k<n→y k=0
 part:∀q,IsZ (S.part.getD q 0)
 sol:∀r,r<i→(sQ S.piv.length fun k=>S.part.getD k 0*cellQ S.cols k r)=b r
 fun1:∀q,q<S.piv.length→∀k,k<n→(sQ m fun r=>(S.fs.getD q []).getD r 0*cellQ S.cols k r)=if k=q then 1 else 0
 fun2:∀q,q<S.piv.length→(sQ m fun r=>(S.fs.getD q []).getD r 0*b r)=S.part.getD q 0
theorem unit_get {m i r:Nat}(hi:i<m):(unitQ m i).getD r 0=if r=i then 1 else 0:=by
 unfold unitQ;rw [set_getD (by simpa using hi)]
 split
 ·rfl
 ·rw [List.getD_eq_getElem?_getD]
  by_cases h:r<m
  ·rw [List.getElem?_eq_getElem (by simpa using h)];simp
  ·rw [List.getElem?_eq_none (by simp;omega)];rfl
theorem rest_spec {n m:Nat}{A:Nat→Nat→Rat}{b:Nat→Rat}{c0:List (List Rat)}{i:Nat}{S:LQ}(h:LI n m A b c0 i S)(hi:i<m):∀k,k≤S.piv.length→
  IsZ (b i)→(restK S m i (b i) k).1=b i-(sQ k fun q=>S.part.getD q 0*cellQ S.cols q i)∧IsZ (restK S m i (b i) k).1∧
  (∀g,g<n→(sQ m fun r=>(restK S m i (b i) k).2.getD r 0*cellQ S.cols g r)=if g<k then 0 else cellQ S.cols g i)∧
  (sQ m fun r=>(restK S m i (b i) k).2.getD r 0*b r)=(restK S m i (b i) k).1
 | 0,_,hz=>by
  have u:∀f:Nat→Rat,(sQ m fun r=>(unitQ m i).getD r 0*f r)=f i:=fun f=>by
   rw [sQ_only m hi fun r hr e=>by rw [unit_get hi,if_neg e];grind]
   rw [unit_get hi,if_pos rfl];grind
  refine⟨by simp only [restK,sQ];grind,hz,fun g hg=> ?_,?_⟩
  ·simp only [restK];rw [u,if_neg (by omega)]
  ·simp only [restK];rw [u]
 | k+1,hk,hz=>by
  obtain⟨h1,h2,h3,h4⟩:=rest_spec h hi k (by omega) hz
  have hl:(S.fs.getD k []).length=(restK S m i (b i) k).2.length:=by rw [restK_len,h.fm k (by omega)]
  have e:∀f:Nat→Rat,(sQ m fun r=>(restK S m i (b i) (k+1)).2.getD r 0*f r)=(sQ m fun r=>(restK S m i (b i) k).2.getD r 0*f r)-(sQ m fun r=>(S.fs.getD k []).getD r 0*f r)*cellQ S.cols k i:=fun f=>by
   rw [← sQ_mul',←sQ_sub];refine sQ_congr m fun r _=> ?_
   simp only [restK];rw [less_cell hl];grind
  refine⟨?_,?_,fun g hg=> ?_,?_⟩
  ·simp only [restK,sQ];rw [h1];grind
  ·simp only [restK];exact h2.sub ((h.cols.z _ _).mul (h.part _))
  ·rw [e,h3 g hg,h.fun1 k (by omega) g hg]
   by_cases e1:g=k
   ·subst e1;rw [if_neg (by omega),if_pos rfl,if_pos (by omega)];grind
   ·rw [if_neg e1]
    by_cases e2:g<k
    ·rw [if_pos e2,if_pos (by omega)];grind
    ·rw [if_neg e2,if_neg (by omega)];grind
  ·rw [e,h4,h.fun2 k (by omega)];simp only [restK];grind
theorem cell_low {c x:List (List Rat)}{k t:Nat}(h:x.getD k []=c.getD k []):cellQ x k t=cellQ c k t:=by unfold cellQ;rw [h]
theorem one_func {n m fr r:Nat}{A:Nat→Nat→Rat}{c0 c x:List (List Rat)}(h:RBl n m fr A c0 c x)(hz:∀k,fr≤k→k<n→cellQ c k r=0):∀k,fr≤k→k<n→cellQ x k r=0:=fun k h1 h2=>by
 have e:∀y:List (List Rat),∀k,(sQ (r+1) fun t=>(if t=r then 1 else 0)*cellQ y k t)=cellQ y k r:=fun y k=>by
  rw [sQ_only (v:=r) (r+1) (by omega) fun j _ hj=>by rw [if_neg hj];grind]
  rw [if_pos rfl];grind
 have:=h.func (r+1) (fun t=>if t=r then 1 else 0) (fun k h1 h2=>by rw [e,hz k h1 h2]) k h1 h2
 rwa [e]at this
theorem get_app {α:Type}{l:List α}{a d:α}{q:Nat}:(l++ [a]).getD q d=if q=l.length then a else if q<l.length then l.getD q d else d:=by
 rw [List.getD_eq_getElem?_getD]
 by_cases h:q<l.length
 ·rw [List.getElem?_append_left h,if_neg (by omega),if_pos h,List.getD_eq_getElem?_getD]
 ·rw [List.getElem?_append_right (by omega),if_neg h]
  by_cases e:q=l.length
  ·rw [if_pos e];simp [e]
  ·rw [if_neg e,List.getElem?_eq_none (by simp;omega)];rfl
theorem LI.other {n m:Nat}{A:Nat→Nat→Rat}{b:Nat→Rat}{c0:List (List Rat)}{i:Nat}{S:LQ}(h:LI n m A b c0 i S)(hi:i<m){x:List (List Rat)}(hx:Cols n (m+n) x)(hr:RBl n m S.piv.length A c0 S.cols x):LI n m A b c0 i {S with cols:=x}where
 cols:=hx
 pn:=h.pn
 pi:=h.pi
 pl:=h.pl
 fl:=h.fl
 fm:=h.fm
 pv q hq:=by
  obtain⟨r,h1,h2,h3,h4⟩:=h.pv q hq;refine⟨r,h1,h2,?_,fun k k1 k2=> ?_⟩
  ·show cellQ x q r≠0
   rw [cell_low (hr.low q hq)];exact h3
  ·show cellQ x k r=0
   by_cases hk:k<S.piv.length
   ·rw [cell_low (hr.low k hk)];exact h4 k k1 k2
   ·exact one_func hr (fun k' a b=>h.zero k' a b r h2) k (by omega) k2
 lin:=hr.lin h.lin
 zero k k1 k2 r hr':=one_func hr (fun k' a b=>h.zero k' a b r hr') k k1 k2
 span j hj:=hr.span j (h.span j hj)
 free:=hr.free h.free
 part:=h.part
 sol r hr':=by
  rw [← h.sol r hr'];exact sQ_congr _ fun k hk=>by show _*cellQ x k r=_;rw [cell_low (hr.low k hk)]
 fun1 q hq k hk:=by
  have hq:q<S.piv.length:=hq;show(sQ m fun r=>(S.fs.getD q []).getD r 0*cellQ x k r)=_
  by_cases e:k<S.piv.length
  ·rw [← h.fun1 q hq k hk]
   exact sQ_congr _ fun r _=>by rw [cell_low (hr.low k e)]
  ·rw [if_neg (by omega)]
   exact hr.func m (fun r=>(S.fs.getD q []).getD r 0) (fun k' a b=>by rw [h.fun1 q hq k' b,if_neg (by omega)]) k (by omega) hk
 fun2:=h.fun2
theorem rest_clear {n m:Nat}{A:Nat→Nat→Rat}{b:Nat→Rat}{c0:List (List Rat)}{i:Nat}{S:LQ}(h:LI n m A b c0 i S)(hi:i<m)(hb:IsZ (b i)){x:List (List Rat)}(hr:RBl n m S.piv.length A c0 S.cols x):
  ∀g,g<n→(sQ m fun r=>(restK S m i (b i) S.piv.length).2.getD r 0*cellQ x g r)=if g<S.piv.length then 0 else cellQ x g i:=fun g hg=>by
 obtain⟨_,_,h3,_⟩:=rest_spec h hi _ (Nat.le_refl _) hb
 by_cases e:g<S.piv.length
 ·rw [if_pos e]
  have:=h3 g hg;rw [if_pos e]at this;refine Eq.trans ?_ this;exact sQ_congr _ fun r _=>by rw [cell_low (hr.low g e)]
 ·rw [if_neg e]
  obtain⟨W,hW⟩:∃W:Nat→Rat,W=fun r=>(restK S m i (b i) S.piv.length).2.getD r 0-(if r=i then 1 else 0):=⟨_,rfl⟩
  have key:∀y:List (List Rat),∀g,(sQ m fun t=>W t*cellQ y g t)=(sQ m fun r=>(restK S m i (b i) S.piv.length).2.getD r 0*cellQ y g r)-cellQ y g i:=fun y g=>by
   have e1:(sQ m fun t=>(if t=i then 1 else 0)*cellQ y g t)=cellQ y g i:=by
    rw [sQ_only (v:=i) m hi fun j _ hj=>by rw [if_neg hj];grind]
    rw [if_pos rfl];grind
   rw [← e1,←sQ_sub];exact sQ_congr m fun t _=>by rw [hW];grind
  have:=hr.func m W (fun k a c=>by
   rw [key,h3 k c,if_neg (by omega)];grind) g (by omega) hg
  rw [key]at this
  grind
theorem LI.skip {n m:Nat}{A:Nat→Nat→Rat}{b:Nat→Rat}{c0:List (List Rat)}{i:Nat}{S:LQ}(h:LI n m A b c0 i S)(hi:i<m)(hb:IsZ (b i))(hz:∀k,S.piv.length≤k→k<n→cellQ S.cols k i=0)(h0:(restK S m i (b i) S.piv.length).1=0):LI n m A b c0 (i+1) S:=
 {h with
  pi:=by have:=h.pi;omega
  pv:=fun q hq=>by
   obtain⟨r,h1,h2,h3⟩:=h.pv q hq;exact⟨r,h1,by omega,h3⟩
  zero:=fun k k1 k2 r hr=>by
   by_cases e:r=i
   ·rw [e];exact hz k k1 k2
   ·exact h.zero k k1 k2 r (by omega)
  sol:=fun r hr=>by
   by_cases e:r=i
   ·obtain ⟨h1,_⟩:=rest_spec h hi _ (Nat.le_refl _) hb
    rw [e];rw [h0]at h1
    grind
   ·exact h.sol r (by omega)}
theorem LI.more {n m:Nat}{A:Nat→Nat→Rat}{b:Nat→Rat}{c0:List (List Rat)}{i:Nat}{S:LQ}(h:LI n m A b c0 i S)(hi:i<m)(hb:IsZ (b i)){x:List (List Rat)}(hx:Cols n (m+n) x)(hr:RBl n m S.piv.length A c0 S.cols x)(hp:S.piv.length<n)(hne:cellQ x S.piv.length i≠0)(hz:∀k,S.piv.length<k→k<n→cellQ x k i=0)
  {o:Rat} (ho:o=1/cellQ x S.piv.length i) (hw:IsZ ((restK S m i (b i) S.piv.length).1*o)):
  LI n m A b c0 (i+1) ⟨x,S.piv++ [(i:Int)],S.part++ [(restK S m i (b i) S.piv.length).1*o],S.fs++ [(restK S m i (b i) S.piv.length).2.map (· *o)]⟩:=by
 have hO:=h.other hi hx hr;obtain⟨h1,h2,h3,h4⟩:=rest_spec h hi _ (Nat.le_refl _) hb;have hrc:=rest_clear h hi hb hr;have hrl:=restK_len (S:=S) (m:=m) (i:=i) (tt:=b i) S.piv.length;generalize restK S m i (b i) S.piv.length=R at *;have hmul:∀r,(R.2.map (· *o)).getD r 0=R.2.getD r 0*o:=fun r=>by
  rw [List.getD_eq_getElem?_getD,List.getElem?_map,List.getD_eq_getElem?_getD]
  rcases R.2[r]? with _ | v
  ·show (0:Rat)=0*o;grind
  ·rfl
 have hco:cellQ x S.piv.length i*o=1:=by rw [ho];grind
 have hpl:=h.pl;have hfl:=h.fl;exact
 {cols:=hx
  pn:=by simp;omega
  pi:=by have:=h.pi;simp;omega
  pl:=by simp [hpl]
  fl:=by simp [hfl]
  fm:=fun q hq=>by
   simp only [List.length_append,List.length_singleton]at hq;simp only;rw [get_app]
   split
   ·rw [List.length_map];exact hrl
   ·rw [if_pos (by omega)];exact h.fm q (by omega)
  pv:=fun q hq=>by
   simp only [List.length_append,List.length_singleton]at hq;simp only;rw [get_app]
   by_cases e:q=S.piv.length
   ·rw [if_pos e]
    exact⟨i,rfl,by omega,by rw [e];exact hne,fun k k1 k2=>hz k (by omega) k2⟩
   ·rw [if_neg e,if_pos (by omega)]
    obtain⟨r,a1,a2,a3⟩:=hO.pv q (by simp only;omega)
    exact⟨r,a1,by omega,a3⟩
  lin:=hO.lin
  zero:=fun k k1 k2 r hr'=>by
   simp only [List.length_append,List.length_singleton]at k1
   by_cases e:r=i
   ·rw [e];exact hz k (by omega) k2
   ·exact hO.zero k (by simp only;omega) k2 r (by omega)
  span:=hO.span
  free:=hO.free
  part:=fun q=>by
   simp only;rw [get_app]
   split
   ·exact hw
   ·split
    ·exact h.part q
    ·exact IsZ.zero
  sol:=fun r hr'=>by
   simp only [List.length_append,List.length_singleton];simp only [sQ];have e1:(sQ S.piv.length fun k=>(S.part++ [R.1*o]).getD k 0*cellQ x k r)=sQ S.piv.length fun k=>S.part.getD k 0*cellQ x k r:=sQ_congr _ fun k hk=>by
    rw [get_app,if_neg (by omega),if_pos (by omega)]
   rw [e1,get_app,if_pos hpl.symm]
   by_cases e:r=i
   ·have e2:(sQ S.piv.length fun k=>S.part.getD k 0*cellQ x k i)=sQ S.piv.length fun k=>S.part.getD k 0*cellQ S.cols k i:=sQ_congr _ fun k hk=>by rw [cell_low (hr.low k hk)]
    rw [e,e2];have:R.1*o*cellQ x S.piv.length i=R.1:=by
     have:R.1*o*cellQ x S.piv.length i=R.1*(cellQ x S.piv.length i*o):=by grind
     rw [this,hco];grind
    rw [this];grind
   ·have e2:=hO.sol r (by omega)
    simp only at e2;have e3:=hO.zero S.piv.length (Nat.le_refl _) hp r (by omega)
    simp only at e3;rw [e2,e3];grind
  fun1:=fun q hq k hk=>by
   simp only [List.length_append,List.length_singleton]at hq;simp only;rw [get_app]
   by_cases e:q=S.piv.length
   ·rw [if_pos (by omega)]
    have e1:(sQ m fun r=>(R.2.map (· *o)).getD r 0*cellQ x k r)=(sQ m fun r=>R.2.getD r 0*cellQ x k r)*o:=by
     rw [← sQ_mul'];exact sQ_congr _ fun r _=>by rw [hmul];grind
    rw [e1,hrc k hk]
    by_cases g1:k<S.piv.length
    ·rw [if_pos g1,if_neg (by omega)];grind
    ·rw [if_neg g1]
     by_cases g2:k=q
     ·rw [if_pos g2,g2,e];exact hco
     ·rw [if_neg g2,hz k (by omega) hk];grind
   ·rw [if_neg (by omega),if_pos (by omega)]
    exact hO.fun1 q (by simp only;omega) k hk
  fun2:=fun q hq=>by
   simp only [List.length_append,List.length_singleton]at hq;simp only;rw [get_app,get_app]
   by_cases e:q=S.piv.length
   ·rw [if_pos (by omega),if_pos (by omega),←h4,←sQ_mul']
    exact sQ_congr _ fun r _=>by rw [hmul];grind
   ·rw [if_neg (by omega),if_pos (by omega),if_neg (by omega),if_pos (by omega)]
    exact h.fun2 q (by omega)}
def EN:Nat→Nat
 | 0=>1000000
 | p+1=>4*(EN p*EN p)
def GN:Nat:=24000001^12
def SN:Nat:=12000000*GN
def eN (k:Nat):Nat:=if k<11 then EN (k+1)else SN
def FN:Nat→Nat
 | 0=>1
 | k+1=>FN k*(1+eN k)
theorem EN_pos:∀p,1≤EN p
 | 0=>by decide
 | p+1=>by
  have:=EN_pos p;have:=Nat.mul_le_mul this this;unfold EN;omega
theorem EN_le (p:Nat):EN p≤EN (p+1):=by
 have h:=EN_pos p;have:=Nat.mul_le_mul h (Nat.le_refl (EN p));show EN p≤4*(EN p*EN p);omega
theorem EN_mono {p q:Nat}(h:p≤q):EN p≤EN q:=by
 induction h with
 | refl=>exact Nat.le_refl _
 | step _ ih=>exact Nat.le_trans ih (EN_le _)
theorem FN_mono {p q:Nat}(h:p≤q):FN p≤FN q:=by
 induction h with
 | refl=>exact Nat.le_refl _
 | @step k _ ih=>
  refine Nat.le_trans ih ?_;have:=Nat.mul_le_mul (Nat.le_refl (FN k)) (show 1≤1+eN k by omega)
  show FN k≤FN k*(1+eN k);omega
theorem EN_lim:EN 11<4294967296^1500:=by decide +kernel
theorem FN_lim:2000000*FN 12*GN<4294967296^2850:=by decide +kernel
theorem GN_lim:GN<4294967296^12:=by decide +kernel
theorem nat_le {a b:Nat}(h:a≤b):(a:Rat)≤(b:Rat):=by
 have:((a:Int):Rat)≤((b:Int):Rat):=Rat.intCast_le_intCast.2 (by omega)
 exact this
theorem nat_lt {a b:Nat}(h:a<b):(a:Rat)<(b:Rat):=by
 have:((a:Int):Rat)<((b:Int):Rat):=Rat.intCast_lt_intCast.2 (by omega)
 exact this
def gP (c:List (List Rat))(piv:List Int):Nat→Rat
 | 0=>1
 | k+1=>gP c piv k*cellQ c k (piv.getD k 0).toNat
structure LB (n m:Nat)(S:LQ):Prop where
 a:∀k,k<n→∀t,Wi ((EN (min S.piv.length 11):Nat):Rat) (cellQ S.cols k t)
 f:∀k,k<S.piv.length→∀t,Wi ((eN k:Nat):Rat) (cellQ S.cols k t)
 p:∀q,q<S.piv.length→Wi ((1000000*FN q:Nat):Rat) (S.part.getD q 0)
 w:∀q,q<S.piv.length→∀r,Wi ((FN q:Nat):Rat) ((S.fs.getD q []).getD r 0)
 d:∀q,q<S.piv.length→∀r,IsZ (gP S.cols S.piv (q+1)*(S.fs.getD q []).getD r 0)
theorem gP_z {c:List (List Rat)}{piv:List Int}(hz:∀k t,IsZ (cellQ c k t)):∀k,IsZ (gP c piv k)
 | 0=>⟨1,rfl⟩
 | k+1=>(gP_z hz k).mul (hz _ _)
theorem rest_size {n m:Nat}{A:Nat→Nat→Rat}{b:Nat→Rat}{c0:List (List Rat)}{i:Nat}{S:LQ}(h:LI n m A b c0 i S)(hb:LB n m S)(hi:i<m)(hbi:Wi 1000000 (b i)):∀k,k≤S.piv.length→
  Wi ((1000000*FN k:Nat):Rat) (restK S m i (b i) k).1∧(∀r,Wi ((FN k:Nat):Rat) ((restK S m i (b i) k).2.getD r 0))∧∀r,IsZ (gP S.cols S.piv k*(restK S m i (b i) k).2.getD r 0)
 | 0,_=>by
  refine⟨hbi.mono (by decide),fun r=> ?_,fun r=> ?_⟩
  ·simp only [restK]
   rw [unit_get hi]
   split<;>(unfold Wi;decide)
  ·simp only [restK,gP]
   rw [unit_get hi]
   split
   ·exact ⟨1,by rw [show((1:Int):Rat)=1 from rfl];grind⟩
   ·exact ⟨0,by rw [show((0:Int):Rat)=0 from rfl];grind⟩
 | k+1,hk=>by
  obtain⟨h1,h2,h3⟩:=rest_size h hb hi hbi k (by omega)
  have hl:(S.fs.getD k []).length=(restK S m i (b i) k).2.length:=by rw [restK_len,h.fm k (by omega)]
  have hc:=hb.f k (by omega) i
  refine⟨?_,fun r=> ?_,fun r=> ?_⟩
  ·simp only [restK]
   refine(h1.sub (hc.mul (hb.p k (by omega)))).mono ?_
   rw [← Rat.natCast_mul,←Rat.natCast_add];refine nat_le ?_;show _≤1000000*(FN k*(1+eN k));rw [Nat.mul_add,Nat.mul_one,Nat.mul_add];have:eN k*(1000000*FN k)=1000000*(FN k*eN k):=by rw [Nat.mul_comm (FN k),Nat.mul_left_comm]
   omega
  ·simp only [restK]
   rw [less_cell hl];refine((h2 r).sub ((hb.w k (by omega) r).mul hc)).mono ?_
   rw [← Rat.natCast_mul,←Rat.natCast_add];refine nat_le ?_;show _≤FN k*(1+eN k);rw [Nat.mul_add,Nat.mul_one];omega
  ·simp only [restK]
   rw [less_cell hl];have a:=(h3 r).mul (h.cols.z k (S.piv.getD k 0).toNat);have c:=(hb.d k (by omega) r).mul (h.cols.z k i)
   have:=a.sub c;simp only [gP]at this ⊢;rw [show gP S.cols S.piv k*cellQ S.cols k (S.piv.getD k 0).toNat*((restK S m i (b i) k).2.getD r 0-(S.fs.getD k []).getD r 0*cellQ S.cols k i)=gP S.cols S.piv k*(restK S m i (b i) k).2.getD r 0*cellQ S.cols k (S.piv.getD k 0).toNat-gP S.cols S.piv k*cellQ S.cols k (S.piv.getD k 0).toNat*(S.fs.getD k []).getD r 0*cellQ S.cols k i by grind]
   exact this
structure Given (n m:Nat)(AZ:Nat→Nat→Int)(c0:List (List Rat)):Prop where
 n12:n≤12
 fit:∀r j,r<m→j<n→(AZ r j).natAbs≤1000000
 row:∀r j,r<m→j<n→cellQ c0 j r=(AZ r j:Rat)
 unit:∀j j',j<n→j'<n→cellQ c0 j (m+j')=if j=j' then 1 else 0
theorem natAbs_one {z:Int}(h:z≠0):1≤z.natAbs:=by omega
theorem prodN_one {g:Nat→Nat}:∀K,(∀q,q<K→1≤g q)→1≤prodN g K
 | 0,_=>Nat.le_refl _
 | K+1,h=>by
  have:=Nat.mul_le_mul (prodN_one K fun q hq=>h q (by omega)) (h K (by omega))
  unfold prodN;omega
theorem LI.index {n m:Nat}{AZ:Nat→Nat→Int}{b:Nat→Rat}{c0:List (List Rat)}{i:Nat}{S:LQ}(hG:Given n m AZ c0)(h:LI n m (fun r j=>(AZ r j:Rat)) b c0 i S)(hi:i≤m):
  (∀g:Nat→Nat,(∀q,q<S.piv.length→(g q:Rat)=absQ (cellQ S.cols q (S.piv.getD q 0).toNat))→prodN g S.piv.length≤GN)∧
  (S.piv.length+1=n→∀j,j<n→Wi ((GN:Nat):Rat) (cellQ S.cols S.piv.length (m+j))):=by
 have hz:=h.cols.z;obtain⟨c,hc⟩:∃c:Nat→Nat→Int,c=fun k j=>(cellQ S.cols k (m+j)).num:=⟨_,rfl⟩
 have hcc:∀k j,(c k j:Rat)=cellQ S.cols k (m+j):=fun k j=>by rw [hc];exact(hz _ _).num.symm
 obtain⟨z,hzz⟩:=Classical.axiomOfChoice (r:=fun(j:Nat) (z:Nat→Rat)=>j<n→(∀k,IsZ (z k))∧∀t,cellQ c0 j t=sQ n fun k=>z k*cellQ S.cols k t) fun j=>by
  by_cases hj:j<n
  ·obtain ⟨z,hz⟩:=h.span j hj
   exact⟨z,fun _=>hz⟩
  ·exact ⟨fun _=>0,fun hj'=>absurd hj' hj⟩
 have span:∀v:Nat→Int,∃y:Nat→Int,∀j,j<n→v j=sZ n fun k=>y k*c k j:=fun v=>by
  refine⟨fun k=>sZ n fun j=>v j*(z j k).num,fun j' hj'=> ?_⟩
  rw [← Rat.intCast_inj,sZ_cast];have e1:(sQ n fun k=>(((sZ n fun j=>v j*(z j k).num)*c k j':Int):Rat))=sQ n fun k=>sQ n fun j=>(v j:Rat)*(z j k*cellQ S.cols k (m+j')):=sQ_congr n fun k _=>by
   rw [Rat.intCast_mul,sZ_cast,←sQ_mul',hcc];exact sQ_congr n fun j hj=>by
    have:=((hzz j hj).1 k).num;rw [Rat.intCast_mul,←this];grind
  rw [e1,sQ_swap];have e2:(sQ n fun j=>sQ n fun k=>(v j:Rat)*(z j k*cellQ S.cols k (m+j')))=sQ n fun j=>(v j:Rat)*(if j=j' then 1 else 0):=sQ_congr n fun j hj=>by
   rw [sQ_mul,←(hzz j hj).2 (m+j'),hG.unit j j' hj hj']
  rw [e2,sQ_only (v:=j') n hj' fun j _ hne=>by rw [if_neg hne];grind]
  rw [if_pos rfl];grind
 obtain⟨rw',hrw⟩:∃f:Nat→Nat,f=fun q=>(S.piv.getD q 0).toNat:=⟨_,rfl⟩
 have hpv:∀q,q<S.piv.length→rw' q<m∧cellQ S.cols q (rw' q)≠0∧∀k,q<k→k<n→cellQ S.cols k (rw' q)=0:=fun q hq=>by
  obtain⟨r,a1,a2,a3,a4⟩:=h.pv q hq;have:rw' q=r:=by rw [hrw];simp only;rw [a1];rfl
  rw [this];exact⟨by omega,a3,a4⟩
 have hpn:=h.pn;have h12:=hG.n12;have hval:∀q k,q<S.piv.length→k<n→((sZ n fun j=>AZ (rw' q) j*c k j:Int):Rat)=cellQ S.cols k (rw' q):=fun q k hq hk=>by
  rw [h.lin k hk _ (hpv q hq).1,sZ_cast];exact sQ_congr n fun j _=>by rw [Rat.intCast_mul,hcc]
 have hne:∀q,q<S.piv.length→(sZ n fun j=>AZ (rw' q) j*c q j)≠0:=fun q hq e=>by
  have:=hval q q hq (by omega)
  rw [e]at this;exact(hpv q hq).2.1 this.symm
 have htri:∀q k,q<S.piv.length→q<k→k<n→(sZ n fun j=>AZ (rw' q) j*c k j)=0:=fun q k hq hk hkn=>by
  rw [← Rat.intCast_inj,hval q k hq hkn];exact(hpv q hq).2.2 k hk hkn
 have habs:∀z:Int,((z.natAbs:Nat):Rat)=absQ (z:Rat):=fun z=>by
  unfold absQ
  split
  ·rename_i hlt
   have:(z:Rat)<((0:Int):Rat):=hlt;rw [Rat.intCast_lt_intCast]at this;rw [← Rat.intCast_neg,←Rat.intCast_natCast,Rat.intCast_inj];omega
  ·rename_i hlt
   have:((0:Int):Rat)≤(z:Rat):=Rat.not_lt.1 hlt;rw [Rat.intCast_le_intCast]at this;rw [← Rat.intCast_natCast,Rat.intCast_inj];omega
 have hpow:∀K,K≤12→(2*(n*1000000)+1)^K≤GN:=fun K hK=>by
  refine Nat.le_trans (Nat.pow_le_pow_left (show 2*(n*1000000)+1≤24000001 by omega) K) ?_
  exact Nat.pow_le_pow_right (by decide) hK
 refine⟨fun g hg=> ?_,fun hlast j0 hj0=> ?_⟩
 ·have hib:=index_bound (K:=S.piv.length) (M:=1000000) (B:=fun q j=>AZ (rw' q) j) (c:=c) hpn (fun q j hq hj=>hG.fit _ _ (hpv q hq).1 hj) span (val:=fun q k=>sZ n fun j=>AZ (rw' q) j*c k j) (fun _ _ _ _=>rfl) (fun q k a b d=>htri q k a b d) hne
  have e:∀K,K≤S.piv.length→prodN g K=prodN (fun q=>(sZ n fun j=>AZ (rw' q) j*c q j).natAbs) K:=fun K=>by
   induction K with
   | zero=>exact fun _=>rfl
   | succ K ih=>
    intro hK;unfold prodN;rw [ih (by omega)]
    congr 1
    have a:=hg K (by omega)
    have d:=habs (sZ n fun j=>AZ (rw' K) j*c K j)
    rw [hval K K (by omega) (by omega)]at d
    have:(g K:Rat)=(((sZ n fun j=>AZ (rw' K) j*c K j).natAbs:Nat):Rat):=by rw [d,a,hrw]
    exact Rat.natCast_inj.1 this
  rw [e _ (Nat.le_refl _)];exact Nat.le_trans hib (hpow _ (by omega))
 ·by_cases h0:c S.piv.length j0=0
  ·rw [← hcc,h0]
   unfold Wi;have:((0:Nat):Rat)≤((GN:Nat):Rat):=nat_le (Nat.zero_le _);have e:((0:Nat):Rat)=0:=rfl;have e':((0:Int):Rat)=0:=rfl;rw [e'];rw [e]at this;grind
  obtain⟨B,hB⟩:∃B:Nat→Nat→Int,B=fun q j=>if q<S.piv.length then AZ (rw' q) j else if j=j0 then 1 else 0:=⟨_,rfl⟩
  obtain⟨val,hv⟩:∃val:Nat→Nat→Int,val=fun q k=>sZ n fun j=>B q j*c k j:=⟨_,rfl⟩
  have v1:∀q k,q<S.piv.length→val q k=sZ n fun j=>AZ (rw' q) j*c k j:=fun q k hq=>by
   rw [hv,hB];exact sZ_congr n fun j _=>by simp only;rw [if_pos hq]
  have v2:∀k,val S.piv.length k=c k j0:=fun k=>by
   rw [hv,hB,←Rat.intCast_inj];simp only;rw [sZ_cast,sQ_only (v:=j0) n hj0 fun j _ hne=>by rw [if_neg (by omega),if_neg hne];simp]
   rw [if_neg (by omega),if_pos rfl];simp
  have hib:=index_bound (K:=S.piv.length+1) (M:=1000000) (B:=B) (c:=c) (by omega) (fun q j hq hj=>by
   rw [hB];simp only
   split
   ·exact hG.fit _ _ (hpv q ‹_›).1 hj
   ·split<;>decide) span (val:=val) (fun q k _ _=>by rw [hv]) (fun q k a b d=>by
    rcases Nat.lt_or_ge q S.piv.length with e | e
    ·rw [v1 q k e];exact htri q k e b d
    ·omega) (fun q hq=>by
    rcases Nat.lt_or_ge q S.piv.length with e | e
    ·rw [v1 q q e];exact hne q e
    ·obtain rfl:q=S.piv.length:=by omega
     rw [v2];exact h0)
  unfold prodN at hib;rw [v2]at hib;have h1:=prodN_one (g:=fun q=>(val q q).natAbs) S.piv.length fun q hq=>natAbs_one (by rw [v1 q q hq];exact hne q hq)
  have h2:(c S.piv.length j0).natAbs≤GN:=by
   refine Nat.le_trans ?_ (Nat.le_trans hib (hpow _ (by omega)))
   exact Nat.le_mul_of_pos_left _ h1
  rw [← hcc];have a:((c S.piv.length j0:Int):Rat)≤((GN:Int):Rat):=Rat.intCast_le_intCast.2 (by omega)
  have d:((-(GN:Int):Int):Rat)≤((c S.piv.length j0:Int):Rat):=Rat.intCast_le_intCast.2 (by omega)
  rw [Rat.intCast_neg]at d;exact⟨d,a⟩
theorem inv_wi {c o:Rat}(hz:IsZ c)(h0:c≠0)(ho:o=1/c):Wi 1 o:=by
 obtain⟨s,hs⟩:=Sgn.of hz h0;rw [← Wi.sgn hs.e];refine Wi.canc (p:=s*c) hs.g ?_;have h1:s*c*(s*o)=1:=by
  have:=sq1 hs.e;have:c*o=1:=by rw [ho];grind
  grind
 rw [h1];have:=hs.g;unfold Wi;constructor<;>grind
theorem cell_out {n L:Nat}{c:List (List Rat)}(h:Cols n L c){k t:Nat}(hk:k<n)(ht:L≤t):cellQ c k t=0:=by
 unfold cellQ;rw [List.getD_eq_getElem?_getD (l:=c.getD k []),List.getElem?_eq_none (by rw [h.u k hk];exact ht)];rfl
theorem gP_same {c x:List (List Rat)}{piv:List Int}{a:Int}:∀k,k≤piv.length→(∀q,q<k→x.getD q []=c.getD q [])→gP x (piv++ [a]) k=gP c piv k
 | 0,_,_=>rfl
 | k+1,hk,h=>by
  unfold gP;rw [gP_same k (by omega) fun q hq=>h q (by omega),get_app,if_neg (by omega),if_pos (by omega),cell_low (h k (by omega))]
theorem LB.more {n m:Nat}{AZ:Nat→Nat→Int}{b:Nat→Rat}{c0:List (List Rat)}{i:Nat}{S:LQ}(hG:Given n m AZ c0)(h:LI n m (fun r j=>(AZ r j:Rat)) b c0 i S)(hb:LB n m S)(hi:i<m)(hbz:IsZ (b i))(hbi:Wi 1000000 (b i)){x:List (List Rat)}(hx:Cols n (m+n) x)(hr:RBl n m S.piv.length (fun r j=>(AZ r j:Rat)) c0 S.cols x)(hp:S.piv.length<n)(hne:cellQ x S.piv.length i≠0)
  (hB:∀k t,k<n→Wi ((EN (min (S.piv.length+1) 11):Nat):Rat) (cellQ x k t)) {o:Rat} (ho:o=1/cellQ x S.piv.length i):
  LB n m ⟨x,S.piv++ [(i:Int)],S.part++ [(restK S m i (b i) S.piv.length).1*o],S.fs++ [(restK S m i (b i) S.piv.length).2.map (· *o)]⟩:=by
 obtain⟨h1,h2,h3⟩:=rest_size h hb hi hbi _ (Nat.le_refl _);have hrl:=restK_len (S:=S) (m:=m) (i:=i) (tt:=b i) S.piv.length;generalize restK S m i (b i) S.piv.length=R at *;have hmul:∀r,(R.2.map (· *o)).getD r 0=R.2.getD r 0*o:=fun r=>by
  rw [List.getD_eq_getElem?_getD,List.getElem?_map,List.getD_eq_getElem?_getD]
  rcases R.2[r]? with _ | v
  ·show (0:Rat)=0*o;grind
  ·rfl
 have hw:=inv_wi (hx.z _ _) hne ho;have hpl:=h.pl;have hfl:=h.fl;have h12:=hG.n12;have hO:=h.other hi hx hr;exact
 {a:=fun k hk t=>by
   simp only [List.length_append,List.length_singleton];exact hB k t hk
  f:=fun k hk t=>by
   simp only [List.length_append,List.length_singleton]at hk;simp only
   by_cases e:k<S.piv.length
   ·rw [cell_low (hr.low k e)];exact hb.f k e t
   ·obtain rfl:k=S.piv.length:=by omega
    unfold eN
    by_cases e2:S.piv.length<11
    ·rw [if_pos e2]
     have:=hB S.piv.length t hp
     rwa [show min (S.piv.length+1) 11=S.piv.length+1 by omega]at this
    ·rw [if_neg e2]
     have hl:=(hO.index hG (by omega)).2 (by simp only;omega)
     simp only at hl;have hGS:GN≤SN:=by unfold SN;omega
     rcases Nat.lt_or_ge t m with e3 | e3
     ·have:=hO.lin S.piv.length hp t e3
      simp only at this;rw [this];have hs:Wi ((n:Rat)*((1000000*GN:Nat):Rat)) (sQ n fun j=>(AZ t j:Rat)*cellQ x S.piv.length (m+j)):=sQ_wi n fun j hj=>by
       have h5:Wi ((1000000:Nat):Rat) ((AZ t j:Int):Rat):=by
        have h4:=hG.fit t j e3 hj;unfold Wi;have a:((-(1000000:Nat):Int):Rat)≤(AZ t j:Rat):=Rat.intCast_le_intCast.2 (by omega)
        have b:(AZ t j:Rat)≤(((1000000:Nat):Int):Rat):=Rat.intCast_le_intCast.2 (by omega)
        rw [Rat.intCast_neg]at a;exact⟨a,b⟩
       have:=h5.mul (hl j hj)
       rwa [← Rat.natCast_mul]at this
      refine hs.mono ?_;rw [← Rat.natCast_mul];refine nat_le ?_;unfold SN;have:n*(1000000*GN)≤12*(1000000*GN):=Nat.mul_le_mul_right _ h12;omega
     ·rcases Nat.lt_or_ge t (m+n)with e4 | e4
      ·have:=hl (t-m) (by omega)
       rw [show m+(t-m)=t by omega]at this
       exact this.mono (nat_le hGS)
      ·rw [cell_out hx hp e4]
       have:((0:Nat):Rat)≤((SN:Nat):Rat):=nat_le (Nat.zero_le _);have e:((0:Nat):Rat)=0:=rfl;rw [e]at this;unfold Wi;constructor<;>grind
  p:=fun q hq=>by
   simp only [List.length_append,List.length_singleton]at hq;simp only;rw [get_app]
   by_cases e:q=S.piv.length
   ·rw [if_pos (by omega),e]
    exact(h1.mul hw).mono (by grind)
   ·rw [if_neg (by omega),if_pos (by omega)]
    exact hb.p q (by omega)
  w:=fun q hq r=>by
   simp only [List.length_append,List.length_singleton]at hq;simp only;rw [get_app]
   by_cases e:q=S.piv.length
   ·rw [if_pos (by omega),e,hmul]
    exact((h2 r).mul hw).mono (by grind)
   ·rw [if_neg (by omega),if_pos (by omega)]
    exact hb.w q (by omega) r
  d:=fun q hq r=>by
   simp only [List.length_append,List.length_singleton]at hq;simp only;rw [get_app]
   by_cases e:q=S.piv.length
   ·rw [if_pos (by omega),e,hmul]
    unfold gP;rw [gP_same _ (Nat.le_refl _) hr.low,get_app,if_pos rfl];have:cellQ x S.piv.length i*o=1:=by rw [ho];grind
    rw [show((i:Int)).toNat=i from rfl]
    rw [show gP S.cols S.piv S.piv.length*cellQ x S.piv.length i*(R.2.getD r 0*o)=gP S.cols S.piv S.piv.length*R.2.getD r 0*(cellQ x S.piv.length i*o) by grind,this]
    have:=h3 r
    rwa [show gP S.cols S.piv S.piv.length*R.2.getD r 0*1=gP S.cols S.piv S.piv.length*R.2.getD r 0 by grind]
   ·rw [if_neg (by omega),if_pos (by omega),gP_same _ (by omega) fun q' hq'=>hr.low q' (by omega)]
    exact hb.d q (by omega) r}
theorem LB.other {n m:Nat}{A:Nat→Nat→Rat}{c0:List (List Rat)}{S:LQ}(hb:LB n m S){x:List (List Rat)}(hr:RBl n m S.piv.length A c0 S.cols x)(hB:∀k t,k<n→Wi ((EN (min S.piv.length 11):Nat):Rat) (cellQ x k t)):LB n m {S with cols:=x}where
 a k hk t:=hB k t hk
 f k hk t:=by
  show Wi _ (cellQ x k t);rw [cell_low (hr.low k hk)];exact hb.f k hk t
 p:=hb.p
 w:=hb.w
 d q hq r:=by
  have hq:q<S.piv.length:=hq;have e:∀k,k≤S.piv.length→gP x S.piv k=gP S.cols S.piv k:=fun k=>by
   induction k with
   | zero=>exact fun _=>rfl
   | succ k ih=>intro hk;unfold gP;rw [ih (by omega),cell_low (hr.low k (by omega))]
  show IsZ (gP x S.piv (q+1)*_);rw [e _ (by omega)];exact hb.d q hq r
theorem wi_num {q:Rat}{F:Nat}(h:Wi (F:Rat) q):q.num.natAbs≤F*q.den:=by
 have hd:(0:Rat)≤(q.den:Rat):=by
  have:=nat_le (Nat.zero_le q.den);exact this
 have e:q*(q.den:Rat)=(q.num:Rat):=by
  have h1:=Rat.num_divInt_den q;have h2:=q.den_pos;have h3:(q.den:Rat)≠0:=fun h0=>by
   have:((q.den:Nat):Rat)=((0:Nat):Rat):=h0;rw [Rat.natCast_inj]at this;omega
  have:q=(q.num:Rat)/(q.den:Rat):=by
   conv=>lhs;rw [← h1]
   rw [Rat.divInt_eq_div,Rat.intCast_natCast]
  grind
 unfold Wi at h;have a:=mulP hd h.1;have b:=mulP hd h.2;have h1:(q.num:Rat)≤((F*q.den:Nat):Rat):=by rw [Rat.natCast_mul];grind
 have h2:((-((F*q.den:Nat):Int):Int):Rat)≤(q.num:Rat):=by rw [Rat.intCast_neg,Rat.intCast_natCast,Rat.natCast_mul];grind
 have h3:(q.num:Rat)≤(((F*q.den:Nat):Int):Rat):=by rw [Rat.intCast_natCast];exact h1
 rw [Rat.intCast_le_intCast]at h2 h3;omega
theorem rat_mul_den (q:Rat):q*(q.den:Rat)=(q.num:Rat):=by
 have h1:=Rat.num_divInt_den q;have h2:=q.den_pos;have h3:(q.den:Rat)≠0:=fun h0=>by
  have:((q.den:Nat):Rat)=((0:Nat):Rat):=h0;rw [Rat.natCast_inj]at this;omega
 have:q=(q.num:Rat)/(q.den:Rat):=by
  conv=>lhs;rw [← h1]
  rw [Rat.divInt_eq_div,Rat.intCast_natCast]
 grind
theorem den_of {q G:Rat}{g:Nat}(hG:IsZ G)(h0:G≠0)(hg:Wi (g:Rat) G)(hz:IsZ (G*q)):q.den≤g:=by
 obtain⟨a,rfl⟩:=hG;obtain⟨z,hz⟩:=hz;have e:(z:Rat)*(q.den:Rat)=(a:Rat)*(q.num:Rat):=by
  rw [← hz,←rat_mul_den q];grind
 have e2:z*(q.den:Int)=a*q.num:=by
  rw [← Rat.intCast_inj,Rat.intCast_mul,Rat.intCast_mul,Rat.intCast_natCast];exact e
 have hd:q.den∣a.natAbs*q.num.natAbs:=by
  refine⟨z.natAbs,?_⟩;have:=congrArg Int.natAbs e2;rw [Int.natAbs_mul,Int.natAbs_mul,Int.natAbs_natCast]at this;rw [← this,Nat.mul_comm]
 have hcop:Nat.Coprime q.den q.num.natAbs:=q.reduced.symm;have hd2:=hcop.dvd_of_dvd_mul_right hd;have ha:a≠0:=fun e=>h0 (by rw [e];rfl)
 refine Nat.le_trans (Nat.le_of_dvd (by omega) hd2) ?_
 unfold Wi at hg;have a1:(a:Rat)≤((g:Int):Rat):=by rw [Rat.intCast_natCast];exact hg.2
 have a2:((-(g:Int):Int):Rat)≤(a:Rat):=by rw [Rat.intCast_neg,Rat.intCast_natCast];exact hg.1
 rw [Rat.intCast_le_intCast]at a1 a2;omega
theorem FN_small {k:Nat}(hk:k≤12):2000000*FN k*GN<4294967296^2850:=by
 refine Nat.lt_of_le_of_lt ?_ FN_lim;exact Nat.mul_le_mul_right _ (Nat.mul_le_mul_left _ (FN_mono hk))
theorem GN_pos:1≤GN:=by decide +kernel
theorem gP_size {n m:Nat}{AZ:Nat→Nat→Int}{b:Nat→Rat}{c0:List (List Rat)}{i:Nat}{S:LQ}(hG:Given n m AZ c0)(h:LI n m (fun r j=>(AZ r j:Rat)) b c0 i S)(hi:i≤m){k:Nat}(hk:k≤S.piv.length):Wi ((GN:Nat):Rat) (gP S.cols S.piv k)∧gP S.cols S.piv k≠0:=by
 obtain⟨h1,_⟩:=h.index hG hi;obtain⟨g,hg⟩:∃g:Nat→Nat,g=fun q=>(cellQ S.cols q (S.piv.getD q 0).toNat).num.natAbs:=⟨_,rfl⟩
 have hne:∀q,q<S.piv.length→cellQ S.cols q (S.piv.getD q 0).toNat≠0:=fun q hq=>by
  obtain⟨r,a1,_,a3,_⟩:=h.pv q hq;rw [a1];exact a3
 have hgq:∀q,(g q:Rat)=absQ (cellQ S.cols q (S.piv.getD q 0).toNat):=fun q=>by
  have hz:=(h.cols.z q (S.piv.getD q 0).toNat).num;rw [hg];simp only;generalize cellQ S.cols q (S.piv.getD q 0).toNat=c at *;unfold absQ
  split
  ·rename_i hlt
   rw [hz]at hlt;have hlt:((c.num:Int):Rat)<((0:Int):Rat):=hlt;rw [Rat.intCast_lt_intCast]at hlt;rw [hz,←Rat.intCast_neg,←Rat.intCast_natCast,Rat.intCast_inj,Rat.num_intCast];omega
  ·rename_i hlt
   rw [hz]at hlt;have hlt:((0:Int):Rat)≤((c.num:Int):Rat):=Rat.not_lt.1 hlt;rw [Rat.intCast_le_intCast]at hlt;rw [hz,←Rat.intCast_natCast,Rat.intCast_inj,Rat.num_intCast];omega
 have hall:=h1 g fun q _=>hgq q
 have hpos:∀q,q<S.piv.length→1≤g q:=fun q hq=>by
  have:=hne q hq;rw [(h.cols.z q (S.piv.getD q 0).toNat).num]at this;have h2:(cellQ S.cols q (S.piv.getD q 0).toNat).num≠0:=fun e=>this (by rw [e];rfl)
  rw [hg];simp only;omega
 have hmono:∀K,k≤K→K≤S.piv.length→prodN g k≤prodN g K:=fun K hkK=>by
  induction hkK with
  | refl=>exact fun _=>Nat.le_refl _
  | @step K _ ih=>
   intro hK;refine Nat.le_trans (ih (by omega)) ?_
   show prodN g K≤prodN g K*g K;exact Nat.le_mul_of_pos_right _ (hpos K (by omega))
 have key:∀K,K≤S.piv.length→Wi ((prodN g K:Nat):Rat) (gP S.cols S.piv K)∧gP S.cols S.piv K≠0:=fun K=>by
  induction K with
  | zero=>
   intro _;refine⟨?_,?_⟩
   ·show Wi ((1:Nat):Rat) 1
    unfold Wi;decide
   ·show (1:Rat)≠0;decide
  | succ K ih=>
   intro hK;obtain⟨i1,i2⟩:=ih (by omega)
   have hc:Wi ((g K:Nat):Rat) (cellQ S.cols K (S.piv.getD K 0).toNat):=by
    rw [hgq];generalize cellQ S.cols K (S.piv.getD K 0).toNat=c;unfold absQ Wi
    split<;>constructor<;>grind
   refine⟨?_,?_⟩
   ·have:=i1.mul hc
    rwa [← Rat.natCast_mul]at this
   ·show gP S.cols S.piv K*cellQ S.cols K (S.piv.getD K 0).toNat≠0
    have:=hne K (by omega)
    intro e
    rcases Rat.mul_eq_zero.1 e with e | e
    ·exact i2 e
    ·exact this e
 exact⟨(key k hk).1.mono (nat_le (Nat.le_trans (hmono _ hk (Nat.le_refl _)) hall)),(key k hk).2⟩
structure NoW (n m:Nat)(AZ:Nat→Nat→Int)(b:Nat→Rat)(w:List Rat):Prop where
 len:w.length=m
 whole:∀j,j<n→IsZ (sQ m fun r=>w.getD r 0*(AZ r j:Rat))
 not:¬IsZ (sQ m fun r=>w.getD r 0*b r)
theorem all_getD {l:List Rat}{p:Rat→Bool}(h:∀r,p (l.getD r 0)=true):l.all p=true:=by
 rw [List.all_eq_true];intro q hq;obtain⟨r,hr,rfl⟩:=List.getElem_of_mem hq;have:=h r
 rwa [List.getD_eq_getElem?_getD,List.getElem?_eq_getElem hr]at this
theorem bdF_of {q:Rat}{F:Nat}(hF:F*GN<4294967296^2850)(h:Wi (F:Rat) q)(hd:q.den≤GN):bdF q=true:=by
 refine decide_eq_true ⟨?_,Nat.lt_of_le_of_lt hd GN_lim⟩;exact Nat.lt_of_le_of_lt (wi_num h) (Nat.lt_of_le_of_lt (Nat.mul_le_mul_left _ hd) hF)
theorem bdM_of {c x:Rat}{e F:Nat}(hF:e*F*GN<4294967296^2850)(hc:Wi (e:Rat) c)(hz:IsZ c)(h:Wi (F:Rat) x)(hd:x.den≤GN):bdM c x=true:=by
 refine decide_eq_true ?_;have h1:=wi_num hc;rw [hz.den,Nat.mul_one]at h1;have h2:=Nat.le_trans (wi_num h) (Nat.mul_le_mul_left F hd);rw [Int.natAbs_mul];refine Nat.lt_of_le_of_lt (Nat.mul_le_mul h1 h2) ?_
 rwa [← Nat.mul_assoc]
theorem den_int {q:Rat}(h:IsZ q):q.den≤GN:=by rw [h.den];exact GN_pos
theorem okS_of {n m:Nat}{AZ:Nat→Nat→Int}{b:Nat→Rat}{c0:List (List Rat)}{i:Nat}{S:LQ}(hG:Given n m AZ c0)(h:LI n m (fun r j=>(AZ r j:Rat)) b c0 i S)(hb:LB n m S)(hi:i<m)(hbz:IsZ (b i))(hbi:Wi 1000000 (b i)):okS S m i (b i)=true:=by
 have h12:=hG.n12;have hpn:=h.pn;have hGp:=fun k (hk:k≤S.piv.length)=>gP_size hG h (by omega) hk
 have hcell:bdC S.cols=true:=all_bd h.cols (fun k t hk=>(hb.a k hk t).mono (nat_le (EN_mono (Nat.min_le_right _ 11)))) (nat_lt EN_lim)
 have hF1:∀k,k≤12→1000000*FN k*GN<4294967296^2850:=fun k hk=>by
  refine Nat.lt_of_le_of_lt ?_ (FN_small hk);exact Nat.mul_le_mul_right _ (Nat.mul_le_mul_right _ (by decide))
 have hF2:∀k,k≤12→FN k*GN<4294967296^2850:=fun k hk=>by
  refine Nat.lt_of_le_of_lt ?_ (hF1 k hk);exact Nat.mul_le_mul_right _ (by omega)
 have heF:∀k,eN k*FN k≤FN (k+1):=fun k=>by
  show _≤FN k*(1+eN k);rw [Nat.mul_add,Nat.mul_one,Nat.mul_comm (eN k)];omega
 have hden:∀q,q<S.piv.length→∀r,((S.fs.getD q []).getD r 0).den≤GN:=fun q hq r=>by
  obtain⟨a,c⟩:=hGp (q+1) (by omega)
  exact den_of (gP_z h.cols.z _) c a (hb.d q hq r)
 unfold okS;rw [Bool.and_eq_true,Bool.and_eq_true,Bool.and_eq_true,Bool.and_eq_true];refine⟨⟨⟨⟨hcell,?_⟩,?_⟩,?_⟩,?_⟩
 ·rw [List.all_eq_true]
  intro q hq;obtain⟨r,hr,rfl⟩:=List.getElem_of_mem hq;have e:S.part[r]=S.part.getD r 0:=by rw [List.getD_eq_getElem?_getD,List.getElem?_eq_getElem hr];rfl
  rw [e];have hr':r<S.piv.length:=by rw [← h.pl];exact hr
  exact bdF_of (hF1 r (by omega)) (hb.p r hr') (den_int (h.part r))
 ·rw [List.all_eq_true]
  intro l hl;obtain⟨q,hq,rfl⟩:=List.getElem_of_mem hl;have e:S.fs[q]=S.fs.getD q []:=by rw [List.getD_eq_getElem?_getD,List.getElem?_eq_getElem hq];rfl
  rw [e];have hq':q<S.piv.length:=by rw [← h.fl];exact hq
  exact all_getD fun r=>bdF_of (hF2 q (by omega)) (hb.w q hq' r) (hden q hq' r)
 ·rw [List.all_eq_true]
  intro k hk;have hk:k≤S.piv.length:=by have:=List.mem_range.1 hk;omega
  obtain⟨a1,a2,a3⟩:=rest_size h hb hi hbi k hk;obtain⟨_,a4,_⟩:=rest_spec h hi k hk hbz;obtain⟨g1,g2⟩:=hGp k hk;rw [Bool.and_eq_true];exact⟨bdF_of (hF1 k (by omega)) a1 (den_int a4),all_getD fun r=>bdF_of (hF2 k (by omega)) (a2 r) (den_of (gP_z h.cols.z _) g2 g1 (a3 r))⟩
 ·rw [List.all_eq_true]
  intro k hk;have hk:=List.mem_range.1 hk;rw [Bool.and_eq_true];refine⟨bdM_of (F:=1000000*FN k) ?_ (hb.f k hk i) (h.cols.z _ _) (hb.p k hk) (den_int (h.part k)),all_getD fun r=>bdM_of (F:=FN k) ?_ (hb.f k hk i) (h.cols.z _ _) (hb.w k hk r) (hden k hk r)⟩
  ·refine Nat.lt_of_le_of_lt (Nat.mul_le_mul_right _ ?_) (hF1 (k+1) (by omega))
   rw [Nat.mul_left_comm];exact Nat.mul_le_mul_left _ (heF k)
  ·exact Nat.lt_of_le_of_lt (Nat.mul_le_mul_right _ (heF k)) (hF2 (k+1) (by omega))
theorem LI.made {n m:Nat}{AZ:Nat→Nat→Int}{b:Nat→Rat}{c0:List (List Rat)}{i:Nat}{S:LQ}(hG:Given n m AZ c0)(h:LI n m (fun r j=>(AZ r j:Rat)) b c0 i S){w:List Rat}(hw:∀k,k<n→IsZ (sQ m fun r=>w.getD r 0*cellQ S.cols k r)):∀j,j<n→IsZ (sQ m fun r=>w.getD r 0*(AZ r j:Rat)):=fun j hj=>by
 obtain⟨z,hz,hs⟩:=h.span j hj;have e:(sQ m fun r=>w.getD r 0*(AZ r j:Rat))=sQ n fun k=>z k*sQ m fun r=>w.getD r 0*cellQ S.cols k r:=by
  have e1:(sQ m fun r=>w.getD r 0*(AZ r j:Rat))=sQ m fun r=>sQ n fun k=>z k*(w.getD r 0*cellQ S.cols k r):=sQ_congr m fun r hr=>by
   rw [← hG.row r j hr hj,hs r,←sQ_mul];exact sQ_congr n fun k _=>by grind
  rw [e1,sQ_swap];exact sQ_congr n fun k _=>sQ_mul m
 rw [e];have:∀d,d≤n→IsZ (sQ d fun k=>z k*sQ m fun r=>w.getD r 0*cellQ S.cols k r):=fun d=>by
  induction d with
  | zero=>exact fun _=>IsZ.zero
  | succ d ih=>exact fun hd=>(ih (by omega)).add ((hz d).mul (hw d (by omega)))
 exact this n (Nat.le_refl _)
theorem map_getDL {l:List Rat}{o:Rat}(r:Nat):(l.map (· *o)).getD r 0=l.getD r 0*o:=by
 rw [List.getD_eq_getElem?_getD,List.getElem?_map,List.getD_eq_getElem?_getD]
 rcases l[r]? with _ | v
 ·show (0:Rat)=0*o;grind
 ·rfl
theorem map_sum {l:List Rat}{o:Rat}{f:Nat→Rat}(m:Nat):(sQ m fun r=>(l.map (· *o)).getD r 0*f r)=(sQ m fun r=>l.getD r 0*f r)*o:=by
 rw [← sQ_mul'];exact sQ_congr m fun r _=>by rw [map_getDL];grind
theorem half_not {z:Rat}(h0:z≠0):¬IsZ (z*(1/(z+z))):=by
 rintro⟨a,ha⟩;have e:z*(1/(z+z))*2=1:=by
  have:z+z≠0:=by grind
  grind
 rw [ha]at e;have:((a*2:Int):Rat)=((1:Int):Rat):=by rw [Rat.intCast_mul];exact e
 rw [Rat.intCast_inj]at this;omega
theorem step_total {n m:Nat}{AZ:Nat→Nat→Int}{b:Nat→Rat}{c0:List (List Rat)}{i:Nat}{S:LQ}(hG:Given n m AZ c0)(h:LI n m (fun r j=>(AZ r j:Rat)) b c0 i S)(hb:LB n m S)(hi:i<m)(hbz:IsZ (b i))(hbi:Wi 1000000 (b i)){f:Nat}(hf:EN 11+2≤f):
  ∃o S',stepR n m f i (b i) S=some (o,S')∧(o=none→LI n m (fun r j=>(AZ r j:Rat)) b c0 (i+1) S'∧LB n m S')∧∀w,o=some w→NoW n m AZ b w:=by
 have h12:=hG.n12;have hpn:=h.pn;have hok:=okS_of hG h hb hi hbz hbi;have hone:(1:Rat)≤((EN (min S.piv.length 11):Nat):Rat):=nat_le (EN_pos _);obtain⟨D,hD⟩:∃D:Rat,D=if S.piv.length+1<n then((2*(EN S.piv.length*EN S.piv.length):Nat):Rat)else 0:=⟨_,rfl⟩
 have hD0:0≤D:=by
  rw [hD];split
  ·have:=nat_le (Nat.zero_le (2*(EN S.piv.length*EN S.piv.length)));exact this
  ·exact Rat.le_refl
 have hAB:((EN (min S.piv.length 11):Nat):Rat)+D≤((EN (min (S.piv.length+1) 11):Nat):Rat):=by
  rw [hD]
  by_cases e:S.piv.length+1<n
  ·rw [if_pos e,show min S.piv.length 11=S.piv.length by omega,show min (S.piv.length+1) 11=S.piv.length+1 by omega,←Rat.natCast_add]
   refine nat_le ?_;show _≤4*(EN S.piv.length*EN S.piv.length);have:=Nat.mul_le_mul (EN_pos S.piv.length) (Nat.le_refl (EN S.piv.length));omega
  ·rw [if_neg e]
   have:=nat_le (EN_mono (show min S.piv.length 11≤min (S.piv.length+1) 11 by omega))
   grind
 have hDB:D+D≤((EN (min (S.piv.length+1) 11):Nat):Rat):=by
  rw [hD]
  by_cases e:S.piv.length+1<n
  ·rw [if_pos e,show min (S.piv.length+1) 11=S.piv.length+1 by omega,←Rat.natCast_add]
   refine nat_le ?_;show _≤4*(EN S.piv.length*EN S.piv.length);omega
  ·rw [if_neg e]
   have:=nat_le (Nat.zero_le (EN (min (S.piv.length+1) 11)));have e0:((0:Nat):Rat)=0:=rfl;rw [e0]at this
   grind
 have hC:∀t,Cr n S.piv.length i t D S.cols:=fun t k l k1 k2 l1 l2=>by
  rw [hD]
  by_cases e:S.piv.length+1<n
  ·rw [if_pos e]
   have hm:min S.piv.length 11=S.piv.length:=by omega
   have a:=fun k hk t=>hb.a k hk t
   rw [hm]at a;have:=((a k k2 i).mul (a l l2 t)).sub ((a l l2 i).mul (a k k2 t));refine this.mono ?_;rw [← Rat.natCast_mul,←Rat.natCast_add];exact nat_le (by omega)
  ·rw [if_neg e]
   obtain rfl:k=l:=by omega
   exact Wi.self
 obtain⟨bb,c',hrun,hout,hrb,hsz⟩:=clear_all (L:=m+n) (i:=i) (R:=RBl n m S.piv.length (fun r j=>(AZ r j:Rat)) c0 S.cols) kept_rb hAB hDB (nat_lt (Nat.lt_of_le_of_lt (EN_mono (Nat.min_le_right _ 11)) EN_lim)) (f:=f) h.cols hpn (Rat.le_trans (by decide) hone) hD0 (fun k t hk=>hb.a k hk t) hC RBl.self (by
  have h1:=nat_le (EN_mono (Nat.min_le_right S.piv.length 11));have h2:((EN 11+2:Nat):Rat)≤(f:Rat):=nat_le hf;rw [Rat.natCast_add]at h2;have:((2:Nat):Rat)=2:=rfl;rw [this]at h2
  grind)
 have hbd:bdC c'=true:=all_bd hout.cols (fun k t hk=>(hsz k t hk).mono (nat_le (EN_mono (Nat.min_le_right _ 11)))) (nat_lt EN_lim)
 have hO:=h.other hi hout.cols hrb;have hrc:=rest_clear h hi hbz hrb;obtain⟨r1,r2,_,r4⟩:=rest_spec h hi _ (Nat.le_refl _) hbz;have hrl:=restK_len (S:=S) (m:=m) (i:=i) (tt:=b i) S.piv.length;unfold stepR;rw [if_neg (by rw [hok];decide),hrun]
 simp only;rw [if_neg (by rw [hbd];decide)]
 cases bb
 case false=>
  obtain⟨hcc,hz⟩:=hout.no rfl;subst hcc;rw [if_pos rfl]
  by_cases h0:(restK S m i (b i) S.piv.length).1=0
  ·rw [if_pos h0]
   refine⟨none,_,rfl,fun _=>⟨h.skip hi hbz hz h0,hb⟩,fun w hw=>by cases hw⟩
  ·rw [if_neg h0]
   refine⟨some _,_,rfl,fun hw=>(by cases hw),fun w hw=> ?_⟩
   cases hw
   refine⟨by rw [List.length_map];exact hrl,h.made hG fun k hk=> ?_,?_⟩
   ·rw [map_sum,hrc k hk]
    have:(if k<S.piv.length then 0 else cellQ S.cols k i)=(0:Rat):=by
     split
     ·rfl
     ·exact hz k (by omega) hk
    rw [this];exact⟨0,by rw [show((0:Int):Rat)=0 from rfl];grind⟩
   ·rw [map_sum,r4]
    exact half_not h0
 case true=>
  obtain⟨hp,hne,hz⟩:=hout.yes rfl;rw [if_neg (by decide)]
  by_cases hw:((restK S m i (b i) S.piv.length).1*(1/cellQ c' S.piv.length i)).den=1
  ·rw [if_pos hw]
   exact⟨none,_,rfl,fun _=>⟨h.more hi hbz hout.cols hrb hp hne hz rfl (IsZ.of_den hw),hb.more hG h hi hbz hbi hout.cols hrb hp hne hsz rfl⟩,fun w hw'=>by cases hw'⟩
  ·rw [if_neg hw]
   refine⟨some _,_,rfl,fun hw'=>(by cases hw'),fun w hw'=> ?_⟩
   cases hw'
   refine⟨by rw [List.length_map];exact hrl,hO.made hG fun k hk=> ?_,?_⟩
   ·show IsZ (sQ m fun r=>_*cellQ c' k r)
    rw [map_sum,hrc k hk]
    by_cases e1:k<S.piv.length
    ·rw [if_pos e1];exact⟨0,by rw [show((0:Int):Rat)=0 from rfl];grind⟩
    ·rw [if_neg e1]
     by_cases e2:k=S.piv.length
     ·rw [e2];exact⟨1,by rw [show((1:Int):Rat)=1 from rfl];grind⟩
     ·rw [hz k (by omega) hk];exact⟨0,by rw [show((0:Int):Rat)=0 from rfl];grind⟩
   ·rw [map_sum,r4]
    exact fun hz=>hw hz.den
def azR (rows:List Rw)(r j:Nat):Int:=(rows.getD r ⟨[],0,0⟩).of.getD j 0
def toR (rows:List Rw)(r:Nat):Rat:=(((rows.getD r ⟨[],0,0⟩).to:Int):Rat)
theorem startL_cell {rows:List Rw}{n k t:Nat}(hk:k<n):cellQ (startL rows n).cols k t=if t<rows.length then(azR rows t k:Rat)else if t=rows.length+k then 1 else 0:=by
 unfold cellQ startL;simp only;have e:((List.range n).map (colQ rows n)).getD k []=colQ rows n k:=by
  rw [List.getD_eq_getElem?_getD,List.getElem?_map,List.getElem?_range hk];rfl
 rw [e];unfold colQ colJ;rw [set_getD (by simp;omega)]
 by_cases h1:t=rows.length+k
 ·rw [if_pos h1,if_neg (by omega),if_pos h1]
 ·rw [if_neg h1,if_neg h1,List.getD_eq_getElem?_getD,List.getElem?_map]
  by_cases h2:t<rows.length+n
  ·rw [List.getElem?_range h2]
   simp only [Option.map_some,Option.getD_some];rfl
  ·rw [List.getElem?_eq_none (by simp;omega),if_neg (by omega)];rfl
structure RowsFit (n:Nat)(rows:List Rw):Prop where
 n12:n≤12
 of:∀r j,(azR rows r j).natAbs≤1000000
 tto:∀r,((rows.getD r ⟨[],0,0⟩).to).natAbs≤1000000
theorem start_given {rows:List Rw}{n:Nat}(h:RowsFit n rows):Given n rows.length (azR rows) (startL rows n).cols where
 n12:=h.n12
 fit r j _ _:=h.of r j
 row r j hr hj:=by rw [startL_cell hj,if_pos hr]
 unit j j' hj hj':=by
  rw [startL_cell hj,if_neg (by omega)]
  by_cases e:j=j'
  ·rw [if_pos (by omega),if_pos e]
  ·rw [if_neg (by omega),if_neg e]
theorem start_LI {rows:List Rw}{n:Nat}(h:RowsFit n rows):LI n rows.length (fun r j=>(azR rows r j:Rat)) (toR rows) (startL rows n).cols 0 (startL rows n)where
 cols:=⟨by simp [startL],fun k hk=>by
  unfold startL;simp only;rw [List.getD_eq_getElem?_getD,List.getElem?_map,List.getElem?_range hk];simp [colQ,colJ],fun k t=>by
  by_cases hk:k<n
  ·rw [startL_cell hk]
   split
   ·exact IsZ.int _
   ·split
    ·exact ⟨1,rfl⟩
    ·exact IsZ.zero
  ·unfold cellQ startL
   simp only;rw [List.getD_eq_getElem?_getD (l:=(List.range n).map _),List.getElem?_eq_none (by simp;omega)]
   exact IsZ.zero⟩
 pn:=Nat.zero_le _
 pi:=Nat.zero_le _
 pl:=rfl
 fl:=rfl
 fm q hq:=absurd hq (by simp [startL])
 pv q hq:=absurd hq (by simp [startL])
 lin k hk r hr:=by
  rw [startL_cell hk,if_pos hr,sQ_only (v:=k) n hk fun j hj hne=>by rw [startL_cell hk,if_neg (by omega),if_neg (by omega)];grind]
  rw [startL_cell hk,if_neg (by omega),if_pos rfl];grind
 zero k _ _ r hr:=absurd hr (by omega)
 span j hj:=⟨fun k=>if k=j then 1 else 0,fun k=>by simp only;split;exact⟨1,rfl⟩;exact IsZ.zero,fun t=>by
  simp only;rw [sQ_only (v:=j) n hj fun k _ hne=>by rw [if_neg hne];grind]
  rw [if_pos rfl];grind⟩
 free y hy k hk:=by
  have:=hy (rows.length+k);rw [sQ_only (v:=k) n hk fun j hj hne=>by rw [startL_cell hj,if_neg (by omega),if_neg (by omega)];grind]at this
  rw [startL_cell hk,if_neg (by omega),if_pos rfl]at this
  grind
 part q:=by simp only [startL];exact IsZ.zero
 sol r hr:=absurd hr (by omega)
 fun1 q hq:=absurd hq (by simp [startL])
 fun2 q hq:=absurd hq (by simp [startL])
theorem wi_int {z:Int}{M:Nat}(h:z.natAbs≤M):Wi (M:Rat) (z:Rat):=by
 unfold Wi;have a:((-(M:Int):Int):Rat)≤(z:Rat):=Rat.intCast_le_intCast.2 (by omega)
 have b:(z:Rat)≤((M:Int):Rat):=Rat.intCast_le_intCast.2 (by omega)
 rw [Rat.intCast_neg]at a;exact⟨a,b⟩
theorem start_LB {rows:List Rw}{n:Nat}(h:RowsFit n rows):LB n rows.length (startL rows n)where
 a k hk t:=by
  rw [startL_cell hk];show Wi ((1000000:Nat):Rat) _
  split
  ·exact wi_int (h.of _ _)
  ·split
   ·exact wi_int (z:=1) (by decide)
   ·exact wi_int (z:=0) (by decide)
 f q hq:=absurd hq (by simp [startL])
 p q hq:=absurd hq (by simp [startL])
 w q hq:=absurd hq (by simp [startL])
 d q hq:=absurd hq (by simp [startL])
theorem run_total {rows:List Rw}{n:Nat}(h:RowsFit n rows){f:Nat}(hf:EN 11+2≤f):∀l i S,i+l=rows.length→LI n rows.length (fun r j=>(azR rows r j:Rat)) (toR rows) (startL rows n).cols i S→LB n rows.length S→
  ∃o S',runS n rows.length f rows l i S=some (o,S')∧(o=none→LI n rows.length (fun r j=>(azR rows r j:Rat)) (toR rows) (startL rows n).cols rows.length S'∧LB n rows.length S')∧∀w,o=some w→NoW n rows.length (azR rows) (toR rows) w
 | 0,i,S,hi,hI,hB=>⟨none,S,rfl,fun _=>⟨(show i=rows.length by omega) ▸ hI,hB⟩,fun w hw=>by cases hw⟩
 | l+1,i,S,hi,hI,hB=>by
  obtain⟨o,S',h1,h2,h3⟩:=step_total (start_given h) hI hB (show i<rows.length by omega) (IsZ.int _) (wi_int (h.tto i)) hf
  have h1:stepR n rows.length f i (((rows.getD i ⟨[],0,0⟩).to:Int):Rat) S=some (o,S'):=h1
  rcases o with _ | w
  ·obtain ⟨g1,g2⟩:=h2 rfl
   obtain⟨o2,S2,k1,k2,k3⟩:=run_total h hf l (i+1) S' (by omega) g1 g2
   exact⟨o2,S2,by simp only [runS];rw [h1];exact k1,k2,k3⟩
  ·exact ⟨some w,S',by simp only [runS];rw [h1],fun e=>(by cases e),h3⟩
def Solves (n m:Nat)(A:Nat→Nat→Rat)(b:Nat→Rat)(x:Nat→Rat):Prop:=∀r,r<m→(sQ n fun j=>A r j*x j)=b r
def ptQ (S:LQ)(m j:Nat):Rat:=sQ S.piv.length fun q=>S.part.getD q 0*cellQ S.cols q (m+j)
theorem pt_z {n m:Nat}{A:Nat→Nat→Rat}{b:Nat→Rat}{c0:List (List Rat)}{i:Nat}{S:LQ}(h:LI n m A b c0 i S)(j:Nat):IsZ (ptQ S m j):=by
 unfold ptQ;have:∀d,IsZ (sQ d fun q=>S.part.getD q 0*cellQ S.cols q (m+j)):=fun d=>by
  induction d with
  | zero=>exact IsZ.zero
  | succ d ih=>exact ih.add ((h.part d).mul (h.cols.z _ _))
 exact this _
theorem pt_solves {n m:Nat}{A:Nat→Nat→Rat}{b:Nat→Rat}{c0:List (List Rat)}{S:LQ}(h:LI n m A b c0 m S):Solves n m A b (ptQ S m):=fun r hr=>by
 rw [← h.sol r hr];have e:(sQ n fun j=>A r j*ptQ S m j)=sQ n fun j=>sQ S.piv.length fun q=>S.part.getD q 0*(A r j*cellQ S.cols q (m+j)):=sQ_congr n fun j _=>by
  unfold ptQ;rw [← sQ_mul];exact sQ_congr _ fun q _=>by grind
 rw [e,sQ_swap];have hpn:=h.pn;exact sQ_congr _ fun q hq=>by rw [sQ_mul,h.lin q (by omega) r hr]
theorem way_zero {n m:Nat}{A:Nat→Nat→Rat}{b:Nat→Rat}{c0:List (List Rat)}{S:LQ}(h:LI n m A b c0 m S){k:Nat}(h1:S.piv.length≤k)(h2:k<n){r:Nat}(hr:r<m):(sQ n fun j=>A r j*cellQ S.cols k (m+j))=0:=by
 rw [← h.lin k h2 r hr];exact h.zero k h1 h2 r hr
theorem way_free {n m:Nat}{A:Nat→Nat→Rat}{b:Nat→Rat}{c0:List (List Rat)}{i:Nat}{S:LQ}(h:LI n m A b c0 i S){y:Nat→Rat}(hy:∀j,j<n→(sQ n fun k=>y k*cellQ S.cols k (m+j))=0):∀k,k<n→y k=0:=by
 refine h.free y fun t=> ?_
 rcases Nat.lt_or_ge t m with e | e
 ·have e1:(sQ n fun k=>y k*cellQ S.cols k t)=sQ n fun j=>A t j*sQ n fun k=>y k*cellQ S.cols k (m+j):=by
   have:(sQ n fun k=>y k*cellQ S.cols k t)=sQ n fun k=>sQ n fun j=>A t j*(y k*cellQ S.cols k (m+j)):=sQ_congr n fun k hk=>by
    rw [h.lin k hk t e,←sQ_mul];exact sQ_congr n fun j _=>by grind
   rw [this,sQ_swap];exact sQ_congr n fun j _=>sQ_mul n
  rw [e1];exact sQ_zeros n fun j hj=>by rw [hy j hj];grind
 ·rcases Nat.lt_or_ge t (m+n)with e2 | e2
  ·have:=hy (t-m) (by omega)
   rwa [show m+(t-m)=t by omega]at this
  ·exact sQ_zeros n fun k hk=>by rw [cell_out h.cols hk e2];grind
theorem made_of {n m:Nat}{AZ:Nat→Nat→Int}{b:Nat→Rat}{c0:List (List Rat)}{i:Nat}{S:LQ}(hG:Given n m AZ c0)(h:LI n m (fun r j=>(AZ r j:Rat)) b c0 i S){x:Nat→Rat}(hx:∀j,IsZ (x j)):∃z:Nat→Rat,(∀k,IsZ (z k))∧∀j,j<n→x j=sQ n fun k=>z k*cellQ S.cols k (m+j):=by
 obtain⟨Z,hZ⟩:=Classical.axiomOfChoice (r:=fun(j:Nat) (z:Nat→Rat)=>j<n→(∀k,IsZ (z k))∧∀t,cellQ c0 j t=sQ n fun k=>z k*cellQ S.cols k t) fun j=>by
  by_cases hj:j<n
  ·obtain ⟨z,hz⟩:=h.span j hj
   exact⟨z,fun _=>hz⟩
  ·exact ⟨fun _=>0,fun hj'=>absurd hj' hj⟩
 have hs:∀k d,d≤n→IsZ (sQ d fun j=>x j*Z j k):=fun k d=>by
  induction d with
  | zero=>exact fun _=>IsZ.zero
  | succ d ih=>exact fun hd=>(ih (by omega)).add ((hx d).mul ((hZ d (by omega)).1 k))
 refine⟨fun k=>sQ n fun j=>x j*Z j k,fun k=>hs k n (Nat.le_refl _),fun j' hj'=> ?_⟩
 have e1:(sQ n fun k=>(sQ n fun j=>x j*Z j k)*cellQ S.cols k (m+j'))=sQ n fun k=>sQ n fun j=>x j*(Z j k*cellQ S.cols k (m+j')):=sQ_congr n fun k _=>by
  rw [← sQ_mul'];exact sQ_congr n fun j _=>by grind
 rw [e1,sQ_swap];have e2:(sQ n fun j=>sQ n fun k=>x j*(Z j k*cellQ S.cols k (m+j')))=sQ n fun j=>x j*(if j=j' then 1 else 0):=sQ_congr n fun j hj=>by
  rw [sQ_mul,←(hZ j hj).2 (m+j'),hG.unit j j' hj hj']
 rw [e2,sQ_only (v:=j') n hj' fun j _ hne=>by rw [if_neg hne];grind]
 rw [if_pos rfl];grind
theorem all_made {n m:Nat}{AZ:Nat→Nat→Int}{b:Nat→Rat}{c0:List (List Rat)}{S:LQ}(hG:Given n m AZ c0)(h:LI n m (fun r j=>(AZ r j:Rat)) b c0 m S){x:Nat→Rat}(hx:∀j,IsZ (x j))(hs:Solves n m (fun r j=>(AZ r j:Rat)) b x):
  ∃z:Nat→Rat,(∀k,IsZ (z k))∧(∀k,k<S.piv.length→z k=0)∧∀j,j<n→x j=ptQ S m j+sQ n fun k=>z k*cellQ S.cols k (m+j):=by
 obtain⟨z,hz,he⟩:=made_of hG h (x:=fun j=>x j-ptQ S m j) fun j=>(hx j).sub (pt_z h j)
 have hr:∀r,r<m→(sQ n fun k=>z k*cellQ S.cols k r)=0:=fun r hr=>by
  have e1:(sQ n fun k=>z k*cellQ S.cols k r)=sQ n fun j=>(AZ r j:Rat)*sQ n fun k=>z k*cellQ S.cols k (m+j):=by
   have:(sQ n fun k=>z k*cellQ S.cols k r)=sQ n fun k=>sQ n fun j=>(AZ r j:Rat)*(z k*cellQ S.cols k (m+j)):=sQ_congr n fun k hk=>by
    rw [h.lin k hk r hr,←sQ_mul];exact sQ_congr n fun j _=>by grind
   rw [this,sQ_swap];exact sQ_congr n fun j _=>sQ_mul n
  have e2:(sQ n fun j=>(AZ r j:Rat)*sQ n fun k=>z k*cellQ S.cols k (m+j))=(sQ n fun j=>(AZ r j:Rat)*x j)-sQ n fun j=>(AZ r j:Rat)*ptQ S m j:=by
   rw [← sQ_sub];exact sQ_congr n fun j hj=>by
    have:=he j hj;rw [← this];grind
  rw [e1,e2,hs r hr,pt_solves h r hr];grind
 have hpn:=h.pn;have h0:∀q,q<S.piv.length→z q=0:=by
  intro q
  induction q using Nat.strongRecOn with
  | _ q ih=>
   intro hq;obtain⟨r,a1,a2,a3,a4⟩:=h.pv q hq;have:=hr r a2;rw [sQ_only (v:=q) n (by omega) fun k hk hne=>by
    by_cases hkq:k<q
    ·rw [ih k hkq (by omega)];grind
    ·rw [a4 k (by omega) hk];grind]at this
   rcases Rat.mul_eq_zero.1 this with e | e
   ·exact e
   ·exact absurd e a3
 exact⟨z,hz,h0,fun j hj=>by
  have:=he j hj;rw [← this];grind⟩
theorem no_solves {n m:Nat}{AZ:Nat→Nat→Int}{b:Nat→Rat}{w:List Rat}(h:NoW n m AZ b w){x:Nat→Rat}(hx:∀j,IsZ (x j))(hs:Solves n m (fun r j=>(AZ r j:Rat)) b x):False:=by
 refine h.not ?_;have e:(sQ m fun r=>w.getD r 0*b r)=sQ n fun j=>(sQ m fun r=>w.getD r 0*(AZ r j:Rat))*x j:=by
  have:(sQ m fun r=>w.getD r 0*b r)=sQ m fun r=>sQ n fun j=>w.getD r 0*(AZ r j:Rat)*x j:=sQ_congr m fun r hr=>by
   rw [← hs r hr,←sQ_mul];exact sQ_congr n fun j _=>by grind
  rw [this,sQ_swap];exact sQ_congr n fun j _=>sQ_mul' m
 rw [e];have:∀d,d≤n→IsZ (sQ d fun j=>(sQ m fun r=>w.getD r 0*(AZ r j:Rat))*x j):=fun d=>by
  induction d with
  | zero=>exact fun _=>IsZ.zero
  | succ d ih=>exact fun hd=>(ih (by omega)).add ((h.whole d (by omega)).mul (hx d))
 exact this n (Nat.le_refl _)
theorem all_pivots {n m:Nat}{A:Nat→Nat→Rat}{b:Nat→Rat}{c0:List (List Rat)}{S:LQ}(h:LI n m A b c0 m S)(hf:∀y:Nat→Rat,(∀r,r<m→(sQ n fun j=>A r j*y j)=0)→∀j,j<n→y j=0):S.piv.length=n:=by
 have hpn:=h.pn
 by_cases e:S.piv.length=n
 ·exact e
 exfalso
 have hk:S.piv.length<n:=by omega
 have h0:=hf (fun j=>cellQ S.cols S.piv.length (m+j)) fun r hr=>way_zero h (Nat.le_refl _) hk hr
 have:=way_free h (y:=fun k=>if k=S.piv.length then 1 else 0) (fun j hj=>by
  rw [sQ_only (v:=S.piv.length) n hk fun k _ hne=>by rw [if_neg hne];grind]
  have:=h0 j hj;rw [this];grind) S.piv.length hk
 rw [if_pos rfl]at this;exact absurd this (by decide)
end Go.Proofs.YtcnjcnjipddgeaaGreat
