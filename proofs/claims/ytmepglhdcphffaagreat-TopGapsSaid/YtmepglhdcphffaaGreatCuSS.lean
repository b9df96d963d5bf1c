/- Package cut, plain: the search by branching. Package cut, plain: what is told is so. Package cut, plain: of small bounded rows it is always told. Package cut: the tableau tells what the search wants of it. Package cut, plain: how much the search lays. -/
import Derived.Test.YtmepglhdcphffaaGreatOwGG
import Derived.Test.YtmepglhdcphffaaGreatTbEE
import Derived.Test.YtmepglhdcphffaaGreatSpEE
namespace Go.Proofs.YtmepglhdcphffaaGreat
set_option linter.unusedSimpArgs false
set_option linter.unusedVariables false
open Go.ChangeShapes Go.WideShapes Go.RowKit
structure CB where
 row:Rw
 id:Int
abbrev vH:=List ((Int × Int) × CB)
def oM (B:vH)(k s:Int):Option CB:=(B.find? fun x=>decide (x.1=(k,s))).map (·.2)
def za3 (B:vH)(k s:Int)(b:CB):vH:=((k,s),b)::B.filter fun x=>decide (x.1≠(k,s))
def iL (B:vH):Nat→List CB
 | 0=> []
 | k+1=>iL B k++(oM B (k:Nat) 1).toList++(oM B (k:Nat) (-1)).toList
structure JR where
 kind:Int
 lits:List Int
 nums:List Fq
 row:Rw
structure wJ where
 fuel:Nat
 atoms:List Rw
 steps:List JR
 point:List Fq
 much:Bool
structure rP where
 st:Int
 c:List Int
 s:wJ
inductive LP where
 | hungry
 | no (l:List Rat)
 | yes (pt:List Rat)
def qw (k:Nat)(sign tt:Int):Rw:=⟨List.replicate k 0++ [sign],1,tt⟩
def zbO (atoms:List Rw)(r:Rw):Option Nat:=atoms.findIdx? fun x=>decide (x.to=r.to)&&decide (x.of=r.of)
def za4 (m:Nat)(s:wJ)(r:Rw):Int × wJ:=
 match zbO s.atoms r with
 | some i=>(((m+i+1:Nat):Int),s)
 | none=>(((m+s.atoms.length+1:Nat):Int),{s with atoms:=s.atoms++ [r],steps:=s.steps++ [⟨5,[],[],r⟩]})
def Oo (x:Int × Fq):List (Int × Fq)→List (Int × Fq)
 | []=> [x]
 | y::l=>if x.1<y.1 then y::Oo x l else x::y::l
def gN:List (Int × Fq)→List (Int × Fq)
 | []=> []
 | x::l=>Oo x (gN l)
def zc4 (x:Int):List Int→List Int
 | []=> [x]
 | y::l=>if x<y then y::zc4 x l else x::y::l
def za5:List Int→List Int
 | []=> []
 | x::l=>zc4 x (za5 l)
def cK (times:List Rat)(ids:List Int):List (Int × Fq):=((times.zip ids).filter fun p=>decide (p.1≠0)).map fun p=>(-p.2,eX p.1)
def uw (ints:List Bool)(pt:List Rat):Option Nat:=(List.range ints.length).find? fun i=>ints.getD i false&& !decide ((pt.getD i 0).den=1)
def Vw (q:Rat):Int:=q.num/(q.den:Int)
def zc5 (a b:Int):List Int→List Int→List Int
 | [],o=>o
 | l::r,o=>zc5 a b r (if l≠ -a∧l≠ -b∧l∉o then o++ [l]else o)
def Ro:Rw:=⟨[],0,0⟩
def PO (m:Nat)(rc:wJ→vH→rP)(s:wJ)(B:vH)(k:Nat)(z:Int):rP:=
 if z< -1000000∨1000000≤z∨3000<s.steps.length+8∨120<m+s.atoms.length+2 then⟨2,[],{s with much:=true}⟩else
 let a:=za4 m s (qw k 1 z)
 let b:=za4 m a.2 (qw k (-1) (-z-1))
 let s3:= {b.2 with steps:=b.2.steps++ [⟨6,[min a.1 b.1,max a.1 b.1],[],Ro⟩]}
 let r:=rc s3 (za3 B (k:Nat) 1 ⟨qw k 1 z,a.1⟩)
 if r.st≠2∨r.s.much=true∨ -a.1∉r.c then r else
 let t:=rc r.s (za3 B (k:Nat) (-1) ⟨qw k (-1) (-z-1),b.1⟩)
 if t.st≠2∨t.s.much=true∨ -b.1∉t.c then t else
 let out:=za5 (zc5 a.1 b.1 (r.c++t.c) [])
 ⟨2,out,{t.s with steps:=t.s.steps++ [⟨1,out,[],Ro⟩]}⟩
def zL (rows:List Rw)(n:Nat)(B:vH):List Rw:=rows++(iL B n).map CB.row
def allI (m:Nat)(n:Nat)(B:vH):List Int:=((List.range m).map fun i=>((i+1:Nat):Int))++(iL B n).map CB.id
def uq (lp:List Rw→LP)(rows:List Rw)(ints:List Bool)(rc:wJ→vH→rP)(s:wJ)(B:vH):rP:=
 match lp (zL rows ints.length B)with
 | .hungry=>⟨3,[],s⟩
 | .no l=>
  if allFit l l.length=true then
   ⟨2,(gN (cK l (allI rows.length ints.length B))).map (·.1),{s with steps:=s.steps++ [⟨4,(gN (cK l (allI rows.length ints.length B))).map (·.1),(gN (cK l (allI rows.length ints.length B))).map (·.2),Ro⟩]}⟩
  else⟨2,[],{s with much:=true}⟩
 | .yes pt=>
  match uw ints pt with
  | none=>⟨1,[],{s with point:=pt.map eX,much:=s.much || !allFit pt pt.length}⟩
  | some k=>PO rows.length rc s B k (Vw (pt.getD k 0))
def G9 (lp:List Rw→LP)(rows:List Rw)(ints:List Bool):Nat→wJ→vH→rP
 | 0,s,_=>⟨3,[],s⟩
 | d+1,s,B=>if s.fuel=0 then⟨3,[],s⟩else uq lp rows ints (G9 lp rows ints d) {s with fuel:=s.fuel-1} B
structure zcK (n:Nat)(lp:List Rw→LP):Prop where
 yes:∀R pt,R.length≤64→(∀r∈R,iA r (n:Int))→lp R= .yes pt→pt.length=n∧∀r∈R,yh r n fun j=>pt.getD j 0
 no:∀R l,R.length≤64→(∀r∈R,iA r (n:Int))→lp R= .no l→l.length=R.length∧(∃p,p<R.length∧l.getD p 0≠0)∧∀x:Nat→Rat,(∀p,p<R.length→l.getD p 0≠0→yh (R.getD p bZ) n x)→False
def Qj (n:Nat)(r:Rw)(k:Nat)(sg z:Int):Prop:=k<n∧(sg=1∨sg= -1)∧r=qw k sg z∧fO z
structure Zo (m n:Nat)(atoms:List Rw):Prop where
 lim:∀r∈atoms,∃k sg z,Qj n r k sg z
 nd:atoms.Nodup
 cap:m+atoms.length≤120
structure Cq (m n:Nat)(atoms:List Rw)(B:vH):Prop where
 b:∀x∈B,∃k sg z,∃i:Nat,Qj n x.2.row k sg z∧x.1=((k:Int),sg)∧x.2.id=((m+i+1:Nat):Int)∧atoms[i]? =some x.2.row
theorem Cq.more {m n:Nat}{atoms t:List Rw}{B:vH}(h:Cq m n atoms B):Cq m n (atoms++t) B:=⟨fun x hx=>by
 obtain⟨k,sg,z,i,h1,h2,h3,h4⟩:=h.b x hx;refine⟨k,sg,z,i,h1,h2,h3,?_⟩;rw [List.getElem?_append_left (List.getElem?_eq_some_iff.1 h4).1];exact h4⟩
theorem yL {B:vH}{k s:Int}{b:CB}(h:oM B k s=some b):((k,s),b)∈B:=by
 unfold oM at h;rcases hf:B.find? (fun x=>decide (x.1=(k,s)))with _ | x
 ·rw [hf]at h;cases h
 rw [hf]at h;have h1:=List.find?_some hf;have h2:=List.mem_of_find?_eq_some hf;have h3:x.1=(k,s):=of_decide_eq_true h1;have h4:x.2=b:=by simpa using h
 rw [← h3,←h4];exact h2
theorem vK {B:vH}{b:CB}:∀ {n:Nat},b∈iL B n↔∃k:Nat,∃s:Int,k<n∧(s=1∨s= -1)∧oM B (k:Int) s=some b
 | 0=>by simp [iL]
 | n+1=>by
  simp only [iL,List.mem_append,Option.mem_toList];rw [vK (n:=n)];constructor
  ·rintro ((⟨k,s,h1,h2,h3⟩ | h) | h)
   ·exact ⟨k,s,om,h2,h3⟩
   ·exact ⟨n,1,om,.inl rfl,by simpa using h⟩
   exact⟨n,-1,om,.inr rfl,by simpa using h⟩
  rintro⟨k,s,h1,h2,h3⟩;by_cases hk:k<n
  ·exact .inl (.inl ⟨k,s,hk,h2,h3⟩)
  obtain rfl:k=n:=om;rcases h2 with rfl | rfl
  ·exact .inl (.inr (by simpa using h3))
  exact .inr (by simpa using h3)
theorem zK {B:vH}:∀n,(iL B n).length≤2*n
 | 0=>by simp [iL]
 | n+1=>by
  have:=zK (B:=B) n;have h:∀o:Option CB,o.toList.length≤1:=fun o=>by cases o<;>simp
  have h1:=h (oM B (n:Int) 1);have h2:=h (oM B (n:Int) (-1));simp only [iL,List.length_append];omega
theorem WH {n k:Nat}{sg z:Int}{r:Rw}(h12:n≤12)(h:Qj n r k sg z):iA r (n:Int):=by
 obtain⟨h1,h2,rfl,h4⟩:=h;refine⟨om,om,.inl rfl,?_,fun x hx=> ?_,h4⟩
 ·simp [qw];omega
 unfold qw at hx;rcases List.mem_append.1 hx with hx | hx
 ·rw [List.eq_of_mem_replicate hx];unfold fO;omega
 rw [List.mem_singleton.1 hx];unfold fO;rcases h2 with rfl | rfl<;>omega
theorem RZ {k k':Nat}{sg sg' z z':Int}(hs:sg=1∨sg= -1)(hs':sg'=1∨sg'= -1)(h:qw k sg z=qw k' sg' z'):k=k'∧sg=sg'∧z=z':=by
 unfold qw at h;injection h with h1 _ h2;have hl:=congrArg List.length h1;simp at hl;subst hl;have:=List.append_cancel_left h1;exact⟨rfl,by simpa using this,h2⟩
theorem xG {times:List Rat}{ids:List Int}{x:Int × Fq}:x∈cK times ids↔∃p,∃(h1:p<times.length) (h2:p<ids.length),times[p]≠0∧x=(-ids[p],eX times[p]):=by
 unfold cK;rw [List.mem_map];constructor
 ·rintro ⟨y,hy,rfl⟩;obtain⟨hy,h0⟩:=List.mem_filter.1 hy;obtain⟨p,hp,rfl⟩:=List.getElem_of_mem hy;rw [List.length_zip]at hp;rw [List.getElem_zip]at h0 ⊢;exact⟨p,om,om,by simpa using h0,rfl⟩
 rintro⟨p,h1,h2,h0,rfl⟩;refine⟨(times[p],ids[p]),List.mem_filter.2 ⟨?_,by simpa using h0⟩,rfl⟩;have hp:p<(times.zip ids).length:=by rw [List.length_zip];omega
 have:=List.getElem_mem hp;rwa [List.getElem_zip]at this
theorem Zt {n:Nat}{rows atoms:List Rw}{B:vH}(h12:n≤12)(hr:∀r∈rows,iA r (n:Int))(hb:Cq rows.length n atoms B):∀r∈zL rows n B,iA r (n:Int):=fun r h=>by
 unfold zL at h;rcases List.mem_append.1 h with h | h
 ·exact hr r h
 obtain⟨b,hm,rfl⟩:=List.mem_map.1 h;obtain⟨k,s,_,_,hg⟩:=vK.1 hm;obtain⟨k',sg,z,i,h1,_⟩:=hb.b _ (yL hg);exact WH h12 h1
theorem Qk {n:Nat}{rows atoms:List Rw}{B:vH}(hb:Cq rows.length n atoms B){b:CB}(hm:b∈iL B n):∃k sg z,∃i:Nat,Qj n b.row k sg z∧oM B (k:Int) sg=some b∧b.id=((rows.length+i+1:Nat):Int)∧atoms[i]? =some b.row:=by
 obtain⟨k,s,h1,h2,hg⟩:=vK.1 hm;obtain⟨k',sg,z,i,h3,h4,h5,h6⟩:=hb.b _ (yL hg);have e:k=k'∧s=sg:=by
  have:=Prod.mk.inj h4;exact⟨om,this.2⟩
 obtain⟨rfl,rfl⟩:=e;exact⟨k,s,z,i,h3,hg,h5,h6⟩
theorem Nv {ints:List Bool}{pt:List Rat}{k:Nat}(h:uw ints pt=some k):k<ints.length∧ints.getD k false=true∧(pt.getD k 0).den≠1:=by
 have h1:=List.find?_some h;have h2:=List.mem_of_find?_eq_some h;rw [Bool.and_eq_true]at h1;exact⟨List.mem_range.1 h2,h1.1,by simpa using h1.2⟩
theorem VE {m n:Nat}(h:m≤40):Zo m n []:=⟨sm,sm,by simp;omega⟩
theorem Vx {m n:Nat}{atoms:List Rw}:Cq m n atoms []:=⟨sm⟩
theorem zW:∀n,iL [] n= []
 | 0=>rfl
 | n+1=>by
  simp only [iL];rw [zW n];rfl
theorem WA (rows:List Rw)(n:Nat):zL rows n []=rows:=by unfold zL;rw [zW];simp
def lpT (n f:Nat)(R:List Rw):LP:=match TS.feas f (TS.start n R)with
 | .hungry=> .hungry
 | .no l=> .no l
 | .yes T=> .yes (T.ptK T.n)
theorem zc6 {rows:List Rw}{N:Nat}{t x:Nat→Rat}(hk:∀r∈rows,r.kind=1∨r.kind=2∨r.kind=3)(za6:∀p,p<rows.length→(rows.getD p bZ).kind≠3→0≤t p)(Iy:∀k,k<N→(sQ rows.length fun p=>t p*(lQ rows p k:Rat))=0)
  (hneg:(sQ rows.length fun p=>t p*((rows.getD p bZ).to:Rat))<0∨(sQ rows.length fun p=>t p*((rows.getD p bZ).to:Rat))=0∧∃p,p<rows.length∧(rows.getD p bZ).kind=2∧t p≠0)
  (hx:∀p,p<rows.length→t p≠0→yh (rows.getD p bZ) N x):False:=by
 have e0:(sQ rows.length fun p=>t p*sQ N fun j=>(lQ rows p j:Rat)*x j)=0:=by
  have e1:∀p,p<rows.length→t p*(sQ N fun j=>(lQ rows p j:Rat)*x j)=sQ N fun j=>x j*(t p*(lQ rows p j:Rat)):=by
   intro p _;rw [← xJ];refine eG N fun j _=> ?_;grind
  rw [eG _ e1,Ql];refine jR N fun j hj=> ?_;rw [xJ,Iy j hj,Rat.mul_zero]
 have hle:∀p,p<rows.length→t p*(sQ N fun j=>(lQ rows p j:Rat)*x j)≤t p*((rows.getD p bZ).to:Rat):=by
  intro p hp;by_cases h0:t p=0
  ·rw [h0];grind
  obtain⟨a1,a2,a3⟩:=hx p hp h0;have hk:=hk _ (List.getElem_mem hp);rw [← zc7 hp]at hk;by_cases h3:(rows.getD p bZ).kind=3
  ·have:=a3 h3;unfold lQ;rw [this];exact Rat.le_refl
  refine Rat.mul_le_mul_of_nonneg_left ?_ (za6 p hp h3);rcases hk with hk | hk | hk
  ·exact a1 hk
  ·exact Rat.le_of_lt (a2 hk)
  exact absurd hk h3
 have hs:=WI _ hle;rw [e0]at hs;rcases hneg with h3 | ⟨h3,p,hp,hk2,h0⟩
 ·grind
 have hpos:0<t p:=by
  have:=za6 p hp om;grind
 have hlt:=(hx p hp h0).2.1 hk2;have:=za7 _ hp hle (Rat.mul_lt_mul_of_pos_left hlt hpos);rw [e0]at this;grind
theorem za1 {n:Nat}(hn:n≤12)(f:Nat):zcK n (lpT n f):=by
 refine⟨fun R pt h64 hok h=> ?_,fun R l h64 hok h=> ?_⟩
 ·have h0:=zM hn h64 hok;unfold lpT at h;rcases hf:TS.feas f (TS.start n R)with T | l | _
  ·rw [hf]at h;obtain rfl:T.ptK T.n=pt:=by cases h;rfl
   obtain⟨hI,hb⟩:=Cu f _ T h0 hf;have hn:=hI.hn;refine⟨by rw [BH,hn],fun r hr=> ?_⟩;obtain⟨i,hi,rfl⟩:=List.getElem_of_mem hr;have:=R5 hI hb hi;unfold lQ at this;rw [zc7 hi]at this;have e:(sQ n fun j=>((R[i]).of.getD j 0:Rat)*(T.ptK T.n).getD j 0)=sQ n fun j=>((R[i]).of.getD j 0:Rat)*T.ptQ j:=eG n fun j hj=>by
    congr 1;unfold TS.ptK;rw [dV,List.getElem?_map,List.getElem?_range om];rfl
   unfold yh;rw [e];exact this
  ·rw [hf]at h;cases h
  rw [hf]at h;cases h
 have h0:=zM hn h64 hok;unfold lpT at h;rcases hf:TS.feas f (TS.start n R)with T | l' | _
 ·rw [hf]at h;cases h
 ·rw [hf]at h;obtain rfl:l'=l:=by cases h;rfl
  obtain⟨T,b,way,hI,hB,hE,hl⟩:=Hu f _ l' h0 hf;have hlen:l'.length=R.length:=by rw [hl,nM,hI.hr]
  obtain⟨h1,h2,h3⟩:=Oq hI hB hE (fun p=>l'.getD p 0) (fun p hp=>by rw [hl]);refine⟨hlen,?_,fun x hx=>zc6 (fun r hr=>(hok r hr).kind) h1 h2 h3 hx⟩;rcases h3 with h3 | ⟨_,p,hp,_,h0⟩
  ·refine Classical.byContradiction fun hn=> ?_;have:(sQ R.length fun p=>l'.getD p 0*((R.getD p bZ).to:Rat))=0:=jR _ fun p hp=>by
    have:l'.getD p 0=0:=Classical.byContradiction fun h=>hn ⟨p,hp,h⟩;rw [this,Rat.zero_mul]
   rw [this]at h3;exact absurd h3 dc
  exact⟨p,hp,h0⟩
 rw [hf]at h;cases h
theorem RU (times:List Rat)(ids:List Int):(cK times ids).length≤times.length:=by
 unfold cK;rw [List.length_map];refine Nat.le_trans (List.length_filter_le _ _) ?_;rw [List.length_zip];omega
theorem Kv {m n:Nat}{rows atoms:List Rw}{B:vH}(hm:rows.length=m)(hb:Cq m n atoms B):∀k,k≤n→((iL B k).map CB.id).Nodup
 | 0,_=>by simp [iL]
 | k+1,hk=>by
  have ih:=Kv hm hb k om;have key:∀(k1:Nat) (s1:Int) (b1:CB) (k2:Nat) (s2:Int) (b2:CB),(s1=1∨s1= -1)→(s2=1∨s2= -1)→oM B (k1:Int) s1=some b1→oM B (k2:Int) s2=some b2→b1.id=b2.id→k1=k2∧s1=s2:=by
   intro k1 s1 b1 k2 s2 b2 g1 g2 h1 h2 e;obtain⟨c1,t1,z1,i1,⟨_,u1,v1,_⟩,w1,x1,y1⟩:=hb.b _ (yL h1);obtain⟨c2,t2,z2,i2,⟨_,u2,v2,_⟩,w2,x2,y2⟩:=hb.b _ (yL h2);simp only at v1 w1 x1 y1 v2 w2 x2 y2;have hi:i1=i2:=om;subst hi;rw [y1]at y2;have:=Option.some.inj y2;rw [v1,v2]at this;obtain⟨q1,q2,_⟩:=RZ u1 u2 this;have p1:=Prod.mk.inj w1;have p2:=Prod.mk.inj w2;constructor
   ·have:=p1.1;have:=p2.1;omega
   have:=p1.2;have:=p2.2;omega
  have zc8:∀b∈iL B k,∃k':Nat,∃s,k'<k∧(s=1∨s= -1)∧oM B (k':Int) s=some b:=fun b h=>vK.1 h;simp only [iL,List.map_append];rw [List.nodup_append];refine⟨?_,?_,?_⟩
  ·rw [List.nodup_append];refine⟨ih,by rcases oM B (k:Int) 1 with _ | b<;>simp,fun x hx y hy=> ?_⟩;obtain⟨b1,h1,rfl⟩:=List.mem_map.1 hx;obtain⟨b2,h2,rfl⟩:=List.mem_map.1 hy;obtain⟨k',s',g1,g2,g3⟩:=zc8 b1 h1;have h2:oM B (k:Int) 1=some b2:=by simpa using h2
   intro e;have:=(key k' s' b1 k 1 b2 g2 (.inl rfl) g3 h2 e).1;omega
  ·rcases oM B (k:Int) (-1)with _ | b<;>simp
  intro x hx y hy e;obtain⟨b2,h2,rfl⟩:=List.mem_map.1 hy;have h2:oM B (k:Int) (-1)=some b2:=by simpa using h2
  rcases List.mem_append.1 hx with hx | hx
  ·obtain ⟨b1,h1,rfl⟩:=List.mem_map.1 hx;obtain⟨k',s',g1,g2,g3⟩:=zc8 b1 h1;have:=(key k' s' b1 k (-1) b2 g2 (.inr rfl) g3 h2 e).1;omega
  obtain⟨b1,h1,rfl⟩:=List.mem_map.1 hx;have h1:oM B (k:Int) 1=some b1:=by simpa using h1
  have:=(key k 1 b1 k (-1) b2 (.inl rfl) (.inr rfl) h1 h2 e).2;omega
theorem Zx {n:Nat}{rows atoms:List Rw}{B:vH}(hb:Cq rows.length n atoms B):(allI rows.length n B).Nodup:=by
 unfold allI;rw [List.nodup_append];refine⟨?_,Kv (rows:=rows) rfl hb n (Nat.le_refl _),fun x hx y hy=> ?_⟩
 ·rw [List.nodup_iff_pairwise_ne,List.pairwise_map];have:=List.nodup_iff_pairwise_ne.1 (List.nodup_range (n:=rows.length));exact this.imp fun h e=>h om
 obtain⟨i,hi,rfl⟩:=List.mem_map.1 hx;obtain⟨b,h1,rfl⟩:=List.mem_map.1 hy;obtain⟨_,_,_,j,_,_,e,_⟩:=Qk hb h1;have:=List.mem_range.1 hi;omega
theorem JQ {times:List Rat}{ids:List Int}(h:ids.Nodup):((cK times ids).map (·.1)).Nodup:=by
 unfold cK;rw [List.map_map,List.nodup_iff_pairwise_ne,List.pairwise_map];refine List.Pairwise.filter _ ?_;rw [List.pairwise_iff_getElem];intro i j hi hj hij;have hi':i<ids.length:=by rw [List.length_zip]at hi;omega
 have hj':j<ids.length:=by rw [List.length_zip]at hj;omega
 have:=List.pairwise_iff_getElem.1 (List.nodup_iff_pairwise_ne.1 h) i j hi' hj' hij;simp only [Function.comp_apply,List.getElem_zip];omega
theorem JO {n:Nat}{rows atoms:List Rw}{B:vH}(h40:rows.length≤40)(ha:Zo rows.length n atoms)(hb:Cq rows.length n atoms B):∀i∈allI rows.length n B,0≤i∧i≤1000:=fun x hx=>by
 unfold allI at hx;rcases List.mem_append.1 hx with hx | hx
 ·obtain ⟨i,hi,rfl⟩:=List.mem_map.1 hx;have:=List.mem_range.1 hi;omega
 obtain⟨b,h1,rfl⟩:=List.mem_map.1 hx;obtain⟨_,_,_,j,_,_,e,h4⟩:=Qk hb h1;have:=(List.getElem?_eq_some_iff.1 h4).1;have:=ha.cap;omega
theorem VB {n:Nat}{times:List Rat}{ids:List Int}(h1:times.length=n)(h2:ids.length=n)(h:∃p,p<n∧times.getD p 0≠0):cK times ids≠ []:=by
 obtain⟨p,hp,hne⟩:=h;rw [dV,eD om]at hne;have:(-ids[p]' om,eX (times[p]' om))∈cK times ids:=xG.2 ⟨p,om,om,hne,rfl⟩;intro e;rw [e]at this;cases this
end Go.Proofs.YtmepglhdcphffaaGreat
