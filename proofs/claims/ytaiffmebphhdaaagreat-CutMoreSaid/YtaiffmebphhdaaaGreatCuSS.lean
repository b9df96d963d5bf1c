/- Package cut, plain: what is told is so. Package cut, plain: of small bounded rows it is always told. Package cut: the tableau tells what the search wants of it. Package cut, plain: how much the search lays. -/
import Derived.Test.YtaiffmebphhdaaaGreatCuM
import Derived.Test.YtaiffmebphhdaaaGreatSpEE
namespace Go.Proofs.YtaiffmebphhdaaaGreat
set_option linter.unusedSimpArgs false
set_option linter.unusedVariables false
open Go.ChangeShapes Go.WideShapes Go.RowKit
def rowAt (rows atoms:List Rw)(id:Int):Rw:=(rows++atoms).getD (id.toNat-1) bJ
def Mix (ints:List Bool)(x:Nat→Rat):Prop:=∀k,k<ints.length→ints.getD k false=true→∃z:Int,x k=(z:Rat)
structure EC (n:Nat)(lp:List Rw→LP):Prop where
 yes:∀R pt,R.length≤64→(∀r∈R,gN r (n:Int))→lp R= .yes pt→pt.length=n∧∀r∈R,om r n fun j=>pt.getD j 0
 no:∀R l,R.length≤64→(∀r∈R,gN r (n:Int))→lp R= .no l→l.length=R.length∧(∃p,p<R.length∧l.getD p 0≠0)∧∀x:Nat→Rat,(∀p,p<R.length→l.getD p 0≠0→om (R.getD p bJ) n x)→False
def mX (n:Nat)(r:Rw)(k:Nat)(sg z:Int):Prop:=k<n∧(sg=1∨sg= -1)∧r=aK k sg z∧dA z
structure jV (m n:Nat)(atoms:List Rw):Prop where
 lim:∀r∈atoms,∃k sg z,mX n r k sg z
 nd:atoms.Nodup
 cap:m+atoms.length≤120
structure iA (m n:Nat)(atoms:List Rw)(B:jo):Prop where
 b:∀x∈B,∃k sg z,∃i:Nat,mX n x.2.row k sg z∧x.1=((k:Int),sg)∧x.2.id=((m+i+1:Nat):Int)∧atoms[i]? =some x.2.row
theorem iA.more {m n:Nat}{atoms t:List Rw}{B:jo}(h:iA m n atoms B):iA m n (atoms++t) B:=⟨fun x hx=>by
 obtain⟨k,sg,z,i,h1,h2,h3,h4⟩:=h.b x hx;refine⟨k,sg,z,i,h1,h2,h3,?_⟩;rw [List.getElem?_append_left (List.getElem?_eq_some_iff.1 h4).1];exact h4⟩
theorem pQ {B:jo}{k s:Int}{b:CB}(h:lK B k s=some b):((k,s),b)∈B:=by
 unfold lK at h
 rcases hf:B.find? (fun x=>decide (x.1=(k,s)))with _ | x
 ·rw [hf]at h;cases h
 ·rw [hf]at h
  have h1:=List.find?_some hf;have h2:=List.mem_of_find?_eq_some hf;have h3:x.1=(k,s):=of_decide_eq_true h1;have h4:x.2=b:=by simpa using h
  rw [← h3,←h4];exact h2
theorem mG {B:jo}{k s k' s':Int}{b:CB}:lK (dn B k s b) k' s'=if(k,s)=(k',s')then some b else lK B k' s':=by
 unfold lK dn
 by_cases h:(k,s)=(k',s')
 ·rw [if_pos h,List.find?_cons_of_pos (by simpa using h)];rfl
 ·rw [if_neg h,List.find?_cons_of_neg (by simpa using h),List.find?_filter]
  congr 2
  funext x
  by_cases h1:x.1=(k',s')
  ·have:x.1≠(k,s):=fun e=>h (e.symm.trans h1)
   simp [h1,Ne.symm h]
  ·simp [h1]
theorem jh {B:jo}{b:CB}:∀ {n:Nat},b∈dL B n↔∃k:Nat,∃s:Int,k<n∧(s=1∨s= -1)∧lK B (k:Int) s=some b
 | 0=>by simp [dL]
 | n+1=>by
  simp only [dL,List.mem_append,Option.mem_toList];rw [jh (n:=n)]
  constructor
  ·rintro ((⟨k,s,h1,h2,h3⟩ | h) | h)
   ·exact ⟨k,s,by omega,h2,h3⟩
   ·exact ⟨n,1,by omega,.inl rfl,by simpa using h⟩
   ·exact ⟨n,-1,by omega,.inr rfl,by simpa using h⟩
  ·rintro ⟨k,s,h1,h2,h3⟩
   by_cases hk:k<n
   ·exact .inl (.inl ⟨k,s,hk,h2,h3⟩)
   ·obtain rfl:k=n:=by omega
    rcases h2 with rfl | rfl
    ·exact .inl (.inr (by simpa using h3))
    ·exact .inr (by simpa using h3)
theorem mH {B:jo}:∀n,(dL B n).length≤2*n
 | 0=>by simp [dL]
 | n+1=>by
  have:=mH (B:=B) n;have h:∀o:Option CB,o.toList.length≤1:=fun o=>by cases o<;>simp
  have h1:=h (lK B (n:Int) 1);have h2:=h (lK B (n:Int) (-1));simp only [dL,List.length_append];omega
theorem Uy {n k:Nat}{sg z:Int}{r:Rw}(h12:n≤12)(h:mX n r k sg z):gN r (n:Int):=by
 obtain⟨h1,h2,rfl,h4⟩:=h;refine⟨by omega,by omega,.inl rfl,?_,fun x hx=> ?_,h4⟩
 ·simp [aK];omega
 ·unfold aK at hx
  rcases List.mem_append.1 hx with hx | hx
  ·rw [List.eq_of_mem_replicate hx];unfold dA;omega
  ·rw [List.mem_singleton.1 hx]
   unfold dA
   rcases h2 with rfl | rfl<;>omega
theorem QM {n k:Nat}{sg z:Int}(hk:k<n)(x:Nat→Rat):(sQ n fun j=>((aK k sg z).of.getD j 0:Rat)*x j)=(sg:Rat)*x k:=by
 have e:∀j,(aK k sg z).of.getD j 0=if j=k then sg else 0:=fun j=>by
  unfold aK;rw [eG]
  by_cases h:j<k
  ·rw [List.getElem?_append_left (by simpa using h),if_neg (by omega),List.getElem?_replicate,if_pos h];rfl
  ·rw [List.getElem?_append_right (by simpa using h)]
   by_cases h2:j=k
   ·subst h2;simp
   ·rw [if_neg h2,List.getElem?_eq_none (by simp;omega)];rfl
 have go:∀N,(sQ N fun j=>((aK k sg z).of.getD j 0:Rat)*x j)=if k<N then(sg:Rat)*x k else 0:=fun N=>by
  induction N with
  | zero=>rw [if_neg (by omega)];rfl
  | succ N ih=>
   simp only [sQ];rw [ih,e N]
   by_cases h:N=k
   ·subst h
    rw [if_neg (by omega),if_pos rfl,if_pos (by omega)];grind
   ·rw [if_neg h,show((0:Int):Rat)=0 from rfl]
    by_cases h2:k<N
    ·rw [if_pos h2,if_pos (by omega)];grind
    ·rw [if_neg h2,if_neg (by omega)];grind
 rw [go n,if_pos hk]
theorem rJ {n k:Nat}{sg z:Int}(hk:k<n)(x:Nat→Rat):om (aK k sg z) n x↔(sg:Rat)*x k≤(z:Rat):=by
 unfold om;rw [QM hk x];simp [aK]
theorem GA {k k':Nat}{sg sg' z z':Int}(hs:sg=1∨sg= -1)(hs':sg'=1∨sg'= -1)(h:aK k sg z=aK k' sg' z'):k=k'∧sg=sg'∧z=z':=by
 unfold aK at h
 injection h with h1 _ h2
 have hl:=congrArg List.length h1;simp at hl;subst hl;have:=List.append_cancel_left h1;exact⟨rfl,by simpa using this,h2⟩
structure MG (rows:List Rw)(ints:List Bool)(s:jm)(B:jo)(r:mY):Prop where
 more:∃t,r.s.atoms=s.atoms++t
 ok:jV rows.length ints.length r.s.atoms
 st:r.st=1∨r.st=2∨r.st=3
 yes:r.st=1→r.s.much=false→∃pt:List Rat,pt.length=ints.length∧nO ints pt=none∧(∀r∈rows,om r ints.length fun j=>pt.getD j 0)∧r.s.point=pt.map dQ∧allFit pt pt.length=true
 ids:r.st=2→r.s.much=false→∀l∈r.c,∃id:Nat,l= -(id:Int)∧1≤id∧(id≤rows.length∨∃b∈dL B ints.length,b.id=(id:Int))
 no:r.st=2→r.s.much=false→∀x,Mix ints x→(∀l∈r.c,om (rowAt rows r.s.atoms (-l)) ints.length x)→False
 stp:r.st=2→r.s.much=false→r.s.steps≠ []
theorem Kw {x y:Int × Fq}:∀ {l:List (Int × Fq)},y∈Cm x l↔y=x∨y∈l
 | []=>by simp [Cm]
 | z::l=>by
  unfold Cm
  split
  ·rw [List.mem_cons,Kw,List.mem_cons];constructor<;>rintro(h | h | h)<;>simp [h]
  ·rw [List.mem_cons]
theorem AB {y:Int × Fq}:∀ {l:List (Int × Fq)},y∈gD l↔y∈l
 | []=>by simp [gD]
 | x::l=>by unfold gD;rw [Kw,AB,List.mem_cons]
theorem Ky {x y:Int}:∀ {l:List Int},y∈Cn x l↔y=x∨y∈l
 | []=>by simp [Cn]
 | z::l=>by
  unfold Cn
  split
  ·rw [List.mem_cons,Ky,List.mem_cons];constructor<;>rintro(h | h | h)<;>simp [h]
  ·rw [List.mem_cons]
theorem AF {y:Int}:∀ {l:List Int},y∈iH l↔y∈l
 | []=>by simp [iH]
 | x::l=>by unfold iH;rw [Ky,AF,List.mem_cons]
theorem ED {a b y:Int}:∀ {l o:List Int},y∈mI a b l o↔y∈o∨(y∈l∧y≠ -a∧y≠ -b)
 | [],o=>by simp [mI]
 | x::l,o=>by
  unfold mI;rw [ED]
  by_cases h:x≠ -a∧x≠ -b∧x∉o
  ·rw [if_pos h,List.mem_append,List.mem_singleton,List.mem_cons]
   constructor
   ·rintro ((h1 | rfl) | ⟨h1,h2⟩)
    ·exact .inl h1
    ·exact .inr ⟨.inl rfl,h.1,h.2.1⟩
    ·exact .inr ⟨.inr h1,h2⟩
   ·rintro (h1 | ⟨rfl | h1,h2⟩)
    ·exact .inl (.inl h1)
    ·exact .inl (.inr rfl)
    ·exact .inr ⟨h1,h2⟩
  ·rw [if_neg h,List.mem_cons]
   constructor
   ·rintro (h1 | ⟨h1,h2⟩)
    ·exact .inl h1
    ·exact .inr ⟨.inr h1,h2⟩
   ·rintro (h1 | ⟨rfl | h1,h2⟩)
    ·exact .inl h1
    ·by_cases h3:y∈o
     ·exact .inl h3
     ·exact absurd ⟨h2.1,h2.2,h3⟩ h
    ·exact .inr ⟨h1,h2⟩
theorem Kz {atoms:List Rw}{r:Rw}{i:Nat}(h:pR atoms r=some i):∃x,atoms[i]? =some x∧x.to=r.to∧x.of=r.of:=by
 unfold pR at h;obtain⟨hi,hp,_⟩:=List.findIdx?_eq_some_iff_getElem.1 h;rw [Bool.and_eq_true]at hp;exact⟨atoms[i],iw hi,of_decide_eq_true hp.1,of_decide_eq_true hp.2⟩
theorem KD {atoms:List Rw}{r:Rw}(h:pR atoms r=none):r∉atoms:=fun hr=>by
 unfold pR at h;have:=List.findIdx?_eq_none_iff.1 h r hr;simp at this
theorem jE {m n:Nat}{s:jm}{r:Rw}{k:Nat}{sg z:Int}(hr:mX n r k sg z)(ha:jV m n s.atoms)(hc:m+s.atoms.length+1≤120):
  ∃i:Nat,(eH m s r).1=((m+i+1:Nat):Int)∧(eH m s r).2.atoms[i]? =some r∧(∃t,(eH m s r).2.atoms=s.atoms++t∧t.length≤1)∧jV m n (eH m s r).2.atoms∧(eH m s r).2.fuel=s.fuel∧(eH m s r).2.much=s.much∧(eH m s r).2.point=s.point:=by
 unfold eH
 rcases h:pR s.atoms r with _ | i
 ·have hn:=KD h
  refine⟨s.atoms.length,rfl,by simp,⟨[r],rfl,by simp⟩,⟨fun x hx=> ?_,?_,?_⟩,rfl,rfl,rfl⟩
  ·rcases List.mem_append.1 hx with hx | hx
   ·exact ha.lim x hx
   ·rw [List.mem_singleton.1 hx];exact⟨k,sg,z,hr⟩
  ·rw [List.nodup_append]
   exact⟨ha.nd,by simp,fun x hx y hy=>by rw [List.mem_singleton.1 hy];rintro rfl;exact hn hx⟩
  ·simp;omega
 ·obtain ⟨x,h1,h2,h3⟩:=Kz h
  refine⟨i,rfl,?_,⟨[],by simp,by simp⟩,ha,rfl,rfl,rfl⟩
  obtain⟨k',sg',z',g1,g2,g3,_⟩:=ha.lim x (List.mem_of_getElem? h1);have:x=r:=by
   obtain⟨_,_,hr3,_⟩:=hr;have hk:x.kind=r.kind:=by rw [g3,hr3];rfl
   cases x;cases r
   simp only at h2 h3 hk;simp [h2,h3,hk]
  rw [← this];exact h1
theorem xM {times:List Rat}{ids:List Int}{x:Int × Fq}:x∈dB times ids↔∃p,∃(h1:p<times.length) (h2:p<ids.length),times[p]≠0∧x=(-ids[p],dQ times[p]):=by
 unfold dB;rw [List.mem_map]
 constructor
 ·rintro ⟨y,hy,rfl⟩
  obtain⟨hy,h0⟩:=List.mem_filter.1 hy;obtain⟨p,hp,rfl⟩:=List.getElem_of_mem hy;rw [List.length_zip]at hp;rw [List.getElem_zip]at h0 ⊢;exact⟨p,by omega,by omega,by simpa using h0,rfl⟩
 ·rintro ⟨p,h1,h2,h0,rfl⟩
  refine⟨(times[p],ids[p]),List.mem_filter.2 ⟨?_,by simpa using h0⟩,rfl⟩
  have hp:p<(times.zip ids).length:=by rw [List.length_zip];omega
  have:=List.getElem_mem hp
  rwa [List.getElem_zip]at this
theorem xO {rows atoms:List Rw}{i:Nat}{r:Rw}(h:atoms[i]? =some r):rowAt rows atoms ((rows.length+i+1:Nat):Int)=r:=by
 unfold rowAt;rw [eG,Int.toNat_natCast,Nat.add_sub_cancel,List.getElem?_append_right (by omega),Nat.add_sub_cancel_left,h];rfl
theorem GD {rows atoms:List Rw}{p:Nat}(h:p<rows.length):rowAt rows atoms ((p+1:Nat):Int)=rows[p]:=by
 unfold rowAt;rw [eG,Int.toNat_natCast,Nat.add_sub_cancel,List.getElem?_append_left h,iw h];rfl
theorem zf {n:Nat}{rows atoms:List Rw}{B:jo}(h12:n≤12)(hr:∀r∈rows,gN r (n:Int))(hb:iA rows.length n atoms B):∀r∈kG rows n B,gN r (n:Int):=fun r h=>by
 unfold kG at h
 rcases List.mem_append.1 h with h | h
 ·exact hr r h
 ·obtain ⟨b,hm,rfl⟩:=List.mem_map.1 h
  obtain⟨k,s,_,_,hg⟩:=jh.1 hm;obtain⟨k',sg,z,i,h1,_⟩:=hb.b _ (pQ hg);exact Uy h12 h1
theorem vV {n:Nat}{rows atoms:List Rw}{B:jo}(hb:iA rows.length n atoms B){b:CB}(hm:b∈dL B n):∃k sg z,∃i:Nat,mX n b.row k sg z∧lK B (k:Int) sg=some b∧b.id=((rows.length+i+1:Nat):Int)∧atoms[i]? =some b.row:=by
 obtain⟨k,s,h1,h2,hg⟩:=jh.1 hm;obtain⟨k',sg,z,i,h3,h4,h5,h6⟩:=hb.b _ (pQ hg);have e:k=k'∧s=sg:=by
  have:=Prod.mk.inj h4;exact⟨by omega,this.2⟩
 obtain⟨rfl,rfl⟩:=e;exact⟨k,s,z,i,h3,hg,h5,h6⟩
theorem GH (q:Rat):((jP q:Int):Rat)≤q:=by
 unfold jP;rw [← Rat.floor_def];exact Rat.floor_le q
theorem GI (q:Rat):q<((jP q:Int):Rat)+1:=by
 unfold jP;rw [← Rat.floor_def];have:=Rat.lt_floor_add_one q;rw [Rat.intCast_add]at this;exact this
theorem EF {ints:List Bool}{pt:List Rat}(h:nO ints pt=none):∀i,i<ints.length→ints.getD i false=true→(pt.getD i 0).den=1:=fun i hi ht=>by
 have:=List.find?_eq_none.1 h i (List.mem_range.2 hi);rw [ht]at this
 simpa using this
theorem sN {ints:List Bool}{pt:List Rat}{k:Nat}(h:nO ints pt=some k):k<ints.length∧ints.getD k false=true∧(pt.getD k 0).den≠1:=by
 have h1:=List.find?_some h;have h2:=List.mem_of_find?_eq_some h;rw [Bool.and_eq_true]at h1;exact⟨List.mem_range.1 h2,h1.1,by simpa using h1.2⟩
theorem Uz {m n p:Nat}{B:jo}(hp:p<m):(allI m n B)[p]? =some ((p+1:Nat):Int):=by
 unfold allI;rw [List.getElem?_append_left (by simpa using hp)]
 simp [hp]
theorem Xh {m n p:Nat}{B:jo}(hp:m≤p):(allI m n B)[p]? =((dL B n)[p-m]?).map CB.id:=by
 unfold allI;rw [List.getElem?_append_right (by simpa using hp)]
 simp
theorem zaa {lp:List Rw→LP}{rows:List Rw}{ints:List Bool}{s:jm}{B:jo}{l:List Rat}(hlp:EC ints.length lp)(h12:ints.length≤12)(h40:rows.length≤40)(hr:∀r∈rows,gN r (ints.length:Int))(ha:jV rows.length ints.length s.atoms)(hb:iA rows.length ints.length s.atoms B)(hl:lp (kG rows ints.length B)= .no l)(st:List rM)(hst:st≠ []):
  MG rows ints s B ⟨2,(gD (dB l (allI rows.length ints.length B))).map (·.1),{s with steps:=st}⟩:=by
 have hbl:=mH (B:=B) ints.length;have hRl:(kG rows ints.length B).length=rows.length+(dL B ints.length).length:=by simp [kG]
 have hIl:(allI rows.length ints.length B).length=rows.length+(dL B ints.length).length:=by simp [allI]
 obtain⟨h1,-,h3⟩:=hlp.no _ l (by omega) (zf h12 hr hb) hl
 have mem:∀y,y∈(gD (dB l (allI rows.length ints.length B))).map (·.1)↔∃p,∃(h1:p<l.length) (h2:p<(allI rows.length ints.length B).length),l[p]≠0∧y= -(allI rows.length ints.length B)[p]:=fun y=>by
  rw [List.mem_map]
  constructor
  ·rintro ⟨x,hx,rfl⟩
   rw [AB,xM]at hx;obtain⟨p,g1,g2,g3,rfl⟩:=hx;exact⟨p,g1,g2,g3,rfl⟩
  ·rintro ⟨p,g1,g2,g3,rfl⟩
   exact⟨_,AB.2 (xM.2 ⟨p,g1,g2,g3,rfl⟩),rfl⟩
 have zbi:∀p (h2:p<(allI rows.length ints.length B).length),∃id:Nat,(allI rows.length ints.length B)[p]=(id:Int)∧1≤id∧(id≤rows.length∨∃b∈dL B ints.length,b.id=(id:Int))∧rowAt rows s.atoms (id:Int)=(kG rows ints.length B).getD p bJ:=fun p h2=>by
  by_cases hp:p<rows.length
  ·refine ⟨p+1,?_,by omega,.inl (by omega),?_⟩
   ·exact (List.getElem?_eq_some_iff.1 (Uz hp)).2
   ·rw [GD hp]
    unfold kG;rw [eG,List.getElem?_append_left hp,iw hp];rfl
  ·have hq:p-rows.length<(dL B ints.length).length:=by omega
   obtain⟨k,sg,z,i,g1,g2,g3,g4⟩:=vV hb (List.getElem_mem hq);refine⟨rows.length+i+1,?_,by omega,.inr ⟨_,List.getElem_mem hq,g3⟩,?_⟩
   ·rw [← g3]
    exact(List.getElem?_eq_some_iff.1 ((Xh (by omega)).trans (by rw [iw hq];rfl))).2
   ·rw [xO g4]
    unfold kG;rw [eG,List.getElem?_append_right (by omega),List.getElem?_map,iw hq];rfl
 refine⟨⟨[],by simp⟩,ha,.inr (.inl rfl),fun h=>(by cases h),fun _ _ y hy=> ?_,fun _ _ x _ hx=> ?_,fun _ _=>hst⟩
 ·obtain ⟨p,g1,g2,_,rfl⟩:=(mem y).1 hy
  obtain⟨id,e,e1,e2,_⟩:=zbi p g2;exact⟨id,by rw [e],e1,e2⟩
 ·refine h3 x fun p hp h0=> ?_
  have g1:p<l.length:=by omega
  have g2:p<(allI rows.length ints.length B).length:=by omega
  obtain⟨id,e,e1,_,e3⟩:=zbi p g2;rw [← e3];have h0':l[p]≠0:=by rwa [eG,iw g1]at h0
  have:=hx (-(allI rows.length ints.length B)[p]) ((mem _).2 ⟨p,g1,g2,h0',rfl⟩)
  rwa [Int.neg_neg,e]at this
theorem mZ {m n:Nat}{atoms t:List Rw}{B:jo}{k:Nat}{sg z:Int}{r:Rw}{i:Nat}(hb:iA m n atoms B)(hr:mX n r k sg z)(hi:(atoms++t)[i]? =some r):iA m n (atoms++t) (dn B (k:Int) sg ⟨r,((m+i+1:Nat):Int)⟩):=⟨fun x hx=>by
 unfold dn at hx
 rcases List.mem_cons.1 hx with rfl | hx
 ·exact ⟨k,sg,z,i,hr,rfl,rfl,hi⟩
 ·exact (hb.more (t:=t)).b x (List.mem_filter.1 hx).1⟩
theorem rO {n:Nat}{B:jo}{k:Nat}{sg:Int}{b0:CB}{id:Int}(h:∃b∈dL (dn B (k:Int) sg b0) n,b.id=id):id=b0.id∨∃b∈dL B n,b.id=id:=by
 obtain⟨b,hb,rfl⟩:=h;obtain⟨k',s',h1,h2,hg⟩:=jh.1 hb;rw [mG]at hg
 split at hg
 ·left;cases hg;rfl
 ·exact .inr ⟨b,jh.2 ⟨k',s',h1,h2,hg⟩,rfl⟩
theorem NC {rows atoms t:List Rw}{id:Nat}(h:id≤rows.length+atoms.length)(h1:1≤id):rowAt rows (atoms++t) (id:Int)=rowAt rows atoms (id:Int):=by
 unfold rowAt;rw [← List.append_assoc,eG,eG,Int.toNat_natCast,List.getElem?_append_left (by rw [List.length_append];omega)]
theorem MG.lift {rows:List Rw}{ints:List Bool}{s s':jm}{B B':jo}{r:mY}(h:MG rows ints s' B' r)(hm:∃t,s'.atoms=s.atoms++t)(hi:r.st=2→r.s.much=false→∀l∈r.c,∀id:Nat,l= -(id:Int)→(∃b∈dL B' ints.length,b.id=(id:Int))→∃b∈dL B ints.length,b.id=(id:Int)):MG rows ints s B r:=by
 obtain⟨t,ht⟩:=hm;obtain⟨t',ht'⟩:=h.more;refine⟨⟨t++t',by rw [ht',ht,List.append_assoc]⟩,h.ok,h.st,h.yes,fun h2 hm l hl=> ?_,h.no,h.stp⟩
 obtain⟨id,e,h1,h3⟩:=h.ids h2 hm l hl;refine⟨id,e,h1,?_⟩
 rcases h3 with h3 | h3
 ·exact .inl h3
 ·exact .inr (hi h2 hm l hl id e h3)
theorem EG {rows:List Rw}{ints:List Bool}{rc:jm→jo→mY}{s:jm}{B:jo}{k:Nat}{pt:List Rat}(ha:jV rows.length ints.length s.atoms)(hb:iA rows.length ints.length s.atoms B)
  (hk:k<ints.length) (hki:ints.getD k false=true) (hkw:(pt.getD k 0).den≠1) (hpt:∀r∈kG rows ints.length B,om r ints.length fun j=>pt.getD j 0)
  (hrc:∀s B,jV rows.length ints.length s.atoms→iA rows.length ints.length s.atoms B→MG rows ints s B (rc s B)):
  MG rows ints s B (gH rows.length rc s B k (jP (pt.getD k 0))):=by
 have hf1:=GH (pt.getD k 0);have hf2:=GI (pt.getD k 0);have zbj:pt.getD k 0≠((jP (pt.getD k 0):Int):Rat):=fun e=>hkw (by rw [e];exact Rat.den_intCast _)
 generalize hz:jP (pt.getD k 0)=z at *;unfold gH
 split
 ·exact ⟨⟨[],by simp⟩,ha,.inr (.inl rfl),fun h=>(by cases h),fun _ h=>(by cases h),fun _ h=>(by cases h),fun _ h=>(by cases h)⟩
 ·rename_i hbad
  have hz1:dA z:=by unfold dA;omega
  have hz2:dA (-z-1):=by unfold dA;omega
  have hcap:rows.length+s.atoms.length+2≤120:=by omega
  clear hbad;have hlo:mX ints.length (aK k 1 z) k 1 z:=⟨hk,.inl rfl,rfl,hz1⟩;have hhi:mX ints.length (aK k (-1) (-z-1)) k (-1) (-z-1):=⟨hk,.inr rfl,rfl,hz2⟩;obtain⟨i,a1,a2,⟨ta,a3,a3'⟩,a4,_⟩:=jE hlo ha (by omega)
  obtain⟨j,b1,b2,⟨tb,b3,b3'⟩,b4,_⟩:=jE hhi a4 (by rw [a3,List.length_append];omega)
  simp only;generalize hA:eH rows.length s (aK k 1 z)=A at *;generalize hC:eH rows.length A.2 (aK k (-1) (-z-1))=C at *;rw [a1,b1];obtain⟨s3,hs3⟩:∃s3:jm,s3= {C.2 with steps:=C.2.steps++ [(⟨6,[min ((rows.length+i+1:Nat):Int) ((rows.length+j+1:Nat):Int),max ((rows.length+i+1:Nat):Int) ((rows.length+j+1:Nat):Int)],[],xK⟩:rM)]}:=⟨_,rfl⟩
  have xP:s3.atoms=C.2.atoms:=by rw [hs3]
  rw [← hs3];have hm3:s3.atoms=s.atoms++(ta++tb):=by rw [xP,b3,a3,List.append_assoc]
  have hok3:jV rows.length ints.length s3.atoms:=by rw [xP];exact b4
  have ha3:s3.atoms[i]? =some (aK k 1 z):=by
   rw [xP,b3,List.getElem?_append_left (List.getElem?_eq_some_iff.1 a2).1];exact a2
  have hb3:s3.atoms[j]? =some (aK k (-1) (-z-1)):=by rw [xP];exact b2
  have hB1:iA rows.length ints.length s3.atoms (dn B (k:Int) 1 ⟨aK k 1 z,((rows.length+i+1:Nat):Int)⟩):=by
   rw [hm3]at ha3 ⊢;exact mZ hb hlo ha3
  have hr:=hrc _ _ hok3 hB1;generalize hR:rc s3 (dn B (k:Int) 1 ⟨aK k 1 z,((rows.length+i+1:Nat):Int)⟩)=r at*
  split
  ·rename_i hx
   refine hr.lift ⟨_,hm3⟩ fun h2 hm l hl id e hbb=> ?_
   rcases rO hbb with h | h
   ·exfalso
    have hc: -((rows.length+i+1:Nat):Int)∉r.c:=by
     rcases hx with hx | hx | hx
     ·exact absurd h2 hx
     ·rw [hm]at hx;cases hx
     ·exact hx
    apply hc
    have h:(id:Int)=((rows.length+i+1:Nat):Int):=h;rw [← h,←e];exact hl
   ·exact h
  ·rename_i hx
   have hr2:r.st=2:=Classical.byContradiction fun h=>hx (.inl h)
   have hrm:r.s.much=false:=by
    cases h:r.s.much
    ·rfl
    ·exact absurd (.inr (.inl h)) hx
   obtain⟨t4,h4⟩:=hr.more;have hB2:iA rows.length ints.length r.s.atoms (dn B (k:Int) (-1) ⟨aK k (-1) (-z-1),((rows.length+j+1:Nat):Int)⟩):=by
    have e:r.s.atoms=s.atoms++((ta++tb)++t4):=by rw [h4,hm3,List.append_assoc]
    have hb4:r.s.atoms[j]? =some (aK k (-1) (-z-1)):=by
     rw [h4,List.getElem?_append_left (List.getElem?_eq_some_iff.1 hb3).1];exact hb3
    rw [e]at hb4 ⊢;exact mZ hb hhi hb4
   have ht:=hrc _ _ hr.ok hB2;generalize hT:rc r.s (dn B (k:Int) (-1) ⟨aK k (-1) (-z-1),((rows.length+j+1:Nat):Int)⟩)=t at *;have hrs:∃q,r.s.atoms=s.atoms++q:=⟨(ta++tb)++t4,by rw [h4,hm3,List.append_assoc]⟩
   split
   ·rename_i hy
    refine ht.lift hrs fun h2 hm l hl id e hbb=> ?_
    rcases rO hbb with h | h
    ·exfalso
     have hc: -((rows.length+j+1:Nat):Int)∉t.c:=by
      rcases hy with hy | hy | hy
      ·exact absurd h2 hy
      ·rw [hm]at hy;cases hy
      ·exact hy
     apply hc
     have h:(id:Int)=((rows.length+j+1:Nat):Int):=h;rw [← h,←e];exact hl
    ·exact h
   ·rename_i hy
    have ht2:t.st=2:=Classical.byContradiction fun h=>hy (.inl h)
    have htm:t.s.much=false:=by
     cases h:t.s.much
     ·rfl
     ·exact absurd (.inr (.inl h)) hy
    obtain⟨t5,h5⟩:=ht.more;obtain⟨q,hq⟩:=hrs;have inB:∀b∈dL B ints.length,b.row∈kG rows ints.length B:=fun b hb'=>by
     unfold kG;exact List.mem_append.2 (.inr (List.mem_map.2 ⟨b,hb',rfl⟩))
    have YM:∀b∈dL B ints.length,∀p:Nat,∀row,t.s.atoms[p]? =some row→b.id=((rows.length+p+1:Nat):Int)→b.row=row:=fun b hb' p row hp hid=>by
     obtain⟨k',sg,z',i',g1,g2,g3,g4⟩:=vV hb hb';have:i'=p:=by rw [g3]at hid;omega
     subst this;have g5:t.s.atoms[i']? =some b.row:=by rw [h5,hq,List.append_assoc,List.getElem?_append_left (List.getElem?_eq_some_iff.1 g4).1];exact g4
     rw [g5]at hp;exact(Option.some.inj hp)
    have hat:t.s.atoms[i]? =some (aK k 1 z):=by
     rw [h5,h4,List.append_assoc,List.getElem?_append_left (List.getElem?_eq_some_iff.1 ha3).1];exact ha3
    have hbt:t.s.atoms[j]? =some (aK k (-1) (-z-1)):=by
     rw [h5,h4,List.append_assoc,List.getElem?_append_left (List.getElem?_eq_some_iff.1 hb3).1];exact hb3
    have zcx:∀b∈dL B ints.length,b.row≠aK k 1 z:=fun b hb' e=>by
     have:=hpt _ (inB b hb');rw [e,rJ hk]at this;have:pt.getD k 0≤(z:Rat):=by
      have e1:((1:Int):Rat)=1:=rfl;rw [e1]at this;grind
     exact zbj (Rat.le_antisymm this hf1)
    have zcy:∀b∈dL B ints.length,b.row≠aK k (-1) (-z-1):=fun b hb' e=>by
     have:=hpt _ (inB b hb');rw [e,rJ hk]at this;have e1:((-1:Int):Rat)= -1:=rfl;have e2:((-z-1:Int):Rat)= -(z:Rat)-1:=by rw [Rat.intCast_sub,Rat.intCast_neg];rfl
     rw [e1,e2]at this
     grind
    have mem:∀l,l∈iH (mI ((rows.length+i+1:Nat):Int) ((rows.length+j+1:Nat):Int) (r.c++t.c) [])↔(l∈r.c∨l∈t.c)∧l≠ -((rows.length+i+1:Nat):Int)∧l≠ -((rows.length+j+1:Nat):Int):=fun l=>by
     rw [AF,ED,List.mem_append];simp
    have hij:i≠j:=fun e=>by
     subst e;rw [hat]at hbt;have:=(GA (.inl rfl) (.inr rfl) (Option.some.inj hbt)).2.1;omega
    have zcz: -((rows.length+j+1:Nat):Int)∉r.c:=fun hm=>by
     obtain⟨id,e,_,h3⟩:=hr.ids hr2 hrm _ hm;have e:id=rows.length+j+1:=by omega
     subst e
     rcases h3 with h3 | h3
     ·omega
     ·rcases rO h3 with h | ⟨b,hb',h⟩
      ·have h:((rows.length+j+1:Nat):Int)=((rows.length+i+1:Nat):Int):=h
       omega
      ·exact zcy b hb' (YM b hb' j _ hbt h)
    have zcA: -((rows.length+i+1:Nat):Int)∉t.c:=fun hm=>by
     obtain⟨id,e,_,h3⟩:=ht.ids ht2 htm _ hm;have e:id=rows.length+i+1:=by omega
     subst e
     rcases h3 with h3 | h3
     ·omega
     ·rcases rO h3 with h | ⟨b,hb',h⟩
      ·have h:((rows.length+i+1:Nat):Int)=((rows.length+j+1:Nat):Int):=h
       omega
      ·exact zcx b hb' (YM b hb' i _ hat h)
    have valid:∀(C:jo) (w:mY) (s':jm),MG rows ints s' C w→iA rows.length ints.length w.s.atoms C→w.st=2→w.s.much=false→∀l∈w.c,∃id:Nat,l= -(id:Int)∧1≤id∧id≤rows.length+w.s.atoms.length:=fun C w s' hw hC h2 hm l hl=>by
     obtain⟨id,e,h1,h3⟩:=hw.ids h2 hm l hl;refine⟨id,e,h1,?_⟩
     rcases h3 with h3 | ⟨b,hb',h3⟩
     ·omega
     ·obtain ⟨_,_,_,i',_,_,g3,g4⟩:=vV hC hb'
      have:=(List.getElem?_eq_some_iff.1 g4).1;omega
    refine⟨⟨q++t5,by rw [h5,hq,List.append_assoc]⟩,ht.ok,.inr (.inl rfl),fun h=>(by cases h),fun _ _ l hl=> ?_,fun _ _ x hM hall=> ?_,fun _ _=>by simp⟩
    ·obtain ⟨hl1,hl2,hl3⟩:=(mem l).1 hl
     rcases hl1 with hl1 | hl1
     ·obtain ⟨id,e,h1,h3⟩:=hr.ids hr2 hrm l hl1
      refine⟨id,e,h1,?_⟩
      rcases h3 with h3 | h3
      ·exact .inl h3
      ·rcases rO h3 with h | h
       ·have h:(id:Int)=((rows.length+i+1:Nat):Int):=h
        exact absurd (by rw [e,h]) hl2
       ·exact .inr h
     ·obtain ⟨id,e,h1,h3⟩:=ht.ids ht2 htm l hl1
      refine⟨id,e,h1,?_⟩
      rcases h3 with h3 | h3
      ·exact .inl h3
      ·rcases rO h3 with h | h
       ·have h:(id:Int)=((rows.length+j+1:Nat):Int):=h
        exact absurd (by rw [e,h]) hl3
       ·exact .inr h
    ·have hall:∀l,(l∈r.c∨l∈t.c)→l≠ -((rows.length+i+1:Nat):Int)→l≠ -((rows.length+j+1:Nat):Int)→om (rowAt rows t.s.atoms (-l)) ints.length x:=fun l h1 h2 h3=>hall l ((mem l).2 ⟨h1,h2,h3⟩)
     obtain⟨y,hy⟩:=hM k hk hki
     by_cases hyz:y≤z
     ·refine hr.no hr2 hrm x hM fun l hl=> ?_
      obtain⟨id,e,h1,h3⟩:=valid _ r s3 hr (by rw [h4];exact hB1.more) hr2 hrm l hl
      have er:rowAt rows t.s.atoms (-l)=rowAt rows r.s.atoms (-l):=by
       rw [e,Int.neg_neg,h5,NC h3 h1]
      rw [← er]
      by_cases e1:l= -((rows.length+i+1:Nat):Int)
      ·rw [e1,Int.neg_neg,xO hat,rJ hk,hy]
       have:(y:Rat)≤(z:Rat):=Rat.intCast_le_intCast.2 hyz;have e1:((1:Int):Rat)=1:=rfl;rw [e1];grind
      ·exact hall l (.inl hl) e1 fun e2=>zcz (by rw [← e2];exact hl)
     ·refine ht.no ht2 htm x hM fun l hl=> ?_
      by_cases e1:l= -((rows.length+j+1:Nat):Int)
      ·rw [e1,Int.neg_neg,xO hbt,rJ hk,hy]
       have:((z+1:Int):Rat)≤(y:Rat):=Rat.intCast_le_intCast.2 (by omega)
       rw [Rat.intCast_add]at this;have e1:((-1:Int):Rat)= -1:=rfl;have e2:((-z-1:Int):Rat)= -(z:Rat)-1:=by rw [Rat.intCast_sub,Rat.intCast_neg];rfl
       have e3:((1:Int):Rat)=1:=rfl;rw [e1,e2];grind
      ·exact hall l (.inr hl) (fun e2=>zcA (by rw [← e2];exact hl)) e1
theorem vE {lp:List Rw→LP}{rows:List Rw}{ints:List Bool}(hlp:EC ints.length lp)(h12:ints.length≤12)(h40:rows.length≤40)(hr:∀r∈rows,gN r (ints.length:Int)):∀d s B,jV rows.length ints.length s.atoms→iA rows.length ints.length s.atoms B→MG rows ints s B (uw lp rows ints d s B)
 | 0,s,B,ha,hb=>⟨⟨[],by simp [uw]⟩,ha,.inr (.inr rfl),fun h=>(by cases h),fun h=>(by cases h),fun h=>(by cases h),fun h=>(by cases h)⟩
 | d+1,s,B,ha,hb=>by
  unfold uw
  split
  ·exact ⟨⟨[],by simp⟩,ha,.inr (.inr rfl),fun h=>(by cases h),fun h=>(by cases h),fun h=>(by cases h),fun h=>(by cases h)⟩
  ·obtain ⟨s',hs'⟩:∃s':jm,s'= {s with fuel:=s.fuel-1}:=⟨_,rfl⟩
   have ea:s'.atoms=s.atoms:=by rw [hs']
   rw [← hs'];have ha':jV rows.length ints.length s'.atoms:=by rw [ea];exact ha
   have hb':iA rows.length ints.length s'.atoms B:=by rw [ea];exact hb
   refine MG.lift (s':=s') (B':=B) ?_ ⟨[],by simp [ea]⟩ fun _ _ _ _ _ _ h=>h
   have hbl:=mH (B:=B) ints.length;have hRl:(kG rows ints.length B).length=rows.length+(dL B ints.length).length:=by simp [kG]
   unfold rP
   split
   ·exact ⟨⟨[],by simp⟩,ha',.inr (.inr rfl),fun h=>(by cases h),fun h=>(by cases h),fun h=>(by cases h),fun h=>(by cases h)⟩
   ·rename_i l hl
    split
    ·exact zaa hlp h12 h40 hr ha' hb' hl _ (by simp)
    ·exact ⟨⟨[],by simp⟩,ha',.inr (.inl rfl),fun h=>(by cases h),fun _ h=>(by cases h),fun _ h=>(by cases h),fun _ h=>(by cases h)⟩
   ·rename_i pt hpt
    obtain⟨g1,g2⟩:=hlp.yes _ pt (by omega) (zf h12 hr hb') hpt
    split
    ·rename_i hn
     refine⟨⟨[],by simp⟩,ha',.inl rfl,fun _ hm=>⟨pt,g1,hn,fun r hr'=>g2 r (List.mem_append.2 (.inl hr')),rfl,?_⟩,fun h=>(by cases h),fun h=>(by cases h),fun h=>(by cases h)⟩
     have hm:(s'.much || !allFit pt pt.length)=false:=hm
     rw [Bool.or_eq_false_iff]at hm
     simpa using hm.2
    ·rename_i k hk
     obtain⟨k1,k2,k3⟩:=sN hk;exact EG ha' hb' k1 k2 k3 g2 fun s B h1 h2=>vE hlp h12 h40 hr d s B h1 h2
structure Xi where
 st:Int
 pt:List Fq
 steps:List rM
 f:Int × Int
def EI (lp:List Rw→LP)(rows:List Rw)(ints:List Bool)(fuel:Nat):Xi:=
 let r:=uw lp rows ints (fuel+1) ⟨fuel,[],[],[],false⟩ []
 if r.s.much=true∨3000<r.s.steps.length then⟨0,[],[],(10,0)⟩else
 if r.st=1 then⟨1,r.s.point,[],(0,0)⟩else
 if r.st=2 then⟨2,[],r.s.steps,(0,0)⟩else⟨3,[],[],(0,0)⟩
theorem zi {m n:Nat}(h:m≤40):jV m n []:=⟨by simp,by simp,by simp;omega⟩
theorem zk {m n:Nat}{atoms:List Rw}:iA m n atoms []:=⟨by simp⟩
theorem AJ:∀n,dL [] n= []
 | 0=>rfl
 | n+1=>by
  simp only [dL];rw [AJ n];rfl
theorem KG {lp:List Rw→LP}{rows:List Rw}{ints:List Bool}(hlp:EC ints.length lp)(h12:ints.length≤12)(h40:rows.length≤40)(hr:∀r∈rows,gN r (ints.length:Int))(fuel:Nat):
  EI lp rows ints fuel=⟨0,[],[],(10,0)⟩∨EI lp rows ints fuel=⟨3,[],[],(0,0)⟩∨
  (∃pt:List Rat,EI lp rows ints fuel=⟨1,pt.map dQ,[],(0,0)⟩∧pt.length=ints.length∧allFit pt pt.length=true∧nO ints pt=none∧∀r∈rows,om r ints.length fun j=>pt.getD j 0)∨
  (∃st:List rM,EI lp rows ints fuel=⟨2,[],st,(0,0)⟩∧st≠ []∧∀x,Mix ints x→(∀r∈rows,om r ints.length x)→False):=by
 have h:=vE hlp h12 h40 hr (fuel+1) ⟨fuel,[],[],[],false⟩ [] (zi h40) zk;unfold EI;simp only;generalize uw lp rows ints (fuel+1) ⟨fuel,[],[],[],false⟩ []=r at*
 by_cases hm:r.s.much=true∨3000<r.s.steps.length
 ·rw [if_pos hm];exact .inl rfl
 ·rw [if_neg hm]
  have hm:r.s.much=false:=by
   cases h:r.s.much
   ·rfl
   ·exact absurd (.inl h) hm
  rcases h.st with h1 | h1 | h1
  ·rw [if_pos h1]
   obtain⟨pt,g1,g2,g3,g4,g5⟩:=h.yes h1 hm;exact .inr (.inr (.inl ⟨pt,by rw [g4],g1,g5,g2,g3⟩))
  ·rw [if_neg (by omega),if_pos h1]
   refine .inr (.inr (.inr ⟨_,rfl,h.stp h1 hm,fun x hx hall=>h.no h1 hm x hx fun l hl=> ?_⟩))
   obtain⟨id,e,e1,e2⟩:=h.ids h1 hm l hl
   rcases e2 with e2 | ⟨b,hb,_⟩
   ·obtain ⟨p,rfl⟩:∃p,id=p+1:=⟨id-1,by omega⟩
    rw [e,Int.neg_neg,GD (by omega)]
    exact hall _ (List.getElem_mem _)
   ·rw [AJ]at hb;cases hb
  ·rw [if_neg (by omega),if_neg (by omega)]
   exact .inr (.inl rfl)
theorem zab {ints:List Bool}{pt:List Rat}(h:nO ints pt=none):Mix ints fun j=>pt.getD j 0:=fun k hk ht=>⟨(pt.getD k 0).num,Rat.ext rfl (EF h k hk ht)⟩
def FY (B:jo)(k:Nat):Int:=match lK B (k:Int) 1 with | some b=>b.row.to | none=>5
def GJ (B:jo)(k:Nat):Int:=match lK B (k:Int) (-1)with | some b=> -b.row.to | none=> -5
def szB (B:jo)(k:Nat):Nat:=(FY B k-GJ B k+1).toNat
def kH (B:jo):Nat→Nat
 | 0=>1
 | k+1=>kH B k*szB B k
theorem GK {B:jo}{k:Nat}:∀ {n:Nat},k<n→∃c,∀B',(∀j,j<n→j≠k→szB B' j=szB B j)→kH B' n=szB B' k*c
 | 0,h=>absurd h (by omega)
 | n+1,h=>by
  by_cases hk:k=n
  ·subst hk
   have go:∀m,m≤k→∀B',(∀j,j<k+1→j≠k→szB B' j=szB B j)→kH B' m=kH B m:=fun m=>by
    induction m with
    | zero=>intro _ _ _;rfl
    | succ m ih=>
     intro hm B' hB;simp only [kH];rw [ih (by omega) B' hB,hB m (by omega) (by omega)]
   exact⟨kH B k,fun B' hB=>by simp only [kH];rw [go k (Nat.le_refl _) B' hB,Nat.mul_comm]⟩
  ·obtain ⟨c,hc⟩:=GK (n:=n) (B:=B) (k:=k) (by omega)
   refine⟨c*szB B n,fun B' hB=> ?_⟩
   simp only [kH];rw [hc B' fun j h1 h2=>hB j (by omega) h2,hB n (by omega) (by omega),Nat.mul_assoc]
theorem I9 {B:jo}{k j:Nat}{r:Rw}{id:Int}:FY (dn B (k:Int) 1 ⟨r,id⟩) j=if j=k then r.to else FY B j:=by
 unfold FY;rw [mG]
 by_cases h:j=k
 ·subst h;rw [if_pos rfl,if_pos rfl]
 ·rw [if_neg (fun e=>h (by have:=(Prod.mk.inj e).1;omega)),if_neg h]
theorem Ja {B:jo}{k j:Nat}{r:Rw}{id:Int}:GJ (dn B (k:Int) 1 ⟨r,id⟩) j=GJ B j:=by
 unfold GJ;rw [mG,if_neg (fun e=>by have:=(Prod.mk.inj e).2;omega)]
theorem Jb {B:jo}{k j:Nat}{r:Rw}{id:Int}:GJ (dn B (k:Int) (-1) ⟨r,id⟩) j=if j=k then -r.to else GJ B j:=by
 unfold GJ;rw [mG]
 by_cases h:j=k
 ·subst h;rw [if_pos rfl,if_pos rfl]
 ·rw [if_neg (fun e=>h (by have:=(Prod.mk.inj e).1;omega)),if_neg h]
theorem Jc {B:jo}{k j:Nat}{r:Rw}{id:Int}:FY (dn B (k:Int) (-1) ⟨r,id⟩) j=FY B j:=by
 unfold FY;rw [mG,if_neg (fun e=>by have:=(Prod.mk.inj e).2;omega)]
theorem UA {B:jo}{n k:Nat}{z:Int}{i j:Int}(hk:k<n)(h1:GJ B k≤z)(h2:z+1≤FY B k)(hb:∀q,q<n→GJ B q≤FY B q):
  kH (dn B (k:Int) 1 ⟨aK k 1 z,i⟩) n+kH (dn B (k:Int) (-1) ⟨aK k (-1) (-z-1),j⟩) n=kH B n∧1≤kH (dn B (k:Int) 1 ⟨aK k 1 z,i⟩) n∧1≤kH (dn B (k:Int) (-1) ⟨aK k (-1) (-z-1),j⟩) n:=by
 obtain⟨c,hc⟩:=GK (B:=B) hk;have e1:=hc (dn B (k:Int) 1 ⟨aK k 1 z,i⟩) fun q _ hq=>by unfold szB;rw [I9,Ja,if_neg hq]
 have e2:=hc (dn B (k:Int) (-1) ⟨aK k (-1) (-z-1),j⟩) fun q _ hq=>by unfold szB;rw [Jc,Jb,if_neg hq]
 have e3:=hc B fun _ _ _=>rfl
 have s1:szB (dn B (k:Int) 1 ⟨aK k 1 z,i⟩) k=(z-GJ B k+1).toNat:=by unfold szB;rw [I9,Ja,if_pos rfl];rfl
 have s2:szB (dn B (k:Int) (-1) ⟨aK k (-1) (-z-1),j⟩) k=(FY B k-z).toNat:=by
  unfold szB;rw [Jc,Jb,if_pos rfl];show(FY B k- -(-z-1)+1).toNat=_
  congr 1;omega
 have s3:szB B k=(z-GJ B k+1).toNat+(FY B k-z).toNat:=by unfold szB;omega
 have hc1:1≤c:=by
  have go:∀m,(∀q,q<m→GJ B q≤FY B q)→1≤kH B m:=fun m=>by
   induction m with
   | zero=>intro _;exact Nat.le_refl _
   | succ m ih=>
    intro h;have h3:=ih fun q hq=>h q (by omega)
    have h4:=h m (by omega)
    simp only [kH];exact Nat.mul_pos h3 (by unfold szB;omega)
  have:=go n hb;rw [e3]at this;exact Nat.pos_of_mul_pos_left this |> fun h=>by
   rcases Nat.eq_zero_or_pos c with h0 | h0
   ·rw [h0,Nat.mul_zero]at this;omega
   ·exact h0
 rw [e1,e2,e3,s1,s2,s3,Nat.add_mul];exact⟨rfl,Nat.mul_pos (by omega) hc1,Nat.mul_pos (by omega) hc1⟩
def ND (n:Nat)(r:Rw):Prop:=∃k sg z,k<n∧(sg=1∨sg= -1)∧r=aK k sg z∧ -5≤z∧z≤4
def cR (r:Rw):Nat:=(r.of.length-1)*20+(if 0<r.of.getD (r.of.length-1) 0 then 0 else 10)+(r.to+5).toNat
theorem EJ (k:Nat)(sg z:Int):cR (aK k sg z)=k*20+(if 0<sg then 0 else 10)+(z+5).toNat:=by
 unfold cR aK;simp
theorem QN {n:Nat}{atoms:List Rw}(hn:n≤2)(h:∀r∈atoms,ND n r)(hd:atoms.Nodup):atoms.length≤40:=by
 refine Classical.byContradiction fun hl=> ?_
 have hb:∀i,i<atoms.length→cR (atoms.getD i xK)<40:=fun i hi=>by
  rw [eG,iw hi];obtain⟨k,sg,z,h1,h2,h3,h4,h5⟩:=h _ (List.getElem_mem hi);simp only [Option.getD_some];rw [h3,EJ]
  split<;>omega
 obtain⟨i,j,hij,hj,e⟩:=AL 40 atoms.length (fun i=>cR (atoms.getD i xK)) hb (by omega)
 have hi:i<atoms.length:=by omega
 simp only [eG,iw hi,iw hj,Option.getD_some]at e;obtain⟨k,sg,z,h1,h2,h3,h4,h5⟩:=h _ (List.getElem_mem hi);obtain⟨k',sg',z',g1,g2,g3,g4,g5⟩:=h _ (List.getElem_mem hj);rw [h3,g3,EJ,EJ]at e;have:atoms[i]=atoms[j]:=by
  rw [h3,g3];have:k=k'∧sg=sg'∧z=z':=by
   rcases h2 with rfl | rfl<;>rcases g2 with rfl | rfl<;>simp at e<;>omega
  obtain⟨rfl,rfl,rfl⟩:=this;rfl
 exact absurd this (List.pairwise_iff_getElem.1 hd i j hi hj hij)
def small9 (r:Rw):Prop:=(∀x∈r.of,x.natAbs≤9)∧r.to.natAbs≤9
theorem QO {n:Nat}{r:Rw}(h:ND n r):small9 r:=by
 obtain⟨k,sg,z,_,h2,rfl,h4,h5⟩:=h;refine⟨fun x hx=> ?_,by show z.natAbs≤9;omega⟩
 unfold aK at hx
 rcases List.mem_append.1 hx with hx | hx
 ·rw [List.eq_of_mem_replicate hx];decide
 ·rw [List.mem_singleton.1 hx]
  rcases h2 with rfl | rfl<;>decide
def Xj (n:Nat)(lp:List Rw→LP):Prop:=∀R,R.length≤13→(∀r∈R,gN r (n:Int)∧small9 r)→(∃pt,lp R= .yes pt∧allFit pt pt.length=true)∨∃l,lp R= .no l∧allFit l l.length=true
theorem BO {m n:Nat}{s:jm}{r:Rw}(hs:∀x∈s.atoms,ND n x)(hr:ND n r):(∀x∈(eH m s r).2.atoms,ND n x)∧(eH m s r).2.steps.length≤s.steps.length+1:=by
 unfold eH
 rcases h:pR s.atoms r with _ | i
 ·refine ⟨fun x hx=> ?_,by simp⟩
  rcases List.mem_append.1 hx with hx | hx
  ·exact hs x hx
  ·rw [List.mem_singleton.1 hx];exact hr
 ·exact ⟨hs,by simp⟩
structure zbk (n:Nat)(s:jm)(P:Nat)(r:mY):Prop where
 st:r.st=1∨r.st=2
 much:r.s.much=false
 fuel:s.fuel+1≤r.s.fuel+2*P
 le:r.s.fuel≤s.fuel
 steps:r.s.steps.length+4≤s.steps.length+8*P
 atoms:∀x∈r.s.atoms,ND n x
structure BdS (n:Nat)(B:jo):Prop where
 lo:∀k,k<n→ -5≤GJ B k
 hi:∀k,k<n→FY B k≤5
 le:∀k,k<n→GJ B k≤FY B k
 sm:∀b∈dL B n,ND n b.row
theorem zbl {m n:Nat}{atoms:List Rw}{B:jo}{R:List Rw}{x:Nat→Rat}(hb:iA m n atoms B)(hR:∀b∈dL B n,b.row∈R)(h:∀r∈R,om r n x){k:Nat}(hk:k<n)(h5: -5≤x k∧x k≤5):((GJ B k:Int):Rat)≤x k∧x k≤((FY B k:Int):Rat):=by
 constructor
 ·unfold GJ
  rcases hg:lK B (k:Int) (-1)with _ | b
  ·have e:((-5:Int):Rat)= -5:=rfl
   simp only;rw [e];exact h5.1
  ·have hm:b∈dL B n:=jh.2 ⟨k,-1,hk,.inr rfl,hg⟩
   have h1:=h _ (hR b hm);obtain⟨k',sg,z,i,h3,h4,_⟩:=hb.b _ (pQ hg);have hkk:k=k'∧sg= -1:=by
    have:=Prod.mk.inj h4;exact⟨by omega,this.2.symm⟩
   obtain⟨rfl,rfl⟩:=hkk;obtain⟨_,_,h3,_⟩:=h3;simp only at h3 ⊢;rw [h3]at h1 ⊢;rw [rJ hk]at h1;show((-z:Int):Rat)≤x k;have e1:((-1:Int):Rat)= -1:=rfl;rw [e1]at h1;rw [Rat.intCast_neg];grind
 ·unfold FY
  rcases hg:lK B (k:Int) 1 with _ | b
  ·have e:((5:Int):Rat)=5:=rfl
   simp only;rw [e];exact h5.2
  ·have hm:b∈dL B n:=jh.2 ⟨k,1,hk,.inl rfl,hg⟩
   have h1:=h _ (hR b hm);obtain⟨k',sg,z,i,h3,h4,_⟩:=hb.b _ (pQ hg);have hkk:k=k'∧sg=1:=by
    have:=Prod.mk.inj h4;exact⟨by omega,this.2.symm⟩
   obtain⟨rfl,rfl⟩:=hkk;obtain⟨_,_,h3,_⟩:=h3;simp only at h3 ⊢;rw [h3]at h1 ⊢;rw [rJ hk]at h1;show x k≤((z:Int):Rat);have e1:((1:Int):Rat)=1:=rfl;rw [e1]at h1;grind
theorem EK {n:Nat}{B:jo}{k:Nat}{sg:Int}{b0 b:CB}(h:b∈dL (dn B (k:Int) sg b0) n):b=b0∨b∈dL B n:=by
 obtain⟨k',s',h1,h2,hg⟩:=jh.1 h;rw [mG]at hg
 split at hg
 ·left;cases hg;rfl
 ·exact .inr (jh.2 ⟨k',s',h1,h2,hg⟩)
theorem KH {B:jo}:∀ {n:Nat},(∀k,k<n→GJ B k≤FY B k)→1≤kH B n
 | 0,_=>Nat.le_refl _
 | n+1,h=>by
  simp only [kH];have:=h n (by omega)
  exact Nat.mul_pos (KH fun k hk=>h k (by omega)) (by unfold szB;omega)
theorem KL {rows:List Rw}{ints:List Bool}{rc:jm→jo→mY}{s:jm}{B:jo}{k:Nat}{pt:List Rat}(hn2:ints.length≤2)(h9:rows.length≤9)(ha:jV rows.length ints.length s.atoms)(hb:iA rows.length ints.length s.atoms B)(hB:BdS ints.length B)
  (hsm:∀x∈s.atoms,ND ints.length x) (hm:s.much=false) (hst:s.steps.length+8*kH B ints.length≤2900)
  (hk:k<ints.length) (hkw:(pt.getD k 0).den≠1) (hbd:((GJ B k:Int):Rat)≤pt.getD k 0∧pt.getD k 0≤((FY B k:Int):Rat))
  (zcB:∀s B,jV rows.length ints.length s.atoms→iA rows.length ints.length s.atoms B→MG rows ints s B (rc s B))
  (hrc:∀s' B',jV rows.length ints.length s'.atoms→iA rows.length ints.length s'.atoms B'→BdS ints.length B'→(∀x∈s'.atoms,ND ints.length x)→s'.much=false→s'.steps.length+8*kH B' ints.length≤2900→s'.fuel≤s.fuel→2*kH B' ints.length≤s'.fuel+1→zbk ints.length s' (kH B' ints.length) (rc s' B'))
  (hf:2*kH B ints.length≤s.fuel+2):
  ∃r,r=gH rows.length rc s B k (jP (pt.getD k 0))∧(r.st=1∨r.st=2)∧r.s.much=false∧r.s.fuel≤s.fuel∧s.fuel+2≤r.s.fuel+2*kH B ints.length∧r.s.steps.length+4≤s.steps.length+8*kH B ints.length∧∀x∈r.s.atoms,ND ints.length x:=by
 have hf1:=GH (pt.getD k 0);have hf2:=GI (pt.getD k 0);have zbj:pt.getD k 0≠((jP (pt.getD k 0):Int):Rat):=fun e=>hkw (by rw [e];exact Rat.den_intCast _)
 generalize hz:jP (pt.getD k 0)=z at *;generalize pt.getD k 0=q at *;have hlo5:=hB.lo k hk;have hhi5:=hB.hi k hk;have hlz:GJ B k≤z:=by
  have h1:((GJ B k:Int):Rat)<((z+1:Int):Rat):=by
   rw [Rat.intCast_add];have e:((1:Int):Rat)=1:=rfl;rw [e];grind
  have:=Rat.intCast_lt_intCast.1 h1;omega
 have hzh:z+1≤FY B k:=by
  have h1:((z:Int):Rat)<((FY B k:Int):Rat):=by grind
  have:=Rat.intCast_lt_intCast.1 h1;omega
 have hfew:=QN hn2 hsm ha.nd;have hz1:dA z:=by unfold dA;omega
 have hz2:dA (-z-1):=by unfold dA;omega
 have hlo:mX ints.length (aK k 1 z) k 1 z:=⟨hk,.inl rfl,rfl,hz1⟩;have hhi:mX ints.length (aK k (-1) (-z-1)) k (-1) (-z-1):=⟨hk,.inr rfl,rfl,hz2⟩;have sLo:ND ints.length (aK k 1 z):=⟨k,1,z,hk,.inl rfl,rfl,by omega,by omega⟩
 have sHi:ND ints.length (aK k (-1) (-z-1)):=⟨k,-1,-z-1,hk,.inr rfl,rfl,by omega,by omega⟩
 refine⟨_,rfl,?_⟩;unfold gH;rw [if_neg (by omega)]
 obtain⟨i,a1,a2,⟨ta,a3,a3'⟩,a4,a5,a6,_⟩:=jE hlo ha (by omega)
 obtain⟨j,b1,b2,⟨tb,b3,b3'⟩,b4,b5,b6,_⟩:=jE hhi a4 (by rw [a3,List.length_append];omega)
 obtain⟨c1,c2⟩:=BO (m:=rows.length) hsm sLo;obtain⟨c3,c4⟩:=BO (m:=rows.length) c1 sHi;simp only;generalize hA:eH rows.length s (aK k 1 z)=A at *;generalize hC:eH rows.length A.2 (aK k (-1) (-z-1))=C at *;rw [a1,b1];obtain⟨s3,hs3⟩:∃s3:jm,s3= {C.2 with steps:=C.2.steps++ [(⟨6,[min ((rows.length+i+1:Nat):Int) ((rows.length+j+1:Nat):Int),max ((rows.length+i+1:Nat):Int) ((rows.length+j+1:Nat):Int)],[],xK⟩:rM)]}:=⟨_,rfl⟩
 have xP:s3.atoms=C.2.atoms:=by rw [hs3]
 have zcC:s3.fuel=s.fuel:=by rw [hs3];show C.2.fuel=_;rw [b5,a5]
 have zcD:s3.much=false:=by rw [hs3];show C.2.much=_;rw [b6,a6,hm]
 have zcE:s3.steps.length≤s.steps.length+3:=by rw [hs3];simp;omega
 rw [← hs3];have hm3:s3.atoms=s.atoms++(ta++tb):=by rw [xP,b3,a3,List.append_assoc]
 have hok3:jV rows.length ints.length s3.atoms:=by rw [xP];exact b4
 have hsm3:∀x∈s3.atoms,ND ints.length x:=by rw [xP];exact c3
 have ha3:s3.atoms[i]? =some (aK k 1 z):=by
  rw [xP,b3,List.getElem?_append_left (List.getElem?_eq_some_iff.1 a2).1];exact a2
 have hb3:s3.atoms[j]? =some (aK k (-1) (-z-1)):=by rw [xP];exact b2
 have hB1:iA rows.length ints.length s3.atoms (dn B (k:Int) 1 ⟨aK k 1 z,((rows.length+i+1:Nat):Int)⟩):=by
  rw [hm3]at ha3 ⊢;exact mZ hb hlo ha3
 obtain⟨hP,hP1,hP2⟩:=UA (B:=B) (i:=((rows.length+i+1:Nat):Int)) (j:=((rows.length+j+1:Nat):Int)) hk hlz hzh hB.le;have hS1:BdS ints.length (dn B (k:Int) 1 ⟨aK k 1 z,((rows.length+i+1:Nat):Int)⟩):=by
  refine⟨fun q hq=>by rw [Ja];exact hB.lo q hq,fun q hq=> ?_,fun q hq=> ?_,fun b hb'=> ?_⟩
  ·rw [I9]
   split
   ·show z≤5;omega
   ·exact hB.hi q hq
  ·rw [I9,Ja]
   split
   ·rename_i e;subst e;exact hlz
   ·exact hB.le q hq
  ·rcases EK hb' with rfl | h
   ·exact sLo
   ·exact hB.sm b h
 have hr:=hrc _ _ hok3 hB1 hS1 hsm3 zcD (by omega) (by omega) (by omega)
 have hrS:=zcB _ _ hok3 hB1;generalize kH (dn B (k:Int) 1 ⟨aK k 1 z,((rows.length+i+1:Nat):Int)⟩) ints.length=P1 at *;generalize hR:rc s3 (dn B (k:Int) 1 ⟨aK k 1 z,((rows.length+i+1:Nat):Int)⟩)=r at *;have r1:=hr.fuel;have r2:=hr.steps;have r3:=hr.le
 split
 ·exact ⟨hr.st,hr.much,by omega,by omega,by omega,hr.atoms⟩
 ·obtain ⟨t4,h4⟩:=hrS.more
  have hB2:iA rows.length ints.length r.s.atoms (dn B (k:Int) (-1) ⟨aK k (-1) (-z-1),((rows.length+j+1:Nat):Int)⟩):=by
   have e:r.s.atoms=s.atoms++((ta++tb)++t4):=by rw [h4,hm3,List.append_assoc]
   have hb4:r.s.atoms[j]? =some (aK k (-1) (-z-1)):=by
    rw [h4,List.getElem?_append_left (List.getElem?_eq_some_iff.1 hb3).1];exact hb3
   rw [e]at hb4 ⊢;exact mZ hb hhi hb4
  have hS2:BdS ints.length (dn B (k:Int) (-1) ⟨aK k (-1) (-z-1),((rows.length+j+1:Nat):Int)⟩):=by
   refine⟨fun q hq=> ?_,fun q hq=>by rw [Jc];exact hB.hi q hq,fun q hq=> ?_,fun b hb'=> ?_⟩
   ·rw [Jb]
    split
    ·show -5≤ -(-z-1);omega
    ·exact hB.lo q hq
   ·rw [Jc,Jb]
    split
    ·rename_i e;subst e;show -(-z-1)≤_;omega
    ·exact hB.le q hq
   ·rcases EK hb' with rfl | h
    ·exact sHi
    ·exact hB.sm b h
  have ht:=hrc _ _ hrS.ok hB2 hS2 hr.atoms hr.much (by omega) (by omega) (by omega)
  generalize kH (dn B (k:Int) (-1) ⟨aK k (-1) (-z-1),((rows.length+j+1:Nat):Int)⟩) ints.length=P2 at *;generalize hT:rc r.s (dn B (k:Int) (-1) ⟨aK k (-1) (-z-1),((rows.length+j+1:Nat):Int)⟩)=t at *;have t1:=ht.fuel;have t2:=ht.steps;have t3:=ht.le
  split
  ·exact ⟨ht.st,ht.much,by omega,by omega,by omega,ht.atoms⟩
  ·refine ⟨.inr rfl,ht.much,?_,?_,?_,ht.atoms⟩
   ·show t.s.fuel≤_;omega
   ·show _≤t.s.fuel+_;omega
   ·simp only [List.length_append,List.length_singleton];omega
theorem OW {lp:List Rw→LP}{rows:List Rw}{ints:List Bool}(hlp:EC ints.length lp)(hsm:Xj ints.length lp)(hn2:ints.length≤2)(h9:rows.length≤9)(hr:∀r∈rows,gN r (ints.length:Int))(h9s:∀r∈rows,small9 r)
  (NG:∀x:Nat→Rat,(∀r∈rows,om r ints.length x)→∀k,k<ints.length→ -5≤x k∧x k≤5):
  ∀d s B,jV rows.length ints.length s.atoms→iA rows.length ints.length s.atoms B→BdS ints.length B→(∀x∈s.atoms,ND ints.length x)→s.much=false→s.steps.length+8*kH B ints.length≤2900→s.fuel<d→2*kH B ints.length≤s.fuel+1→zbk ints.length s (kH B ints.length) (uw lp rows ints d s B)
 | 0,s,B,_,_,_,_,_,_,h,_=>absurd h (by omega)
 | d+1,s,B,ha,hb,hB,hs,hm,hst,hd,hf=>by
  have hp:=KH hB.le;unfold uw;rw [if_neg (by omega)]
  obtain⟨s',hs'⟩:∃s':jm,s'= {s with fuel:=s.fuel-1}:=⟨_,rfl⟩
  have ea:s'.atoms=s.atoms:=by rw [hs']
  have ef:s'.fuel=s.fuel-1:=by rw [hs']
  have em:s'.much=false:=by rw [hs'];exact hm
  have es:s'.steps=s.steps:=by rw [hs']
  rw [← hs'];have ha':jV rows.length ints.length s'.atoms:=by rw [ea];exact ha
  have hb':iA rows.length ints.length s'.atoms B:=by rw [ea];exact hb
  have zac:∀x∈s'.atoms,ND ints.length x:=by rw [ea];exact hs
  have hbl:=mH (B:=B) ints.length;have hRl:(kG rows ints.length B).length=rows.length+(dL B ints.length).length:=by simp [kG]
  have zbm:=zf (by omega) hr hb'
  unfold rP
  rcases hsm _ (by omega) (fun r hr'=>⟨zbm r hr',by
   unfold kG at hr'
   rcases List.mem_append.1 hr' with h | h
   ·exact h9s r h
   ·obtain ⟨b,hb2,rfl⟩:=List.mem_map.1 h
    exact QO (hB.sm b hb2)⟩)with⟨pt,hpt,hfit⟩ | ⟨l,hl,hfit⟩
  ·rw [hpt]
   obtain⟨g1,g2⟩:=hlp.yes _ pt (by omega) zbm hpt
   simp only
   rcases ho:nO ints pt with _ | k
   ·simp only
    refine⟨.inl rfl,?_,?_,?_,?_,zac⟩
    ·show (s'.much || !allFit pt pt.length)=false
     rw [em,hfit];rfl
    ·show _≤s'.fuel+_;omega
    ·show s'.fuel≤_;omega
    ·show s'.steps.length+4≤_;rw [es];omega
   ·simp only
    obtain⟨k1,k2,k3⟩:=sN ho;obtain⟨q,hq,e1,e2,e3,e4,e5,e6⟩:=KL (rc:=uw lp rows ints d) (s:=s') (B:=B) (pt:=pt) hn2 h9 ha' hb' hB zac em (by rw [es];exact hst) k1 k3
     (zbl hb' (R:=kG rows ints.length B) (fun b hb2=>by unfold kG;exact List.mem_append.2 (.inr (List.mem_map.2 ⟨b,hb2,rfl⟩))) g2 k1 (NG _ (fun r hr'=>g2 r (by unfold kG;exact List.mem_append.2 (.inl hr'))) k k1))
     (fun s B h1 h2=>vE hlp (by omega) (by omega) hr d s B h1 h2)
     (fun s2 B2 h1 h2 h3 h4 h5 h6 h7 h8=>OW hlp hsm hn2 h9 hr h9s NG d s2 B2 h1 h2 h3 h4 h5 h6 (by omega) h8) (by omega)
    rw [← hq];exact⟨e1,e2,by omega,by omega,by rw [es]at e5;omega,e6⟩
  ·rw [hl]
   simp only;rw [if_pos hfit];refine⟨.inr rfl,em,?_,?_,?_,zac⟩
   ·show _≤s'.fuel+_;omega
   ·show s'.fuel≤_;omega
   ·simp only [List.length_append,List.length_singleton];rw [es];omega
theorem UC {lp:List Rw→LP}{rows:List Rw}{ints:List Bool}(hlp:EC ints.length lp)(hsm:Xj ints.length lp)(hn2:ints.length≤2)(h9:rows.length≤9)(hr:∀r∈rows,gN r (ints.length:Int))(h9s:∀r∈rows,small9 r)
  (NG:∀x:Nat→Rat,(∀r∈rows,om r ints.length x)→∀k,k<ints.length→ -5≤x k∧x k≤5):(EI lp rows ints 2000).st=1∨(EI lp rows ints 2000).st=2:=by
 have hP:kH [] ints.length≤121:=by
  have h:ints.length=0∨ints.length=1∨ints.length=2:=by omega
  rcases h with h | h | h<;>rw [h]<;>decide
 have hB:BdS ints.length []:=⟨fun _ _=>by show(-5:Int)≤ -5;omega,fun _ _=>by show(5:Int)≤5;omega,fun _ _=>by show(-5:Int)≤5;decide,by rw [AJ];simp⟩
 have h:=OW hlp hsm hn2 h9 hr h9s NG 2001 ⟨2000,[],[],[],false⟩ [] (zi (by omega)) zk hB (by simp) rfl (by simp;omega) (by simp) (by simp only;omega)
 have h3:=h.steps;simp only [List.length_nil]at h3;unfold EI;simp only;generalize uw lp rows ints (2000+1) ⟨2000,[],[],[],false⟩ []=r at *;rw [if_neg (by rintro(h1 | h1);rw [h.much]at h1;cases h1;omega)]
 rcases h.st with h1 | h1
 ·rw [if_pos h1];exact .inl rfl
 ·rw [if_neg (by omega),if_pos h1];exact .inr rfl
def Xk (n f:Nat)(R:List Rw):LP:=match TS.feas f (TS.start n R)with
 | .hungry=> .hungry
 | .no l=> .no l
 | .yes T=> .yes (T.ptK T.n)
theorem zbn {rows:List Rw}{N:Nat}{t x:Nat→Rat}(hk:∀r∈rows,r.kind=1∨r.kind=2∨r.kind=3)(YN:∀p,p<rows.length→(rows.getD p bJ).kind≠3→0≤t p)(uH:∀k,k<N→(sQ rows.length fun p=>t p*(iO rows p k:Rat))=0)
  (hneg:(sQ rows.length fun p=>t p*((rows.getD p bJ).to:Rat))<0∨(sQ rows.length fun p=>t p*((rows.getD p bJ).to:Rat))=0∧∃p,p<rows.length∧(rows.getD p bJ).kind=2∧t p≠0)
  (hx:∀p,p<rows.length→t p≠0→om (rows.getD p bJ) N x):False:=by
 have e0:(sQ rows.length fun p=>t p*sQ N fun j=>(iO rows p j:Rat)*x j)=0:=by
  have e1:∀p,p<rows.length→t p*(sQ N fun j=>(iO rows p j:Rat)*x j)=sQ N fun j=>x j*(t p*(iO rows p j:Rat)):=by
   intro p _;rw [← sI];refine dD N fun j _=> ?_
   grind
  rw [dD _ e1,OM];refine jR N fun j hj=> ?_
  rw [sI,uH j hj,Rat.mul_zero]
 have hle:∀p,p<rows.length→t p*(sQ N fun j=>(iO rows p j:Rat)*x j)≤t p*((rows.getD p bJ).to:Rat):=by
  intro p hp
  by_cases h0:t p=0
  ·rw [h0];grind
  obtain⟨a1,a2,a3⟩:=hx p hp h0;have hk:=hk _ (List.getElem_mem hp);rw [← za9 hp]at hk
  by_cases h3:(rows.getD p bJ).kind=3
  ·have:=a3 h3
   unfold iO;rw [this];exact Rat.le_refl
  ·refine Rat.mul_le_mul_of_nonneg_left ?_ (YN p hp h3)
   rcases hk with hk | hk | hk
   ·exact a1 hk
   ·exact Rat.le_of_lt (a2 hk)
   ·exact absurd hk h3
 have hs:=Ud _ hle;rw [e0]at hs
 rcases hneg with h3 | ⟨h3,p,hp,hk2,h0⟩
 ·grind
 ·have hpos:0<t p:=by
   have:=YN p hp (by omega)
   grind
  have hlt:=(hx p hp h0).2.1 hk2;have:=YF _ hp hle (Rat.mul_lt_mul_of_pos_left hlt hpos);rw [e0]at this
  grind
theorem KM {n:Nat}(hn:n≤12)(f:Nat):EC n (Xk n f):=by
 refine⟨fun R pt h64 hok h=> ?_,fun R l h64 hok h=> ?_⟩
 ·have h0:=vW hn h64 hok
  unfold Xk at h
  rcases hf:TS.feas f (TS.start n R)with T | l | _
  ·rw [hf]at h
   obtain rfl:T.ptK T.n=pt:=by cases h;rfl
   obtain⟨hI,hb⟩:=zn f _ T h0 hf;have hn:=hI.hn;refine⟨by rw [Dh,hn],fun r hr=> ?_⟩
   obtain⟨i,hi,rfl⟩:=List.getElem_of_mem hr;have:=Qw hI hb hi;unfold iO at this;rw [za9 hi]at this;have e:(sQ n fun j=>((R[i]).of.getD j 0:Rat)*(T.ptK T.n).getD j 0)=sQ n fun j=>((R[i]).of.getD j 0:Rat)*T.ptQ j:=dD n fun j hj=>by
    congr 1
    unfold TS.ptK;rw [eG,List.getElem?_map,List.getElem?_range (by omega)];rfl
   unfold om;rw [e];exact this
  ·rw [hf]at h;cases h
  ·rw [hf]at h;cases h
 ·have h0:=vW hn h64 hok
  unfold Xk at h
  rcases hf:TS.feas f (TS.start n R)with T | l' | _
  ·rw [hf]at h;cases h
  ·rw [hf]at h
   obtain rfl:l'=l:=by cases h;rfl
   obtain⟨T,b,way,hI,hB,hE,hl⟩:=Di f _ l' h0 hf;have hlen:l'.length=R.length:=by rw [hl,pK,hI.hr]
   obtain⟨h1,h2,h3⟩:=Nb hI hB hE (fun p=>l'.getD p 0) (fun p hp=>by rw [hl])
   refine⟨hlen,?_,fun x hx=>zbn (fun r hr=>(hok r hr).kind) h1 h2 h3 hx⟩
   rcases h3 with h3 | ⟨_,p,hp,_,h0⟩
   ·refine Classical.byContradiction fun hn=> ?_
    have:(sQ R.length fun p=>l'.getD p 0*((R.getD p bJ).to:Rat))=0:=jR _ fun p hp=>by
     have:l'.getD p 0=0:=Classical.byContradiction fun h=>hn ⟨p,hp,h⟩
     rw [this,Rat.zero_mul]
    rw [this]at h3;exact absurd h3 (by decide)
   ·exact ⟨p,hp,h0⟩
  ·rw [hf]at h;cases h
theorem zbo {n:Nat}(hn:n≤2):Xj n (Xk n 1048576):=fun R h13 hok=>by
 have hok':∀r∈R,gN r (n:Int):=fun r hr=>(hok r hr).1
 have hs:Il R:=fun r hr=>(hok r hr).2
 have h0:=vW (n:=n) (by omega) (by omega) hok'
 unfold Xk
 rcases hf:TS.feas 1048576 (TS.start n R)with T | l | _
 ·left
  obtain⟨hI,hb⟩:=zn _ _ T h0 hf;refine⟨_,rfl,Eo fun q hq=> ?_⟩
  unfold TS.ptK at hq;obtain⟨j,hj,rfl⟩:=List.mem_map.1 hq;exact hI.small_pt hs (by omega) (by have:=List.mem_range.1 hj;rw [hI.hn]at this;exact this)
 ·right
  obtain⟨T,b,way,hI,hB,hE,hll⟩:=Di _ _ l h0 hf;refine⟨_,rfl,Eo ?_⟩;rw [hll];have hi:=(lW hB.mem).1;rw [hI.wf.bl,hI.hr]at hi;exact xJ hI hs (by omega) hi hB.way _ (by rw [hI.hn,hI.hr];exact Nat.le_refl _)
 ·exact absurd hf (FZ (D:=2) (K:=15) h0 hn (by omega) (by decide))
theorem BS:∀(N:Nat) (l:List Nat),l.Nodup→(∀x∈l,x<N)→l.length≤N
 | 0,l,_,h=>by
  rcases l with _ | ⟨x,l⟩
  ·simp
  ·exact absurd (h x List.mem_cons_self) (by omega)
 | N+1,l,hn,h=>by
  have h1:=BS N (l.erase N) (hn.erase N) fun x hx=>by
   have:=(hn.mem_erase_iff).1 hx;have:=h x this.2;omega
  rw [List.length_erase]at h1
  split at h1<;>omega
theorem QT {l:List Int}(h:l.Nodup)(hb:∀x∈l,∃id:Nat,x= -(id:Int)∧id≤120):l.length≤121:=by
 have h1:(l.map fun x=>(-x).toNat).Nodup:=by
  rw [List.nodup_iff_pairwise_ne,List.pairwise_map];rw [List.nodup_iff_pairwise_ne]at h;refine List.Pairwise.imp_of_mem (fun {a b} ha hb' hne e=> ?_) h
  obtain⟨i,hi,_⟩:=hb a ha;obtain⟨j,hj,_⟩:=hb b hb';omega
 have:=BS 121 _ h1 fun x hx=>by
  obtain⟨y,hy,rfl⟩:=List.mem_map.1 hx;obtain⟨i,hi,hi'⟩:=hb y hy;omega
 simpa using this
theorem EL (a b:Int):∀(l o:List Int),o.Nodup→(mI a b l o).Nodup
 | [],o,h=>h
 | x::l,o,h=>by
  unfold mI;refine EL a b l _ ?_
  by_cases hx:x≠ -a∧x≠ -b∧x∉o
  ·rw [if_pos hx,List.nodup_append]
   exact⟨h,by simp,fun y hy z hz=>by rw [List.mem_singleton.1 hz];rintro rfl;exact hx.2.2 hy⟩
  ·rw [if_neg hx];exact h
theorem KO (x:Int):∀l,(Cn x l).length=l.length+1
 | []=>rfl
 | y::l=>by unfold Cn;split<;>simp [KO x l]
theorem AO:∀l,(iH l).length=l.length
 | []=>rfl
 | x::l=>by unfold iH;rw [KO,AO l];rfl
theorem KP (x:Int × Fq):∀l,(Cm x l).length=l.length+1
 | []=>rfl
 | y::l=>by unfold Cm;split<;>simp [KP x l]
theorem GL:∀l,(gD l).length=l.length
 | []=>rfl
 | x::l=>by unfold gD;rw [KP,GL l];rfl
theorem QU (times:List Rat)(ids:List Int):(dB times ids).length≤times.length:=by
 unfold dB;rw [List.length_map];refine Nat.le_trans (List.length_filter_le _ _) ?_;rw [List.length_zip];omega
structure Wk (s:jm)(r:mY):Prop where
 phi:max r.s.steps.length 3000+2*r.s.fuel≤max s.steps.length 3000+2*s.fuel
 len:r.st=2→r.s.much=false→r.c.length≤200
 fl:r.s.fuel≤s.fuel
theorem MG.idb {rows:List Rw}{ints:List Bool}{s:jm}{B:jo}{r:mY}(h:MG rows ints s B r)(h40:rows.length≤40)(hb:iA rows.length ints.length r.s.atoms B)(h2:r.st=2)(hm:r.s.much=false):∀l∈r.c,∃id:Nat,l= -(id:Int)∧id≤120:=fun l hl=>by
 obtain⟨id,e,_,h1⟩:=h.ids h2 hm l hl;refine⟨id,e,?_⟩
 rcases h1 with h1 | ⟨b,hbm,he⟩
 ·omega
 ·obtain ⟨k,sg,z,i,_,_,h3,h4⟩:=vV hb hbm
  have:=(List.getElem?_eq_some_iff.1 h4).1;have:=h.ok.cap;omega
theorem vX (m:Nat)(s:jm)(r:Rw):(eH m s r).2.steps.length≤s.steps.length+1:=by
 unfold eH
 split
 ·simp
 ·simp
structure WkB (s:jm)(r:mY):Prop where
 phi:max r.s.steps.length 3000+2*r.s.fuel≤max s.steps.length 3000+2*s.fuel+1
 len:r.st=2→r.s.much=false→r.c.length≤200
 fl:r.s.fuel≤s.fuel
theorem QV {rows:List Rw}{ints:List Bool}{rc:jm→jo→mY}{s:jm}{B:jo}{k:Nat}{z:Int}(h40:rows.length≤40)(ha:jV rows.length ints.length s.atoms)(hb:iA rows.length ints.length s.atoms B)(hk:k<ints.length)
  (hrc:∀s B,jV rows.length ints.length s.atoms→iA rows.length ints.length s.atoms B→MG rows ints s B (rc s B)∧Wk s (rc s B)):
  WkB s (gH rows.length rc s B k z):=by
 unfold gH
 split
 ·exact ⟨by simp only;omega,fun _ h=>(by cases h),Nat.le_refl _⟩
 ·rename_i hbad
  have hz1:dA z:=by unfold dA;omega
  have hz2:dA (-z-1):=by unfold dA;omega
  have hcap:rows.length+s.atoms.length+2≤120:=by omega
  have hst:s.steps.length≤2992:=by omega
  clear hbad;have hlo:mX ints.length (aK k 1 z) k 1 z:=⟨hk,.inl rfl,rfl,hz1⟩;have hhi:mX ints.length (aK k (-1) (-z-1)) k (-1) (-z-1):=⟨hk,.inr rfl,rfl,hz2⟩;obtain⟨i,a1,a2,⟨ta,a3,a3'⟩,a4,a5,_⟩:=jE hlo ha (by omega)
  obtain⟨j,b1,b2,⟨tb,b3,b3'⟩,b4,b5,_⟩:=jE hhi a4 (by rw [a3,List.length_append];omega)
  have l1:=vX rows.length s (aK k 1 z);have l2:=vX rows.length (eH rows.length s (aK k 1 z)).2 (aK k (-1) (-z-1));simp only;generalize hA:eH rows.length s (aK k 1 z)=A at *;generalize hC:eH rows.length A.2 (aK k (-1) (-z-1))=C at *;rw [a1,b1];obtain⟨s3,hs3⟩:∃s3:jm,s3= {C.2 with steps:=C.2.steps++ [(⟨6,[min ((rows.length+i+1:Nat):Int) ((rows.length+j+1:Nat):Int),max ((rows.length+i+1:Nat):Int) ((rows.length+j+1:Nat):Int)],[],xK⟩:rM)]}:=⟨_,rfl⟩
  have xP:s3.atoms=C.2.atoms:=by rw [hs3]
  have zcC:s3.fuel=s.fuel:=by rw [hs3];exact b5.trans a5
  have zcE:s3.steps.length≤3000:=by rw [hs3];simp only [List.length_append,List.length_singleton];omega
  rw [← hs3];have hm3:s3.atoms=s.atoms++(ta++tb):=by rw [xP,b3,a3,List.append_assoc]
  have hok3:jV rows.length ints.length s3.atoms:=by rw [xP];exact b4
  have ha3:s3.atoms[i]? =some (aK k 1 z):=by
   rw [xP,b3,List.getElem?_append_left (List.getElem?_eq_some_iff.1 a2).1];exact a2
  have hb3:s3.atoms[j]? =some (aK k (-1) (-z-1)):=by rw [xP];exact b2
  have hB1:iA rows.length ints.length s3.atoms (dn B (k:Int) 1 ⟨aK k 1 z,((rows.length+i+1:Nat):Int)⟩):=by
   rw [hm3]at ha3 ⊢;exact mZ hb hlo ha3
  obtain⟨hr,hw⟩:=hrc _ _ hok3 hB1;generalize hR:rc s3 (dn B (k:Int) 1 ⟨aK k 1 z,((rows.length+i+1:Nat):Int)⟩)=r at *;have hp1:=hw.phi;have hf1:=hw.fl
  split
  ·exact ⟨by omega,hw.len,by omega⟩
  ·rename_i hx
   have hr2:r.st=2:=Classical.byContradiction fun h=>hx (.inl h)
   have hrm:r.s.much=false:=by
    cases h:r.s.much
    ·rfl
    ·exact absurd (.inr (.inl h)) hx
   obtain⟨t4,h4⟩:=hr.more;have zcF:iA rows.length ints.length r.s.atoms (dn B (k:Int) 1 ⟨aK k 1 z,((rows.length+i+1:Nat):Int)⟩):=by rw [h4];exact hB1.more
   have hB2:iA rows.length ints.length r.s.atoms (dn B (k:Int) (-1) ⟨aK k (-1) (-z-1),((rows.length+j+1:Nat):Int)⟩):=by
    have e:r.s.atoms=s.atoms++((ta++tb)++t4):=by rw [h4,hm3,List.append_assoc]
    have hb4:r.s.atoms[j]? =some (aK k (-1) (-z-1)):=by
     rw [h4,List.getElem?_append_left (List.getElem?_eq_some_iff.1 hb3).1];exact hb3
    rw [e]at hb4 ⊢;exact mZ hb hhi hb4
   have hid1:=hr.idb h40 zcF hr2 hrm;obtain⟨ht,hv⟩:=hrc _ _ hr.ok hB2;generalize hT:rc r.s (dn B (k:Int) (-1) ⟨aK k (-1) (-z-1),((rows.length+j+1:Nat):Int)⟩)=t at *;have hp2:=hv.phi;have hf2:=hv.fl
   split
   ·exact ⟨by omega,hv.len,by omega⟩
   ·rename_i hy
    have ht2:t.st=2:=Classical.byContradiction fun h=>hy (.inl h)
    have htm:t.s.much=false:=by
     cases h:t.s.much
     ·rfl
     ·exact absurd (.inr (.inl h)) hy
    obtain⟨t5,h5⟩:=ht.more;have hid2:=ht.idb h40 (by rw [h5];exact hB2.more) ht2 htm
    refine⟨by simp only [List.length_append,List.length_singleton];omega,fun _ _=> ?_,by simp only;omega⟩
    simp only;rw [AO];refine Nat.le_trans (QT (EL _ _ _ _ (by simp)) fun x hx=> ?_) (by omega)
    rcases ED.1 hx with hx | ⟨hx,_⟩
    ·cases hx
    ·rcases List.mem_append.1 hx with hx | hx
     ·exact hid1 x hx
     ·exact hid2 x hx
theorem UD {lp:List Rw→LP}{rows:List Rw}{ints:List Bool}(hlp:EC ints.length lp)(h12:ints.length≤12)(h40:rows.length≤40)(hr:∀r∈rows,gN r (ints.length:Int)):∀d s B,jV rows.length ints.length s.atoms→iA rows.length ints.length s.atoms B→Wk s (uw lp rows ints d s B)
 | 0,s,B,ha,hb=>⟨by simp only [uw];omega,fun h=>(by cases h),Nat.le_refl _⟩
 | d+1,s,B,ha,hb=>by
  unfold uw
  split
  ·exact ⟨by simp only;omega,fun h=>(by cases h),Nat.le_refl _⟩
  ·rename_i hf
   obtain⟨s',hs'⟩:∃s':jm,s'= {s with fuel:=s.fuel-1}:=⟨_,rfl⟩
   have ea:s'.atoms=s.atoms:=by rw [hs']
   have ef:s'.fuel=s.fuel-1:=by rw [hs']
   have es:s'.steps=s.steps:=by rw [hs']
   rw [← hs'];have ha':jV rows.length ints.length s'.atoms:=by rw [ea];exact ha
   have hb':iA rows.length ints.length s'.atoms B:=by rw [ea];exact hb
   have hbl:=mH (B:=B) ints.length;have hRl:(kG rows ints.length B).length=rows.length+(dL B ints.length).length:=by simp [kG]
   unfold rP
   split
   ·exact ⟨by simp only;rw [es,ef];omega,fun h=>(by cases h),by simp only;omega⟩
   ·rename_i l hl
    have hll:=(hlp.no _ l (by omega) (zf h12 hr hb') hl).1
    split
    ·refine ⟨by simp only [List.length_append,List.length_singleton];rw [es,ef];omega,fun _ _=> ?_,by simp only;omega⟩
     simp only [List.length_map];rw [GL];have:=QU l (allI rows.length ints.length B);omega
    ·exact ⟨by simp only;rw [es,ef];omega,fun _ h=>(by cases h),by simp only;omega⟩
   ·rename_i pt hpt
    split
    ·exact ⟨by simp only;rw [es,ef];omega,fun h=>(by cases h),by simp only;omega⟩
    ·rename_i k hk
     obtain⟨k1,_⟩:=sN hk;have:=QV (z:=jP (pt.getD k 0)) h40 ha' hb' k1 fun s B h1 h2=>⟨vE hlp h12 h40 hr d s B h1 h2,UD hlp h12 h40 hr d s B h1 h2⟩
     have h1:=this.phi;have h2:=this.fl;exact⟨by rw [es,ef]at h1;omega,this.len,by omega⟩
theorem KS {m n:Nat}{rows atoms:List Rw}{B:jo}(hm:rows.length=m)(hb:iA m n atoms B):∀k,k≤n→((dL B k).map CB.id).Nodup
 | 0,_=>by simp [dL]
 | k+1,hk=>by
  have ih:=KS hm hb k (by omega)
  have key:∀(k1:Nat) (s1:Int) (b1:CB) (k2:Nat) (s2:Int) (b2:CB),(s1=1∨s1= -1)→(s2=1∨s2= -1)→lK B (k1:Int) s1=some b1→lK B (k2:Int) s2=some b2→b1.id=b2.id→k1=k2∧s1=s2:=by
   intro k1 s1 b1 k2 s2 b2 g1 g2 h1 h2 e;obtain⟨c1,t1,z1,i1,⟨_,u1,v1,_⟩,w1,x1,y1⟩:=hb.b _ (pQ h1);obtain⟨c2,t2,z2,i2,⟨_,u2,v2,_⟩,w2,x2,y2⟩:=hb.b _ (pQ h2);simp only at v1 w1 x1 y1 v2 w2 x2 y2;have hi:i1=i2:=by omega
   subst hi;rw [y1]at y2;have:=Option.some.inj y2;rw [v1,v2]at this;obtain⟨q1,q2,_⟩:=GA u1 u2 this;have p1:=Prod.mk.inj w1;have p2:=Prod.mk.inj w2
   constructor
   ·have:=p1.1;have:=p2.1;omega
   ·have:=p1.2;have:=p2.2;omega
  have zbp:∀b∈dL B k,∃k':Nat,∃s,k'<k∧(s=1∨s= -1)∧lK B (k':Int) s=some b:=fun b h=>jh.1 h
  simp only [dL,List.map_append];rw [List.nodup_append];refine⟨?_,?_,?_⟩
  ·rw [List.nodup_append]
   refine⟨ih,by rcases lK B (k:Int) 1 with _ | b<;>simp,fun x hx y hy=> ?_⟩
   obtain⟨b1,h1,rfl⟩:=List.mem_map.1 hx;obtain⟨b2,h2,rfl⟩:=List.mem_map.1 hy;obtain⟨k',s',g1,g2,g3⟩:=zbp b1 h1;have h2:lK B (k:Int) 1=some b2:=by simpa using h2
   intro e;have:=(key k' s' b1 k 1 b2 g2 (.inl rfl) g3 h2 e).1;omega
  ·rcases lK B (k:Int) (-1)with _ | b<;>simp
  ·intro x hx y hy e
   obtain⟨b2,h2,rfl⟩:=List.mem_map.1 hy;have h2:lK B (k:Int) (-1)=some b2:=by simpa using h2
   rcases List.mem_append.1 hx with hx | hx
   ·obtain ⟨b1,h1,rfl⟩:=List.mem_map.1 hx
    obtain⟨k',s',g1,g2,g3⟩:=zbp b1 h1;have:=(key k' s' b1 k (-1) b2 g2 (.inr rfl) g3 h2 e).1;omega
   ·obtain ⟨b1,h1,rfl⟩:=List.mem_map.1 hx
    have h1:lK B (k:Int) 1=some b1:=by simpa using h1
    have:=(key k 1 b1 k (-1) b2 (.inl rfl) (.inr rfl) h1 h2 e).2;omega
theorem Xl {n:Nat}{rows atoms:List Rw}{B:jo}(hb:iA rows.length n atoms B):(allI rows.length n B).Nodup:=by
 unfold allI;rw [List.nodup_append];refine⟨?_,KS (rows:=rows) rfl hb n (Nat.le_refl _),fun x hx y hy=> ?_⟩
 ·rw [List.nodup_iff_pairwise_ne,List.pairwise_map]
  have:=List.nodup_iff_pairwise_ne.1 (List.nodup_range (n:=rows.length));exact this.imp fun h e=>h (by omega)
 ·obtain ⟨i,hi,rfl⟩:=List.mem_map.1 hx
  obtain⟨b,h1,rfl⟩:=List.mem_map.1 hy;obtain⟨_,_,_,j,_,_,e,_⟩:=vV hb h1;have:=List.mem_range.1 hi;omega
theorem UE {times:List Rat}{ids:List Int}(h:ids.Nodup):((dB times ids).map (·.1)).Nodup:=by
 unfold dB;rw [List.map_map,List.nodup_iff_pairwise_ne,List.pairwise_map];refine List.Pairwise.filter _ ?_;rw [List.pairwise_iff_getElem];intro i j hi hj hij;have hi':i<ids.length:=by rw [List.length_zip]at hi;omega
 have hj':j<ids.length:=by rw [List.length_zip]at hj;omega
 have:=List.pairwise_iff_getElem.1 (List.nodup_iff_pairwise_ne.1 h) i j hi' hj' hij;simp only [Function.comp_apply,List.getElem_zip];omega
theorem KU {n:Nat}{rows atoms:List Rw}{B:jo}(h40:rows.length≤40)(ha:jV rows.length n atoms)(hb:iA rows.length n atoms B):∀i∈allI rows.length n B,0≤i∧i≤1000:=fun x hx=>by
 unfold allI at hx
 rcases List.mem_append.1 hx with hx | hx
 ·obtain ⟨i,hi,rfl⟩:=List.mem_map.1 hx
  have:=List.mem_range.1 hi;omega
 ·obtain ⟨b,h1,rfl⟩:=List.mem_map.1 hx
  obtain⟨_,_,_,j,_,_,e,h4⟩:=vV hb h1;have:=(List.getElem?_eq_some_iff.1 h4).1;have:=ha.cap;omega
theorem UF {n:Nat}{times:List Rat}{ids:List Int}(h1:times.length=n)(h2:ids.length=n)(h:∃p,p<n∧times.getD p 0≠0):dB times ids≠ []:=by
 obtain⟨p,hp,hne⟩:=h;rw [eG,iw (by omega)]at hne
 have:(-ids[p]'(by omega),dQ (times[p]'(by omega)))∈dB times ids:=xM.2 ⟨p,by omega,by omega,hne,rfl⟩
 intro e;rw [e]at this
 cases this
end Go.Proofs.YtaiffmebphhdaaaGreat
