/- Package cut, plain: the search by branching. Package cut, plain: what is told is so. Package cut, plain: of small bounded rows it is always told. Package cut: the tableau tells what the search wants of it. Package cut, plain: how much the search lays. -/
import Derived.Test.YtaiffmebphhdaaaGreatOwGG
import Derived.Test.YtaiffmebphhdaaaGreatTbS
import Derived.Test.YtaiffmebphhdaaaGreatSpEE
namespace Go.Proofs.YtaiffmebphhdaaaGreat
set_option linter.unusedSimpArgs false
set_option linter.unusedVariables false
open Go.ChangeShapes Go.WideShapes Go.RowKit
structure CB where
 row:Rw
 id:Int
abbrev jZ:=List ((Int × Int) × CB)
def oH (B:jZ)(k s:Int):Option CB:=(B.find? fun x=>decide (x.1=(k,s))).map (·.2)
def fK (B:jZ)(k s:Int)(b:CB):jZ:=((k,s),b)::B.filter fun x=>decide (x.1≠(k,s))
def dI (B:jZ):Nat→List CB
 | 0=> []
 | k+1=>dI B k++(oH B (k:Nat) 1).toList++(oH B (k:Nat) (-1)).toList
structure eG where
 kind:Int
 lits:List Int
 nums:List Fq
 row:Rw
structure jh where
 fuel:Nat
 atoms:List Rw
 steps:List eG
 point:List Fq
 much:Bool
structure mI where
 st:Int
 c:List Int
 s:jh
inductive LP where
 | hungry
 | no (l:List Rat)
 | yes (pt:List Rat)
def aK (k:Nat)(sign tt:Int):Rw:=⟨List.replicate k 0++ [sign],1,tt⟩
def qX (atoms:List Rw)(r:Rw):Option Nat:=atoms.findIdx? fun x=>decide (x.to=r.to)&&decide (x.of=r.of)
def eO (m:Nat)(s:jh)(r:Rw):Int × jh:=
 match qX s.atoms r with
 | some i=>(((m+i+1:Nat):Int),s)
 | none=>(((m+s.atoms.length+1:Nat):Int),{s with atoms:=s.atoms++ [r],steps:=s.steps++ [⟨5,[],[],r⟩]})
def Cy (x:Int × Fq):List (Int × Fq)→List (Int × Fq)
 | []=> [x]
 | y::l=>if x.1<y.1 then y::Cy x l else x::y::l
def cO:List (Int × Fq)→List (Int × Fq)
 | []=> []
 | x::l=>Cy x (cO l)
def CZ (x:Int):List Int→List Int
 | []=> [x]
 | y::l=>if x<y then y::CZ x l else x::y::l
def gL:List Int→List Int
 | []=> []
 | x::l=>CZ x (gL l)
def bH (times:List Rat)(ids:List Int):List (Int × Fq):=((times.zip ids).filter fun p=>decide (p.1≠0)).map fun p=>(-p.2,cZ p.1)
def qI (ints:List Bool)(pt:List Rat):Option Nat:=(List.range ints.length).find? fun i=>ints.getD i false&& !decide ((pt.getD i 0).den=1)
def jT (q:Rat):Int:=q.num/(q.den:Int)
def ku (a b:Int):List Int→List Int→List Int
 | [],o=>o
 | l::r,o=>ku a b r (if l≠ -a∧l≠ -b∧l∉o then o++ [l]else o)
def wU:Rw:=⟨[],0,0⟩
def gI (m:Nat)(rc:jh→jZ→mI)(s:jh)(B:jZ)(k:Nat)(z:Int):mI:=
 if z< -1000000∨1000000≤z∨3000<s.steps.length+8∨120<m+s.atoms.length+2 then⟨2,[],{s with much:=true}⟩else
 let a:=eO m s (aK k 1 z)
 let b:=eO m a.2 (aK k (-1) (-z-1))
 let s3:= {b.2 with steps:=b.2.steps++ [⟨6,[min a.1 b.1,max a.1 b.1],[],wU⟩]}
 let r:=rc s3 (fK B (k:Nat) 1 ⟨aK k 1 z,a.1⟩)
 if r.st≠2∨r.s.much=true∨ -a.1∉r.c then r else
 let t:=rc r.s (fK B (k:Nat) (-1) ⟨aK k (-1) (-z-1),b.1⟩)
 if t.st≠2∨t.s.much=true∨ -b.1∉t.c then t else
 let out:=gL (ku a.1 b.1 (r.c++t.c) [])
 ⟨2,out,{t.s with steps:=t.s.steps++ [⟨1,out,[],wU⟩]}⟩
def jo (rows:List Rw)(n:Nat)(B:jZ):List Rw:=rows++(dI B n).map CB.row
def allI (m:Nat)(n:Nat)(B:jZ):List Int:=((List.range m).map fun i=>((i+1:Nat):Int))++(dI B n).map CB.id
def rQ (lp:List Rw→LP)(rows:List Rw)(ints:List Bool)(rc:jh→jZ→mI)(s:jh)(B:jZ):mI:=
 match lp (jo rows ints.length B)with
 | .hungry=>⟨3,[],s⟩
 | .no l=>
  if allFit l l.length=true then
   ⟨2,(cO (bH l (allI rows.length ints.length B))).map (·.1),{s with steps:=s.steps++ [⟨4,(cO (bH l (allI rows.length ints.length B))).map (·.1),(cO (bH l (allI rows.length ints.length B))).map (·.2),wU⟩]}⟩
  else⟨2,[],{s with much:=true}⟩
 | .yes pt=>
  match qI ints pt with
  | none=>⟨1,[],{s with point:=pt.map cZ,much:=s.much || !allFit pt pt.length}⟩
  | some k=>gI rows.length rc s B k (jT (pt.getD k 0))
def uL (lp:List Rw→LP)(rows:List Rw)(ints:List Bool):Nat→jh→jZ→mI
 | 0,s,_=>⟨3,[],s⟩
 | d+1,s,B=>if s.fuel=0 then⟨3,[],s⟩else rQ lp rows ints (uL lp rows ints d) {s with fuel:=s.fuel-1} B
def rowAt (rows atoms:List Rw)(id:Int):Rw:=(rows++atoms).getD (id.toNat-1) bG
def Mix (ints:List Bool)(x:Nat→Rat):Prop:=∀k,k<ints.length→ints.getD k false=true→∃z:Int,x k=(z:Rat)
structure F5 (n:Nat)(lp:List Rw→LP):Prop where
 yes:∀R pt,R.length≤64→(∀r∈R,eD r (n:Int))→lp R= .yes pt→pt.length=n∧∀r∈R,wV r n fun j=>pt.getD j 0
 no:∀R l,R.length≤64→(∀r∈R,eD r (n:Int))→lp R= .no l→l.length=R.length∧(∃p,p<R.length∧l.getD p 0≠0)∧∀x:Nat→Rat,(∀p,p<R.length→l.getD p 0≠0→wV (R.getD p bG) n x)→False
def lW (n:Nat)(r:Rw)(k:Nat)(sg z:Int):Prop:=k<n∧(sg=1∨sg= -1)∧r=aK k sg z∧bZ z
structure kC (m n:Nat)(atoms:List Rw):Prop where
 lim:∀r∈atoms,∃k sg z,lW n r k sg z
 nd:atoms.Nodup
 cap:m+atoms.length≤120
structure gZ (m n:Nat)(atoms:List Rw)(B:jZ):Prop where
 b:∀x∈B,∃k sg z,∃i:Nat,lW n x.2.row k sg z∧x.1=((k:Int),sg)∧x.2.id=((m+i+1:Nat):Int)∧atoms[i]? =some x.2.row
theorem gZ.more {m n:Nat}{atoms t:List Rw}{B:jZ}(h:gZ m n atoms B):gZ m n (atoms++t) B:=⟨fun x hx=>by
 obtain⟨k,sg,z,i,h1,h2,h3,h4⟩:=h.b x hx;refine⟨k,sg,z,i,h1,h2,h3,?_⟩;rw [List.getElem?_append_left (List.getElem?_eq_some_iff.1 h4).1];exact h4⟩
theorem vO {B:jZ}{k s:Int}{b:CB}(h:oH B k s=some b):((k,s),b)∈B:=by
 unfold oH at h;rcases hf:B.find? (fun x=>decide (x.1=(k,s)))with _ | x
 ·rw [hf]at h;cases h
 rw [hf]at h;have h1:=List.find?_some hf;have h2:=List.mem_of_find?_eq_some hf;have h3:x.1=(k,s):=of_decide_eq_true h1;have h4:x.2=b:=by simpa using h
 rw [← h3,←h4];exact h2
theorem GL {B:jZ}{k s k' s':Int}{b:CB}:oH (fK B k s b) k' s'=if(k,s)=(k',s')then some b else oH B k' s':=by
 unfold oH fK;by_cases h:(k,s)=(k',s')
 ·rw [if_pos h,List.find?_cons_of_pos (by simpa using h)];rfl
 rw [if_neg h,List.find?_cons_of_neg (by simpa using h),List.find?_filter];congr 2;funext x;by_cases h1:x.1=(k',s')
 ·have:x.1≠(k,s):=fun e=>h (e.symm.trans h1);simp [h1,Ne.symm h]
 simp [h1]
theorem oV {B:jZ}{b:CB}:∀ {n:Nat},b∈dI B n↔∃k:Nat,∃s:Int,k<n∧(s=1∨s= -1)∧oH B (k:Int) s=some b
 | 0=>by simp [dI]
 | n+1=>by
  simp only [dI,List.mem_append,Option.mem_toList];rw [oV (n:=n)];constructor
  ·rintro ((⟨k,s,h1,h2,h3⟩ | h) | h)
   ·exact ⟨k,s,om,h2,h3⟩
   ·exact ⟨n,1,om,.inl rfl,by simpa using h⟩
   exact⟨n,-1,om,.inr rfl,by simpa using h⟩
  rintro⟨k,s,h1,h2,h3⟩;by_cases hk:k<n
  ·exact .inl (.inl ⟨k,s,hk,h2,h3⟩)
  obtain rfl:k=n:=om;rcases h2 with rfl | rfl
  ·exact .inl (.inr (by simpa using h3))
  exact .inr (by simpa using h3)
theorem kJ {B:jZ}:∀n,(dI B n).length≤2*n
 | 0=>by simp [dI]
 | n+1=>by
  have:=kJ (B:=B) n;have h:∀o:Option CB,o.toList.length≤1:=fun o=>by cases o<;>simp
  have h1:=h (oH B (n:Int) 1);have h2:=h (oH B (n:Int) (-1));simp only [dI,List.length_append];omega
theorem KM {n k:Nat}{sg z:Int}{r:Rw}(h12:n≤12)(h:lW n r k sg z):eD r (n:Int):=by
 obtain⟨h1,h2,rfl,h4⟩:=h;refine⟨om,om,.inl rfl,?_,fun x hx=> ?_,h4⟩
 ·simp [aK];omega
 unfold aK at hx;rcases List.mem_append.1 hx with hx | hx
 ·rw [List.eq_of_mem_replicate hx];unfold bZ;omega
 rw [List.mem_singleton.1 hx];unfold bZ;rcases h2 with rfl | rfl<;>omega
theorem R6 {n k:Nat}{sg z:Int}(hk:k<n)(x:Nat→Rat):(sQ n fun j=>((aK k sg z).of.getD j 0:Rat)*x j)=(sg:Rat)*x k:=by
 have e:∀j,(aK k sg z).of.getD j 0=if j=k then sg else 0:=fun j=>by
  unfold aK;rw [dX];by_cases h:j<k
  ·rw [List.getElem?_append_left (by simpa using h),if_neg om,List.getElem?_replicate,if_pos h];rfl
  rw [List.getElem?_append_right (by simpa using h)];by_cases h2:j=k
  ·subst h2;simp
  rw [if_neg h2,List.getElem?_eq_none (by simp;omega)];rfl
 have go:∀N,(sQ N fun j=>((aK k sg z).of.getD j 0:Rat)*x j)=if k<N then(sg:Rat)*x k else 0:=fun N=>by
  induction N with
  | zero=>rw [if_neg om];rfl
  | succ N ih=>
   simp only [sQ];rw [ih,e N];by_cases h:N=k
   ·subst h;rw [if_neg om,if_pos rfl,if_pos om];grind
   rw [if_neg h,show((0:Int):Rat)=0 from rfl];by_cases h2:k<N
   ·rw [if_pos h2,if_pos om];grind
   rw [if_neg h2,if_neg om];grind
 rw [go n,if_pos hk]
theorem rR {n k:Nat}{sg z:Int}(hk:k<n)(x:Nat→Rat):wV (aK k sg z) n x↔(sg:Rat)*x k≤(z:Rat):=by
 unfold wV;rw [R6 hk x];simp [aK]
theorem AJ {k k':Nat}{sg sg' z z':Int}(hs:sg=1∨sg= -1)(hs':sg'=1∨sg'= -1)(h:aK k sg z=aK k' sg' z'):k=k'∧sg=sg'∧z=z':=by
 unfold aK at h;injection h with h1 _ h2;have hl:=congrArg List.length h1;simp at hl;subst hl;have:=List.append_cancel_left h1;exact⟨rfl,by simpa using this,h2⟩
structure KO (rows:List Rw)(ints:List Bool)(s:jh)(B:jZ)(r:mI):Prop where
 more:∃t,r.s.atoms=s.atoms++t
 ok:kC rows.length ints.length r.s.atoms
 st:r.st=1∨r.st=2∨r.st=3
 yes:r.st=1→r.s.much=false→∃pt:List Rat,pt.length=ints.length∧qI ints pt=none∧(∀r∈rows,wV r ints.length fun j=>pt.getD j 0)∧r.s.point=pt.map cZ∧allFit pt pt.length=true
 ids:r.st=2→r.s.much=false→∀l∈r.c,∃id:Nat,l= -(id:Int)∧1≤id∧(id≤rows.length∨∃b∈dI B ints.length,b.id=(id:Int))
 no:r.st=2→r.s.much=false→∀x,Mix ints x→(∀l∈r.c,wV (rowAt rows r.s.atoms (-l)) ints.length x)→False
 stp:r.st=2→r.s.much=false→r.s.steps≠ []
theorem KP {x y:Int × Fq}:∀ {l:List (Int × Fq)},y∈Cy x l↔y=x∨y∈l
 | []=>by simp [Cy]
 | z::l=>by
  unfold Cy;split
  ·rw [List.mem_cons,KP,List.mem_cons];constructor<;>rintro(h | h | h)<;>simp [h]
  rw [List.mem_cons]
theorem rT {y:Int × Fq}:∀ {l:List (Int × Fq)},y∈cO l↔y∈l
 | []=>by simp [cO]
 | x::l=>by unfold cO;rw [KP,rT,List.mem_cons]
theorem KS {x y:Int}:∀ {l:List Int},y∈CZ x l↔y=x∨y∈l
 | []=>by simp [CZ]
 | z::l=>by
  unfold CZ;split
  ·rw [List.mem_cons,KS,List.mem_cons];constructor<;>rintro(h | h | h)<;>simp [h]
  rw [List.mem_cons]
theorem wH {y:Int}:∀ {l:List Int},y∈gL l↔y∈l
 | []=>by simp [gL]
 | x::l=>by unfold gL;rw [KS,wH,List.mem_cons]
theorem zi {a b y:Int}:∀ {l o:List Int},y∈ku a b l o↔y∈o∨(y∈l∧y≠ -a∧y≠ -b)
 | [],o=>by simp [ku]
 | x::l,o=>by
  unfold ku;rw [zi];by_cases h:x≠ -a∧x≠ -b∧x∉o
  ·rw [if_pos h,List.mem_append,List.mem_singleton,List.mem_cons];constructor
   ·rintro ((h1 | rfl) | ⟨h1,h2⟩)
    ·exact .inl h1
    ·exact .inr ⟨.inl rfl,h.1,h.2.1⟩
    exact .inr ⟨.inr h1,h2⟩
   rintro(h1 | ⟨rfl | h1,h2⟩)
   ·exact .inl (.inl h1)
   ·exact .inl (.inr rfl)
   exact .inr ⟨h1,h2⟩
  rw [if_neg h,List.mem_cons];constructor
  ·rintro (h1 | ⟨h1,h2⟩)
   ·exact .inl h1
   exact .inr ⟨.inr h1,h2⟩
  rintro(h1 | ⟨rfl | h1,h2⟩)
  ·exact .inl h1
  ·by_cases h3:y∈o
   ·exact .inl h3
   exact absurd ⟨h2.1,h2.2,h3⟩ h
  exact .inr ⟨h1,h2⟩
theorem KU {atoms:List Rw}{r:Rw}{i:Nat}(h:qX atoms r=some i):∃x,atoms[i]? =some x∧x.to=r.to∧x.of=r.of:=by
 unfold qX at h;obtain⟨hi,hp,_⟩:=List.findIdx?_eq_some_iff_getElem.1 h;rw [Bool.and_eq_true]at hp;exact⟨atoms[i],fG hi,of_decide_eq_true hp.1,of_decide_eq_true hp.2⟩
theorem La {atoms:List Rw}{r:Rw}(h:qX atoms r=none):r∉atoms:=fun hr=>by
 unfold qX at h;have:=List.findIdx?_eq_none_iff.1 h r hr;simp at this
theorem jD {m n:Nat}{s:jh}{r:Rw}{k:Nat}{sg z:Int}(hr:lW n r k sg z)(ha:kC m n s.atoms)(hc:m+s.atoms.length+1≤120):
  ∃i:Nat,(eO m s r).1=((m+i+1:Nat):Int)∧(eO m s r).2.atoms[i]? =some r∧(∃t,(eO m s r).2.atoms=s.atoms++t∧t.length≤1)∧kC m n (eO m s r).2.atoms∧(eO m s r).2.fuel=s.fuel∧(eO m s r).2.much=s.much∧(eO m s r).2.point=s.point:=by
 unfold eO;rcases h:qX s.atoms r with _ | i
 ·have hn:=La h;refine⟨s.atoms.length,rfl,sm,⟨[r],rfl,sm⟩,⟨fun x hx=> ?_,?_,?_⟩,rfl,rfl,rfl⟩
  ·rcases List.mem_append.1 hx with hx | hx
   ·exact ha.lim x hx
   rw [List.mem_singleton.1 hx];exact⟨k,sg,z,hr⟩
  ·rw [List.nodup_append];exact⟨ha.nd,sm,fun x hx y hy=>by rw [List.mem_singleton.1 hy];rintro rfl;exact hn hx⟩
  simp;omega
 obtain⟨x,h1,h2,h3⟩:=KU h;refine⟨i,rfl,?_,⟨[],sm,sm⟩,ha,rfl,rfl,rfl⟩;obtain⟨k',sg',z',g1,g2,g3,_⟩:=ha.lim x (List.mem_of_getElem? h1);have:x=r:=by
  obtain⟨_,_,hr3,_⟩:=hr;have hk:x.kind=r.kind:=by rw [g3,hr3];rfl
  cases x;cases r;simp only at h2 h3 hk;simp [h2,h3,hk]
 rw [← this];exact h1
theorem pR {times:List Rat}{ids:List Int}{x:Int × Fq}:x∈bH times ids↔∃p,∃(h1:p<times.length) (h2:p<ids.length),times[p]≠0∧x=(-ids[p],cZ times[p]):=by
 unfold bH;rw [List.mem_map];constructor
 ·rintro ⟨y,hy,rfl⟩;obtain⟨hy,h0⟩:=List.mem_filter.1 hy;obtain⟨p,hp,rfl⟩:=List.getElem_of_mem hy;rw [List.length_zip]at hp;rw [List.getElem_zip]at h0 ⊢;exact⟨p,om,om,by simpa using h0,rfl⟩
 rintro⟨p,h1,h2,h0,rfl⟩;refine⟨(times[p],ids[p]),List.mem_filter.2 ⟨?_,by simpa using h0⟩,rfl⟩;have hp:p<(times.zip ids).length:=by rw [List.length_zip];omega
 have:=List.getElem_mem hp;rwa [List.getElem_zip]at this
theorem tJ {rows atoms:List Rw}{i:Nat}{r:Rw}(h:atoms[i]? =some r):rowAt rows atoms ((rows.length+i+1:Nat):Int)=r:=by
 unfold rowAt;rw [dX,Int.toNat_natCast,Nat.add_sub_cancel,List.getElem?_append_right om,Nat.add_sub_cancel_left,h];rfl
theorem AL {rows atoms:List Rw}{p:Nat}(h:p<rows.length):rowAt rows atoms ((p+1:Nat):Int)=rows[p]:=by
 unfold rowAt;rw [dX,Int.toNat_natCast,Nat.add_sub_cancel,List.getElem?_append_left h,fG h];rfl
theorem wI {n:Nat}{rows atoms:List Rw}{B:jZ}(h12:n≤12)(hr:∀r∈rows,eD r (n:Int))(hb:gZ rows.length n atoms B):∀r∈jo rows n B,eD r (n:Int):=fun r h=>by
 unfold jo at h;rcases List.mem_append.1 h with h | h
 ·exact hr r h
 obtain⟨b,hm,rfl⟩:=List.mem_map.1 h;obtain⟨k,s,_,_,hg⟩:=oV.1 hm;obtain⟨k',sg,z,i,h1,_⟩:=hb.b _ (vO hg);exact KM h12 h1
theorem oI {n:Nat}{rows atoms:List Rw}{B:jZ}(hb:gZ rows.length n atoms B){b:CB}(hm:b∈dI B n):∃k sg z,∃i:Nat,lW n b.row k sg z∧oH B (k:Int) sg=some b∧b.id=((rows.length+i+1:Nat):Int)∧atoms[i]? =some b.row:=by
 obtain⟨k,s,h1,h2,hg⟩:=oV.1 hm;obtain⟨k',sg,z,i,h3,h4,h5,h6⟩:=hb.b _ (vO hg);have e:k=k'∧s=sg:=by
  have:=Prod.mk.inj h4;exact⟨om,this.2⟩
 obtain⟨rfl,rfl⟩:=e;exact⟨k,s,z,i,h3,hg,h5,h6⟩
theorem GQ (q:Rat):((jT q:Int):Rat)≤q:=by
 unfold jT;rw [← Rat.floor_def];exact Rat.floor_le q
theorem GR (q:Rat):q<((jT q:Int):Rat)+1:=by
 unfold jT;rw [← Rat.floor_def];have:=Rat.lt_floor_add_one q;rw [Rat.intCast_add]at this;exact this
theorem Ot {ints:List Bool}{pt:List Rat}(h:qI ints pt=none):∀i,i<ints.length→ints.getD i false=true→(pt.getD i 0).den=1:=fun i hi ht=>by
 have:=List.find?_eq_none.1 h i (List.mem_range.2 hi);rw [ht]at this;simpa using this
theorem tK {ints:List Bool}{pt:List Rat}{k:Nat}(h:qI ints pt=some k):k<ints.length∧ints.getD k false=true∧(pt.getD k 0).den≠1:=by
 have h1:=List.find?_some h;have h2:=List.mem_of_find?_eq_some h;rw [Bool.and_eq_true]at h1;exact⟨List.mem_range.1 h2,h1.1,by simpa using h1.2⟩
theorem Lb {m n p:Nat}{B:jZ}(hp:p<m):(allI m n B)[p]? =some ((p+1:Nat):Int):=by
 unfold allI;rw [List.getElem?_append_left (by simpa using hp)];simp [hp]
theorem PL {m n p:Nat}{B:jZ}(hp:m≤p):(allI m n B)[p]? =((dI B n)[p-m]?).map CB.id:=by
 unfold allI;rw [List.getElem?_append_right (by simpa using hp)];simp
theorem zaG {lp:List Rw→LP}{rows:List Rw}{ints:List Bool}{s:jh}{B:jZ}{l:List Rat}(hlp:F5 ints.length lp)(h12:ints.length≤12)(h40:rows.length≤40)(hr:∀r∈rows,eD r (ints.length:Int))(ha:kC rows.length ints.length s.atoms)(hb:gZ rows.length ints.length s.atoms B)(hl:lp (jo rows ints.length B)= .no l)(st:List eG)(hst:st≠ []):
  KO rows ints s B ⟨2,(cO (bH l (allI rows.length ints.length B))).map (·.1),{s with steps:=st}⟩:=by
 have hbl:=kJ (B:=B) ints.length;have hRl:(jo rows ints.length B).length=rows.length+(dI B ints.length).length:=by simp [jo]
 have hIl:(allI rows.length ints.length B).length=rows.length+(dI B ints.length).length:=by simp [allI]
 obtain⟨h1,-,h3⟩:=hlp.no _ l om (wI h12 hr hb) hl;have mem:∀y,y∈(cO (bH l (allI rows.length ints.length B))).map (·.1)↔∃p,∃(h1:p<l.length) (h2:p<(allI rows.length ints.length B).length),l[p]≠0∧y= -(allI rows.length ints.length B)[p]:=fun y=>by
  rw [List.mem_map];constructor
  ·rintro ⟨x,hx,rfl⟩;rw [rT,pR]at hx;obtain⟨p,g1,g2,g3,rfl⟩:=hx;exact⟨p,g1,g2,g3,rfl⟩
  rintro⟨p,g1,g2,g3,rfl⟩;exact⟨_,rT.2 (pR.2 ⟨p,g1,g2,g3,rfl⟩),rfl⟩
 have zbL:∀p (h2:p<(allI rows.length ints.length B).length),∃id:Nat,(allI rows.length ints.length B)[p]=(id:Int)∧1≤id∧(id≤rows.length∨∃b∈dI B ints.length,b.id=(id:Int))∧rowAt rows s.atoms (id:Int)=(jo rows ints.length B).getD p bG:=fun p h2=>by
  by_cases hp:p<rows.length
  ·refine ⟨p+1,?_,om,.inl om,?_⟩
   ·exact (List.getElem?_eq_some_iff.1 (Lb hp)).2
   rw [AL hp];unfold jo;rw [dX,List.getElem?_append_left hp,fG hp];rfl
  have hq:p-rows.length<(dI B ints.length).length:=om;obtain⟨k,sg,z,i,g1,g2,g3,g4⟩:=oI hb (List.getElem_mem hq);refine⟨rows.length+i+1,?_,om,.inr ⟨_,List.getElem_mem hq,g3⟩,?_⟩
  ·rw [← g3];exact(List.getElem?_eq_some_iff.1 ((PL om).trans (by rw [fG hq];rfl))).2
  rw [tJ g4];unfold jo;rw [dX,List.getElem?_append_right om,List.getElem?_map,fG hq];rfl
 refine⟨⟨[],sm⟩,ha,.inr (.inl rfl),fun h=>(by cases h),fun _ _ y hy=> ?_,fun _ _ x _ hx=> ?_,fun _ _=>hst⟩
 ·obtain ⟨p,g1,g2,_,rfl⟩:=(mem y).1 hy;obtain⟨id,e,e1,e2,_⟩:=zbL p g2;exact⟨id,by rw [e],e1,e2⟩
 refine h3 x fun p hp h0=> ?_;have g1:p<l.length:=om;have g2:p<(allI rows.length ints.length B).length:=om;obtain⟨id,e,e1,_,e3⟩:=zbL p g2;rw [← e3];have h0':l[p]≠0:=by rwa [dX,fG g1]at h0
 have:=hx (-(allI rows.length ints.length B)[p]) ((mem _).2 ⟨p,g1,g2,h0',rfl⟩);rwa [Int.neg_neg,e]at this
theorem mZ {m n:Nat}{atoms t:List Rw}{B:jZ}{k:Nat}{sg z:Int}{r:Rw}{i:Nat}(hb:gZ m n atoms B)(hr:lW n r k sg z)(hi:(atoms++t)[i]? =some r):gZ m n (atoms++t) (fK B (k:Int) sg ⟨r,((m+i+1:Nat):Int)⟩):=⟨fun x hx=>by
 unfold fK at hx;rcases List.mem_cons.1 hx with rfl | hx
 ·exact ⟨k,sg,z,i,hr,rfl,rfl,hi⟩
 exact(hb.more (t:=t)).b x (List.mem_filter.1 hx).1⟩
theorem ni {n:Nat}{B:jZ}{k:Nat}{sg:Int}{b0:CB}{id:Int}(h:∃b∈dI (fK B (k:Int) sg b0) n,b.id=id):id=b0.id∨∃b∈dI B n,b.id=id:=by
 obtain⟨b,hb,rfl⟩:=h;obtain⟨k',s',h1,h2,hg⟩:=oV.1 hb;rw [GL]at hg;split at hg
 ·left;cases hg;rfl
 exact .inr ⟨b,oV.2 ⟨k',s',h1,h2,hg⟩,rfl⟩
theorem Ou {rows atoms t:List Rw}{id:Nat}(h:id≤rows.length+atoms.length)(h1:1≤id):rowAt rows (atoms++t) (id:Int)=rowAt rows atoms (id:Int):=by
 unfold rowAt;rw [← List.append_assoc,dX,dX,Int.toNat_natCast,List.getElem?_append_left (by rw [List.length_append];omega)]
theorem KO.lift {rows:List Rw}{ints:List Bool}{s s':jh}{B B':jZ}{r:mI}(h:KO rows ints s' B' r)(hm:∃t,s'.atoms=s.atoms++t)(hi:r.st=2→r.s.much=false→∀l∈r.c,∀id:Nat,l= -(id:Int)→(∃b∈dI B' ints.length,b.id=(id:Int))→∃b∈dI B ints.length,b.id=(id:Int)):KO rows ints s B r:=by
 obtain⟨t,ht⟩:=hm;obtain⟨t',ht'⟩:=h.more;refine⟨⟨t++t',by rw [ht',ht,List.append_assoc]⟩,h.ok,h.st,h.yes,fun h2 hm l hl=> ?_,h.no,h.stp⟩;obtain⟨id,e,h1,h3⟩:=h.ids h2 hm l hl;refine⟨id,e,h1,?_⟩;rcases h3 with h3 | h3
 ·exact .inl h3
 exact .inr (hi h2 hm l hl id e h3)
theorem EI {rows:List Rw}{ints:List Bool}{rc:jh→jZ→mI}{s:jh}{B:jZ}{k:Nat}{pt:List Rat}(ha:kC rows.length ints.length s.atoms)(hb:gZ rows.length ints.length s.atoms B)
  (hk:k<ints.length) (hki:ints.getD k false=true) (hkw:(pt.getD k 0).den≠1) (hpt:∀r∈jo rows ints.length B,wV r ints.length fun j=>pt.getD j 0)
  (hrc:∀s B,kC rows.length ints.length s.atoms→gZ rows.length ints.length s.atoms B→KO rows ints s B (rc s B)):
  KO rows ints s B (gI rows.length rc s B k (jT (pt.getD k 0))):=by
 have hf1:=GQ (pt.getD k 0);have hf2:=GR (pt.getD k 0);have zaH:pt.getD k 0≠((jT (pt.getD k 0):Int):Rat):=fun e=>hkw (by rw [e];exact Rat.den_intCast _);generalize hz:jT (pt.getD k 0)=z at *;unfold gI;split
 ·exact ⟨⟨[],sm⟩,ha,.inr (.inl rfl),fun h=>(by cases h),fun _ h=>(by cases h),fun _ h=>(by cases h),fun _ h=>(by cases h)⟩
 rename_i hbad;have hz1:bZ z:=by unfold bZ;omega
 have hz2:bZ (-z-1):=by unfold bZ;omega
 have hcap:rows.length+s.atoms.length+2≤120:=om;clear hbad;have hlo:lW ints.length (aK k 1 z) k 1 z:=⟨hk,.inl rfl,rfl,hz1⟩;have hhi:lW ints.length (aK k (-1) (-z-1)) k (-1) (-z-1):=⟨hk,.inr rfl,rfl,hz2⟩;obtain⟨i,a1,a2,⟨ta,a3,a3'⟩,a4,_⟩:=jD hlo ha om;obtain⟨j,b1,b2,⟨tb,b3,b3'⟩,b4,_⟩:=jD hhi a4 (by rw [a3,List.length_append];omega);simp only;generalize hA:eO rows.length s (aK k 1 z)=A at *;generalize hC:eO rows.length A.2 (aK k (-1) (-z-1))=C at *;rw [a1,b1];obtain⟨s3,hs3⟩:∃s3:jh,s3= {C.2 with steps:=C.2.steps++ [(⟨6,[min ((rows.length+i+1:Nat):Int) ((rows.length+j+1:Nat):Int),max ((rows.length+i+1:Nat):Int) ((rows.length+j+1:Nat):Int)],[],wU⟩:eG)]}:=⟨_,rfl⟩;have yj:s3.atoms=C.2.atoms:=by rw [hs3]
 rw [← hs3];have hm3:s3.atoms=s.atoms++(ta++tb):=by rw [yj,b3,a3,List.append_assoc]
 have hok3:kC rows.length ints.length s3.atoms:=by rw [yj];exact b4
 have ha3:s3.atoms[i]? =some (aK k 1 z):=by
  rw [yj,b3,List.getElem?_append_left (List.getElem?_eq_some_iff.1 a2).1];exact a2
 have hb3:s3.atoms[j]? =some (aK k (-1) (-z-1)):=by rw [yj];exact b2
 have hB1:gZ rows.length ints.length s3.atoms (fK B (k:Int) 1 ⟨aK k 1 z,((rows.length+i+1:Nat):Int)⟩):=by
  rw [hm3]at ha3 ⊢;exact mZ hb hlo ha3
 have hr:=hrc _ _ hok3 hB1;generalize hR:rc s3 (fK B (k:Int) 1 ⟨aK k 1 z,((rows.length+i+1:Nat):Int)⟩)=r at*;split
 ·rename_i hx;refine hr.lift ⟨_,hm3⟩ fun h2 hm l hl id e hbb=> ?_;rcases ni hbb with h | h
  ·exfalso;have hc: -((rows.length+i+1:Nat):Int)∉r.c:=by
    rcases hx with hx | hx | hx
    ·exact absurd h2 hx
    ·rw [hm]at hx;cases hx
    exact hx
   apply hc;have h:(id:Int)=((rows.length+i+1:Nat):Int):=h;rw [← h,←e];exact hl
  exact h
 rename_i hx;have hr2:r.st=2:=Classical.byContradiction fun h=>hx (.inl h);have hrm:r.s.much=false:=by
  cases h:r.s.much
  ·rfl
  exact absurd (.inr (.inl h)) hx
 obtain⟨t4,h4⟩:=hr.more;have hB2:gZ rows.length ints.length r.s.atoms (fK B (k:Int) (-1) ⟨aK k (-1) (-z-1),((rows.length+j+1:Nat):Int)⟩):=by
  have e:r.s.atoms=s.atoms++((ta++tb)++t4):=by rw [h4,hm3,List.append_assoc]
  have hb4:r.s.atoms[j]? =some (aK k (-1) (-z-1)):=by
   rw [h4,List.getElem?_append_left (List.getElem?_eq_some_iff.1 hb3).1];exact hb3
  rw [e]at hb4 ⊢;exact mZ hb hhi hb4
 have ht:=hrc _ _ hr.ok hB2;generalize hT:rc r.s (fK B (k:Int) (-1) ⟨aK k (-1) (-z-1),((rows.length+j+1:Nat):Int)⟩)=t at *;have hrs:∃q,r.s.atoms=s.atoms++q:=⟨(ta++tb)++t4,by rw [h4,hm3,List.append_assoc]⟩;split
 ·rename_i hy;refine ht.lift hrs fun h2 hm l hl id e hbb=> ?_;rcases ni hbb with h | h
  ·exfalso;have hc: -((rows.length+j+1:Nat):Int)∉t.c:=by
    rcases hy with hy | hy | hy
    ·exact absurd h2 hy
    ·rw [hm]at hy;cases hy
    exact hy
   apply hc;have h:(id:Int)=((rows.length+j+1:Nat):Int):=h;rw [← h,←e];exact hl
  exact h
 rename_i hy;have ht2:t.st=2:=Classical.byContradiction fun h=>hy (.inl h);have XP:t.s.much=false:=by
  cases h:t.s.much
  ·rfl
  exact absurd (.inr (.inl h)) hy
 obtain⟨t5,h5⟩:=ht.more;obtain⟨q,hq⟩:=hrs;have inB:∀b∈dI B ints.length,b.row∈jo rows ints.length B:=fun b hb'=>by
  unfold jo;exact List.mem_append.2 (.inr (List.mem_map.2 ⟨b,hb',rfl⟩))
 have Lc:∀b∈dI B ints.length,∀p:Nat,∀row,t.s.atoms[p]? =some row→b.id=((rows.length+p+1:Nat):Int)→b.row=row:=fun b hb' p row hp hid=>by
  obtain⟨k',sg,z',i',g1,g2,g3,g4⟩:=oI hb hb';have:i'=p:=by rw [g3]at hid;omega
  subst this;have g5:t.s.atoms[i']? =some b.row:=by rw [h5,hq,List.append_assoc,List.getElem?_append_left (List.getElem?_eq_some_iff.1 g4).1];exact g4
  rw [g5]at hp;exact(Option.some.inj hp)
 have hat:t.s.atoms[i]? =some (aK k 1 z):=by
  rw [h5,h4,List.append_assoc,List.getElem?_append_left (List.getElem?_eq_some_iff.1 ha3).1];exact ha3
 have hbt:t.s.atoms[j]? =some (aK k (-1) (-z-1)):=by
  rw [h5,h4,List.append_assoc,List.getElem?_append_left (List.getElem?_eq_some_iff.1 hb3).1];exact hb3
 have zaI:∀b∈dI B ints.length,b.row≠aK k 1 z:=fun b hb' e=>by
  have:=hpt _ (inB b hb');rw [e,rR hk]at this;have:pt.getD k 0≤(z:Rat):=by
   have e1:((1:Int):Rat)=1:=rfl;rw [e1]at this;grind
  exact zaH (Rat.le_antisymm this hf1)
 have zaJ:∀b∈dI B ints.length,b.row≠aK k (-1) (-z-1):=fun b hb' e=>by
  have:=hpt _ (inB b hb');rw [e,rR hk]at this;have e1:((-1:Int):Rat)= -1:=rfl;have e2:((-z-1:Int):Rat)= -(z:Rat)-1:=by rw [Rat.intCast_sub,Rat.intCast_neg];rfl
  rw [e1,e2]at this;grind
 have mem:∀l,l∈gL (ku ((rows.length+i+1:Nat):Int) ((rows.length+j+1:Nat):Int) (r.c++t.c) [])↔(l∈r.c∨l∈t.c)∧l≠ -((rows.length+i+1:Nat):Int)∧l≠ -((rows.length+j+1:Nat):Int):=fun l=>by
  rw [wH,zi,List.mem_append];simp
 have hij:i≠j:=fun e=>by
  subst e;rw [hat]at hbt;have:=(AJ (.inl rfl) (.inr rfl) (Option.some.inj hbt)).2.1;omega
 have zaK: -((rows.length+j+1:Nat):Int)∉r.c:=fun hm=>by
  obtain⟨id,e,_,h3⟩:=hr.ids hr2 hrm _ hm;have e:id=rows.length+j+1:=om;subst e;rcases h3 with h3 | h3
  ·omega
  rcases ni h3 with h | ⟨b,hb',h⟩
  ·have h:((rows.length+j+1:Nat):Int)=((rows.length+i+1:Nat):Int):=h;omega
  exact zaJ b hb' (Lc b hb' j _ hbt h)
 have zaL: -((rows.length+i+1:Nat):Int)∉t.c:=fun hm=>by
  obtain⟨id,e,_,h3⟩:=ht.ids ht2 XP _ hm;have e:id=rows.length+i+1:=om;subst e;rcases h3 with h3 | h3
  ·omega
  rcases ni h3 with h | ⟨b,hb',h⟩
  ·have h:((rows.length+i+1:Nat):Int)=((rows.length+j+1:Nat):Int):=h;omega
  exact zaI b hb' (Lc b hb' i _ hat h)
 have valid:∀(C:jZ) (w:mI) (s':jh),KO rows ints s' C w→gZ rows.length ints.length w.s.atoms C→w.st=2→w.s.much=false→∀l∈w.c,∃id:Nat,l= -(id:Int)∧1≤id∧id≤rows.length+w.s.atoms.length:=fun C w s' hw hC h2 hm l hl=>by
  obtain⟨id,e,h1,h3⟩:=hw.ids h2 hm l hl;refine⟨id,e,h1,?_⟩;rcases h3 with h3 | ⟨b,hb',h3⟩
  ·omega
  obtain⟨_,_,_,i',_,_,g3,g4⟩:=oI hC hb';have:=(List.getElem?_eq_some_iff.1 g4).1;omega
 refine⟨⟨q++t5,by rw [h5,hq,List.append_assoc]⟩,ht.ok,.inr (.inl rfl),fun h=>(by cases h),fun _ _ l hl=> ?_,fun _ _ x hM hall=> ?_,fun _ _=>sm⟩
 ·obtain ⟨hl1,hl2,hl3⟩:=(mem l).1 hl;rcases hl1 with hl1 | hl1
  ·obtain ⟨id,e,h1,h3⟩:=hr.ids hr2 hrm l hl1;refine⟨id,e,h1,?_⟩;rcases h3 with h3 | h3
   ·exact .inl h3
   rcases ni h3 with h | h
   ·have h:(id:Int)=((rows.length+i+1:Nat):Int):=h;exact absurd (by rw [e,h]) hl2
   exact .inr h
  obtain⟨id,e,h1,h3⟩:=ht.ids ht2 XP l hl1;refine⟨id,e,h1,?_⟩;rcases h3 with h3 | h3
  ·exact .inl h3
  rcases ni h3 with h | h
  ·have h:(id:Int)=((rows.length+j+1:Nat):Int):=h;exact absurd (by rw [e,h]) hl3
  exact .inr h
 have hall:∀l,(l∈r.c∨l∈t.c)→l≠ -((rows.length+i+1:Nat):Int)→l≠ -((rows.length+j+1:Nat):Int)→wV (rowAt rows t.s.atoms (-l)) ints.length x:=fun l h1 h2 h3=>hall l ((mem l).2 ⟨h1,h2,h3⟩);obtain⟨y,hy⟩:=hM k hk hki;by_cases hyz:y≤z
 ·refine hr.no hr2 hrm x hM fun l hl=> ?_;obtain⟨id,e,h1,h3⟩:=valid _ r s3 hr (by rw [h4];exact hB1.more) hr2 hrm l hl;have er:rowAt rows t.s.atoms (-l)=rowAt rows r.s.atoms (-l):=by
   rw [e,Int.neg_neg,h5,Ou h3 h1]
  rw [← er];by_cases e1:l= -((rows.length+i+1:Nat):Int)
  ·rw [e1,Int.neg_neg,tJ hat,rR hk,hy];have:(y:Rat)≤(z:Rat):=Rat.intCast_le_intCast.2 hyz;have e1:((1:Int):Rat)=1:=rfl;rw [e1];grind
  exact hall l (.inl hl) e1 fun e2=>zaK (by rw [← e2];exact hl)
 refine ht.no ht2 XP x hM fun l hl=> ?_;by_cases e1:l= -((rows.length+j+1:Nat):Int)
 ·rw [e1,Int.neg_neg,tJ hbt,rR hk,hy];have:((z+1:Int):Rat)≤(y:Rat):=Rat.intCast_le_intCast.2 om;rw [Rat.intCast_add]at this;have e1:((-1:Int):Rat)= -1:=rfl;have e2:((-z-1:Int):Rat)= -(z:Rat)-1:=by rw [Rat.intCast_sub,Rat.intCast_neg];rfl
  have e3:((1:Int):Rat)=1:=rfl;rw [e1,e2];grind
 exact hall l (.inr hl) (fun e2=>zaL (by rw [← e2];exact hl)) e1
theorem tL {lp:List Rw→LP}{rows:List Rw}{ints:List Bool}(hlp:F5 ints.length lp)(h12:ints.length≤12)(h40:rows.length≤40)(hr:∀r∈rows,eD r (ints.length:Int)):∀d s B,kC rows.length ints.length s.atoms→gZ rows.length ints.length s.atoms B→KO rows ints s B (uL lp rows ints d s B)
 | 0,s,B,ha,hb=>⟨⟨[],by simp [uL]⟩,ha,.inr (.inr rfl),fun h=>(by cases h),fun h=>(by cases h),fun h=>(by cases h),fun h=>(by cases h)⟩
 | d+1,s,B,ha,hb=>by
  unfold uL;split
  ·exact ⟨⟨[],sm⟩,ha,.inr (.inr rfl),fun h=>(by cases h),fun h=>(by cases h),fun h=>(by cases h),fun h=>(by cases h)⟩
  obtain⟨s',hs'⟩:∃s':jh,s'= {s with fuel:=s.fuel-1}:=⟨_,rfl⟩;have ea:s'.atoms=s.atoms:=by rw [hs']
  rw [← hs'];have ha':kC rows.length ints.length s'.atoms:=by rw [ea];exact ha
  have hb':gZ rows.length ints.length s'.atoms B:=by rw [ea];exact hb
  refine KO.lift (s':=s') (B':=B) ?_ ⟨[],by simp [ea]⟩ fun _ _ _ _ _ _ h=>h;have hbl:=kJ (B:=B) ints.length;have hRl:(jo rows ints.length B).length=rows.length+(dI B ints.length).length:=by simp [jo]
  unfold rQ;split
  ·exact ⟨⟨[],sm⟩,ha',.inr (.inr rfl),fun h=>(by cases h),fun h=>(by cases h),fun h=>(by cases h),fun h=>(by cases h)⟩
  ·rename_i l hl;split
   ·exact zaG hlp h12 h40 hr ha' hb' hl _ sm
   exact⟨⟨[],sm⟩,ha',.inr (.inl rfl),fun h=>(by cases h),fun _ h=>(by cases h),fun _ h=>(by cases h),fun _ h=>(by cases h)⟩
  rename_i pt hpt;obtain⟨g1,g2⟩:=hlp.yes _ pt om (wI h12 hr hb') hpt;split
  ·rename_i hn;refine⟨⟨[],sm⟩,ha',.inl rfl,fun _ hm=>⟨pt,g1,hn,fun r hr'=>g2 r (List.mem_append.2 (.inl hr')),rfl,?_⟩,fun h=>(by cases h),fun h=>(by cases h),fun h=>(by cases h)⟩;have hm:(s'.much || !allFit pt pt.length)=false:=hm;rw [Bool.or_eq_false_iff]at hm;simpa using hm.2
  rename_i k hk;obtain⟨k1,k2,k3⟩:=tK hk;exact EI ha' hb' k1 k2 k3 g2 fun s B h1 h2=>tL hlp h12 h40 hr d s B h1 h2
structure Yz where
 st:Int
 pt:List Fq
 steps:List eG
 f:Int × Int
def F6 (lp:List Rw→LP)(rows:List Rw)(ints:List Bool)(fuel:Nat):Yz:=
 let r:=uL lp rows ints (fuel+1) ⟨fuel,[],[],[],false⟩ []
 if r.s.much=true∨3000<r.s.steps.length then⟨0,[],[],(10,0)⟩else
 if r.st=1 then⟨1,r.s.point,[],(0,0)⟩else
 if r.st=2 then⟨2,[],r.s.steps,(0,0)⟩else⟨3,[],[],(0,0)⟩
theorem vP {m n:Nat}(h:m≤40):kC m n []:=⟨sm,sm,by simp;omega⟩
theorem vQ {m n:Nat}{atoms:List Rw}:gZ m n atoms []:=⟨sm⟩
theorem AO:∀n,dI [] n= []
 | 0=>rfl
 | n+1=>by
  simp only [dI];rw [AO n];rfl
theorem VH {lp:List Rw→LP}{rows:List Rw}{ints:List Bool}(hlp:F5 ints.length lp)(h12:ints.length≤12)(h40:rows.length≤40)(hr:∀r∈rows,eD r (ints.length:Int))(fuel:Nat):
  F6 lp rows ints fuel=⟨0,[],[],(10,0)⟩∨F6 lp rows ints fuel=⟨3,[],[],(0,0)⟩∨
  (∃pt:List Rat,F6 lp rows ints fuel=⟨1,pt.map cZ,[],(0,0)⟩∧pt.length=ints.length∧allFit pt pt.length=true∧qI ints pt=none∧∀r∈rows,wV r ints.length fun j=>pt.getD j 0)∨
  (∃st:List eG,F6 lp rows ints fuel=⟨2,[],st,(0,0)⟩∧st≠ []∧∀x,Mix ints x→(∀r∈rows,wV r ints.length x)→False):=by
 have h:=tL hlp h12 h40 hr (fuel+1) ⟨fuel,[],[],[],false⟩ [] (vP h40) vQ;unfold F6;simp only;generalize uL lp rows ints (fuel+1) ⟨fuel,[],[],[],false⟩ []=r at*;by_cases hm:r.s.much=true∨3000<r.s.steps.length
 ·rw [if_pos hm];exact .inl rfl
 rw [if_neg hm];have hm:r.s.much=false:=by
  cases h:r.s.much
  ·rfl
  exact absurd (.inl h) hm
 rcases h.st with h1 | h1 | h1
 ·rw [if_pos h1];obtain⟨pt,g1,g2,g3,g4,g5⟩:=h.yes h1 hm;exact .inr (.inr (.inl ⟨pt,by rw [g4],g1,g5,g2,g3⟩))
 ·rw [if_neg om,if_pos h1];refine .inr (.inr (.inr ⟨_,rfl,h.stp h1 hm,fun x hx hall=>h.no h1 hm x hx fun l hl=> ?_⟩));obtain⟨id,e,e1,e2⟩:=h.ids h1 hm l hl;rcases e2 with e2 | ⟨b,hb,_⟩
  ·obtain ⟨p,rfl⟩:∃p,id=p+1:=⟨id-1,om⟩;rw [e,Int.neg_neg,AL om];exact hall _ (List.getElem_mem _)
  rw [AO]at hb;cases hb
 rw [if_neg om,if_neg om];exact .inr (.inl rfl)
def Z4 (n f:Nat)(R:List Rw):LP:=match TS.feas f (TS.start n R)with
 | .hungry=> .hungry
 | .no l=> .no l
 | .yes T=> .yes (T.ptK T.n)
theorem zbM {rows:List Rw}{N:Nat}{t x:Nat→Rat}(hk:∀r∈rows,r.kind=1∨r.kind=2∨r.kind=3)(Z5:∀p,p<rows.length→(rows.getD p bG).kind≠3→0≤t p)(uR:∀k,k<N→(sQ rows.length fun p=>t p*(iX rows p k:Rat))=0)
  (hneg:(sQ rows.length fun p=>t p*((rows.getD p bG).to:Rat))<0∨(sQ rows.length fun p=>t p*((rows.getD p bG).to:Rat))=0∧∃p,p<rows.length∧(rows.getD p bG).kind=2∧t p≠0)
  (hx:∀p,p<rows.length→t p≠0→wV (rows.getD p bG) N x):False:=by
 have e0:(sQ rows.length fun p=>t p*sQ N fun j=>(iX rows p j:Rat)*x j)=0:=by
  have e1:∀p,p<rows.length→t p*(sQ N fun j=>(iX rows p j:Rat)*x j)=sQ N fun j=>x j*(t p*(iX rows p j:Rat)):=by
   intro p _;rw [← yu];refine dV N fun j _=> ?_;grind
  rw [dV _ e1,PO];refine kZ N fun j hj=> ?_;rw [yu,uR j hj,Rat.mul_zero]
 have hle:∀p,p<rows.length→t p*(sQ N fun j=>(iX rows p j:Rat)*x j)≤t p*((rows.getD p bG).to:Rat):=by
  intro p hp;by_cases h0:t p=0
  ·rw [h0];grind
  obtain⟨a1,a2,a3⟩:=hx p hp h0;have hk:=hk _ (List.getElem_mem hp);rw [← zbN hp]at hk;by_cases h3:(rows.getD p bG).kind=3
  ·have:=a3 h3;unfold iX;rw [this];exact Rat.le_refl
  refine Rat.mul_le_mul_of_nonneg_left ?_ (Z5 p hp h3);rcases hk with hk | hk | hk
  ·exact a1 hk
  ·exact Rat.le_of_lt (a2 hk)
  exact absurd hk h3
 have hs:=VI _ hle;rw [e0]at hs;rcases hneg with h3 | ⟨h3,p,hp,hk2,h0⟩
 ·grind
 have hpos:0<t p:=by
  have:=Z5 p hp om;grind
 have hlt:=(hx p hp h0).2.1 hk2;have:=Z6 _ hp hle (Rat.mul_lt_mul_of_pos_left hlt hpos);rw [e0]at this;grind
theorem Ld {n:Nat}(hn:n≤12)(f:Nat):F5 n (Z4 n f):=by
 refine⟨fun R pt h64 hok h=> ?_,fun R l h64 hok h=> ?_⟩
 ·have h0:=wJ hn h64 hok;unfold Z4 at h;rcases hf:TS.feas f (TS.start n R)with T | l | _
  ·rw [hf]at h;obtain rfl:T.ptK T.n=pt:=by cases h;rfl
   obtain⟨hI,hb⟩:=zk f _ T h0 hf;have hn:=hI.hn;refine⟨by rw [zn,hn],fun r hr=> ?_⟩;obtain⟨i,hi,rfl⟩:=List.getElem_of_mem hr;have:=GU hI hb hi;unfold iX at this;rw [zbN hi]at this;have e:(sQ n fun j=>((R[i]).of.getD j 0:Rat)*(T.ptK T.n).getD j 0)=sQ n fun j=>((R[i]).of.getD j 0:Rat)*T.ptQ j:=dV n fun j hj=>by
    congr 1;unfold TS.ptK;rw [dX,List.getElem?_map,List.getElem?_range om];rfl
   unfold wV;rw [e];exact this
  ·rw [hf]at h;cases h
  rw [hf]at h;cases h
 have h0:=wJ hn h64 hok;unfold Z4 at h;rcases hf:TS.feas f (TS.start n R)with T | l' | _
 ·rw [hf]at h;cases h
 ·rw [hf]at h;obtain rfl:l'=l:=by cases h;rfl
  obtain⟨T,b,way,hI,hB,hE,hl⟩:=Dq f _ l' h0 hf;have hlen:l'.length=R.length:=by rw [hl,nu,hI.hr]
  obtain⟨h1,h2,h3⟩:=EJ hI hB hE (fun p=>l'.getD p 0) (fun p hp=>by rw [hl]);refine⟨hlen,?_,fun x hx=>zbM (fun r hr=>(hok r hr).kind) h1 h2 h3 hx⟩;rcases h3 with h3 | ⟨_,p,hp,_,h0⟩
  ·refine Classical.byContradiction fun hn=> ?_;have:(sQ R.length fun p=>l'.getD p 0*((R.getD p bG).to:Rat))=0:=kZ _ fun p hp=>by
    have:l'.getD p 0=0:=Classical.byContradiction fun h=>hn ⟨p,hp,h⟩;rw [this,Rat.zero_mul]
   rw [this]at h3;exact absurd h3 dc
  exact⟨p,hp,h0⟩
 rw [hf]at h;cases h
theorem Cc:∀(N:Nat) (l:List Nat),l.Nodup→(∀x∈l,x<N)→l.length≤N
 | 0,l,_,h=>by
  rcases l with _ | ⟨x,l⟩
  ·simp
  exact absurd (h x List.mem_cons_self) om
 | N+1,l,hn,h=>by
  have h1:=Cc N (l.erase N) (hn.erase N) fun x hx=>by
   have:=(hn.mem_erase_iff).1 hx;have:=h x this.2;omega
  rw [List.length_erase]at h1;split at h1<;>omega
theorem R7 {l:List Int}(h:l.Nodup)(hb:∀x∈l,∃id:Nat,x= -(id:Int)∧id≤120):l.length≤121:=by
 have h1:(l.map fun x=>(-x).toNat).Nodup:=by
  rw [List.nodup_iff_pairwise_ne,List.pairwise_map];rw [List.nodup_iff_pairwise_ne]at h;refine List.Pairwise.imp_of_mem (fun {a b} ha hb' hne e=> ?_) h;obtain⟨i,hi,_⟩:=hb a ha;obtain⟨j,hj,_⟩:=hb b hb';omega
 have:=Cc 121 _ h1 fun x hx=>by
  obtain⟨y,hy,rfl⟩:=List.mem_map.1 hx;obtain⟨i,hi,hi'⟩:=hb y hy;omega
 simpa using this
theorem yw (a b:Int):∀(l o:List Int),o.Nodup→(ku a b l o).Nodup
 | [],o,h=>h
 | x::l,o,h=>by
  unfold ku;refine yw a b l _ ?_;by_cases hx:x≠ -a∧x≠ -b∧x∉o
  ·rw [if_pos hx,List.nodup_append];exact⟨h,sm,fun y hy z hz=>by rw [List.mem_singleton.1 hz];rintro rfl;exact hx.2.2 hy⟩
  rw [if_neg hx];exact h
theorem Le (x:Int):∀l,(CZ x l).length=l.length+1
 | []=>rfl
 | y::l=>by unfold CZ;split<;>simp [Le x l]
theorem AP:∀l,(gL l).length=l.length
 | []=>rfl
 | x::l=>by unfold gL;rw [Le,AP l];rfl
theorem Lf (x:Int × Fq):∀l,(Cy x l).length=l.length+1
 | []=>rfl
 | y::l=>by unfold Cy;split<;>simp [Lf x l]
theorem AQ:∀l,(cO l).length=l.length
 | []=>rfl
 | x::l=>by unfold cO;rw [Lf,AQ l];rfl
theorem GV (times:List Rat)(ids:List Int):(bH times ids).length≤times.length:=by
 unfold bH;rw [List.length_map];refine Nat.le_trans (List.length_filter_le _ _) ?_;rw [List.length_zip];omega
structure Wk (s:jh)(r:mI):Prop where
 phi:max r.s.steps.length 3000+2*r.s.fuel≤max s.steps.length 3000+2*s.fuel
 len:r.st=2→r.s.much=false→r.c.length≤200
 fl:r.s.fuel≤s.fuel
theorem KO.idb {rows:List Rw}{ints:List Bool}{s:jh}{B:jZ}{r:mI}(h:KO rows ints s B r)(h40:rows.length≤40)(hb:gZ rows.length ints.length r.s.atoms B)(h2:r.st=2)(hm:r.s.much=false):∀l∈r.c,∃id:Nat,l= -(id:Int)∧id≤120:=fun l hl=>by
 obtain⟨id,e,_,h1⟩:=h.ids h2 hm l hl;refine⟨id,e,?_⟩;rcases h1 with h1 | ⟨b,hbm,he⟩
 ·omega
 obtain⟨k,sg,z,i,_,_,h3,h4⟩:=oI hb hbm;have:=(List.getElem?_eq_some_iff.1 h4).1;have:=h.ok.cap;omega
theorem wK (m:Nat)(s:jh)(r:Rw):(eO m s r).2.steps.length≤s.steps.length+1:=by
 unfold eO;split
 ·simp
 simp
structure WkB (s:jh)(r:mI):Prop where
 phi:max r.s.steps.length 3000+2*r.s.fuel≤max s.steps.length 3000+2*s.fuel+1
 len:r.st=2→r.s.much=false→r.c.length≤200
 fl:r.s.fuel≤s.fuel
theorem R8 {rows:List Rw}{ints:List Bool}{rc:jh→jZ→mI}{s:jh}{B:jZ}{k:Nat}{z:Int}(h40:rows.length≤40)(ha:kC rows.length ints.length s.atoms)(hb:gZ rows.length ints.length s.atoms B)(hk:k<ints.length)
  (hrc:∀s B,kC rows.length ints.length s.atoms→gZ rows.length ints.length s.atoms B→KO rows ints s B (rc s B)∧Wk s (rc s B)):
  WkB s (gI rows.length rc s B k z):=by
 unfold gI;split
 ·exact ⟨by simp only;omega,fun _ h=>(by cases h),Nat.le_refl _⟩
 rename_i hbad;have hz1:bZ z:=by unfold bZ;omega
 have hz2:bZ (-z-1):=by unfold bZ;omega
 have hcap:rows.length+s.atoms.length+2≤120:=om;have hst:s.steps.length≤2992:=om;clear hbad;have hlo:lW ints.length (aK k 1 z) k 1 z:=⟨hk,.inl rfl,rfl,hz1⟩;have hhi:lW ints.length (aK k (-1) (-z-1)) k (-1) (-z-1):=⟨hk,.inr rfl,rfl,hz2⟩;obtain⟨i,a1,a2,⟨ta,a3,a3'⟩,a4,a5,_⟩:=jD hlo ha om;obtain⟨j,b1,b2,⟨tb,b3,b3'⟩,b4,b5,_⟩:=jD hhi a4 (by rw [a3,List.length_append];omega);have l1:=wK rows.length s (aK k 1 z);have l2:=wK rows.length (eO rows.length s (aK k 1 z)).2 (aK k (-1) (-z-1));simp only;generalize hA:eO rows.length s (aK k 1 z)=A at *;generalize hC:eO rows.length A.2 (aK k (-1) (-z-1))=C at *;rw [a1,b1];obtain⟨s3,hs3⟩:∃s3:jh,s3= {C.2 with steps:=C.2.steps++ [(⟨6,[min ((rows.length+i+1:Nat):Int) ((rows.length+j+1:Nat):Int),max ((rows.length+i+1:Nat):Int) ((rows.length+j+1:Nat):Int)],[],wU⟩:eG)]}:=⟨_,rfl⟩;have yj:s3.atoms=C.2.atoms:=by rw [hs3]
 have hs3f:s3.fuel=s.fuel:=by rw [hs3];exact b5.trans a5
 have VJ:s3.steps.length≤3000:=by rw [hs3];simp only [List.length_append,List.length_singleton];omega
 rw [← hs3];have hm3:s3.atoms=s.atoms++(ta++tb):=by rw [yj,b3,a3,List.append_assoc]
 have hok3:kC rows.length ints.length s3.atoms:=by rw [yj];exact b4
 have ha3:s3.atoms[i]? =some (aK k 1 z):=by
  rw [yj,b3,List.getElem?_append_left (List.getElem?_eq_some_iff.1 a2).1];exact a2
 have hb3:s3.atoms[j]? =some (aK k (-1) (-z-1)):=by rw [yj];exact b2
 have hB1:gZ rows.length ints.length s3.atoms (fK B (k:Int) 1 ⟨aK k 1 z,((rows.length+i+1:Nat):Int)⟩):=by
  rw [hm3]at ha3 ⊢;exact mZ hb hlo ha3
 obtain⟨hr,hw⟩:=hrc _ _ hok3 hB1;generalize hR:rc s3 (fK B (k:Int) 1 ⟨aK k 1 z,((rows.length+i+1:Nat):Int)⟩)=r at *;have hp1:=hw.phi;have hf1:=hw.fl;split
 ·exact ⟨om,hw.len,om⟩
 rename_i hx;have hr2:r.st=2:=Classical.byContradiction fun h=>hx (.inl h);have hrm:r.s.much=false:=by
  cases h:r.s.much
  ·rfl
  exact absurd (.inr (.inl h)) hx
 obtain⟨t4,h4⟩:=hr.more;have zc2:gZ rows.length ints.length r.s.atoms (fK B (k:Int) 1 ⟨aK k 1 z,((rows.length+i+1:Nat):Int)⟩):=by rw [h4];exact hB1.more
 have hB2:gZ rows.length ints.length r.s.atoms (fK B (k:Int) (-1) ⟨aK k (-1) (-z-1),((rows.length+j+1:Nat):Int)⟩):=by
  have e:r.s.atoms=s.atoms++((ta++tb)++t4):=by rw [h4,hm3,List.append_assoc]
  have hb4:r.s.atoms[j]? =some (aK k (-1) (-z-1)):=by
   rw [h4,List.getElem?_append_left (List.getElem?_eq_some_iff.1 hb3).1];exact hb3
  rw [e]at hb4 ⊢;exact mZ hb hhi hb4
 have hid1:=hr.idb h40 zc2 hr2 hrm;obtain⟨ht,hv⟩:=hrc _ _ hr.ok hB2;generalize hT:rc r.s (fK B (k:Int) (-1) ⟨aK k (-1) (-z-1),((rows.length+j+1:Nat):Int)⟩)=t at *;have hp2:=hv.phi;have hf2:=hv.fl;split
 ·exact ⟨om,hv.len,om⟩
 rename_i hy;have ht2:t.st=2:=Classical.byContradiction fun h=>hy (.inl h);have XP:t.s.much=false:=by
  cases h:t.s.much
  ·rfl
  exact absurd (.inr (.inl h)) hy
 obtain⟨t5,h5⟩:=ht.more;have hid2:=ht.idb h40 (by rw [h5];exact hB2.more) ht2 XP;refine⟨by simp only [List.length_append,List.length_singleton];omega,fun _ _=> ?_,by simp only;omega⟩;simp only;rw [AP];refine Nat.le_trans (R7 (yw _ _ _ _ sm) fun x hx=> ?_) om;rcases zi.1 hx with hx | ⟨hx,_⟩
 ·cases hx
 rcases List.mem_append.1 hx with hx | hx
 ·exact hid1 x hx
 exact hid2 x hx
theorem VK {lp:List Rw→LP}{rows:List Rw}{ints:List Bool}(hlp:F5 ints.length lp)(h12:ints.length≤12)(h40:rows.length≤40)(hr:∀r∈rows,eD r (ints.length:Int)):∀d s B,kC rows.length ints.length s.atoms→gZ rows.length ints.length s.atoms B→Wk s (uL lp rows ints d s B)
 | 0,s,B,ha,hb=>⟨by simp only [uL];omega,fun h=>(by cases h),Nat.le_refl _⟩
 | d+1,s,B,ha,hb=>by
  unfold uL;split
  ·exact ⟨by simp only;omega,fun h=>(by cases h),Nat.le_refl _⟩
  rename_i hf;obtain⟨s',hs'⟩:∃s':jh,s'= {s with fuel:=s.fuel-1}:=⟨_,rfl⟩;have ea:s'.atoms=s.atoms:=by rw [hs']
  have ef:s'.fuel=s.fuel-1:=by rw [hs']
  have es:s'.steps=s.steps:=by rw [hs']
  rw [← hs'];have ha':kC rows.length ints.length s'.atoms:=by rw [ea];exact ha
  have hb':gZ rows.length ints.length s'.atoms B:=by rw [ea];exact hb
  have hbl:=kJ (B:=B) ints.length;have hRl:(jo rows ints.length B).length=rows.length+(dI B ints.length).length:=by simp [jo]
  unfold rQ;split
  ·exact ⟨by simp only;rw [es,ef];omega,fun h=>(by cases h),by simp only;omega⟩
  ·rename_i l hl;have hll:=(hlp.no _ l om (wI h12 hr hb') hl).1;split
   ·refine ⟨by simp only [List.length_append,List.length_singleton];rw [es,ef];omega,fun _ _=> ?_,by simp only;omega⟩;simp only [List.length_map];rw [AQ];have:=GV l (allI rows.length ints.length B);omega
   exact⟨by simp only;rw [es,ef];omega,fun _ h=>(by cases h),by simp only;omega⟩
  rename_i pt hpt;split
  ·exact ⟨by simp only;rw [es,ef];omega,fun h=>(by cases h),by simp only;omega⟩
  rename_i k hk;obtain⟨k1,_⟩:=tK hk;have:=R8 (z:=jT (pt.getD k 0)) h40 ha' hb' k1 fun s B h1 h2=>⟨tL hlp h12 h40 hr d s B h1 h2,VK hlp h12 h40 hr d s B h1 h2⟩;have h1:=this.phi;have h2:=this.fl;exact⟨by rw [es,ef]at h1;omega,this.len,om⟩
theorem Lg {m n:Nat}{rows atoms:List Rw}{B:jZ}(hm:rows.length=m)(hb:gZ m n atoms B):∀k,k≤n→((dI B k).map CB.id).Nodup
 | 0,_=>by simp [dI]
 | k+1,hk=>by
  have ih:=Lg hm hb k om;have key:∀(k1:Nat) (s1:Int) (b1:CB) (k2:Nat) (s2:Int) (b2:CB),(s1=1∨s1= -1)→(s2=1∨s2= -1)→oH B (k1:Int) s1=some b1→oH B (k2:Int) s2=some b2→b1.id=b2.id→k1=k2∧s1=s2:=by
   intro k1 s1 b1 k2 s2 b2 g1 g2 h1 h2 e;obtain⟨c1,t1,z1,i1,⟨_,u1,v1,_⟩,w1,x1,y1⟩:=hb.b _ (vO h1);obtain⟨c2,t2,z2,i2,⟨_,u2,v2,_⟩,w2,x2,y2⟩:=hb.b _ (vO h2);simp only at v1 w1 x1 y1 v2 w2 x2 y2;have hi:i1=i2:=om;subst hi;rw [y1]at y2;have:=Option.some.inj y2;rw [v1,v2]at this;obtain⟨q1,q2,_⟩:=AJ u1 u2 this;have p1:=Prod.mk.inj w1;have p2:=Prod.mk.inj w2;constructor
   ·have:=p1.1;have:=p2.1;omega
   have:=p1.2;have:=p2.2;omega
  have zbO:∀b∈dI B k,∃k':Nat,∃s,k'<k∧(s=1∨s= -1)∧oH B (k':Int) s=some b:=fun b h=>oV.1 h;simp only [dI,List.map_append];rw [List.nodup_append];refine⟨?_,?_,?_⟩
  ·rw [List.nodup_append];refine⟨ih,by rcases oH B (k:Int) 1 with _ | b<;>simp,fun x hx y hy=> ?_⟩;obtain⟨b1,h1,rfl⟩:=List.mem_map.1 hx;obtain⟨b2,h2,rfl⟩:=List.mem_map.1 hy;obtain⟨k',s',g1,g2,g3⟩:=zbO b1 h1;have h2:oH B (k:Int) 1=some b2:=by simpa using h2
   intro e;have:=(key k' s' b1 k 1 b2 g2 (.inl rfl) g3 h2 e).1;omega
  ·rcases oH B (k:Int) (-1)with _ | b<;>simp
  intro x hx y hy e;obtain⟨b2,h2,rfl⟩:=List.mem_map.1 hy;have h2:oH B (k:Int) (-1)=some b2:=by simpa using h2
  rcases List.mem_append.1 hx with hx | hx
  ·obtain ⟨b1,h1,rfl⟩:=List.mem_map.1 hx;obtain⟨k',s',g1,g2,g3⟩:=zbO b1 h1;have:=(key k' s' b1 k (-1) b2 g2 (.inr rfl) g3 h2 e).1;omega
  obtain⟨b1,h1,rfl⟩:=List.mem_map.1 hx;have h1:oH B (k:Int) 1=some b1:=by simpa using h1
  have:=(key k 1 b1 k (-1) b2 (.inl rfl) (.inr rfl) h1 h2 e).2;omega
theorem PS {n:Nat}{rows atoms:List Rw}{B:jZ}(hb:gZ rows.length n atoms B):(allI rows.length n B).Nodup:=by
 unfold allI;rw [List.nodup_append];refine⟨?_,Lg (rows:=rows) rfl hb n (Nat.le_refl _),fun x hx y hy=> ?_⟩
 ·rw [List.nodup_iff_pairwise_ne,List.pairwise_map];have:=List.nodup_iff_pairwise_ne.1 (List.nodup_range (n:=rows.length));exact this.imp fun h e=>h om
 obtain⟨i,hi,rfl⟩:=List.mem_map.1 hx;obtain⟨b,h1,rfl⟩:=List.mem_map.1 hy;obtain⟨_,_,_,j,_,_,e,_⟩:=oI hb h1;have:=List.mem_range.1 hi;omega
theorem Lh {times:List Rat}{ids:List Int}(h:ids.Nodup):((bH times ids).map (·.1)).Nodup:=by
 unfold bH;rw [List.map_map,List.nodup_iff_pairwise_ne,List.pairwise_map];refine List.Pairwise.filter _ ?_;rw [List.pairwise_iff_getElem];intro i j hi hj hij;have hi':i<ids.length:=by rw [List.length_zip]at hi;omega
 have hj':j<ids.length:=by rw [List.length_zip]at hj;omega
 have:=List.pairwise_iff_getElem.1 (List.nodup_iff_pairwise_ne.1 h) i j hi' hj' hij;simp only [Function.comp_apply,List.getElem_zip];omega
theorem Li {n:Nat}{rows atoms:List Rw}{B:jZ}(h40:rows.length≤40)(ha:kC rows.length n atoms)(hb:gZ rows.length n atoms B):∀i∈allI rows.length n B,0≤i∧i≤1000:=fun x hx=>by
 unfold allI at hx;rcases List.mem_append.1 hx with hx | hx
 ·obtain ⟨i,hi,rfl⟩:=List.mem_map.1 hx;have:=List.mem_range.1 hi;omega
 obtain⟨b,h1,rfl⟩:=List.mem_map.1 hx;obtain⟨_,_,_,j,_,_,e,h4⟩:=oI hb h1;have:=(List.getElem?_eq_some_iff.1 h4).1;have:=ha.cap;omega
theorem VL {n:Nat}{times:List Rat}{ids:List Int}(h1:times.length=n)(h2:ids.length=n)(h:∃p,p<n∧times.getD p 0≠0):bH times ids≠ []:=by
 obtain⟨p,hp,hne⟩:=h;rw [dX,fG om]at hne;have:(-ids[p]' om,cZ (times[p]' om))∈bH times ids:=pR.2 ⟨p,om,om,hne,rfl⟩;intro e;rw [e]at this;cases this
end Go.Proofs.YtaiffmebphhdaaaGreat
