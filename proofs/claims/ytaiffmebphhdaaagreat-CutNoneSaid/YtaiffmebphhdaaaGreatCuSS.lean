/- Package cut, plain: what is told is so. Package cut, plain: of small bounded rows it is always told. Package cut: the tableau tells what the search wants of it. Package cut, plain: how much the search lays. -/
import Derived.Test.YtaiffmebphhdaaaGreatCuM
import Derived.Test.YtaiffmebphhdaaaGreatSpI
namespace Go.Proofs.YtaiffmebphhdaaaGreat
set_option linter.unusedSimpArgs false
set_option linter.unusedVariables false
open Go.ChangeShapes Go.WideShapes Go.RowKit
def rowAt (rows atoms:List Rw)(id:Int):Rw:=(rows++atoms).getD (id.toNat-1) nilRw
def Mix (ints:List Bool)(x:Nat→Rat):Prop:=∀k,k<ints.length→ints.getD k false=true→∃z:Int,x k=(z:Rat)
structure LPok (n:Nat)(lp:List Rw→LP):Prop where
 yes:∀R pt,R.length≤64→(∀r∈R,RowOK r (n:Int))→lp R= .yes pt→pt.length=n∧∀r∈R,AtPt r n fun j=>pt.getD j 0
 no:∀R l,R.length≤64→(∀r∈R,RowOK r (n:Int))→lp R= .no l→l.length=R.length∧(∃p,p<R.length∧l.getD p 0≠0)∧∀x:Nat→Rat,(∀p,p<R.length→l.getD p 0≠0→AtPt (R.getD p nilRw) n x)→False
def IsLim (n:Nat)(r:Rw)(k:Nat)(sg z:Int):Prop:=k<n∧(sg=1∨sg= -1)∧r=limitR k sg z∧fitI z
structure AtOK (m n:Nat)(atoms:List Rw):Prop where
 lim:∀r∈atoms,∃k sg z,IsLim n r k sg z
 nd:atoms.Nodup
 cap:m+atoms.length≤120
structure BdOK (m n:Nat)(atoms:List Rw)(B:Bds):Prop where
 b:∀x∈B,∃k sg z,∃i:Nat,IsLim n x.2.row k sg z∧x.1=((k:Int),sg)∧x.2.id=((m+i+1:Nat):Int)∧atoms[i]? =some x.2.row
theorem BdOK.more {m n:Nat}{atoms t:List Rw}{B:Bds}(h:BdOK m n atoms B):BdOK m n (atoms++t) B:=⟨fun x hx=>by
 obtain⟨k,sg,z,i,h1,h2,h3,h4⟩:=h.b x hx;refine⟨k,sg,z,i,h1,h2,h3,?_⟩;rw [List.getElem?_append_left (List.getElem?_eq_some_iff.1 h4).1];exact h4⟩
theorem bGet_mem {B:Bds}{k s:Int}{b:CB}(h:bGet B k s=some b):((k,s),b)∈B:=by
 unfold bGet at h
 rcases hf:B.find? (fun x=>decide (x.1=(k,s)))with _ | x
 ·rw [hf]at h;cases h
 ·rw [hf]at h
  have h1:=List.find?_some hf;have h2:=List.mem_of_find?_eq_some hf;have h3:x.1=(k,s):=of_decide_eq_true h1;have h4:x.2=b:=by simpa using h
  rw [← h3,←h4];exact h2
theorem bGet_with {B:Bds}{k s k' s':Int}{b:CB}:bGet (withB B k s b) k' s'=if(k,s)=(k',s')then some b else bGet B k' s':=by
 unfold bGet withB
 by_cases h:(k,s)=(k',s')
 ·rw [if_pos h,List.find?_cons_of_pos (by simpa using h)];rfl
 ·rw [if_neg h,List.find?_cons_of_neg (by simpa using h),List.find?_filter]
  congr 2
  funext x
  by_cases h1:x.1=(k',s')
  ·have:x.1≠(k,s):=fun e=>h (e.symm.trans h1)
   simp [h1,Ne.symm h]
  ·simp [h1]
theorem mem_bRows {B:Bds}{b:CB}:∀ {n:Nat},b∈bRows B n↔∃k:Nat,∃s:Int,k<n∧(s=1∨s= -1)∧bGet B (k:Int) s=some b
 | 0=>by simp [bRows]
 | n+1=>by
  simp only [bRows,List.mem_append,Option.mem_toList];rw [mem_bRows (n:=n)]
  constructor
  ·rintro ((⟨k,s,h1,h2,h3⟩ | h) | h)
   ·exact ⟨k,s,by omega,h2,h3⟩
   ·exact ⟨n,1,by omega,.inl rfl,by simpa using h⟩
   ·exact ⟨n,-1,by omega,.inr rfl,by simpa using h⟩
  ·rintro ⟨k,s,h1,h2,h3⟩
   by_cases hk:k<n
   ·exact .inl (.inl ⟨k,s,hk,h2,h3⟩)
   ·obtain rfl:k=n:=by omega
    rcases h2 with rfl | rfl
    ·exact .inl (.inr (by simpa using h3))
    ·exact .inr (by simpa using h3)
theorem bRows_len {B:Bds}:∀n,(bRows B n).length≤2*n
 | 0=>by simp [bRows]
 | n+1=>by
  have:=bRows_len (B:=B) n;have h:∀o:Option CB,o.toList.length≤1:=fun o=>by cases o<;>simp
  have h1:=h (bGet B (n:Int) 1);have h2:=h (bGet B (n:Int) (-1));simp only [bRows,List.length_append];omega
theorem limit_ok {n k:Nat}{sg z:Int}{r:Rw}(h12:n≤12)(h:IsLim n r k sg z):RowOK r (n:Int):=by
 obtain⟨h1,h2,rfl,h4⟩:=h;refine⟨by omega,by omega,.inl rfl,?_,fun x hx=> ?_,h4⟩
 ·simp [limitR];omega
 ·unfold limitR at hx
  rcases List.mem_append.1 hx with hx | hx
  ·rw [List.eq_of_mem_replicate hx];unfold fitI;omega
  ·rw [List.mem_singleton.1 hx]
   unfold fitI
   rcases h2 with rfl | rfl<;>omega
theorem limit_sum {n k:Nat}{sg z:Int}(hk:k<n)(x:Nat→Rat):(sQ n fun j=>((limitR k sg z).of.getD j 0:Rat)*x j)=(sg:Rat)*x k:=by
 have e:∀j,(limitR k sg z).of.getD j 0=if j=k then sg else 0:=fun j=>by
  unfold limitR;rw [List.getD_eq_getElem?_getD]
  by_cases h:j<k
  ·rw [List.getElem?_append_left (by simpa using h),if_neg (by omega),List.getElem?_replicate,if_pos h];rfl
  ·rw [List.getElem?_append_right (by simpa using h)]
   by_cases h2:j=k
   ·subst h2;simp
   ·rw [if_neg h2,List.getElem?_eq_none (by simp;omega)];rfl
 have go:∀N,(sQ N fun j=>((limitR k sg z).of.getD j 0:Rat)*x j)=if k<N then(sg:Rat)*x k else 0:=fun N=>by
  induction N with
  | zero=>rw [if_neg (by omega)];rfl
  | succ N ih=>
   simp only [sQ];rw [ih,e N]
   by_cases h:N=k
   ·subst h
    rw [if_neg (by omega),if_pos rfl,if_pos (by omega)];grind
   ·rw [if_neg h,show((0:Int):Rat)=0 from rfl]
    by_cases h2:k<N
    ·rw [if_pos h2,if_pos (by omega)];grind
    ·rw [if_neg h2,if_neg (by omega)];grind
 rw [go n,if_pos hk]
theorem limit_at {n k:Nat}{sg z:Int}(hk:k<n)(x:Nat→Rat):AtPt (limitR k sg z) n x↔(sg:Rat)*x k≤(z:Rat):=by
 unfold AtPt;rw [limit_sum hk x];simp [limitR]
theorem limit_inj {k k':Nat}{sg sg' z z':Int}(hs:sg=1∨sg= -1)(hs':sg'=1∨sg'= -1)(h:limitR k sg z=limitR k' sg' z'):k=k'∧sg=sg'∧z=z':=by
 unfold limitR at h
 injection h with h1 _ h2
 have hl:=congrArg List.length h1;simp at hl;subst hl;have:=List.append_cancel_left h1;exact⟨rfl,by simpa using this,h2⟩
structure Snd (rows:List Rw)(ints:List Bool)(s:CSt)(B:Bds)(r:CRes):Prop where
 more:∃t,r.s.atoms=s.atoms++t
 ok:AtOK rows.length ints.length r.s.atoms
 st:r.st=1∨r.st=2∨r.st=3
 yes:r.st=1→r.s.much=false→∃pt:List Rat,pt.length=ints.length∧openK ints pt=none∧(∀r∈rows,AtPt r ints.length fun j=>pt.getD j 0)∧r.s.point=pt.map fqOf∧allFit pt pt.length=true
 ids:r.st=2→r.s.much=false→∀l∈r.c,∃id:Nat,l= -(id:Int)∧1≤id∧(id≤rows.length∨∃b∈bRows B ints.length,b.id=(id:Int))
 no:r.st=2→r.s.much=false→∀x,Mix ints x→(∀l∈r.c,AtPt (rowAt rows r.s.atoms (-l)) ints.length x)→False
 stp:r.st=2→r.s.much=false→r.s.steps≠ []
theorem mem_insP {x y:Int × Fq}:∀ {l:List (Int × Fq)},y∈insP x l↔y=x∨y∈l
 | []=>by simp [insP]
 | z::l=>by
  unfold insP
  split
  ·rw [List.mem_cons,mem_insP,List.mem_cons];constructor<;>rintro(h | h | h)<;>simp [h]
  ·rw [List.mem_cons]
theorem mem_sortP {y:Int × Fq}:∀ {l:List (Int × Fq)},y∈sortP l↔y∈l
 | []=>by simp [sortP]
 | x::l=>by unfold sortP;rw [mem_insP,mem_sortP,List.mem_cons]
theorem mem_insD {x y:Int}:∀ {l:List Int},y∈insD x l↔y=x∨y∈l
 | []=>by simp [insD]
 | z::l=>by
  unfold insD
  split
  ·rw [List.mem_cons,mem_insD,List.mem_cons];constructor<;>rintro(h | h | h)<;>simp [h]
  ·rw [List.mem_cons]
theorem mem_sortD {y:Int}:∀ {l:List Int},y∈sortD l↔y∈l
 | []=>by simp [sortD]
 | x::l=>by unfold sortD;rw [mem_insD,mem_sortD,List.mem_cons]
theorem mem_outF {a b y:Int}:∀ {l o:List Int},y∈outF a b l o↔y∈o∨(y∈l∧y≠ -a∧y≠ -b)
 | [],o=>by simp [outF]
 | x::l,o=>by
  unfold outF;rw [mem_outF]
  by_cases h:x≠ -a∧x≠ -b∧x∉o
  ·rw [if_pos h,List.mem_append,List.mem_singleton,List.mem_cons]
   constructor
   ·rintro ((h1 | rfl) | ⟨h1,h2⟩)
    ·exact .inl h1
    ·exact .inr ⟨.inl rfl,h.1,h.2.1⟩
    ·exact .inr ⟨.inr h1,h2⟩
   ·rintro (h1 | ⟨rfl | h1,h2⟩)
    ·exact .inl (.inl h1)
    ·exact .inl (.inr rfl)
    ·exact .inr ⟨h1,h2⟩
  ·rw [if_neg h,List.mem_cons]
   constructor
   ·rintro (h1 | ⟨h1,h2⟩)
    ·exact .inl h1
    ·exact .inr ⟨.inr h1,h2⟩
   ·rintro (h1 | ⟨rfl | h1,h2⟩)
    ·exact .inl h1
    ·by_cases h3:y∈o
     ·exact .inl h3
     ·exact absurd ⟨h2.1,h2.2,h3⟩ h
    ·exact .inr ⟨h1,h2⟩
theorem atomAt_some {atoms:List Rw}{r:Rw}{i:Nat}(h:atomAt atoms r=some i):∃x,atoms[i]? =some x∧x.to=r.to∧x.of=r.of:=by
 unfold atomAt at h;obtain⟨hi,hp,_⟩:=List.findIdx?_eq_some_iff_getElem.1 h;rw [Bool.and_eq_true]at hp;exact⟨atoms[i],List.getElem?_eq_getElem hi,of_decide_eq_true hp.1,of_decide_eq_true hp.2⟩
theorem atomAt_none {atoms:List Rw}{r:Rw}(h:atomAt atoms r=none):r∉atoms:=fun hr=>by
 unfold atomAt at h;have:=List.findIdx?_eq_none_iff.1 h r hr;simp at this
theorem atomF_spec {m n:Nat}{s:CSt}{r:Rw}{k:Nat}{sg z:Int}(hr:IsLim n r k sg z)(ha:AtOK m n s.atoms)(hc:m+s.atoms.length+1≤120):
  ∃i:Nat,(atomF m s r).1=((m+i+1:Nat):Int)∧(atomF m s r).2.atoms[i]? =some r∧(∃t,(atomF m s r).2.atoms=s.atoms++t∧t.length≤1)∧AtOK m n (atomF m s r).2.atoms∧(atomF m s r).2.fuel=s.fuel∧(atomF m s r).2.much=s.much∧(atomF m s r).2.point=s.point:=by
 unfold atomF
 rcases h:atomAt s.atoms r with _ | i
 ·have hn:=atomAt_none h
  refine⟨s.atoms.length,rfl,by simp,⟨[r],rfl,by simp⟩,⟨fun x hx=> ?_,?_,?_⟩,rfl,rfl,rfl⟩
  ·rcases List.mem_append.1 hx with hx | hx
   ·exact ha.lim x hx
   ·rw [List.mem_singleton.1 hx];exact⟨k,sg,z,hr⟩
  ·rw [List.nodup_append]
   exact⟨ha.nd,by simp,fun x hx y hy=>by rw [List.mem_singleton.1 hy];rintro rfl;exact hn hx⟩
  ·simp;omega
 ·obtain ⟨x,h1,h2,h3⟩:=atomAt_some h
  refine⟨i,rfl,?_,⟨[],by simp,by simp⟩,ha,rfl,rfl,rfl⟩
  obtain⟨k',sg',z',g1,g2,g3,_⟩:=ha.lim x (List.mem_of_getElem? h1);have:x=r:=by
   obtain⟨_,_,hr3,_⟩:=hr;have hk:x.kind=r.kind:=by rw [g3,hr3];rfl
   cases x;cases r
   simp only at h2 h3 hk;simp [h2,h3,hk]
  rw [← this];exact h1
theorem mem_pairsF {times:List Rat}{ids:List Int}{x:Int × Fq}:x∈pairsF times ids↔∃p,∃(h1:p<times.length) (h2:p<ids.length),times[p]≠0∧x=(-ids[p],fqOf times[p]):=by
 unfold pairsF;rw [List.mem_map]
 constructor
 ·rintro ⟨y,hy,rfl⟩
  obtain⟨hy,h0⟩:=List.mem_filter.1 hy;obtain⟨p,hp,rfl⟩:=List.getElem_of_mem hy;rw [List.length_zip]at hp;rw [List.getElem_zip]at h0 ⊢;exact⟨p,by omega,by omega,by simpa using h0,rfl⟩
 ·rintro ⟨p,h1,h2,h0,rfl⟩
  refine⟨(times[p],ids[p]),List.mem_filter.2 ⟨?_,by simpa using h0⟩,rfl⟩
  have hp:p<(times.zip ids).length:=by rw [List.length_zip];omega
  have:=List.getElem_mem hp
  rwa [List.getElem_zip]at this
theorem rowAt_atom {rows atoms:List Rw}{i:Nat}{r:Rw}(h:atoms[i]? =some r):rowAt rows atoms ((rows.length+i+1:Nat):Int)=r:=by
 unfold rowAt;rw [List.getD_eq_getElem?_getD,Int.toNat_natCast,Nat.add_sub_cancel,List.getElem?_append_right (by omega),Nat.add_sub_cancel_left,h];rfl
theorem rowAt_row {rows atoms:List Rw}{p:Nat}(h:p<rows.length):rowAt rows atoms ((p+1:Nat):Int)=rows[p]:=by
 unfold rowAt;rw [List.getD_eq_getElem?_getD,Int.toNat_natCast,Nat.add_sub_cancel,List.getElem?_append_left h,List.getElem?_eq_getElem h];rfl
theorem allR_ok {n:Nat}{rows atoms:List Rw}{B:Bds}(h12:n≤12)(hr:∀r∈rows,RowOK r (n:Int))(hb:BdOK rows.length n atoms B):∀r∈allR rows n B,RowOK r (n:Int):=fun r h=>by
 unfold allR at h
 rcases List.mem_append.1 h with h | h
 ·exact hr r h
 ·obtain ⟨b,hm,rfl⟩:=List.mem_map.1 h
  obtain⟨k,s,_,_,hg⟩:=mem_bRows.1 hm;obtain⟨k',sg,z,i,h1,_⟩:=hb.b _ (bGet_mem hg);exact limit_ok h12 h1
theorem bRow_of {n:Nat}{rows atoms:List Rw}{B:Bds}(hb:BdOK rows.length n atoms B){b:CB}(hm:b∈bRows B n):∃k sg z,∃i:Nat,IsLim n b.row k sg z∧bGet B (k:Int) sg=some b∧b.id=((rows.length+i+1:Nat):Int)∧atoms[i]? =some b.row:=by
 obtain⟨k,s,h1,h2,hg⟩:=mem_bRows.1 hm;obtain⟨k',sg,z,i,h3,h4,h5,h6⟩:=hb.b _ (bGet_mem hg);have e:k=k'∧s=sg:=by
  have:=Prod.mk.inj h4;exact⟨by omega,this.2⟩
 obtain⟨rfl,rfl⟩:=e;exact⟨k,s,z,i,h3,hg,h5,h6⟩
theorem floorQ_le (q:Rat):((floorQ q:Int):Rat)≤q:=by
 unfold floorQ;rw [← Rat.floor_def];exact Rat.floor_le q
theorem lt_floorQ (q:Rat):q<((floorQ q:Int):Rat)+1:=by
 unfold floorQ;rw [← Rat.floor_def];have:=Rat.lt_floor_add_one q;rw [Rat.intCast_add]at this;exact this
theorem openK_some {ints:List Bool}{pt:List Rat}{k:Nat}(h:openK ints pt=some k):k<ints.length∧ints.getD k false=true∧(pt.getD k 0).den≠1:=by
 have h1:=List.find?_some h;have h2:=List.mem_of_find?_eq_some h;rw [Bool.and_eq_true]at h1;exact⟨List.mem_range.1 h2,h1.1,by simpa using h1.2⟩
theorem allI_row {m n p:Nat}{B:Bds}(hp:p<m):(allI m n B)[p]? =some ((p+1:Nat):Int):=by
 unfold allI;rw [List.getElem?_append_left (by simpa using hp)]
 simp [hp]
theorem allI_bd {m n p:Nat}{B:Bds}(hp:m≤p):(allI m n B)[p]? =((bRows B n)[p-m]?).map CB.id:=by
 unfold allI;rw [List.getElem?_append_right (by simpa using hp)]
 simp
theorem snd_no {lp:List Rw→LP}{rows:List Rw}{ints:List Bool}{s:CSt}{B:Bds}{l:List Rat}(hlp:LPok ints.length lp)(h12:ints.length≤12)(h40:rows.length≤40)(hr:∀r∈rows,RowOK r (ints.length:Int))(ha:AtOK rows.length ints.length s.atoms)(hb:BdOK rows.length ints.length s.atoms B)(hl:lp (allR rows ints.length B)= .no l)(st:List CStep)(hst:st≠ []):
  Snd rows ints s B ⟨2,(sortP (pairsF l (allI rows.length ints.length B))).map (·.1),{s with steps:=st}⟩:=by
 have hbl:=bRows_len (B:=B) ints.length;have hRl:(allR rows ints.length B).length=rows.length+(bRows B ints.length).length:=by simp [allR]
 have hIl:(allI rows.length ints.length B).length=rows.length+(bRows B ints.length).length:=by simp [allI]
 obtain⟨h1,-,h3⟩:=hlp.no _ l (by omega) (allR_ok h12 hr hb) hl
 have mem:∀y,y∈(sortP (pairsF l (allI rows.length ints.length B))).map (·.1)↔∃p,∃(h1:p<l.length) (h2:p<(allI rows.length ints.length B).length),l[p]≠0∧y= -(allI rows.length ints.length B)[p]:=fun y=>by
  rw [List.mem_map]
  constructor
  ·rintro ⟨x,hx,rfl⟩
   rw [mem_sortP,mem_pairsF]at hx;obtain⟨p,g1,g2,g3,rfl⟩:=hx;exact⟨p,g1,g2,g3,rfl⟩
  ·rintro ⟨p,g1,g2,g3,rfl⟩
   exact⟨_,mem_sortP.2 (mem_pairsF.2 ⟨p,g1,g2,g3,rfl⟩),rfl⟩
 have idAt:∀p (h2:p<(allI rows.length ints.length B).length),∃id:Nat,(allI rows.length ints.length B)[p]=(id:Int)∧1≤id∧(id≤rows.length∨∃b∈bRows B ints.length,b.id=(id:Int))∧rowAt rows s.atoms (id:Int)=(allR rows ints.length B).getD p nilRw:=fun p h2=>by
  by_cases hp:p<rows.length
  ·refine ⟨p+1,?_,by omega,.inl (by omega),?_⟩
   ·exact (List.getElem?_eq_some_iff.1 (allI_row hp)).2
   ·rw [rowAt_row hp]
    unfold allR;rw [List.getD_eq_getElem?_getD,List.getElem?_append_left hp,List.getElem?_eq_getElem hp];rfl
  ·have hq:p-rows.length<(bRows B ints.length).length:=by omega
   obtain⟨k,sg,z,i,g1,g2,g3,g4⟩:=bRow_of hb (List.getElem_mem hq);refine⟨rows.length+i+1,?_,by omega,.inr ⟨_,List.getElem_mem hq,g3⟩,?_⟩
   ·rw [← g3]
    exact(List.getElem?_eq_some_iff.1 ((allI_bd (by omega)).trans (by rw [List.getElem?_eq_getElem hq];rfl))).2
   ·rw [rowAt_atom g4]
    unfold allR;rw [List.getD_eq_getElem?_getD,List.getElem?_append_right (by omega),List.getElem?_map,List.getElem?_eq_getElem hq];rfl
 refine⟨⟨[],by simp⟩,ha,.inr (.inl rfl),fun h=>(by cases h),fun _ _ y hy=> ?_,fun _ _ x _ hx=> ?_,fun _ _=>hst⟩
 ·obtain ⟨p,g1,g2,_,rfl⟩:=(mem y).1 hy
  obtain⟨id,e,e1,e2,_⟩:=idAt p g2;exact⟨id,by rw [e],e1,e2⟩
 ·refine h3 x fun p hp h0=> ?_
  have g1:p<l.length:=by omega
  have g2:p<(allI rows.length ints.length B).length:=by omega
  obtain⟨id,e,e1,_,e3⟩:=idAt p g2;rw [← e3];have h0':l[p]≠0:=by rwa [List.getD_eq_getElem?_getD,List.getElem?_eq_getElem g1]at h0
  have:=hx (-(allI rows.length ints.length B)[p]) ((mem _).2 ⟨p,g1,g2,h0',rfl⟩)
  rwa [Int.neg_neg,e]at this
theorem withB_ok {m n:Nat}{atoms t:List Rw}{B:Bds}{k:Nat}{sg z:Int}{r:Rw}{i:Nat}(hb:BdOK m n atoms B)(hr:IsLim n r k sg z)(hi:(atoms++t)[i]? =some r):BdOK m n (atoms++t) (withB B (k:Int) sg ⟨r,((m+i+1:Nat):Int)⟩):=⟨fun x hx=>by
 unfold withB at hx
 rcases List.mem_cons.1 hx with rfl | hx
 ·exact ⟨k,sg,z,i,hr,rfl,rfl,hi⟩
 ·exact (hb.more (t:=t)).b x (List.mem_filter.1 hx).1⟩
theorem ids_with {n:Nat}{B:Bds}{k:Nat}{sg:Int}{b0:CB}{id:Int}(h:∃b∈bRows (withB B (k:Int) sg b0) n,b.id=id):id=b0.id∨∃b∈bRows B n,b.id=id:=by
 obtain⟨b,hb,rfl⟩:=h;obtain⟨k',s',h1,h2,hg⟩:=mem_bRows.1 hb;rw [bGet_with]at hg
 split at hg
 ·left;cases hg;rfl
 ·exact .inr ⟨b,mem_bRows.2 ⟨k',s',h1,h2,hg⟩,rfl⟩
theorem rowAt_more {rows atoms t:List Rw}{id:Nat}(h:id≤rows.length+atoms.length)(h1:1≤id):rowAt rows (atoms++t) (id:Int)=rowAt rows atoms (id:Int):=by
 unfold rowAt;rw [← List.append_assoc,List.getD_eq_getElem?_getD,List.getD_eq_getElem?_getD,Int.toNat_natCast,List.getElem?_append_left (by rw [List.length_append];omega)]
theorem Snd.lift {rows:List Rw}{ints:List Bool}{s s':CSt}{B B':Bds}{r:CRes}(h:Snd rows ints s' B' r)(hm:∃t,s'.atoms=s.atoms++t)(hi:r.st=2→r.s.much=false→∀l∈r.c,∀id:Nat,l= -(id:Int)→(∃b∈bRows B' ints.length,b.id=(id:Int))→∃b∈bRows B ints.length,b.id=(id:Int)):Snd rows ints s B r:=by
 obtain⟨t,ht⟩:=hm;obtain⟨t',ht'⟩:=h.more;refine⟨⟨t++t',by rw [ht',ht,List.append_assoc]⟩,h.ok,h.st,h.yes,fun h2 hm l hl=> ?_,h.no,h.stp⟩
 obtain⟨id,e,h1,h3⟩:=h.ids h2 hm l hl;refine⟨id,e,h1,?_⟩
 rcases h3 with h3 | h3
 ·exact .inl h3
 ·exact .inr (hi h2 hm l hl id e h3)
theorem snd_branch {rows:List Rw}{ints:List Bool}{rc:CSt→Bds→CRes}{s:CSt}{B:Bds}{k:Nat}{pt:List Rat}(ha:AtOK rows.length ints.length s.atoms)(hb:BdOK rows.length ints.length s.atoms B)
  (hk:k<ints.length) (hki:ints.getD k false=true) (hkw:(pt.getD k 0).den≠1) (hpt:∀r∈allR rows ints.length B,AtPt r ints.length fun j=>pt.getD j 0)
  (hrc:∀s B,AtOK rows.length ints.length s.atoms→BdOK rows.length ints.length s.atoms B→Snd rows ints s B (rc s B)):
  Snd rows ints s B (branchF rows.length rc s B k (floorQ (pt.getD k 0))):=by
 have hf1:=floorQ_le (pt.getD k 0);have hf2:=lt_floorQ (pt.getD k 0);have hfne:pt.getD k 0≠((floorQ (pt.getD k 0):Int):Rat):=fun e=>hkw (by rw [e];exact Rat.den_intCast _)
 generalize hz:floorQ (pt.getD k 0)=z at *;unfold branchF
 split
 ·exact ⟨⟨[],by simp⟩,ha,.inr (.inl rfl),fun h=>(by cases h),fun _ h=>(by cases h),fun _ h=>(by cases h),fun _ h=>(by cases h)⟩
 ·rename_i hbad
  have hz1:fitI z:=by unfold fitI;omega
  have hz2:fitI (-z-1):=by unfold fitI;omega
  have hcap:rows.length+s.atoms.length+2≤120:=by omega
  clear hbad;have hlo:IsLim ints.length (limitR k 1 z) k 1 z:=⟨hk,.inl rfl,rfl,hz1⟩;have hhi:IsLim ints.length (limitR k (-1) (-z-1)) k (-1) (-z-1):=⟨hk,.inr rfl,rfl,hz2⟩;obtain⟨i,a1,a2,⟨ta,a3,a3'⟩,a4,_⟩:=atomF_spec hlo ha (by omega)
  obtain⟨j,b1,b2,⟨tb,b3,b3'⟩,b4,_⟩:=atomF_spec hhi a4 (by rw [a3,List.length_append];omega)
  simp only;generalize hA:atomF rows.length s (limitR k 1 z)=A at *;generalize hC:atomF rows.length A.2 (limitR k (-1) (-z-1))=C at *;rw [a1,b1];obtain⟨s3,hs3⟩:∃s3:CSt,s3= {C.2 with steps:=C.2.steps++ [(⟨6,[min ((rows.length+i+1:Nat):Int) ((rows.length+j+1:Nat):Int),max ((rows.length+i+1:Nat):Int) ((rows.length+j+1:Nat):Int)],[],noRw⟩:CStep)]}:=⟨_,rfl⟩
  have hs3a:s3.atoms=C.2.atoms:=by rw [hs3]
  rw [← hs3];have hm3:s3.atoms=s.atoms++(ta++tb):=by rw [hs3a,b3,a3,List.append_assoc]
  have hok3:AtOK rows.length ints.length s3.atoms:=by rw [hs3a];exact b4
  have ha3:s3.atoms[i]? =some (limitR k 1 z):=by
   rw [hs3a,b3,List.getElem?_append_left (List.getElem?_eq_some_iff.1 a2).1];exact a2
  have hb3:s3.atoms[j]? =some (limitR k (-1) (-z-1)):=by rw [hs3a];exact b2
  have hB1:BdOK rows.length ints.length s3.atoms (withB B (k:Int) 1 ⟨limitR k 1 z,((rows.length+i+1:Nat):Int)⟩):=by
   rw [hm3]at ha3 ⊢;exact withB_ok hb hlo ha3
  have hr:=hrc _ _ hok3 hB1;generalize hR:rc s3 (withB B (k:Int) 1 ⟨limitR k 1 z,((rows.length+i+1:Nat):Int)⟩)=r at*
  split
  ·rename_i hx
   refine hr.lift ⟨_,hm3⟩ fun h2 hm l hl id e hbb=> ?_
   rcases ids_with hbb with h | h
   ·exfalso
    have hc: -((rows.length+i+1:Nat):Int)∉r.c:=by
     rcases hx with hx | hx | hx
     ·exact absurd h2 hx
     ·rw [hm]at hx;cases hx
     ·exact hx
    apply hc
    have h:(id:Int)=((rows.length+i+1:Nat):Int):=h;rw [← h,←e];exact hl
   ·exact h
  ·rename_i hx
   have hr2:r.st=2:=Classical.byContradiction fun h=>hx (.inl h)
   have hrm:r.s.much=false:=by
    cases h:r.s.much
    ·rfl
    ·exact absurd (.inr (.inl h)) hx
   obtain⟨t4,h4⟩:=hr.more;have hB2:BdOK rows.length ints.length r.s.atoms (withB B (k:Int) (-1) ⟨limitR k (-1) (-z-1),((rows.length+j+1:Nat):Int)⟩):=by
    have e:r.s.atoms=s.atoms++((ta++tb)++t4):=by rw [h4,hm3,List.append_assoc]
    have hb4:r.s.atoms[j]? =some (limitR k (-1) (-z-1)):=by
     rw [h4,List.getElem?_append_left (List.getElem?_eq_some_iff.1 hb3).1];exact hb3
    rw [e]at hb4 ⊢;exact withB_ok hb hhi hb4
   have ht:=hrc _ _ hr.ok hB2;generalize hT:rc r.s (withB B (k:Int) (-1) ⟨limitR k (-1) (-z-1),((rows.length+j+1:Nat):Int)⟩)=t at *;have hrs:∃q,r.s.atoms=s.atoms++q:=⟨(ta++tb)++t4,by rw [h4,hm3,List.append_assoc]⟩
   split
   ·rename_i hy
    refine ht.lift hrs fun h2 hm l hl id e hbb=> ?_
    rcases ids_with hbb with h | h
    ·exfalso
     have hc: -((rows.length+j+1:Nat):Int)∉t.c:=by
      rcases hy with hy | hy | hy
      ·exact absurd h2 hy
      ·rw [hm]at hy;cases hy
      ·exact hy
     apply hc
     have h:(id:Int)=((rows.length+j+1:Nat):Int):=h;rw [← h,←e];exact hl
    ·exact h
   ·rename_i hy
    have ht2:t.st=2:=Classical.byContradiction fun h=>hy (.inl h)
    have htm:t.s.much=false:=by
     cases h:t.s.much
     ·rfl
     ·exact absurd (.inr (.inl h)) hy
    obtain⟨t5,h5⟩:=ht.more;obtain⟨q,hq⟩:=hrs;have inB:∀b∈bRows B ints.length,b.row∈allR rows ints.length B:=fun b hb'=>by
     unfold allR;exact List.mem_append.2 (.inr (List.mem_map.2 ⟨b,hb',rfl⟩))
    have idRow:∀b∈bRows B ints.length,∀p:Nat,∀row,t.s.atoms[p]? =some row→b.id=((rows.length+p+1:Nat):Int)→b.row=row:=fun b hb' p row hp hid=>by
     obtain⟨k',sg,z',i',g1,g2,g3,g4⟩:=bRow_of hb hb';have:i'=p:=by rw [g3]at hid;omega
     subst this;have g5:t.s.atoms[i']? =some b.row:=by rw [h5,hq,List.append_assoc,List.getElem?_append_left (List.getElem?_eq_some_iff.1 g4).1];exact g4
     rw [g5]at hp;exact(Option.some.inj hp)
    have hat:t.s.atoms[i]? =some (limitR k 1 z):=by
     rw [h5,h4,List.append_assoc,List.getElem?_append_left (List.getElem?_eq_some_iff.1 ha3).1];exact ha3
    have hbt:t.s.atoms[j]? =some (limitR k (-1) (-z-1)):=by
     rw [h5,h4,List.append_assoc,List.getElem?_append_left (List.getElem?_eq_some_iff.1 hb3).1];exact hb3
    have noLo:∀b∈bRows B ints.length,b.row≠limitR k 1 z:=fun b hb' e=>by
     have:=hpt _ (inB b hb');rw [e,limit_at hk]at this;have:pt.getD k 0≤(z:Rat):=by
      have e1:((1:Int):Rat)=1:=rfl;rw [e1]at this;grind
     exact hfne (Rat.le_antisymm this hf1)
    have noHi:∀b∈bRows B ints.length,b.row≠limitR k (-1) (-z-1):=fun b hb' e=>by
     have:=hpt _ (inB b hb');rw [e,limit_at hk]at this;have e1:((-1:Int):Rat)= -1:=rfl;have e2:((-z-1:Int):Rat)= -(z:Rat)-1:=by rw [Rat.intCast_sub,Rat.intCast_neg];rfl
     rw [e1,e2]at this
     grind
    have mem:∀l,l∈sortD (outF ((rows.length+i+1:Nat):Int) ((rows.length+j+1:Nat):Int) (r.c++t.c) [])↔(l∈r.c∨l∈t.c)∧l≠ -((rows.length+i+1:Nat):Int)∧l≠ -((rows.length+j+1:Nat):Int):=fun l=>by
     rw [mem_sortD,mem_outF,List.mem_append];simp
    have hij:i≠j:=fun e=>by
     subst e;rw [hat]at hbt;have:=(limit_inj (.inl rfl) (.inr rfl) (Option.some.inj hbt)).2.1;omega
    have notB: -((rows.length+j+1:Nat):Int)∉r.c:=fun hm=>by
     obtain⟨id,e,_,h3⟩:=hr.ids hr2 hrm _ hm;have e:id=rows.length+j+1:=by omega
     subst e
     rcases h3 with h3 | h3
     ·omega
     ·rcases ids_with h3 with h | ⟨b,hb',h⟩
      ·have h:((rows.length+j+1:Nat):Int)=((rows.length+i+1:Nat):Int):=h
       omega
      ·exact noHi b hb' (idRow b hb' j _ hbt h)
    have notA: -((rows.length+i+1:Nat):Int)∉t.c:=fun hm=>by
     obtain⟨id,e,_,h3⟩:=ht.ids ht2 htm _ hm;have e:id=rows.length+i+1:=by omega
     subst e
     rcases h3 with h3 | h3
     ·omega
     ·rcases ids_with h3 with h | ⟨b,hb',h⟩
      ·have h:((rows.length+i+1:Nat):Int)=((rows.length+j+1:Nat):Int):=h
       omega
      ·exact noLo b hb' (idRow b hb' i _ hat h)
    have valid:∀(C:Bds) (w:CRes) (s':CSt),Snd rows ints s' C w→BdOK rows.length ints.length w.s.atoms C→w.st=2→w.s.much=false→∀l∈w.c,∃id:Nat,l= -(id:Int)∧1≤id∧id≤rows.length+w.s.atoms.length:=fun C w s' hw hC h2 hm l hl=>by
     obtain⟨id,e,h1,h3⟩:=hw.ids h2 hm l hl;refine⟨id,e,h1,?_⟩
     rcases h3 with h3 | ⟨b,hb',h3⟩
     ·omega
     ·obtain ⟨_,_,_,i',_,_,g3,g4⟩:=bRow_of hC hb'
      have:=(List.getElem?_eq_some_iff.1 g4).1;omega
    refine⟨⟨q++t5,by rw [h5,hq,List.append_assoc]⟩,ht.ok,.inr (.inl rfl),fun h=>(by cases h),fun _ _ l hl=> ?_,fun _ _ x hM hall=> ?_,fun _ _=>by simp⟩
    ·obtain ⟨hl1,hl2,hl3⟩:=(mem l).1 hl
     rcases hl1 with hl1 | hl1
     ·obtain ⟨id,e,h1,h3⟩:=hr.ids hr2 hrm l hl1
      refine⟨id,e,h1,?_⟩
      rcases h3 with h3 | h3
      ·exact .inl h3
      ·rcases ids_with h3 with h | h
       ·have h:(id:Int)=((rows.length+i+1:Nat):Int):=h
        exact absurd (by rw [e,h]) hl2
       ·exact .inr h
     ·obtain ⟨id,e,h1,h3⟩:=ht.ids ht2 htm l hl1
      refine⟨id,e,h1,?_⟩
      rcases h3 with h3 | h3
      ·exact .inl h3
      ·rcases ids_with h3 with h | h
       ·have h:(id:Int)=((rows.length+j+1:Nat):Int):=h
        exact absurd (by rw [e,h]) hl3
       ·exact .inr h
    ·have hall:∀l,(l∈r.c∨l∈t.c)→l≠ -((rows.length+i+1:Nat):Int)→l≠ -((rows.length+j+1:Nat):Int)→AtPt (rowAt rows t.s.atoms (-l)) ints.length x:=fun l h1 h2 h3=>hall l ((mem l).2 ⟨h1,h2,h3⟩)
     obtain⟨y,hy⟩:=hM k hk hki
     by_cases hyz:y≤z
     ·refine hr.no hr2 hrm x hM fun l hl=> ?_
      obtain⟨id,e,h1,h3⟩:=valid _ r s3 hr (by rw [h4];exact hB1.more) hr2 hrm l hl
      have er:rowAt rows t.s.atoms (-l)=rowAt rows r.s.atoms (-l):=by
       rw [e,Int.neg_neg,h5,rowAt_more h3 h1]
      rw [← er]
      by_cases e1:l= -((rows.length+i+1:Nat):Int)
      ·rw [e1,Int.neg_neg,rowAt_atom hat,limit_at hk,hy]
       have:(y:Rat)≤(z:Rat):=Rat.intCast_le_intCast.2 hyz;have e1:((1:Int):Rat)=1:=rfl;rw [e1];grind
      ·exact hall l (.inl hl) e1 fun e2=>notB (by rw [← e2];exact hl)
     ·refine ht.no ht2 htm x hM fun l hl=> ?_
      by_cases e1:l= -((rows.length+j+1:Nat):Int)
      ·rw [e1,Int.neg_neg,rowAt_atom hbt,limit_at hk,hy]
       have:((z+1:Int):Rat)≤(y:Rat):=Rat.intCast_le_intCast.2 (by omega)
       rw [Rat.intCast_add]at this;have e1:((-1:Int):Rat)= -1:=rfl;have e2:((-z-1:Int):Rat)= -(z:Rat)-1:=by rw [Rat.intCast_sub,Rat.intCast_neg];rfl
       have e3:((1:Int):Rat)=1:=rfl;rw [e1,e2];grind
      ·exact hall l (.inr hl) (fun e2=>notA (by rw [← e2];exact hl)) e1
theorem snd_at {lp:List Rw→LP}{rows:List Rw}{ints:List Bool}(hlp:LPok ints.length lp)(h12:ints.length≤12)(h40:rows.length≤40)(hr:∀r∈rows,RowOK r (ints.length:Int)):∀d s B,AtOK rows.length ints.length s.atoms→BdOK rows.length ints.length s.atoms B→Snd rows ints s B (atF lp rows ints d s B)
 | 0,s,B,ha,hb=>⟨⟨[],by simp [atF]⟩,ha,.inr (.inr rfl),fun h=>(by cases h),fun h=>(by cases h),fun h=>(by cases h),fun h=>(by cases h)⟩
 | d+1,s,B,ha,hb=>by
  unfold atF
  split
  ·exact ⟨⟨[],by simp⟩,ha,.inr (.inr rfl),fun h=>(by cases h),fun h=>(by cases h),fun h=>(by cases h),fun h=>(by cases h)⟩
  ·obtain ⟨s',hs'⟩:∃s':CSt,s'= {s with fuel:=s.fuel-1}:=⟨_,rfl⟩
   have ea:s'.atoms=s.atoms:=by rw [hs']
   rw [← hs'];have ha':AtOK rows.length ints.length s'.atoms:=by rw [ea];exact ha
   have hb':BdOK rows.length ints.length s'.atoms B:=by rw [ea];exact hb
   refine Snd.lift (s':=s') (B':=B) ?_ ⟨[],by simp [ea]⟩ fun _ _ _ _ _ _ h=>h
   have hbl:=bRows_len (B:=B) ints.length;have hRl:(allR rows ints.length B).length=rows.length+(bRows B ints.length).length:=by simp [allR]
   unfold stepF
   split
   ·exact ⟨⟨[],by simp⟩,ha',.inr (.inr rfl),fun h=>(by cases h),fun h=>(by cases h),fun h=>(by cases h),fun h=>(by cases h)⟩
   ·rename_i l hl
    split
    ·exact snd_no hlp h12 h40 hr ha' hb' hl _ (by simp)
    ·exact ⟨⟨[],by simp⟩,ha',.inr (.inl rfl),fun h=>(by cases h),fun _ h=>(by cases h),fun _ h=>(by cases h),fun _ h=>(by cases h)⟩
   ·rename_i pt hpt
    obtain⟨g1,g2⟩:=hlp.yes _ pt (by omega) (allR_ok h12 hr hb') hpt
    split
    ·rename_i hn
     refine⟨⟨[],by simp⟩,ha',.inl rfl,fun _ hm=>⟨pt,g1,hn,fun r hr'=>g2 r (List.mem_append.2 (.inl hr')),rfl,?_⟩,fun h=>(by cases h),fun h=>(by cases h),fun h=>(by cases h)⟩
     have hm:(s'.much || !allFit pt pt.length)=false:=hm
     rw [Bool.or_eq_false_iff]at hm
     simpa using hm.2
    ·rename_i k hk
     obtain⟨k1,k2,k3⟩:=openK_some hk;exact snd_branch ha' hb' k1 k2 k3 g2 fun s B h1 h2=>snd_at hlp h12 h40 hr d s B h1 h2
structure CutR where
 st:Int
 pt:List Fq
 steps:List CStep
 f:Int × Int
def cutG (lp:List Rw→LP)(rows:List Rw)(ints:List Bool)(fuel:Nat):CutR:=
 let r:=atF lp rows ints (fuel+1) ⟨fuel,[],[],[],false⟩ []
 if r.s.much=true∨3000<r.s.steps.length then⟨0,[],[],(10,0)⟩else
 if r.st=1 then⟨1,r.s.point,[],(0,0)⟩else
 if r.st=2 then⟨2,[],r.s.steps,(0,0)⟩else⟨3,[],[],(0,0)⟩
theorem atOK_nil {m n:Nat}(h:m≤40):AtOK m n []:=⟨by simp,by simp,by simp;omega⟩
theorem bdOK_nil {m n:Nat}{atoms:List Rw}:BdOK m n atoms []:=⟨by simp⟩
theorem bRows_nil:∀n,bRows [] n= []
 | 0=>rfl
 | n+1=>by
  simp only [bRows];rw [bRows_nil n];rfl
theorem cut_told {lp:List Rw→LP}{rows:List Rw}{ints:List Bool}(hlp:LPok ints.length lp)(h12:ints.length≤12)(h40:rows.length≤40)(hr:∀r∈rows,RowOK r (ints.length:Int))(fuel:Nat):
  cutG lp rows ints fuel=⟨0,[],[],(10,0)⟩∨cutG lp rows ints fuel=⟨3,[],[],(0,0)⟩∨
  (∃pt:List Rat,cutG lp rows ints fuel=⟨1,pt.map fqOf,[],(0,0)⟩∧pt.length=ints.length∧allFit pt pt.length=true∧openK ints pt=none∧∀r∈rows,AtPt r ints.length fun j=>pt.getD j 0)∨
  (∃st:List CStep,cutG lp rows ints fuel=⟨2,[],st,(0,0)⟩∧st≠ []∧∀x,Mix ints x→(∀r∈rows,AtPt r ints.length x)→False):=by
 have h:=snd_at hlp h12 h40 hr (fuel+1) ⟨fuel,[],[],[],false⟩ [] (atOK_nil h40) bdOK_nil;unfold cutG;simp only;generalize atF lp rows ints (fuel+1) ⟨fuel,[],[],[],false⟩ []=r at*
 by_cases hm:r.s.much=true∨3000<r.s.steps.length
 ·rw [if_pos hm];exact .inl rfl
 ·rw [if_neg hm]
  have hm:r.s.much=false:=by
   cases h:r.s.much
   ·rfl
   ·exact absurd (.inl h) hm
  rcases h.st with h1 | h1 | h1
  ·rw [if_pos h1]
   obtain⟨pt,g1,g2,g3,g4,g5⟩:=h.yes h1 hm;exact .inr (.inr (.inl ⟨pt,by rw [g4],g1,g5,g2,g3⟩))
  ·rw [if_neg (by omega),if_pos h1]
   refine .inr (.inr (.inr ⟨_,rfl,h.stp h1 hm,fun x hx hall=>h.no h1 hm x hx fun l hl=> ?_⟩))
   obtain⟨id,e,e1,e2⟩:=h.ids h1 hm l hl
   rcases e2 with e2 | ⟨b,hb,_⟩
   ·obtain ⟨p,rfl⟩:∃p,id=p+1:=⟨id-1,by omega⟩
    rw [e,Int.neg_neg,rowAt_row (by omega)]
    exact hall _ (List.getElem_mem _)
   ·rw [bRows_nil]at hb;cases hb
  ·rw [if_neg (by omega),if_neg (by omega)]
   exact .inr (.inl rfl)
theorem allR_nil (rows:List Rw)(n:Nat):allR rows n []=rows:=by unfold allR;rw [bRows_nil];simp
theorem cut_root_no {lp:List Rw→LP}{rows:List Rw}{ints:List Bool}{fuel:Nat}{l:List Rat}(h:lp rows= .no l)(ha:allFit l l.length=true)(hf:0<fuel):(cutG lp rows ints fuel).st=2∧(cutG lp rows ints fuel).f=(0,0):=by
 have e:∃c st,atF lp rows ints (fuel+1) ⟨fuel,[],[],[],false⟩ []=⟨2,c,⟨fuel-1,[],[st],[],false⟩⟩:=by
  unfold atF;rw [if_neg (by simp only;omega)]
  unfold stepF;rw [allR_nil,h];simp only;rw [if_pos ha];exact⟨_,_,rfl⟩
 obtain⟨c,st,e⟩:=e;unfold cutG;rw [e];exact⟨rfl,rfl⟩
theorem cut_root_yes {lp:List Rw→LP}{rows:List Rw}{ints:List Bool}{fuel:Nat}{pt:List Rat}(h:lp rows= .yes pt)(ha:allFit pt pt.length=true)(hi:∀k,k<ints.length→ints.getD k false=false)(hf:0<fuel):cutG lp rows ints fuel=⟨1,pt.map fqOf,[],(0,0)⟩:=by
 have ho:openK ints pt=none:=List.find?_eq_none.2 fun i hi'=>by rw [hi i (List.mem_range.1 hi')];simp
 have e:atF lp rows ints (fuel+1) ⟨fuel,[],[],[],false⟩ []=⟨1,[],⟨fuel-1,[],[],pt.map fqOf,false⟩⟩:=by
  unfold atF;rw [if_neg (by simp only;omega)]
  unfold stepF;rw [allR_nil,h];simp only;rw [ho];simp only;rw [ha];rfl
 unfold cutG;rw [e];rfl
def lpT (n f:Nat)(R:List Rw):LP:=match TS.feas f (TS.start n R)with
 | .hungry=> .hungry
 | .no l=> .no l
 | .yes T=> .yes (T.ptK T.n)
theorem no_pt {rows:List Rw}{N:Nat}{t x:Nat→Rat}(hk:∀r∈rows,r.kind=1∨r.kind=2∨r.kind=3)(hsign:∀p,p<rows.length→(rows.getD p nilRw).kind≠3→0≤t p)(hcol:∀k,k<N→(sQ rows.length fun p=>t p*(rowA rows p k:Rat))=0)
  (hneg:(sQ rows.length fun p=>t p*((rows.getD p nilRw).to:Rat))<0∨(sQ rows.length fun p=>t p*((rows.getD p nilRw).to:Rat))=0∧∃p,p<rows.length∧(rows.getD p nilRw).kind=2∧t p≠0)
  (hx:∀p,p<rows.length→t p≠0→AtPt (rows.getD p nilRw) N x):False:=by
 have e0:(sQ rows.length fun p=>t p*sQ N fun j=>(rowA rows p j:Rat)*x j)=0:=by
  have e1:∀p,p<rows.length→t p*(sQ N fun j=>(rowA rows p j:Rat)*x j)=sQ N fun j=>x j*(t p*(rowA rows p j:Rat)):=by
   intro p _;rw [← sQ_mul];refine sQ_congr N fun j _=> ?_
   grind
  rw [sQ_congr _ e1,sumSwap];refine sQ_zeros N fun j hj=> ?_
  rw [sQ_mul,hcol j hj,Rat.mul_zero]
 have hle:∀p,p<rows.length→t p*(sQ N fun j=>(rowA rows p j:Rat)*x j)≤t p*((rows.getD p nilRw).to:Rat):=by
  intro p hp
  by_cases h0:t p=0
  ·rw [h0];grind
  obtain⟨a1,a2,a3⟩:=hx p hp h0;have hk:=hk _ (List.getElem_mem hp);rw [← rowD hp]at hk
  by_cases h3:(rows.getD p nilRw).kind=3
  ·have:=a3 h3
   unfold rowA;rw [this];exact Rat.le_refl
  ·refine Rat.mul_le_mul_of_nonneg_left ?_ (hsign p hp h3)
   rcases hk with hk | hk | hk
   ·exact a1 hk
   ·exact Rat.le_of_lt (a2 hk)
   ·exact absurd hk h3
 have hs:=sumLe _ hle;rw [e0]at hs
 rcases hneg with h3 | ⟨h3,p,hp,hk2,h0⟩
 ·grind
 ·have hpos:0<t p:=by
   have:=hsign p hp (by omega)
   grind
  have hlt:=(hx p hp h0).2.1 hk2;have:=sumLt _ hp hle (Rat.mul_lt_mul_of_pos_left hlt hpos);rw [e0]at this
  grind
theorem lp_ok {n:Nat}(hn:n≤12)(f:Nat):LPok n (lpT n f):=by
 refine⟨fun R pt h64 hok h=> ?_,fun R l h64 hok h=> ?_⟩
 ·have h0:=start_inv hn h64 hok
  unfold lpT at h
  rcases hf:TS.feas f (TS.start n R)with T | l | _
  ·rw [hf]at h
   obtain rfl:T.ptK T.n=pt:=by cases h;rfl
   obtain⟨hI,hb⟩:=feas_yes f _ T h0 hf;have hn:=hI.hn;refine⟨by rw [ptK_len,hn],fun r hr=> ?_⟩
   obtain⟨i,hi,rfl⟩:=List.getElem_of_mem hr;have:=yes_holds hI hb hi;unfold rowA at this;rw [rowD hi]at this;have e:(sQ n fun j=>((R[i]).of.getD j 0:Rat)*(T.ptK T.n).getD j 0)=sQ n fun j=>((R[i]).of.getD j 0:Rat)*T.ptQ j:=sQ_congr n fun j hj=>by
    congr 1
    unfold TS.ptK;rw [List.getD_eq_getElem?_getD,List.getElem?_map,List.getElem?_range (by omega)];rfl
   unfold AtPt;rw [e];exact this
  ·rw [hf]at h;cases h
  ·rw [hf]at h;cases h
 ·have h0:=start_inv hn h64 hok
  unfold lpT at h
  rcases hf:TS.feas f (TS.start n R)with T | l' | _
  ·rw [hf]at h;cases h
  ·rw [hf]at h
   obtain rfl:l'=l:=by cases h;rfl
   obtain⟨T,b,way,hI,hB,hE,hl⟩:=feas_no f _ l' h0 hf;have hlen:l'.length=R.length:=by rw [hl,refK_len,hI.hr]
   obtain⟨h1,h2,h3⟩:=no_refutes hI hB hE (fun p=>l'.getD p 0) (fun p hp=>by rw [hl])
   refine⟨hlen,?_,fun x hx=>no_pt (fun r hr=>(hok r hr).kind) h1 h2 h3 hx⟩
   rcases h3 with h3 | ⟨_,p,hp,_,h0⟩
   ·refine Classical.byContradiction fun hn=> ?_
    have:(sQ R.length fun p=>l'.getD p 0*((R.getD p nilRw).to:Rat))=0:=sQ_zeros _ fun p hp=>by
     have:l'.getD p 0=0:=Classical.byContradiction fun h=>hn ⟨p,hp,h⟩
     rw [this,Rat.zero_mul]
    rw [this]at h3;exact absurd h3 (by decide)
   ·exact ⟨p,hp,h0⟩
  ·rw [hf]at h;cases h
theorem nodup_below:∀(N:Nat) (l:List Nat),l.Nodup→(∀x∈l,x<N)→l.length≤N
 | 0,l,_,h=>by
  rcases l with _ | ⟨x,l⟩
  ·simp
  ·exact absurd (h x List.mem_cons_self) (by omega)
 | N+1,l,hn,h=>by
  have h1:=nodup_below N (l.erase N) (hn.erase N) fun x hx=>by
   have:=(hn.mem_erase_iff).1 hx;have:=h x this.2;omega
  rw [List.length_erase]at h1
  split at h1<;>omega
theorem ids_below {l:List Int}(h:l.Nodup)(hb:∀x∈l,∃id:Nat,x= -(id:Int)∧id≤120):l.length≤121:=by
 have h1:(l.map fun x=>(-x).toNat).Nodup:=by
  rw [List.nodup_iff_pairwise_ne,List.pairwise_map];rw [List.nodup_iff_pairwise_ne]at h;refine List.Pairwise.imp_of_mem (fun {a b} ha hb' hne e=> ?_) h
  obtain⟨i,hi,_⟩:=hb a ha;obtain⟨j,hj,_⟩:=hb b hb';omega
 have:=nodup_below 121 _ h1 fun x hx=>by
  obtain⟨y,hy,rfl⟩:=List.mem_map.1 hx;obtain⟨i,hi,hi'⟩:=hb y hy;omega
 simpa using this
theorem outF_nodup (a b:Int):∀(l o:List Int),o.Nodup→(outF a b l o).Nodup
 | [],o,h=>h
 | x::l,o,h=>by
  unfold outF;refine outF_nodup a b l _ ?_
  by_cases hx:x≠ -a∧x≠ -b∧x∉o
  ·rw [if_pos hx,List.nodup_append]
   exact⟨h,by simp,fun y hy z hz=>by rw [List.mem_singleton.1 hz];rintro rfl;exact hx.2.2 hy⟩
  ·rw [if_neg hx];exact h
theorem insD_len (x:Int):∀l,(insD x l).length=l.length+1
 | []=>rfl
 | y::l=>by unfold insD;split<;>simp [insD_len x l]
theorem sortD_len:∀l,(sortD l).length=l.length
 | []=>rfl
 | x::l=>by unfold sortD;rw [insD_len,sortD_len l];rfl
theorem insP_len (x:Int × Fq):∀l,(insP x l).length=l.length+1
 | []=>rfl
 | y::l=>by unfold insP;split<;>simp [insP_len x l]
theorem sortP_len:∀l,(sortP l).length=l.length
 | []=>rfl
 | x::l=>by unfold sortP;rw [insP_len,sortP_len l];rfl
theorem pairs_len (times:List Rat)(ids:List Int):(pairsF times ids).length≤times.length:=by
 unfold pairsF;rw [List.length_map];refine Nat.le_trans (List.length_filter_le _ _) ?_;rw [List.length_zip];omega
structure Wk (s:CSt)(r:CRes):Prop where
 phi:max r.s.steps.length 3000+2*r.s.fuel≤max s.steps.length 3000+2*s.fuel
 len:r.st=2→r.s.much=false→r.c.length≤200
 fl:r.s.fuel≤s.fuel
theorem Snd.idb {rows:List Rw}{ints:List Bool}{s:CSt}{B:Bds}{r:CRes}(h:Snd rows ints s B r)(h40:rows.length≤40)(hb:BdOK rows.length ints.length r.s.atoms B)(h2:r.st=2)(hm:r.s.much=false):∀l∈r.c,∃id:Nat,l= -(id:Int)∧id≤120:=fun l hl=>by
 obtain⟨id,e,_,h1⟩:=h.ids h2 hm l hl;refine⟨id,e,?_⟩
 rcases h1 with h1 | ⟨b,hbm,he⟩
 ·omega
 ·obtain ⟨k,sg,z,i,_,_,h3,h4⟩:=bRow_of hb hbm
  have:=(List.getElem?_eq_some_iff.1 h4).1;have:=h.ok.cap;omega
theorem atomF_len (m:Nat)(s:CSt)(r:Rw):(atomF m s r).2.steps.length≤s.steps.length+1:=by
 unfold atomF
 split
 ·simp
 ·simp
structure WkB (s:CSt)(r:CRes):Prop where
 phi:max r.s.steps.length 3000+2*r.s.fuel≤max s.steps.length 3000+2*s.fuel+1
 len:r.st=2→r.s.much=false→r.c.length≤200
 fl:r.s.fuel≤s.fuel
theorem wk_branch {rows:List Rw}{ints:List Bool}{rc:CSt→Bds→CRes}{s:CSt}{B:Bds}{k:Nat}{z:Int}(h40:rows.length≤40)(ha:AtOK rows.length ints.length s.atoms)(hb:BdOK rows.length ints.length s.atoms B)(hk:k<ints.length)
  (hrc:∀s B,AtOK rows.length ints.length s.atoms→BdOK rows.length ints.length s.atoms B→Snd rows ints s B (rc s B)∧Wk s (rc s B)):
  WkB s (branchF rows.length rc s B k z):=by
 unfold branchF
 split
 ·exact ⟨by simp only;omega,fun _ h=>(by cases h),Nat.le_refl _⟩
 ·rename_i hbad
  have hz1:fitI z:=by unfold fitI;omega
  have hz2:fitI (-z-1):=by unfold fitI;omega
  have hcap:rows.length+s.atoms.length+2≤120:=by omega
  have hst:s.steps.length≤2992:=by omega
  clear hbad;have hlo:IsLim ints.length (limitR k 1 z) k 1 z:=⟨hk,.inl rfl,rfl,hz1⟩;have hhi:IsLim ints.length (limitR k (-1) (-z-1)) k (-1) (-z-1):=⟨hk,.inr rfl,rfl,hz2⟩;obtain⟨i,a1,a2,⟨ta,a3,a3'⟩,a4,a5,_⟩:=atomF_spec hlo ha (by omega)
  obtain⟨j,b1,b2,⟨tb,b3,b3'⟩,b4,b5,_⟩:=atomF_spec hhi a4 (by rw [a3,List.length_append];omega)
  have l1:=atomF_len rows.length s (limitR k 1 z);have l2:=atomF_len rows.length (atomF rows.length s (limitR k 1 z)).2 (limitR k (-1) (-z-1));simp only;generalize hA:atomF rows.length s (limitR k 1 z)=A at *;generalize hC:atomF rows.length A.2 (limitR k (-1) (-z-1))=C at *;rw [a1,b1];obtain⟨s3,hs3⟩:∃s3:CSt,s3= {C.2 with steps:=C.2.steps++ [(⟨6,[min ((rows.length+i+1:Nat):Int) ((rows.length+j+1:Nat):Int),max ((rows.length+i+1:Nat):Int) ((rows.length+j+1:Nat):Int)],[],noRw⟩:CStep)]}:=⟨_,rfl⟩
  have hs3a:s3.atoms=C.2.atoms:=by rw [hs3]
  have hs3f:s3.fuel=s.fuel:=by rw [hs3];exact b5.trans a5
  have hs3s:s3.steps.length≤3000:=by rw [hs3];simp only [List.length_append,List.length_singleton];omega
  rw [← hs3];have hm3:s3.atoms=s.atoms++(ta++tb):=by rw [hs3a,b3,a3,List.append_assoc]
  have hok3:AtOK rows.length ints.length s3.atoms:=by rw [hs3a];exact b4
  have ha3:s3.atoms[i]? =some (limitR k 1 z):=by
   rw [hs3a,b3,List.getElem?_append_left (List.getElem?_eq_some_iff.1 a2).1];exact a2
  have hb3:s3.atoms[j]? =some (limitR k (-1) (-z-1)):=by rw [hs3a];exact b2
  have hB1:BdOK rows.length ints.length s3.atoms (withB B (k:Int) 1 ⟨limitR k 1 z,((rows.length+i+1:Nat):Int)⟩):=by
   rw [hm3]at ha3 ⊢;exact withB_ok hb hlo ha3
  obtain⟨hr,hw⟩:=hrc _ _ hok3 hB1;generalize hR:rc s3 (withB B (k:Int) 1 ⟨limitR k 1 z,((rows.length+i+1:Nat):Int)⟩)=r at *;have hp1:=hw.phi;have hf1:=hw.fl
  split
  ·exact ⟨by omega,hw.len,by omega⟩
  ·rename_i hx
   have hr2:r.st=2:=Classical.byContradiction fun h=>hx (.inl h)
   have hrm:r.s.much=false:=by
    cases h:r.s.much
    ·rfl
    ·exact absurd (.inr (.inl h)) hx
   obtain⟨t4,h4⟩:=hr.more;have hB1':BdOK rows.length ints.length r.s.atoms (withB B (k:Int) 1 ⟨limitR k 1 z,((rows.length+i+1:Nat):Int)⟩):=by rw [h4];exact hB1.more
   have hB2:BdOK rows.length ints.length r.s.atoms (withB B (k:Int) (-1) ⟨limitR k (-1) (-z-1),((rows.length+j+1:Nat):Int)⟩):=by
    have e:r.s.atoms=s.atoms++((ta++tb)++t4):=by rw [h4,hm3,List.append_assoc]
    have hb4:r.s.atoms[j]? =some (limitR k (-1) (-z-1)):=by
     rw [h4,List.getElem?_append_left (List.getElem?_eq_some_iff.1 hb3).1];exact hb3
    rw [e]at hb4 ⊢;exact withB_ok hb hhi hb4
   have hid1:=hr.idb h40 hB1' hr2 hrm;obtain⟨ht,hv⟩:=hrc _ _ hr.ok hB2;generalize hT:rc r.s (withB B (k:Int) (-1) ⟨limitR k (-1) (-z-1),((rows.length+j+1:Nat):Int)⟩)=t at *;have hp2:=hv.phi;have hf2:=hv.fl
   split
   ·exact ⟨by omega,hv.len,by omega⟩
   ·rename_i hy
    have ht2:t.st=2:=Classical.byContradiction fun h=>hy (.inl h)
    have htm:t.s.much=false:=by
     cases h:t.s.much
     ·rfl
     ·exact absurd (.inr (.inl h)) hy
    obtain⟨t5,h5⟩:=ht.more;have hid2:=ht.idb h40 (by rw [h5];exact hB2.more) ht2 htm
    refine⟨by simp only [List.length_append,List.length_singleton];omega,fun _ _=> ?_,by simp only;omega⟩
    simp only;rw [sortD_len];refine Nat.le_trans (ids_below (outF_nodup _ _ _ _ (by simp)) fun x hx=> ?_) (by omega)
    rcases mem_outF.1 hx with hx | ⟨hx,_⟩
    ·cases hx
    ·rcases List.mem_append.1 hx with hx | hx
     ·exact hid1 x hx
     ·exact hid2 x hx
theorem wk_at {lp:List Rw→LP}{rows:List Rw}{ints:List Bool}(hlp:LPok ints.length lp)(h12:ints.length≤12)(h40:rows.length≤40)(hr:∀r∈rows,RowOK r (ints.length:Int)):∀d s B,AtOK rows.length ints.length s.atoms→BdOK rows.length ints.length s.atoms B→Wk s (atF lp rows ints d s B)
 | 0,s,B,ha,hb=>⟨by simp only [atF];omega,fun h=>(by cases h),Nat.le_refl _⟩
 | d+1,s,B,ha,hb=>by
  unfold atF
  split
  ·exact ⟨by simp only;omega,fun h=>(by cases h),Nat.le_refl _⟩
  ·rename_i hf
   obtain⟨s',hs'⟩:∃s':CSt,s'= {s with fuel:=s.fuel-1}:=⟨_,rfl⟩
   have ea:s'.atoms=s.atoms:=by rw [hs']
   have ef:s'.fuel=s.fuel-1:=by rw [hs']
   have es:s'.steps=s.steps:=by rw [hs']
   rw [← hs'];have ha':AtOK rows.length ints.length s'.atoms:=by rw [ea];exact ha
   have hb':BdOK rows.length ints.length s'.atoms B:=by rw [ea];exact hb
   have hbl:=bRows_len (B:=B) ints.length;have hRl:(allR rows ints.length B).length=rows.length+(bRows B ints.length).length:=by simp [allR]
   unfold stepF
   split
   ·exact ⟨by simp only;rw [es,ef];omega,fun h=>(by cases h),by simp only;omega⟩
   ·rename_i l hl
    have hll:=(hlp.no _ l (by omega) (allR_ok h12 hr hb') hl).1
    split
    ·refine ⟨by simp only [List.length_append,List.length_singleton];rw [es,ef];omega,fun _ _=> ?_,by simp only;omega⟩
     simp only [List.length_map];rw [sortP_len];have:=pairs_len l (allI rows.length ints.length B);omega
    ·exact ⟨by simp only;rw [es,ef];omega,fun _ h=>(by cases h),by simp only;omega⟩
   ·rename_i pt hpt
    split
    ·exact ⟨by simp only;rw [es,ef];omega,fun h=>(by cases h),by simp only;omega⟩
    ·rename_i k hk
     obtain⟨k1,_⟩:=openK_some hk;have:=wk_branch (z:=floorQ (pt.getD k 0)) h40 ha' hb' k1 fun s B h1 h2=>⟨snd_at hlp h12 h40 hr d s B h1 h2,wk_at hlp h12 h40 hr d s B h1 h2⟩
     have h1:=this.phi;have h2:=this.fl;exact⟨by rw [es,ef]at h1;omega,this.len,by omega⟩
theorem bRows_nd {m n:Nat}{rows atoms:List Rw}{B:Bds}(hm:rows.length=m)(hb:BdOK m n atoms B):∀k,k≤n→((bRows B k).map CB.id).Nodup
 | 0,_=>by simp [bRows]
 | k+1,hk=>by
  have ih:=bRows_nd hm hb k (by omega)
  have key:∀(k1:Nat) (s1:Int) (b1:CB) (k2:Nat) (s2:Int) (b2:CB),(s1=1∨s1= -1)→(s2=1∨s2= -1)→bGet B (k1:Int) s1=some b1→bGet B (k2:Int) s2=some b2→b1.id=b2.id→k1=k2∧s1=s2:=by
   intro k1 s1 b1 k2 s2 b2 g1 g2 h1 h2 e;obtain⟨c1,t1,z1,i1,⟨_,u1,v1,_⟩,w1,x1,y1⟩:=hb.b _ (bGet_mem h1);obtain⟨c2,t2,z2,i2,⟨_,u2,v2,_⟩,w2,x2,y2⟩:=hb.b _ (bGet_mem h2);simp only at v1 w1 x1 y1 v2 w2 x2 y2;have hi:i1=i2:=by omega
   subst hi;rw [y1]at y2;have:=Option.some.inj y2;rw [v1,v2]at this;obtain⟨q1,q2,_⟩:=limit_inj u1 u2 this;have p1:=Prod.mk.inj w1;have p2:=Prod.mk.inj w2
   constructor
   ·have:=p1.1;have:=p2.1;omega
   ·have:=p1.2;have:=p2.2;omega
  have memK:∀b∈bRows B k,∃k':Nat,∃s,k'<k∧(s=1∨s= -1)∧bGet B (k':Int) s=some b:=fun b h=>mem_bRows.1 h
  simp only [bRows,List.map_append];rw [List.nodup_append];refine⟨?_,?_,?_⟩
  ·rw [List.nodup_append]
   refine⟨ih,by rcases bGet B (k:Int) 1 with _ | b<;>simp,fun x hx y hy=> ?_⟩
   obtain⟨b1,h1,rfl⟩:=List.mem_map.1 hx;obtain⟨b2,h2,rfl⟩:=List.mem_map.1 hy;obtain⟨k',s',g1,g2,g3⟩:=memK b1 h1;have h2:bGet B (k:Int) 1=some b2:=by simpa using h2
   intro e;have:=(key k' s' b1 k 1 b2 g2 (.inl rfl) g3 h2 e).1;omega
  ·rcases bGet B (k:Int) (-1)with _ | b<;>simp
  ·intro x hx y hy e
   obtain⟨b2,h2,rfl⟩:=List.mem_map.1 hy;have h2:bGet B (k:Int) (-1)=some b2:=by simpa using h2
   rcases List.mem_append.1 hx with hx | hx
   ·obtain ⟨b1,h1,rfl⟩:=List.mem_map.1 hx
    obtain⟨k',s',g1,g2,g3⟩:=memK b1 h1;have:=(key k' s' b1 k (-1) b2 g2 (.inr rfl) g3 h2 e).1;omega
   ·obtain ⟨b1,h1,rfl⟩:=List.mem_map.1 hx
    have h1:bGet B (k:Int) 1=some b1:=by simpa using h1
    have:=(key k 1 b1 k (-1) b2 (.inl rfl) (.inr rfl) h1 h2 e).2;omega
theorem allI_nd {n:Nat}{rows atoms:List Rw}{B:Bds}(hb:BdOK rows.length n atoms B):(allI rows.length n B).Nodup:=by
 unfold allI;rw [List.nodup_append];refine⟨?_,bRows_nd (rows:=rows) rfl hb n (Nat.le_refl _),fun x hx y hy=> ?_⟩
 ·rw [List.nodup_iff_pairwise_ne,List.pairwise_map]
  have:=List.nodup_iff_pairwise_ne.1 (List.nodup_range (n:=rows.length));exact this.imp fun h e=>h (by omega)
 ·obtain ⟨i,hi,rfl⟩:=List.mem_map.1 hx
  obtain⟨b,h1,rfl⟩:=List.mem_map.1 hy;obtain⟨_,_,_,j,_,_,e,_⟩:=bRow_of hb h1;have:=List.mem_range.1 hi;omega
theorem pairs_nd {times:List Rat}{ids:List Int}(h:ids.Nodup):((pairsF times ids).map (·.1)).Nodup:=by
 unfold pairsF;rw [List.map_map,List.nodup_iff_pairwise_ne,List.pairwise_map];refine List.Pairwise.filter _ ?_;rw [List.pairwise_iff_getElem];intro i j hi hj hij;have hi':i<ids.length:=by rw [List.length_zip]at hi;omega
 have hj':j<ids.length:=by rw [List.length_zip]at hj;omega
 have:=List.pairwise_iff_getElem.1 (List.nodup_iff_pairwise_ne.1 h) i j hi' hj' hij;simp only [Function.comp_apply,List.getElem_zip];omega
theorem allI_rng {n:Nat}{rows atoms:List Rw}{B:Bds}(h40:rows.length≤40)(ha:AtOK rows.length n atoms)(hb:BdOK rows.length n atoms B):∀i∈allI rows.length n B,0≤i∧i≤1000:=fun x hx=>by
 unfold allI at hx
 rcases List.mem_append.1 hx with hx | hx
 ·obtain ⟨i,hi,rfl⟩:=List.mem_map.1 hx
  have:=List.mem_range.1 hi;omega
 ·obtain ⟨b,h1,rfl⟩:=List.mem_map.1 hx
  obtain⟨_,_,_,j,_,_,e,h4⟩:=bRow_of hb h1;have:=(List.getElem?_eq_some_iff.1 h4).1;have:=ha.cap;omega
theorem pairs_ne {n:Nat}{times:List Rat}{ids:List Int}(h1:times.length=n)(h2:ids.length=n)(h:∃p,p<n∧times.getD p 0≠0):pairsF times ids≠ []:=by
 obtain⟨p,hp,hne⟩:=h;rw [List.getD_eq_getElem?_getD,List.getElem?_eq_getElem (by omega)]at hne
 have:(-ids[p]'(by omega),fqOf (times[p]'(by omega)))∈pairsF times ids:=mem_pairsF.2 ⟨p,by omega,by omega,hne,rfl⟩
 intro e;rw [e]at this
 cases this
end Go.Proofs.YtaiffmebphhdaaaGreat
