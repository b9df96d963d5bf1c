/- Package cut, plain: the steps of a proof are right. -/
import Derived.Test.YtaiffmebphhdaaaGreatCuSS
import Derived.Test.YtaiffmebphhdaaaGreatCuH
import Derived.Test.YtaiffmebphhdaaaGreatSpEE
namespace Go.Proofs.YtaiffmebphhdaaaGreat
set_option linter.unusedSimpArgs false
set_option linter.unusedVariables false
open Go.ChangeShapes Go.WideShapes Go.RowKit
theorem Dx {q:Rat}(h:Fits q):(cZ q).q=q:=by
 unfold cZ;rw [if_pos h];exact Rat.num_divInt_den _
def uN:List Rat→Rat
 | []=>0
 | x::l=>x+uN l
theorem Me:∀(l m:List Rat),uN (l++m)=uN l+uN m
 | [],m=>by simp only [List.nil_append,uN];grind
 | x::l,m=>by simp only [List.cons_append,uN];rw [Me l m];grind
theorem SC {l m:List Rat}(h:l.Perm m):uN l=uN m:=by
 induction h with
 | nil=>rfl
 | cons x _ ih=>simp only [uN];rw [ih]
 | swap x y l=>simp only [uN];grind
 | trans _ _ h1 h2=>exact h1.trans h2
theorem Qi (f:Nat→Rat):∀n,sQ n f=uN ((List.range n).map f)
 | 0=>rfl
 | n+1=>by
  rw [List.range_succ,List.map_append,Me];simp only [sQ,List.map_cons,List.map_nil,uN];rw [Qi f n];grind
theorem Qj {α:Type}(d:α)(g:α→Rat)(L:List α):(sQ L.length fun p=>g (L.getD p d))=uN (L.map g):=by
 rw [Qi];congr 1;apply List.ext_getElem
 ·simp
 intro i h1 h2;have h3:i<L.length:=by simpa using h1
 simp [h3]
theorem Cj {α:Type}(p:α→Bool)(g:α→Rat):∀L:List α,(∀x∈L,p x=false→g x=0)→uN ((L.filter p).map g)=uN (L.map g)
 | [],_=>rfl
 | x::L,h=>by
  have ih:=Cj p g L fun y hy=>h y (List.mem_cons_of_mem _ hy);rcases hp:p x with _ | _
  ·rw [List.filter_cons_of_neg (by rw [hp];decide),ih];simp only [List.map_cons,uN];rw [h x List.mem_cons_self hp];grind
  rw [List.filter_cons_of_pos hp];simp only [List.map_cons,uN];rw [ih]
theorem SE {R rows atoms:List Rw}{n:Nat}{l:List Rat}{ids:List Int}(h:Ox R n (l.map cZ))(hf:allFit l l.length=true)(e2:ids.length=R.length)
  (hid:∀p (h2:p<ids.length),rowAt rows atoms ids[p]=R.getD p bG):Ox ((cO (bH l ids)).map fun x=>rowAt rows atoms (-x.1)) n ((cO (bH l ids)).map (·.2)):=by
 have e1:l.length=R.length:=by have:=h.len;simpa using this
 have hfit:=zI hf;have hmem:∀x,x∈cO (bH l ids)↔∃p,∃(h1:p<l.length) (h2:p<ids.length),l[p]≠0∧x=(-ids[p],cZ l[p]):=fun x=>by rw [rT,pR]
 have hat:∀p,(hp:p<l.length)→jO (l.map cZ) p=l[p]:=fun p hp=>by
  unfold jO;rw [dX,List.getElem?_map,fG hp];exact Dx (hfit _ (List.getElem_mem hp))
 have key:∀g:Rw→Rat,(sQ ((cO (bH l ids)).map fun x=>rowAt rows atoms (-x.1)).length fun p=>jO ((cO (bH l ids)).map (·.2)) p*g (((cO (bH l ids)).map fun x=>rowAt rows atoms (-x.1)).getD p bG))=sQ R.length fun p=>jO (l.map cZ) p*g (R.getD p bG):=by
  intro g;have a1:(sQ ((cO (bH l ids)).map fun x=>rowAt rows atoms (-x.1)).length fun p=>jO ((cO (bH l ids)).map (·.2)) p*g (((cO (bH l ids)).map fun x=>rowAt rows atoms (-x.1)).getD p bG))=uN ((cO (bH l ids)).map fun x=>x.2.q*g (rowAt rows atoms (-x.1))):=by
   rw [List.length_map,←Qj ((0:Int),(⟨0,0⟩:Fq))];refine dV _ fun j hj=> ?_;unfold jO;simp only [dX,List.getElem?_map,fG hj,Option.map_some,Option.getD_some]
  rw [a1,SC ((ko (bH l ids)).map _)];unfold bH;rw [List.map_map,Cj]
  ·have hz:(l.zip ids).length=R.length:=by rw [List.length_zip];omega
   rw [← hz,←Qj ((0:Rat),(0:Int)) (fun x=>((fun x=>x.2.q*g (rowAt rows atoms (-x.1))) ∘ fun p:Rat × Int=>(-p.2,cZ p.1)) x)];refine dV _ fun j hj=> ?_;have hj1:j<l.length:=om;have hj2:j<ids.length:=om;rw [hat j hj1,←hid j hj2];simp only [dX,fG hj,Option.getD_some,List.getElem_zip,Function.comp_apply,Int.neg_neg];rw [Dx (hfit _ (List.getElem_mem hj1))]
  intro x hx h0;have:x.1=0:=by simpa using h0
  simp only [Function.comp_apply];rw [this];have:(cZ 0).q=0:=by decide +kernel
  rw [this];grind
 have hget:∀p,p<(cO (bH l ids)).length→∃q,∃(h1:q<l.length) (h2:q<ids.length),l[q]≠0∧((cO (bH l ids)).map fun x=>rowAt rows atoms (-x.1)).getD p bG=R.getD q bG∧jO ((cO (bH l ids)).map (·.2)) p=l[q]:=fun p hp=>by
  obtain⟨q,h1,h2,h0,e⟩:=(hmem _).1 (List.getElem_mem hp);refine⟨q,h1,h2,h0,?_,?_⟩
  ·rw [dX,List.getElem?_map,fG hp,←hid q h2];simp only [Option.map_some,Option.getD_some,e,Int.neg_neg]
  unfold jO;rw [dX,List.getElem?_map,fG hp];simp only [Option.map_some,Option.getD_some,e];exact Dx (hfit _ (List.getElem_mem h1))
 refine⟨sm,?_,?_,?_,?_⟩
 ·intro g hg;obtain⟨x,hx,rfl⟩:=List.mem_map.1 hg;obtain⟨q,h1,h2,h0,e⟩:=(hmem _).1 hx;rw [e];exact h.ok _ (List.mem_map_of_mem (List.getElem_mem h1))
 ·intro p hp hk;rw [List.length_map]at hp;obtain⟨q,h1,h2,h0,e3,e4⟩:=hget p hp;rw [e4,←hat q h1];exact h.sign q om (by rw [← e3];exact hk)
 ·intro k hk;exact(key fun r=>(r.of.getD k 0:Rat)).trans (h.col k hk)
 have:=key fun r=>(r.to:Rat);rw [this];rcases h.neg with hn | ⟨hn,p,hp,hk,h0⟩
 ·exact .inl hn
 refine .inr ⟨hn,?_⟩;have hp1:p<l.length:=om;have hp2:p<ids.length:=om;have:(-ids[p],cZ l[p])∈cO (bH l ids):=(hmem _).2 ⟨p,hp1,hp2,by rw [← hat p hp1];exact h0,rfl⟩;obtain⟨j,hj,e⟩:=List.getElem_of_mem this;refine⟨j,by simpa using hj,?_,?_⟩
 ·rw [dX,List.getElem?_map,fG hj];simp only [Option.map_some,Option.getD_some,e,Int.neg_neg];rw [hid p hp2];exact hk
 unfold jO;rw [dX,List.getElem?_map,fG hj];simp only [Option.map_some,Option.getD_some,e];rw [Dx (hfit _ (List.getElem_mem hp1)),←hat p hp1];exact h0
def aF (T:List eG):List Rw:=(T.filter fun s=>decide (s.kind=5)).map (·.row)
def cF (T:List eG):List (List Int):=(T.filter fun s=> !decide (s.kind=5)).map (·.lits)
theorem A9 (T U:List eG):aF (T++U)=aF T++aF U:=by simp [aF]
theorem Wt (T U:List eG):cF (T++U)=cF T++cF U:=by simp [cF]
theorem Jj {T:List eG}{y:eG}(h:y∈T)(hk:y.kind≠5):y.lits∈cF T:=List.mem_map_of_mem (List.mem_filter.2 ⟨h,by simpa using hk⟩)
def zo (vars:Nat):Nat→List Int→Bool
 | _,[]=>true
 | last,x::l=>decide (last<x.natAbs)&&(decide (x.natAbs≤vars)&&zo vars x.natAbs l)
def jN (so:Nat→Int)(x:Int):Int:=if 0<x then so x.natAbs else -so x.natAbs
def ze (so:Nat→Int)(c:List Int):Prop:=(∃x∈c,0<jN so x)∨1<(c.filter fun x=>decide (jN so x=0)).length
def UPF (cl:List (List Int))(lits:List Int):Prop:=∀so:Nat→Int,(∀v,-1≤so v∧so v≤1)→(∀l∈lits,jN so l= -1)→∃c∈cl,¬ze so c
structure zcc (ints:List Bool)(a b:Rw):Prop where
 ka:a.kind=1
 kb:b.kind=1
 zt:a.to+b.to= -1
 ln:a.of.length=b.of.length
 of:∀k,k<ints.length→a.of.getD k 0+b.of.getD k 0=0∧(a.of.getD k 0≠0→ints.getD k false=true)
def rV (all:List Rw)(l:Int):Rw:=all.getD ((-l).toNat-1) bG
inductive vW (ints:List Bool) (all:List Rw) (cl:List (List Int)) (s:eG):Prop
 | atom (h:s.kind=5) (hr:eD s.row ints.length)
 | gap (h:s.kind=6) (hs:zo all.length 0 s.lits=true) (a b:Nat) (ra rb:Rw) (e:s.lits= [((a+1:Nat):Int),((b+1:Nat):Int)]) (ha:all[a]? =some ra) (hb:all[b]? =some rb) (g:zcc ints ra rb)
 | rows (h:s.kind=4) (hs:zo all.length 0 s.lits=true) (hn:∀l∈s.lits,l<0) (h64:s.lits.length≤64) (hr:Ox (s.lits.map (rV all)) ints.length s.nums)
 | learn (h:s.kind=1) (hs:zo all.length 0 s.lits=true) (hn:∀l∈s.lits,l<0) (hu:UPF cl s.lits)
def Ga (rows:List Rw)(ints:List Bool)(T:List eG):Prop:=∀pre x post,T=pre++x::post→vW ints (rows++aF pre) (cF pre) x
theorem Ga.nil {rows:List Rw}{ints:List Bool}:Ga rows ints []:=fun pre x post h=>by simp at h
theorem Ga.snoc {rows:List Rw}{ints:List Bool}{T:List eG}{y:eG}(h:Ga rows ints T)(hy:vW ints (rows++aF T) (cF T) y):Ga rows ints (T++ [y]):=fun pre x post e=>by
 rcases List.eq_nil_or_concat post with rfl | ⟨q,z,rfl⟩
 ·obtain ⟨rfl,e2⟩:=List.append_inj' e rfl;cases e2;exact hy
 rw [List.concat_eq_append,←List.cons_append,←List.append_assoc]at e;exact h pre x q (List.append_inj' e rfl).1
theorem Jk {vars:Nat}:∀ {l:List Int} {last:Nat},(∀x∈l,x.natAbs≤vars∧last<x.natAbs)→l.Pairwise (fun a b=>a.natAbs<b.natAbs)→zo vars last l=true
 | [],_,_,_=>rfl
 | x::l,last,h,hp=>by
  rw [List.pairwise_cons]at hp;unfold zo;rw [decide_eq_true (h x List.mem_cons_self).2,decide_eq_true (h x List.mem_cons_self).1,Jk (fun y hy=>⟨(h y (List.mem_cons_of_mem _ hy)).1,hp.1 y hy⟩) hp.2];rfl
theorem Mf {vars:Nat}{l:List Int}(h:∀x∈l,∃id:Nat,x= -(id:Int)∧1≤id∧id≤vars)(hs:l.Pairwise fun a b=>b≤a)(hnd:l.Nodup):zo vars 0 l=true:=by
 refine Jk (fun x hx=> ?_) ?_
 ·obtain ⟨id,rfl,h1,h2⟩:=h x hx;omega
 refine List.pairwise_iff_getElem.2 fun i j hi hj hij=> ?_;obtain⟨a,ea,a1,a2⟩:=h _ (List.getElem_mem hi);obtain⟨b,eb,b1,b2⟩:=h _ (List.getElem_mem hj);have:=List.pairwise_iff_getElem.1 hs i j hi hj hij;have hne:l[i]≠l[j]:=List.pairwise_iff_getElem.1 (List.nodup_iff_pairwise_ne.1 hnd) i j hi hj hij;omega
theorem za3 {cl:List (List Int)}{a b:Nat}{c d out:List Int}(ha:0<a)(hb:0<b)(hc:c∈cl)(hd:d∈cl)(hg: [((a:Nat):Int),((b:Nat):Int)]∈cl∨ [((b:Nat):Int),((a:Nat):Int)]∈cl)
  (hout:∀l,(l∈c∨l∈d)→l≠ -(a:Int)→l≠ -(b:Int)→l∈out) (hcb: -(b:Int)∉c) (hda: -(a:Int)∉d) (hcn:c.Nodup) (hdn:d.Nodup):UPF cl out:=by
 intro so hso hl;refine Classical.byContradiction fun hno=> ?_;have hop:∀c∈cl,ze so c:=fun c hc=>Classical.byContradiction fun h=>hno ⟨c,hc,h⟩;have one:∀(c:List Int) (x:Int),c.Nodup→ze so c→(∀l∈c,l≠x→jN so l= -1)→x∈c∧0<jN so x:=by
  intro c x hn ho hr;rcases ho with⟨y,hy,h0⟩ | ho
  ·by_cases e:y=x
   ·exact ⟨e ▸ hy,e ▸ h0⟩
   rw [hr y hy e]at h0;omega
  exfalso;have:(c.filter fun y=>decide (jN so y=0)).length≤1:=by
   have hnd:=hn.filter fun y=>decide (jN so y=0);rcases hf:c.filter fun y=>decide (jN so y=0)with _ | ⟨p,_ | ⟨q,r⟩⟩
   ·simp
   ·simp
   exfalso;have hp:p∈c.filter fun y=>decide (jN so y=0):=by rw [hf];simp
   have hq:q∈c.filter fun y=>decide (jN so y=0):=by rw [hf];simp
   rw [hf]at hnd;rw [List.mem_filter]at hp hq;have e1:p=x:=Classical.byContradiction fun e=>by
    have:=hr p hp.1 e;have:=of_decide_eq_true hp.2;omega
   have e2:q=x:=Classical.byContradiction fun e=>by
    have:=hr q hq.1 e;have:=of_decide_eq_true hq.2;omega
   rw [e1,e2]at hnd;simp at hnd
  omega
 have va:jN so (-(a:Int))= -so a:=by unfold jN;rw [if_neg om];simp
 have vb:jN so (-(b:Int))= -so b:=by unfold jN;rw [if_neg om];simp
 have wa:jN so (a:Int)=so a:=by unfold jN;rw [if_pos om];simp
 have wb:jN so (b:Int)=so b:=by unfold jN;rw [if_pos om];simp
 have h1:=(one c (-(a:Int)) hcn (hop c hc) fun l h e=>hl l (hout l (.inl h) e fun e2=>hcb (e2 ▸ h))).2;have h2:=(one d (-(b:Int)) hdn (hop d hd) fun l h e=>hl l (hout l (.inr h) (fun e2=>hda (e2 ▸ h)) e)).2;rw [va]at h1;rw [vb]at h2;have ha':=hso a;have hb':=hso b;have fin:∀g:List Int,(∀x∈g,x=(a:Int)∨x=(b:Int))→¬ze so g:=by
  intro g hg ho;rcases ho with⟨y,hy,h0⟩ | ho
  ·rcases hg y hy with rfl | rfl<;>omega
  have:(g.filter fun y=>decide (jN so y=0))= []:=List.filter_eq_nil_iff.2 fun y hy=>by
   rcases hg y hy with rfl | rfl<;>simp<;>omega
  rw [this]at ho;simp at ho
 rcases hg with hg | hg
 ·exact fin _ sm (hop _ hg)
 exact fin _ (fun x hx=>by simp at hx;omega) (hop _ hg)
structure Prf (rows:List Rw)(ints:List Bool)(s:jh)(r:mI):Prop where
 pv:Ga rows ints r.s.steps
 am:r.s.atoms=aF r.s.steps
 pre:∃t,r.s.steps=s.steps++t
 last:r.st=2→r.s.much=false→r.c.Nodup∧∃T y,r.s.steps=T++ [y]∧y.kind≠5∧y.lits=r.c
def Qk (n:Nat)(lp:List Rw→LP):Prop:=∀R l,R.length≤64→(∀r∈R,eD r (n:Int))→lp R= .no l→allFit l l.length=true→Ox R n (l.map cZ)
theorem Mg {rows:List Rw}{ints:List Bool}{m:Nat}{s:jh}{r:Rw}{k:Nat}{sg z:Int}(h12:ints.length≤12)(hr:lW ints.length r k sg z)(hp:Ga rows ints s.steps)(ha:s.atoms=aF s.steps):
  Ga rows ints (eO m s r).2.steps∧(eO m s r).2.atoms=aF (eO m s r).2.steps∧∃t,(eO m s r).2.steps=s.steps++t:=by
 unfold eO;split
 ·exact ⟨hp,ha,[],sm⟩
 exact⟨hp.snoc (.atom rfl (KM h12 hr)),by simp only [A9,ha];rfl,_,rfl⟩
theorem Mh (k q:Nat)(sg z:Int):(aK k sg z).of.getD q 0=if q=k then sg else 0:=by
 show(List.replicate k (0:Int)++ [sg]).getD q 0=_;rw [dX];by_cases h1:q<k
 ·rw [List.getElem?_append_left (by simpa using h1),if_neg om];simp [h1]
 by_cases h2:q=k
 ·rw [if_pos h2,List.getElem?_append_right (by simp;omega)];simp [h2]
 rw [if_neg h2,List.getElem?_append_right (by simp;omega),List.getElem?_eq_none (by simp;omega)];rfl
theorem Wu {ints:List Bool}{k:Nat}{s1 s2 z1 z2:Int}(hki:ints.getD k false=true)(hs:s1+s2=0)(hz:z1+z2= -1):zcc ints (aK k s1 z1) (aK k s2 z2):=by
 refine⟨rfl,rfl,hz,by simp [aK],fun q _=> ?_⟩;rw [Mh,Mh];by_cases e:q=k
 ·rw [if_pos e,if_pos e,e];exact⟨hs,fun _=>hki⟩
 rw [if_neg e,if_neg e];exact⟨rfl,fun h=>absurd rfl h⟩
theorem Dy {rows atoms:List Rw}{i:Nat}{r:Rw}(h:atoms[i]? =some r):(rows++atoms)[rows.length+i]? =some r:=by
 rw [List.getElem?_append_right om];rw [show rows.length+i-rows.length=i from om];exact h
theorem Wv {rows atoms:List Rw}{ints:List Bool}{cl:List (List Int)}{i j k:Nat}{z:Int}(hki:ints.getD k false=true)(hij:i≠j)(hi:atoms[i]? =some (aK k 1 z))(hj:atoms[j]? =some (aK k (-1) (-z-1))):
  vW ints (rows++atoms) cl ⟨6,[min ((rows.length+i+1:Nat):Int) ((rows.length+j+1:Nat):Int),max ((rows.length+i+1:Nat):Int) ((rows.length+j+1:Nat):Int)],[],wU⟩:=by
 have li:=(List.getElem?_eq_some_iff.1 hi).1;have lj:=(List.getElem?_eq_some_iff.1 hj).1;have hs:zo (rows++atoms).length 0 [min ((rows.length+i+1:Nat):Int) ((rows.length+j+1:Nat):Int),max ((rows.length+i+1:Nat):Int) ((rows.length+j+1:Nat):Int)]=true:=by
  refine Jk (fun x hx=> ?_) ?_
  ·rw [List.length_append];simp only [List.mem_cons,List.not_mem_nil,or_false]at hx;omega
  simp only [List.pairwise_cons,List.mem_cons,List.not_mem_nil,or_false,forall_eq];refine⟨om,?_⟩;simp
 by_cases h:i<j
 ·have e1:min ((rows.length+i+1:Nat):Int) ((rows.length+j+1:Nat):Int)=((rows.length+i+1:Nat):Int):=om;have e2:max ((rows.length+i+1:Nat):Int) ((rows.length+j+1:Nat):Int)=((rows.length+j+1:Nat):Int):=om;exact .gap rfl hs _ _ _ _ (by rw [e1,e2]) (Dy hi) (Dy hj) (Wu hki dc om)
 have e1:min ((rows.length+i+1:Nat):Int) ((rows.length+j+1:Nat):Int)=((rows.length+j+1:Nat):Int):=om;have e2:max ((rows.length+i+1:Nat):Int) ((rows.length+j+1:Nat):Int)=((rows.length+i+1:Nat):Int):=om;exact .gap rfl hs _ _ _ _ (by rw [e1,e2]) (Dy hj) (Dy hi) (Wu hki dc om)
theorem zcd {n:Nat}{rows atoms:List Rw}{B:jZ}(hb:gZ rows.length n atoms B):∀p (h2:p<(allI rows.length n B).length),∃id:Nat,(allI rows.length n B)[p]=(id:Int)∧1≤id∧id≤rows.length+atoms.length∧rowAt rows atoms (id:Int)=(jo rows n B).getD p bG:=fun p h2=>by
 have hIl:(allI rows.length n B).length=rows.length+(dI B n).length:=by simp [allI]
 by_cases hp:p<rows.length
 ·refine ⟨p+1,?_,om,om,?_⟩
  ·exact (List.getElem?_eq_some_iff.1 (Lb hp)).2
  rw [AL hp];unfold jo;rw [dX,List.getElem?_append_left hp,fG hp];rfl
 have hq:p-rows.length<(dI B n).length:=om;obtain⟨k,sg,z,i,g1,g2,g3,g4⟩:=oI hb (List.getElem_mem hq);have:=(List.getElem?_eq_some_iff.1 g4).1;refine⟨rows.length+i+1,?_,om,om,?_⟩
 ·rw [← g3];exact(List.getElem?_eq_some_iff.1 ((PL om).trans (by rw [fG hq];rfl))).2
 rw [tJ g4];unfold jo;rw [dX,List.getElem?_append_right om,List.getElem?_map,fG hq];rfl
theorem SF {lp:List Rw→LP}{rows atoms:List Rw}{ints:List Bool}{cl:List (List Int)}{B:jZ}{l:List Rat}(hlf:Qk ints.length lp)(h12:ints.length≤12)(h40:rows.length≤40)(hr:∀r∈rows,eD r (ints.length:Int))(hb:gZ rows.length ints.length atoms B)(hl:lp (jo rows ints.length B)= .no l)(hf:allFit l l.length=true):
  ((cO (bH l (allI rows.length ints.length B))).map (·.1)).Nodup∧vW ints (rows++atoms) cl ⟨4,(cO (bH l (allI rows.length ints.length B))).map (·.1),(cO (bH l (allI rows.length ints.length B))).map (·.2),wU⟩:=by
 have hbl:=kJ (B:=B) ints.length;have hRl:(jo rows ints.length B).length=rows.length+(dI B ints.length).length:=by simp [jo]
 have hIl:(allI rows.length ints.length B).length=rows.length+(dI B ints.length).length:=by simp [allI]
 have hno:=hlf _ l om (wI h12 hr hb) hl hf;have hid:=zcd hb;have hnd:((cO (bH l (allI rows.length ints.length B))).map (·.1)).Nodup:=((ko _).map _).nodup_iff.2 (Lh (PS hb));have hneg:∀x∈(cO (bH l (allI rows.length ints.length B))).map (·.1),∃id:Nat,x= -(id:Int)∧1≤id∧id≤(rows++atoms).length:=fun x hx=>by
  obtain⟨y,hy,rfl⟩:=List.mem_map.1 hx;rw [rT,pR]at hy;obtain⟨p,g1,g2,g3,rfl⟩:=hy;obtain⟨id,e,e1,e2,_⟩:=hid p g2;exact⟨id,by rw [e],e1,by rw [List.length_append];exact e2⟩
 have hll:l.length=(jo rows ints.length B).length:=by have:=hno.len;simpa using this
 refine⟨hnd,.rows rfl (Mf hneg (List.pairwise_map.2 (sP _)) hnd) (fun x hx=>by obtain⟨id,e,e1,_⟩:=hneg x hx;omega) ?_ ?_⟩
 ·show ((cO (bH l (allI rows.length ints.length B))).map (·.1)).length≤64;have:=GV l (allI rows.length ints.length B);rw [List.length_map,AQ];omega
 have h:=SE (rows:=rows) (atoms:=atoms) (ids:=allI rows.length ints.length B) hno hf om fun p h2=>by
  obtain⟨id,e,_,_,e3⟩:=hid p h2;rw [e,e3]
 simp only [List.map_map];exact h
theorem OG {rows:List Rw}{ints:List Bool}{rc:jh→jZ→mI}{s:jh}{B:jZ}{k:Nat}{pt:List Rat}(h12:ints.length≤12)(ha:kC rows.length ints.length s.atoms)(hb:gZ rows.length ints.length s.atoms B)
  (hk:k<ints.length) (hki:ints.getD k false=true) (hkw:(pt.getD k 0).den≠1) (hpt:∀r∈jo rows ints.length B,wV r ints.length fun j=>pt.getD j 0) (hp:Ga rows ints s.steps) (hq:s.atoms=aF s.steps)
  (hrc:∀s B,kC rows.length ints.length s.atoms→gZ rows.length ints.length s.atoms B→Ga rows ints s.steps→s.atoms=aF s.steps→KO rows ints s B (rc s B)∧Prf rows ints s (rc s B)):
  Prf rows ints s (gI rows.length rc s B k (jT (pt.getD k 0))):=by
 have hf1:=GQ (pt.getD k 0);have hf2:=GR (pt.getD k 0);have zaH:pt.getD k 0≠((jT (pt.getD k 0):Int):Rat):=fun e=>hkw (by rw [e];exact Rat.den_intCast _);generalize hz:jT (pt.getD k 0)=z at *;unfold gI;split
 ·exact ⟨hp,hq,⟨[],sm⟩,fun _ h=>(by cases h)⟩
 rename_i hbad;have hz1:bZ z:=by unfold bZ;omega
 have hz2:bZ (-z-1):=by unfold bZ;omega
 have hcap:rows.length+s.atoms.length+2≤120:=om;clear hbad;have hlo:lW ints.length (aK k 1 z) k 1 z:=⟨hk,.inl rfl,rfl,hz1⟩;have hhi:lW ints.length (aK k (-1) (-z-1)) k (-1) (-z-1):=⟨hk,.inr rfl,rfl,hz2⟩;obtain⟨i,a1,a2,⟨ta,a3,a3'⟩,a4,_⟩:=jD hlo ha om;obtain⟨j,b1,b2,⟨tb,b3,b3'⟩,b4,_⟩:=jD hhi a4 (by rw [a3,List.length_append];omega);obtain⟨pa1,pa2,⟨ua,pa3⟩⟩:=Mg (m:=rows.length) h12 hlo hp hq;obtain⟨pb1,pb2,⟨ub,pb3⟩⟩:=Mg (m:=rows.length) h12 hhi pa1 pa2;simp only;generalize hA:eO rows.length s (aK k 1 z)=A at *;generalize hC:eO rows.length A.2 (aK k (-1) (-z-1))=C at *;rw [a1,b1];have hai:C.2.atoms[i]? =some (aK k 1 z):=by
  rw [b3,List.getElem?_append_left (List.getElem?_eq_some_iff.1 a2).1];exact a2
 have hij:i≠j:=fun e=>by
  subst e;rw [hai]at b2;have:=(AJ (.inl rfl) (.inr rfl) (Option.some.inj b2)).2.1;omega
 obtain⟨gp,Pv⟩:∃gp:eG,gp=(⟨6,[min ((rows.length+i+1:Nat):Int) ((rows.length+j+1:Nat):Int),max ((rows.length+i+1:Nat):Int) ((rows.length+j+1:Nat):Int)],[],wU⟩:eG):=⟨_,rfl⟩;rw [← Pv];have hg6:gp.kind≠5:=by rw [Pv];simp
 have hgl:gp.lits= [(((rows.length+i+1:Nat):Nat):Int),((rows.length+j+1:Nat):Int)]∨gp.lits= [(((rows.length+j+1:Nat):Nat):Int),((rows.length+i+1:Nat):Int)]:=by
  rw [Pv];by_cases h:i<j
  ·left;show [_,_]= [_,_];rw [show min ((rows.length+i+1:Nat):Int) ((rows.length+j+1:Nat):Int)=((rows.length+i+1:Nat):Int)from om,show max ((rows.length+i+1:Nat):Int) ((rows.length+j+1:Nat):Int)=((rows.length+j+1:Nat):Int)from om]
  right;show [_,_]= [_,_];rw [show min ((rows.length+i+1:Nat):Int) ((rows.length+j+1:Nat):Int)=((rows.length+j+1:Nat):Int)from om,show max ((rows.length+i+1:Nat):Int) ((rows.length+j+1:Nat):Int)=((rows.length+i+1:Nat):Int)from om]
 have hgs:vW ints (rows++aF C.2.steps) (cF C.2.steps) gp:=by
  rw [← pb2,Pv];exact Wv hki hij hai b2
 obtain⟨s3,hs3⟩:∃s3:jh,s3= {C.2 with steps:=C.2.steps++ [gp]}:=⟨_,rfl⟩;have yj:s3.atoms=C.2.atoms:=by rw [hs3]
 have VJ:s3.steps=C.2.steps++ [gp]:=by rw [hs3]
 rw [← hs3];have hp3:Ga rows ints s3.steps:=by rw [VJ];exact pb1.snoc hgs
 have hq3:s3.atoms=aF s3.steps:=by
  rw [yj,VJ,A9,pb2];have:aF [gp]= []:=by simp [aF,hg6]
  rw [this,List.append_nil]
 have hpre3:s3.steps=s.steps++(ua++(ub++ [gp])):=by rw [VJ,pb3,pa3];simp
 have hm3:s3.atoms=s.atoms++(ta++tb):=by rw [yj,b3,a3,List.append_assoc]
 have hok3:kC rows.length ints.length s3.atoms:=by rw [yj];exact b4
 have ha3:s3.atoms[i]? =some (aK k 1 z):=by rw [yj];exact hai
 have hb3:s3.atoms[j]? =some (aK k (-1) (-z-1)):=by rw [yj];exact b2
 have hB1:gZ rows.length ints.length s3.atoms (fK B (k:Int) 1 ⟨aK k 1 z,((rows.length+i+1:Nat):Int)⟩):=by
  rw [hm3]at ha3 ⊢;exact mZ hb hlo ha3
 obtain⟨hr,hrp⟩:=hrc _ _ hok3 hB1 hp3 hq3;generalize hR:rc s3 (fK B (k:Int) 1 ⟨aK k 1 z,((rows.length+i+1:Nat):Int)⟩)=r at *;obtain⟨t1,ht1⟩:=hrp.pre;split
 ·exact ⟨hrp.pv,hrp.am,⟨_,by rw [ht1,hpre3,List.append_assoc]⟩,hrp.last⟩
 rename_i hx;have hr2:r.st=2:=Classical.byContradiction fun h=>hx (.inl h);have hrm:r.s.much=false:=by
  cases h:r.s.much
  ·rfl
  exact absurd (.inr (.inl h)) hx
 obtain⟨t4,h4⟩:=hr.more;have hb4:r.s.atoms[j]? =some (aK k (-1) (-z-1)):=by
  rw [h4,List.getElem?_append_left (List.getElem?_eq_some_iff.1 hb3).1];exact hb3
 have hB2:gZ rows.length ints.length r.s.atoms (fK B (k:Int) (-1) ⟨aK k (-1) (-z-1),((rows.length+j+1:Nat):Int)⟩):=by
  have e:r.s.atoms=s.atoms++((ta++tb)++t4):=by rw [h4,hm3,List.append_assoc]
  have hb4:=hb4;rw [e]at hb4 ⊢;exact mZ hb hhi hb4
 obtain⟨ht,htp⟩:=hrc _ _ hr.ok hB2 hrp.pv hrp.am;generalize hT:rc r.s (fK B (k:Int) (-1) ⟨aK k (-1) (-z-1),((rows.length+j+1:Nat):Int)⟩)=t at *;obtain⟨t2,YT⟩:=htp.pre;split
 ·exact ⟨htp.pv,htp.am,⟨_,by rw [YT,ht1,hpre3,List.append_assoc,List.append_assoc]⟩,htp.last⟩
 rename_i hy;have ht2:t.st=2:=Classical.byContradiction fun h=>hy (.inl h);have XP:t.s.much=false:=by
  cases h:t.s.much
  ·rfl
  exact absurd (.inr (.inl h)) hy
 obtain⟨t5,h5⟩:=ht.more;have hrs:r.s.atoms=s.atoms++((ta++tb)++t4):=by rw [h4,hm3,List.append_assoc]
 have inB:∀b∈dI B ints.length,b.row∈jo rows ints.length B:=fun b hb'=>by
  unfold jo;exact List.mem_append.2 (.inr (List.mem_map.2 ⟨b,hb',rfl⟩))
 have Lc:∀b∈dI B ints.length,∀p:Nat,∀row,t.s.atoms[p]? =some row→b.id=((rows.length+p+1:Nat):Int)→b.row=row:=fun b hb' p row hp hid=>by
  obtain⟨k',sg,z',i',g1,g2,g3,g4⟩:=oI hb hb';have:i'=p:=by rw [g3]at hid;omega
  subst this;have g5:t.s.atoms[i']? =some b.row:=by rw [h5,hrs,List.append_assoc,List.getElem?_append_left (List.getElem?_eq_some_iff.1 g4).1];exact g4
  rw [g5]at hp;exact(Option.some.inj hp)
 have hat:t.s.atoms[i]? =some (aK k 1 z):=by
  rw [h5,h4,List.append_assoc,List.getElem?_append_left (List.getElem?_eq_some_iff.1 ha3).1];exact ha3
 have hbt:t.s.atoms[j]? =some (aK k (-1) (-z-1)):=by
  rw [h5,h4,List.append_assoc,List.getElem?_append_left (List.getElem?_eq_some_iff.1 hb3).1];exact hb3
 have zaI:∀b∈dI B ints.length,b.row≠aK k 1 z:=fun b hb' e=>by
  have:=hpt _ (inB b hb');rw [e,rR hk]at this;have:pt.getD k 0≤(z:Rat):=by
   have e1:((1:Int):Rat)=1:=rfl;rw [e1]at this;grind
  exact zaH (Rat.le_antisymm this hf1)
 have zaJ:∀b∈dI B ints.length,b.row≠aK k (-1) (-z-1):=fun b hb' e=>by
  have:=hpt _ (inB b hb');rw [e,rR hk]at this;have e1:((-1:Int):Rat)= -1:=rfl;have e2:((-z-1:Int):Rat)= -(z:Rat)-1:=by rw [Rat.intCast_sub,Rat.intCast_neg];rfl
  rw [e1,e2]at this;grind
 have mem:∀l,l∈gL (ku ((rows.length+i+1:Nat):Int) ((rows.length+j+1:Nat):Int) (r.c++t.c) [])↔(l∈r.c∨l∈t.c)∧l≠ -((rows.length+i+1:Nat):Int)∧l≠ -((rows.length+j+1:Nat):Int):=fun l=>by
  rw [wH,zi,List.mem_append];simp
 have zaK: -((rows.length+j+1:Nat):Int)∉r.c:=fun hm=>by
  obtain⟨id,e,_,h3⟩:=hr.ids hr2 hrm _ hm;have e:id=rows.length+j+1:=om;subst e;rcases h3 with h3 | h3
  ·omega
  rcases ni h3 with h | ⟨b,hb',h⟩
  ·have h:((rows.length+j+1:Nat):Int)=((rows.length+i+1:Nat):Int):=h;omega
  exact zaJ b hb' (Lc b hb' j _ hbt h)
 have zaL: -((rows.length+i+1:Nat):Int)∉t.c:=fun hm=>by
  obtain⟨id,e,_,h3⟩:=ht.ids ht2 XP _ hm;have e:id=rows.length+i+1:=om;subst e;rcases h3 with h3 | h3
  ·omega
  rcases ni h3 with h | ⟨b,hb',h⟩
  ·have h:((rows.length+i+1:Nat):Int)=((rows.length+j+1:Nat):Int):=h;omega
  exact zaI b hb' (Lc b hb' i _ hat h)
 have valid:∀(C:jZ) (w:mI) (s':jh),KO rows ints s' C w→gZ rows.length ints.length w.s.atoms C→w.st=2→w.s.much=false→∀l∈w.c,∃id:Nat,l= -(id:Int)∧1≤id∧id≤rows.length+w.s.atoms.length:=fun C w s' hw hC h2 hm l hl=>by
  obtain⟨id,e,h1,h3⟩:=hw.ids h2 hm l hl;refine⟨id,e,h1,?_⟩;rcases h3 with h3 | ⟨b,hb',h3⟩
  ·omega
  obtain⟨_,_,_,i',_,_,g3,g4⟩:=oI hC hb';have:=(List.getElem?_eq_some_iff.1 g4).1;omega
 obtain⟨hn1,T1,y1,e1,k1,l1⟩:=hrp.last hr2 hrm;obtain⟨hn2,T2,y2,e2,k2,l2⟩:=htp.last ht2 XP;have hy1:y1∈t.s.steps:=by rw [YT,e1];simp
 have hy2:y2∈t.s.steps:=by rw [e2];simp
 have hyg:gp∈t.s.steps:=by rw [YT,ht1,VJ];simp
 have hnd:(gL (ku ((rows.length+i+1:Nat):Int) ((rows.length+j+1:Nat):Int) (r.c++t.c) [])).Nodup:=(tT _).nodup_iff.2 (yw _ _ _ _ sm);have hneg:∀x∈gL (ku ((rows.length+i+1:Nat):Int) ((rows.length+j+1:Nat):Int) (r.c++t.c) []),∃id:Nat,x= -(id:Int)∧1≤id∧id≤(rows++aF t.s.steps).length:=fun x hx=>by
  rw [List.length_append,←htp.am];rcases((mem x).1 hx).1 with h | h
  ·obtain ⟨id,e,g1,g2⟩:=valid _ r s3 hr (by rw [h4];exact hB1.more) hr2 hrm x h;exact⟨id,e,g1,by rw [h5,List.length_append];omega⟩
  exact valid _ t r.s ht (by rw [h5];exact hB2.more) ht2 XP x h
 refine⟨htp.pv.snoc (.learn rfl (Mf hneg (tV _) hnd) (fun x hx=>by obtain⟨id,e,g,_⟩:=hneg x hx;omega) ?_),?_,?_,fun _ _=>⟨hnd,_,_,rfl,sm,rfl⟩⟩
 ·refine za3 (a:=rows.length+i+1) (b:=rows.length+j+1) om om (l1 ▸ Jj hy1 k1) (l2 ▸ Jj hy2 k2) ?_ (fun l h g1 g2=>(mem l).2 ⟨h,g1,g2⟩) zaK zaL hn1 hn2;rcases hgl with h | h
  ·exact .inl (h ▸ Jj hyg hg6)
  exact .inr (h ▸ Jj hyg hg6)
 ·show t.s.atoms=aF (t.s.steps++ [_]);rw [A9,←htp.am];simp [aF]
 refine⟨ua++(ub++ [gp])++(t1++(t2++ [(⟨1,gL (ku ((rows.length+i+1:Nat):Int) ((rows.length+j+1:Nat):Int) (r.c++t.c) []),[],wU⟩:eG)])),?_⟩;show t.s.steps++ [_]=_;rw [YT,ht1,hpre3];simp only [List.append_assoc]
theorem Ww {lp:List Rw→LP}{rows:List Rw}{ints:List Bool}(hlp:F5 ints.length lp)(hlf:Qk ints.length lp)(h12:ints.length≤12)(h40:rows.length≤40)(hr:∀r∈rows,eD r (ints.length:Int)):∀d s B,kC rows.length ints.length s.atoms→gZ rows.length ints.length s.atoms B→Ga rows ints s.steps→s.atoms=aF s.steps→Prf rows ints s (uL lp rows ints d s B)
 | 0,s,B,ha,hb,hp,hq=>⟨hp,hq,⟨[],by simp [uL]⟩,fun h=>(by cases h)⟩
 | d+1,s,B,ha,hb,hp,hq=>by
  unfold uL;split
  ·exact ⟨hp,hq,⟨[],sm⟩,fun h=>(by cases h)⟩
  rename_i hf;obtain⟨s',hs'⟩:∃s':jh,s'= {s with fuel:=s.fuel-1}:=⟨_,rfl⟩;have ea:s'.atoms=s.atoms:=by rw [hs']
  have es:s'.steps=s.steps:=by rw [hs']
  rw [← hs'];have ha':kC rows.length ints.length s'.atoms:=by rw [ea];exact ha
  have hb':gZ rows.length ints.length s'.atoms B:=by rw [ea];exact hb
  have hp':Ga rows ints s'.steps:=by rw [es];exact hp
  have hq':s'.atoms=aF s'.steps:=by rw [ea,es];exact hq
  have lift:∀r,Prf rows ints s' r→Prf rows ints s r:=fun r h=>⟨h.pv,h.am,by rw [← es];exact h.pre,h.last⟩;refine lift _ ?_;have hbl:=kJ (B:=B) ints.length;have hRl:(jo rows ints.length B).length=rows.length+(dI B ints.length).length:=by simp [jo]
  unfold rQ;split
  ·exact ⟨hp',hq',⟨[],sm⟩,fun h=>(by cases h)⟩
  ·rename_i l hl;split
   ·rename_i hfit;obtain⟨hnd,hst⟩:=SF (atoms:=s'.atoms) (cl:=cF s'.steps) hlf h12 h40 hr hb' hl hfit;refine⟨hp'.snoc (by rw [← hq'];exact hst),?_,⟨_,rfl⟩,fun _ _=>⟨hnd,_,_,rfl,sm,rfl⟩⟩;show s'.atoms=aF (s'.steps++ [_]);rw [A9,←hq'];simp [aF]
   exact⟨hp',hq',⟨[],sm⟩,fun _ h=>(by cases h)⟩
  rename_i pt hpt;split
  ·exact ⟨hp',hq',⟨[],sm⟩,fun h=>(by cases h)⟩
  rename_i k hk;obtain⟨k1,k2,k3⟩:=tK hk;obtain⟨g1,g2⟩:=hlp.yes _ pt om (wI h12 hr hb') hpt;exact OG h12 ha' hb' k1 k2 k3 g2 hp' hq' fun s B h1 h2 h3 h4=>⟨tL hlp h12 h40 hr d s B h1 h2,Ww hlp hlf h12 h40 hr d s B h1 h2 h3 h4⟩
theorem SG {lp:List Rw→LP}{rows:List Rw}{ints:List Bool}(hlp:F5 ints.length lp)(hlf:Qk ints.length lp)(h12:ints.length≤12)(h40:rows.length≤40)(hr:∀r∈rows,eD r (ints.length:Int)){fuel:Nat}{T:List eG}(h:F6 lp rows ints fuel=⟨2,[],T,(0,0)⟩):
  Ga rows ints T∧T.length≤3000∧rows.length+(aF T).length≤120∧∃(T':List eG) (y:eG),T=T'++ [y]∧y.kind≠5∧∀l∈y.lits,l<0∧ -l≤(rows.length:Int):=by
 have hs:=tL hlp h12 h40 hr (fuel+1) ⟨fuel,[],[],[],false⟩ [] (vP h40) vQ;have hp:=Ww hlp hlf h12 h40 hr (fuel+1) ⟨fuel,[],[],[],false⟩ [] (vP h40) vQ Ga.nil rfl;unfold F6 at h;generalize uL lp rows ints (fuel+1) ⟨fuel,[],[],[],false⟩ []=r at *;simp only at h;split at h
 ·cases h
 rename_i hm;split at h
 ·cases h
 split at h
 ·rename_i h2;injection h with _ _ h _;subst h;have hmf:r.s.much=false:=by
   cases e:r.s.much
   ·rfl
   exact absurd (.inl e) hm
  obtain⟨_,T',y,e,hk,hl⟩:=hp.last h2 hmf;refine⟨hp.pv,om,by rw [← hp.am];exact hs.ok.cap,T',y,e,hk,fun l hll=> ?_⟩;rw [hl]at hll;obtain⟨id,e1,e2,e3⟩:=hs.ids h2 hmf l hll;rcases e3 with e3 | ⟨b,hb,_⟩
  ·omega
  rw [AO]at hb;cases hb
 cases h
end Go.Proofs.YtaiffmebphhdaaaGreat
