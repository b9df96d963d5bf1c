/- Fourier and Motzkin: one number less at a time, plain. -/
import Derived.Test.YtamjmcdlddocgaaGreatFkAA
namespace Go.Proofs.YtamjmcdlddocgaaGreat
set_option linter.unusedSimpArgs false
set_option linter.unusedVariables false
structure WR where
 of:List Rat
 tt:Rat
 less:Bool
def sW:Nat→(Nat→Rat)→Rat
 | 0,_=>0
 | k+1,f=>sW k f+f k
def WR.c (r:WR)(j:Nat):Rat:=r.of.getD j 0
def WR.dot (r:WR)(n:Nat)(x:Nat→Rat):Rat:=sW n fun j=>r.c j*x j
def WR.at (r:WR)(n:Nat)(x:Nat→Rat):Prop:=(r.less=false→r.dot n x≤r.tt)∧(r.less=true→r.dot n x<r.tt)
def joinW (n k:Nat)(a b:WR):WR:=⟨(List.range n).map fun j=> -b.c k*a.c j+a.c k*b.c j,-b.c k*a.tt+a.c k*b.tt,a.less || b.less⟩
def fmK (n k:Nat)(l:List WR):List WR:=l.flatMap fun a=>if a.c k=0 then [a]else if 0<a.c k then(l.filter fun b=>decide (b.c k<0)).map (joinW n k a)else []
theorem sW_congr {f g:Nat→Rat}:∀n,(∀j,j<n→f j=g j)→sW n f=sW n g
 | 0,_=>rfl
 | n+1,h=>by simp only [sW];rw [sW_congr n fun j hj=>h j (by omega),h n (by omega)]
theorem sW_lin {f g:Nat→Rat}{x y:Rat}:∀n,sW n (fun j=>x*f j+y*g j)=x*sW n f+y*sW n g
 | 0=>by simp only [sW];grind
 | n+1=>by simp only [sW];rw [sW_lin n];grind
theorem sW_upd {c x:Nat→Rat}{k:Nat}{t:Rat}:∀n,k<n→sW n (fun j=>c j*(if j=k then t else x j))=sW n (fun j=>c j*x j)-c k*x k+c k*t
 | 0,h=>by omega
 | n+1,h=>by
  simp only [sW]
  by_cases e:k=n
  ·subst e
   rw [if_pos rfl,sW_congr (g:=fun j=>c j*x j) k fun j hj=>by rw [if_neg (by omega)]]
   grind
  ·rw [if_neg (Ne.symm e),sW_upd n (by omega)]
   grind
theorem joinW_c {n k j:Nat}{a b:WR}(hj:j<n):(joinW n k a b).c j= -b.c k*a.c j+a.c k*b.c j:=by
 unfold WR.c joinW;simp only;rw [List.getD_eq_getElem?_getD,List.getElem?_map,List.getElem?_range hj];rfl
theorem joinW_dot {n k:Nat}{a b:WR}{x:Nat→Rat}:(joinW n k a b).dot n x= -b.c k*a.dot n x+a.c k*b.dot n x:=by
 unfold WR.dot;rw [← sW_lin];exact sW_congr n fun j hj=>by rw [joinW_c hj];grind
theorem WR.le {r:WR}{n:Nat}{x:Nat→Rat}(h:r.at n x):r.dot n x≤r.tt:=by
 rcases hl:r.less with _ | _
 ·exact h.1 hl
 ·exact Rat.le_of_lt (h.2 hl)
theorem mul_le_of {x u v:Rat}(hx:0<x)(h:u≤v):x*u≤x*v:=Rat.mul_le_mul_of_nonneg_left h (Rat.le_of_lt hx)
theorem mul_lt_of {x u v:Rat}(hx:0<x)(h:u<v):x*u<x*v:=Rat.mul_lt_mul_of_pos_left h hx
theorem joinW_at {n k:Nat}{a b:WR}{x:Nat→Rat}(ha:a.at n x)(hb:b.at n x)(h1:0<a.c k)(h2:b.c k<0):(joinW n k a b).at n x:=by
 have h2':0< -b.c k:=by grind
 have e1:=mul_le_of h2' (WR.le ha);have e2:=mul_le_of h1 (WR.le hb)
 constructor
 ·intro _
  rw [joinW_dot];show _≤ -b.c k*a.tt+a.c k*b.tt
  grind
 ·intro h
  rw [joinW_dot];show _< -b.c k*a.tt+a.c k*b.tt
  rcases(by simpa [joinW]using h:a.less=true∨b.less=true)with h | h
  ·have:=mul_lt_of h2' (ha.2 h)
   grind
  ·have:=mul_lt_of h1 (hb.2 h)
   grind
theorem least {l:List (Rat × Bool)}(h:l≠ []):∃m∈l,∀u∈l,m.1≤u.1:=by
 induction l with
 | nil=>exact absurd rfl h
 | cons a r ih=>
  by_cases hr:r= []
  ·subst hr
   exact⟨a,by simp,fun u hu=>by rw [List.mem_singleton.1 hu];exact Rat.le_refl⟩
  ·obtain ⟨m,hm,hle⟩:=ih hr
   by_cases hc:a.1≤m.1
   ·exact ⟨a,by simp,fun u hu=>by
     rcases List.mem_cons.1 hu with rfl | hu
     ·exact Rat.le_refl
     ·exact Rat.le_trans hc (hle u hu)⟩
   ·exact ⟨m,List.mem_cons_of_mem _ hm,fun u hu=>by
     rcases List.mem_cons.1 hu with rfl | hu
     ·grind
     ·exact hle u hu⟩
theorem most {l:List (Rat × Bool)}(h:l≠ []):∃m∈l,∀u∈l,u.1≤m.1:=by
 induction l with
 | nil=>exact absurd rfl h
 | cons a r ih=>
  by_cases hr:r= []
  ·subst hr
   exact⟨a,by simp,fun u hu=>by rw [List.mem_singleton.1 hu];exact Rat.le_refl⟩
  ·obtain ⟨m,hm,hle⟩:=ih hr
   by_cases hc:m.1≤a.1
   ·exact ⟨a,by simp,fun u hu=>by
     rcases List.mem_cons.1 hu with rfl | hu
     ·exact Rat.le_refl
     ·exact Rat.le_trans (hle u hu) hc⟩
   ·exact ⟨m,List.mem_cons_of_mem _ hm,fun u hu=>by
     rcases List.mem_cons.1 hu with rfl | hu
     ·grind
     ·exact hle u hu⟩
theorem between {U L:List (Rat × Bool)}(h:∀u∈U,∀l∈L,l.1≤u.1∧((u.2 || l.2)=true→l.1<u.1)):∃t:Rat,(∀u∈U,t≤u.1∧(u.2=true→t<u.1))∧∀l∈L,l.1≤t∧(l.2=true→l.1<t):=by
 by_cases hU:U= []
 ·by_cases hL:L= []
  ·subst hU hL
   exact⟨0,by simp,by simp⟩
  ·obtain ⟨m,hm,hle⟩:=most hL
   subst hU;refine⟨m.1+1,by simp,fun l hl=> ?_⟩
   have:=hle l hl;exact⟨by grind,fun _=>by grind⟩
 ·obtain ⟨p,hp,hpl⟩:=least hU
  by_cases hL:L= []
  ·subst hL
   refine⟨p.1-1,fun u hu=> ?_,by simp⟩
   have:=hpl u hu;exact⟨by grind,fun _=>by grind⟩
  ·obtain ⟨m,hm,hml⟩:=most hL
   obtain⟨h1,h2⟩:=h p hp m hm
   by_cases hlt:m.1<p.1
   ·refine ⟨(m.1+p.1)/2,fun u hu=> ?_,fun l hl=> ?_⟩
    ·have:=hpl u hu
     exact⟨by grind,fun _=>by grind⟩
    ·have:=hml l hl
     exact⟨by grind,fun _=>by grind⟩
   ·have he:m.1=p.1:=by grind
    refine⟨m.1,fun u hu=>⟨by have:=hpl u hu;grind,fun hs=> ?_⟩,fun l hl=>⟨hml l hl,fun hs=> ?_⟩⟩
    ·exact (h u hu m hm).2 (by rw [hs];rfl)
    ·have:=(h p hp l hl).2 (by rw [hs,Bool.or_true])
     grind
theorem pair_le {p q A B X Y:Rat}(hpos:0<p* -q)(eA:X=p*A)(eB:Y=q*B)(h:0≤ -q*X+p*Y):B≤A:=by
 by_cases hc:B≤A
 ·exact hc
 ·exfalso
  have:=Rat.mul_pos hpos (show 0<B-A by grind)
  subst eA eB
  grind
theorem pair_lt {p q A B X Y:Rat}(hpos:0<p* -q)(eA:X=p*A)(eB:Y=q*B)(h:0< -q*X+p*Y):B<A:=by
 by_cases hc:B<A
 ·exact hc
 ·exfalso
  have:=mul_le_of hpos (show A≤B by grind)
  subst eA eB
  grind
theorem pair_sum {p q u v d e y:Rat}: -q*(u-(d-p*y))+p*(v-(e-q*y))=(-q*u+p*v)-(-q*d+p*e):=by grind
theorem fm_step (l:List WR)(n k:Nat)(hk:k<n):(∃x,∀r∈l,r.at n x)↔∃x,∀r∈fmK n k l,r.at n x:=by
 constructor
 ·rintro ⟨x,hx⟩
  refine⟨x,fun r hr=> ?_⟩
  obtain⟨a,ha,hr⟩:=List.mem_flatMap.1 hr
  split at hr
  ·rw [List.mem_singleton.1 hr];exact hx a ha
  ·split at hr
   ·rename_i hp
    obtain⟨b,hb,rfl⟩:=List.mem_map.1 hr;rw [List.mem_filter]at hb;exact joinW_at (hx a ha) (hx b hb.1) hp (of_decide_eq_true hb.2)
   ·cases hr
 ·rintro ⟨x,hx⟩
  have hz:∀a∈l,a.c k=0→a.at n x:=fun a ha h0=>hx a (List.mem_flatMap.2 ⟨a,ha,by rw [if_pos h0];simp⟩)
  have hj:∀a∈l,∀b∈l,0<a.c k→b.c k<0→(joinW n k a b).at n x:=fun a ha b hb h1 h2=>hx _ (List.mem_flatMap.2 ⟨a,ha,by
   rw [if_neg (by grind),if_pos h1]
   exact List.mem_map.2 ⟨b,List.mem_filter.2 ⟨hb,decide_eq_true h2⟩,rfl⟩⟩)
  obtain⟨t,h1,h2⟩:=between (U:=(l.filter fun a=>decide (0<a.c k)).map fun a=>((a.tt-(a.dot n x-a.c k*x k))/a.c k,a.less)) (L:=(l.filter fun b=>decide (b.c k<0)).map fun b=>((b.tt-(b.dot n x-b.c k*x k))/b.c k,b.less)) (by
   intro u hu v hv;obtain⟨a,ha,rfl⟩:=List.mem_map.1 hu;obtain⟨b,hb,rfl⟩:=List.mem_map.1 hv;rw [List.mem_filter]at ha hb;have p1:0<a.c k:=of_decide_eq_true ha.2;have p2:b.c k<0:=of_decide_eq_true hb.2;have hJ:=hj a ha.1 b hb.1 p1 p2;obtain⟨A,hA⟩:∃A,(a.tt-(a.dot n x-a.c k*x k))/a.c k=A:=⟨_,rfl⟩;obtain⟨B,hB⟩:∃B,(b.tt-(b.dot n x-b.c k*x k))/b.c k=B:=⟨_,rfl⟩;have eA:a.tt-(a.dot n x-a.c k*x k)=a.c k*A:=by rw [← hA];grind
   have eB:b.tt-(b.dot n x-b.c k*x k)=b.c k*B:=by rw [← hB];grind
   have hpos:0<a.c k* -b.c k:=Rat.mul_pos p1 (by grind)
   have hle:=WR.le hJ;rw [joinW_dot]at hle;have hle: -b.c k*a.dot n x+a.c k*b.dot n x≤ -b.c k*a.tt+a.c k*b.tt:=hle;simp only [hA,hB];refine⟨?_,fun hs=> ?_⟩
   ·refine pair_le hpos eA eB ?_
    rw [pair_sum];generalize -b.c k*a.dot n x+a.c k*b.dot n x=P at *;generalize -b.c k*a.tt+a.c k*b.tt=Q at *;clear hx hz hj eA eB hA hB
    grind
   ·have hlt:=hJ.2 hs
    rw [joinW_dot]at hlt;have hlt: -b.c k*a.dot n x+a.c k*b.dot n x< -b.c k*a.tt+a.c k*b.tt:=hlt;refine pair_lt hpos eA eB ?_;rw [pair_sum];generalize -b.c k*a.dot n x+a.c k*b.dot n x=P at *;generalize -b.c k*a.tt+a.c k*b.tt=Q at *;clear hx hz hj hle eA eB hA hB
    grind)
  refine⟨fun j=>if j=k then t else x j,fun r hr=> ?_⟩
  have hd:r.dot n (fun j=>if j=k then t else x j)=r.dot n x-r.c k*x k+r.c k*t:=sW_upd n hk
  unfold WR.at;rw [hd]
  by_cases h0:r.c k=0
  ·have:=hz r hr h0
   unfold WR.at at this;rw [h0];exact⟨fun h=>by have:=this.1 h;grind,fun h=>by have:=this.2 h;grind⟩
  ·by_cases hp:0<r.c k
   ·obtain ⟨e1,e2⟩:=h1 _ (List.mem_map.2 ⟨r,List.mem_filter.2 ⟨hr,decide_eq_true hp⟩,rfl⟩)
    obtain⟨A,hA⟩:∃A,(r.tt-(r.dot n x-r.c k*x k))/r.c k=A:=⟨_,rfl⟩;have eA:r.tt-(r.dot n x-r.c k*x k)=r.c k*A:=by rw [← hA];grind
    simp only [hA]at e1 e2;refine⟨fun _=> ?_,fun h=> ?_⟩
    ·have:=mul_le_of hp e1;grind
    ·have:=mul_lt_of hp (e2 h);grind
   ·have hn:r.c k<0:=by grind
    have hn':0< -r.c k:=by grind
    obtain⟨e1,e2⟩:=h2 _ (List.mem_map.2 ⟨r,List.mem_filter.2 ⟨hr,decide_eq_true hn⟩,rfl⟩);obtain⟨A,hA⟩:∃A,(r.tt-(r.dot n x-r.c k*x k))/r.c k=A:=⟨_,rfl⟩;have eA:r.tt-(r.dot n x-r.c k*x k)=r.c k*A:=by rw [← hA];grind
    simp only [hA]at e1 e2;refine⟨fun _=> ?_,fun h=> ?_⟩
    ·have:=mul_le_of hn' e1;grind
    ·have:=mul_lt_of hn' (e2 h);grind
def fmAll (n:Nat):Nat→List WR→List WR
 | 0,l=>l
 | d+1,l=>fmK n d (fmAll n d l)
theorem fm_all (l:List WR)(n:Nat):∀d,d≤n→((∃x,∀r∈l,r.at n x)↔∃x,∀r∈fmAll n d l,r.at n x)
 | 0,_=>Iff.rfl
 | d+1,h=>(fm_all l n d (by omega)).trans (fm_step _ n d (by omega))
theorem fm_gone (l:List WR)(n:Nat):∀d,d≤n→∀r∈fmAll n d l,∀j,j<d→r.c j=0
 | 0,_,_,_,j,hj=>by omega
 | d+1,h,r,hr,j,hj=>by
  obtain⟨a,ha,hr⟩:=List.mem_flatMap.1 hr;have ih:=fun r hr j hj=>fm_gone l n d (by omega) r hr j hj
  split at hr
  ·rename_i h0
   rw [List.mem_singleton.1 hr]
   by_cases e:j=d
   ·rw [e];exact h0
   ·exact ih a ha j (by omega)
  ·split at hr
   ·obtain ⟨b,hb,rfl⟩:=List.mem_map.1 hr
    rw [joinW_c (by omega)]
    by_cases e:j=d
    ·rw [e];grind
    ·rw [ih a ha j (by omega),ih b (List.mem_filter.1 hb).1 j (by omega)];grind
   ·cases hr
def okW (r:WR):Bool:= !(decide (r.tt<0) || (decide (r.tt=0)&&r.less))
theorem fm_ends (l:List WR)(n:Nat):(∃x,∀r∈l,r.at n x)↔(fmAll n n l).all okW=true:=by
 rw [fm_all l n n (Nat.le_refl _),List.all_eq_true];have hd:∀r∈fmAll n n l,∀x,r.dot n x=0:=fun r hr x=>by
  unfold WR.dot;rw [sW_congr (g:=fun _=>0) n fun j hj=>by rw [fm_gone l n n (Nat.le_refl _) r hr j hj,Rat.zero_mul]]
  have:∀m,sW m (fun _=>0)=0:=by
   intro m
   induction m with
   | zero=>rfl
   | succ m ih=>simp only [sW,ih];grind
  exact this n
 constructor
 ·rintro ⟨x,hx⟩ r hr
  have h:=hx r hr;unfold WR.at at h;rw [hd r hr x]at h;unfold okW
  rcases hl:r.less with _ | _
  ·have:=h.1 hl
   rw [decide_eq_false (by grind)];simp
  ·have:=h.2 hl
   rw [decide_eq_false (by grind),decide_eq_false (by grind)];simp
 ·intro h
  refine⟨fun _=>0,fun r hr=> ?_⟩
  have h:=h r hr;unfold okW at h;unfold WR.at;rw [hd r hr];rw [Bool.not_eq_true',Bool.or_eq_false_iff,decide_eq_false_iff_not]at h;refine⟨fun _=>by grind,fun hl=> ?_⟩
  rw [hl,Bool.and_true,decide_eq_false_iff_not]at h
  grind
end Go.Proofs.YtamjmcdlddocgaaGreat
