/- Plain: a pigeonhole, Siegel, sums, systems of lines, the bounds of a tableau. Package tableau's pivot. -/
import Derived.Test.YtmepglhdcphffaaGreatExAA
import Derived.Test.YtmepglhdcphffaaGreatTbMM
namespace Go.Proofs.YtmepglhdcphffaaGreat
set_option maxRecDepth 100000
set_option maxHeartbeats 32000000
set_option linter.unusedSimpArgs false
set_option linter.unusedVariables false
theorem Jl:∀(B A:Nat) (f:Nat→Nat),(∀i,i<A→f i<B)→B<A→∃i j,i<j∧j<A∧f i=f j
 | 0,A,f,h,hA=>absurd (h 0 hA) om
 | B+1,A,f,h,hA=>by
  by_cases hx:∃i,i<A-1∧f i=f (A-1)
  ·obtain ⟨i,hi,he⟩:=hx;exact⟨i,A-1,hi,om,he⟩
  have hx:∀i,i<A-1→f i≠f (A-1):=fun i hi he=>hx ⟨i,hi,he⟩;have hl:=h (A-1) om;obtain⟨i,j,hij,hj,he⟩:=Jl B (A-1) (fun i=>if f i=B then f (A-1)else f i) (by
   intro i hi;have h1:=h i om;have h2:=hx i hi;split<;>omega) om
  refine⟨i,j,hij,om,?_⟩;have h1:=hx i om;have h2:=hx j hj;split at he<;>split at he<;>omega
def Aq (W:Nat):Nat→(Nat→Nat)→Nat
 | 0,_=>0
 | k+1,g=>Aq W k g*W+g k
theorem QY {W:Nat}{g:Nat→Nat}:∀k,(∀u,u<k→g u<W)→Aq W k g<W^k
 | 0,_=>by simp [Aq]
 | k+1,h=>by
  have ih:=QY k fun u hu=>h u om;have hk:=h k om;unfold Aq;rw [Nat.pow_succ];have:(Aq W k g+1)*W≤W^k*W:=Nat.mul_le_mul_right _ ih;rw [Nat.add_mul]at this;omega
theorem MJ {W:Nat}{g g':Nat→Nat}:∀k,(∀u,u<k→g u<W)→(∀u,u<k→g' u<W)→Aq W k g=Aq W k g'→∀u,u<k→g u=g' u
 | 0,_,_,_,u,hu=>absurd hu om
 | k+1,h,h',he,u,hu=>by
  have hk:=h k om;have hk':=h' k om;unfold Aq at he;have hm:(Aq W k g*W+g k)%W=(Aq W k g'*W+g' k)%W:=by rw [he]
  have hd:(Aq W k g*W+g k)/W=(Aq W k g'*W+g' k)/W:=by rw [he]
  have hW:0<W:=om;rw [Nat.add_comm,Nat.add_mul_mod_self_right,Nat.mod_eq_of_lt hk,Nat.add_comm,Nat.add_mul_mod_self_right,Nat.mod_eq_of_lt hk']at hm;rw [Nat.add_comm,Nat.add_mul_div_right _ _ hW,Nat.div_eq_of_lt hk,Nat.zero_add,Nat.add_comm,Nat.add_mul_div_right _ _ hW,Nat.div_eq_of_lt hk',Nat.zero_add]at hd;by_cases hu':u=k
  ·subst hu';exact hm
  exact MJ k (fun u hu=>h u om) (fun u hu=>h' u om) om u om
def oI (b t j:Nat):Nat:=t/b^j%b
theorem MK {b:Nat}(hb:0<b):∀(n t t':Nat),t<b^n→t'<b^n→(∀j,j<n→oI b t j=oI b t' j)→t=t'
 | 0,t,t',h,h',_=>by simp at h h';omega
 | n+1,t,t',h,h',hd=>by
  have h0:=hd 0 om;unfold oI at h0;simp only [Nat.pow_zero,Nat.div_one]at h0;have ih:=MK hb n (t/b) (t'/b) (Nat.div_lt_of_lt_mul (by rw [Nat.pow_succ]at h;rw [Nat.mul_comm];exact h)) (Nat.div_lt_of_lt_mul (by rw [Nat.pow_succ]at h';rw [Nat.mul_comm];exact h')) (by
   intro j hj;have:=hd (j+1) om;unfold oI at this ⊢;rw [Nat.div_div_eq_div_mul,Nat.div_div_eq_div_mul,Nat.mul_comm b,←Nat.pow_succ];exact this)
  rw [← Nat.div_add_mod t b,←Nat.div_add_mod t' b,ih,h0]
def sZ:Nat→(Nat→Int)→Int
 | 0,_=>0
 | k+1,f=>sZ k f+f k
theorem Ey {f g:Nat→Int}:∀n,sZ n (fun j=>f j-g j)=sZ n f-sZ n g
 | 0=>rfl
 | n+1=>by simp only [sZ,Ey n];omega
theorem Ez {f g:Nat→Int}:∀n,(∀j,j<n→f j=g j)→sZ n f=sZ n g
 | 0,_=>rfl
 | n+1,h=>by simp only [sZ];rw [Ez n fun j hj=>h j om,h n om]
theorem Yn {f:Nat→Int}{c:Nat}:∀n,(∀j,j<n→(f j).natAbs≤c)→(sZ n f).natAbs≤n*c
 | 0,_=>by simp [sZ]
 | n+1,h=>by
  have ih:=Yn n fun j hj=>h j om;have hn:=h n om;simp only [sZ];rw [Nat.add_mul,Nat.one_mul];omega
theorem Yo {f g:Nat→Int}:∀n,(∀j,j<n→f j≤g j)→sZ n f≤sZ n g
 | 0,_=>Int.le_refl _
 | n+1,h=>by
  have ih:=Yo n fun j hj=>h j om;have hn:=h n om;simp only [sZ];omega
theorem zA {c:Int}:∀n,sZ n (fun _=>c)=n*c
 | 0=>by simp [sZ]
 | n+1=>by
  simp only [sZ,zA n];rw [show((n+1:Nat):Int)=(n:Int)+1 from rfl,Int.add_mul,Int.one_mul]
theorem Yp (n r M:Nat)(hr:r<n)(hM:0<M)(F:Nat→Nat→Int)(hF:∀u j,u<r→j<n→(F u j).natAbs≤M):
  ∃y:Nat→Int,(∃j,j<n∧y j≠0)∧(∀j,j<n→(y j).natAbs≤(n*M)^r)∧∀u,u<r→sZ n (fun j=>F u j*y j)=0:=by
 obtain⟨Y,hY⟩:∃Y,Y=(n*M)^r:=⟨_,rfl⟩;rw [← hY];have hn:0<n:=om;have hnM:0<n*M:=Nat.mul_pos hn hM;let off:Nat→Int:=fun u=>sZ n fun j=>if F u j<0 then -(F u j)*Y else 0
 let val:Nat→Nat→Int:=fun t u=>sZ n fun j=>F u j*(oI (Y+1) t j:Int)
 have hdig:∀t j,oI (Y+1) t j≤Y:=fun t j=>Nat.le_of_lt_succ (Nat.mod_lt _ om);have hlo:∀t u,0≤val t u+off u:=by
  intro t u;have h1:sZ n (fun j=> -(if F u j<0 then -(F u j)*(Y:Int)else 0))≤sZ n fun j=>F u j*(oI (Y+1) t j:Int):=by
   refine Yo n fun j hj=> ?_;have h2:(oI (Y+1) t j:Int)≤Y:=by have:=hdig t j;omega
   have h3:(0:Int)≤(oI (Y+1) t j:Int):=om;split
   ·rename_i hneg;rw [Int.neg_mul,Int.neg_neg];exact Int.mul_le_mul_of_nonpos_left om h2
   rename_i hpos;exact Int.mul_nonneg om h3
  have h4:sZ n (fun j=> -(if F u j<0 then -(F u j)*(Y:Int)else 0))= -(off u):=by
   have:=Ey (f:=fun _=>0) (g:=fun j=>if F u j<0 then -(F u j)*(Y:Int)else 0) n;rw [zA]at this;simp only [Int.mul_zero,Int.zero_sub]at this;exact this
  have h1':=h4 ▸ h1;have h5:val t u=sZ n fun j=>F u j*(oI (Y+1) t j:Int):=rfl;omega
 have hhi:∀t u,u<r→val t u+off u≤n*(M*Y):=by
  intro t u hu;have e:val t u+off u=sZ n fun j=>F u j*(oI (Y+1) t j:Int)- -(if F u j<0 then -(F u j)*(Y:Int)else 0):=by
   rw [Ey];have h4:sZ n (fun j=> -(if F u j<0 then -(F u j)*(Y:Int)else 0))= -(off u):=by
    have:=Ey (f:=fun _=>0) (g:=fun j=>if F u j<0 then -(F u j)*(Y:Int)else 0) n;rw [zA]at this;simp only [Int.mul_zero,Int.zero_sub]at this;exact this
   rw [h4];show val t u+off u=val t u- -off u;omega
  rw [e,←zA (c:=(M:Int)*Y) n];refine Yo n fun j hj=> ?_;have hf:=hF u j hu hj;have h2:(oI (Y+1) t j:Int)≤Y:=by have:=hdig t j;omega
  have h3:(0:Int)≤(oI (Y+1) t j:Int):=om;split
  ·rename_i hneg;have h6:F u j*(oI (Y+1) t j:Int)≤0:=Int.mul_nonpos_of_nonpos_of_nonneg om h3;have h7: -(F u j)*(Y:Int)≤M*Y:=Int.mul_le_mul_of_nonneg_right om om;omega
  rename_i hpos;have h6:F u j*(oI (Y+1) t j:Int)≤M*Y:=Int.mul_le_mul om h2 h3 om;omega
 have hW:∀t u,u<r→(val t u+off u).toNat<n*M*Y+1:=by
  intro t u hu;have h1:=hlo t u;have h2:=hhi t u hu;have h3:(n:Int)*(M*Y)=((n*M*Y:Nat):Int):=by
   rw [Int.natCast_mul,Int.natCast_mul,Int.mul_assoc]
  rw [h3]at h2;omega
 have hbig:(n*M*Y+1)^r<(Y+1)^n:=by
  have h1:(n*M*Y+1)^r≤(n*M*(Y+1))^r:=Nat.pow_le_pow_left (by rw [Nat.mul_add];omega) r;rw [Nat.mul_pow,←hY]at h1;have h2:Y*(Y+1)^r<(Y+1)^(r+1):=by
   rw [Nat.pow_succ,Nat.mul_comm];exact Nat.mul_lt_mul_of_pos_left om (Nat.pow_pos om)
  exact Nat.lt_of_le_of_lt h1 (bJ h2 (Nat.pow_le_pow_right om hr))
 obtain⟨t,t',hlt,ht',he⟩:=Jl ((n*M*Y+1)^r) ((Y+1)^n) (fun t=>Aq (n*M*Y+1) r fun u=>(val t u+off u).toNat) (fun t _=>QY r fun u hu=>hW t u hu) hbig;have hsame:=MJ r (fun u hu=>hW t u hu) (fun u hu=>hW t' u hu) he;refine⟨fun j=>(oI (Y+1) t j:Int)-(oI (Y+1) t' j:Int),?_,?_,?_⟩
 ·refine Classical.byContradiction fun hno=> ?_;have:t=t':=MK om n t t' om ht' fun j hj=>by
   refine Classical.byContradiction fun hne=>hno ⟨j,hj,?_⟩;show(oI (Y+1) t j:Int)-(oI (Y+1) t' j:Int)≠0;omega
  omega
 ·intro j hj;have h1:=hdig t j;have h2:=hdig t' j;show((oI (Y+1) t j:Int)-(oI (Y+1) t' j:Int)).natAbs≤Y;omega
 intro u hu;have h1:=hsame u hu;have h2:=hlo t u;have h3:=hlo t' u;have e:sZ n (fun j=>F u j*((oI (Y+1) t j:Int)-(oI (Y+1) t' j:Int)))=val t u-val t' u:=by
  rw [← Ey];refine Ez n fun j hj=> ?_;rw [Int.mul_sub]
 rw [e];omega
def sQ:Nat→(Nat→Rat)→Rat
 | 0,_=>0
 | k+1,f=>sQ k f+f k
theorem eG {f g:Nat→Rat}:∀n,(∀j,j<n→f j=g j)→sQ n f=sQ n g
 | 0,_=>rfl
 | n+1,h=>by simp only [sQ];rw [eG n fun j hj=>h j om,h n om]
theorem qG {f g:Nat→Rat}:∀n,sQ n (fun j=>f j+g j)=sQ n f+sQ n g
 | 0=>by simp only [sQ];grind
 | n+1=>by simp only [sQ,qG n];grind
theorem Po {f g:Nat→Rat}:∀n,sQ n (fun j=>f j-g j)=sQ n f-sQ n g
 | 0=>by simp only [sQ];grind
 | n+1=>by simp only [sQ,Po n];grind
theorem xJ {f:Nat→Rat}{c:Rat}:∀n,sQ n (fun j=>c*f j)=c*sQ n f
 | 0=>by simp only [sQ];grind
 | n+1=>by simp only [sQ,xJ n];grind
theorem QW {f:Nat→Rat}{c:Rat}:∀n,sQ n (fun j=>f j*c)=sQ n f*c
 | 0=>by simp only [sQ];grind
 | n+1=>by simp only [sQ,QW n];grind
theorem QZ:∀n,sQ n (fun _=>0)=0
 | 0=>rfl
 | n+1=>by simp only [sQ,QZ n];grind
theorem jR {f:Nat→Rat}(n:Nat)(h:∀j,j<n→f j=0):sQ n f=0:=(eG n h).trans (QZ n)
theorem sP {v:Nat}{g:Rat}:∀n,v<n→sQ n (fun j=>if j=v then g else 0)=g
 | 0,h=>absurd h om
 | n+1,h=>by
  simp only [sQ];by_cases e:v=n
  ·subst e;rw [jR v fun j hj=>if_neg om,if_pos rfl];grind
  rw [sP n om,if_neg om];grind
theorem BO {v:Nat}{f:Nat→Rat}(n:Nat)(hv:v<n)(h:∀j,j<n→j≠v→f j=0):sQ n f=f v:=by
 rw [← sP (v:=v) (g:=f v) n hv];refine eG n fun j hj=> ?_;split
 ·rename_i e;rw [e]
 rename_i e;exact h j hj e
theorem QO {f:Nat→Rat}{n:Nat}:∀K,(∀j,n≤j→j<n+K→f j=0)→sQ (n+K) f=sQ n f
 | 0,_=>rfl
 | K+1,h=>by
  rw [show n+(K+1)=n+K+1 from rfl];simp only [sQ];rw [QO K fun j h1 h2=>h j h1 om,h (n+K) om om];grind
def Sat (K m:Nat)(c:Nat→Nat→Rat)(bs:Nat→Nat)(x:Nat→Rat):Prop:=∀i,i<m→x (bs i)=sQ K fun k=>c i k*x k
def ZC (m:Nat)(c:Nat→Nat→Rat)(bs:Nat→Nat):Prop:=∀i j,i<m→j<m→c i (bs j)=0
structure Piv (K m:Nat)(c c':Nat→Nat→Rat)(bs bs':Nat→Nat)(i v:Nat):Prop where
 hi:i<m
 hv:v<K
 ha:c i v≠0
 hb:∀j,j<m→bs j<K
 hn:∀j,j<m→bs j≠v
 inj:∀j,j<m→j≠i→bs j≠bs i
 ci:∀k,k<K→c' i k=if k=bs i then 1/c i v else if k=v then 0 else -(c i k/c i v)
 cj:∀j,j<m→j≠i→∀k,k<K→c' j k=(if k=v then 0 else c j k)+c j v*c' i k
 bi:bs' i=v
 bj:∀j,j<m→j≠i→bs' j=bs j
theorem Piv.sumi {K m:Nat}{c c':Nat→Nat→Rat}{bs bs':Nat→Nat}{i v:Nat}(h:Piv K m c c' bs bs' i v)(hz:ZC m c bs)(x:Nat→Rat):
  sQ K (fun k=>c' i k*x k)=(x (bs i)-sQ K fun k=>c i k*x k)*(1/c i v)+x v:=by
 have hvb:=h.hn i h.hi;have hz':=hz i i h.hi h.hi;have e:∀k,k<K→c' i k*x k=(-(1/c i v)*(c i k*x k))+(if k=bs i then 1/c i v*x (bs i)else 0)+(if k=v then x v else 0):=by
  intro k hk;rw [h.ci k hk];have ha:=h.ha;by_cases e1:k=bs i
  ·subst e1;rw [if_pos rfl,if_pos rfl,if_neg hvb,hz'];grind
  rw [if_neg e1,if_neg e1];by_cases e2:k=v
  ·subst e2;rw [if_pos rfl,if_pos rfl];grind
  rw [if_neg e2,if_neg e2];grind
 rw [eG K e,qG,qG,xJ,sP K (h.hb i h.hi),sP K h.hv];grind
theorem Piv.sumj {K m:Nat}{c c':Nat→Nat→Rat}{bs bs':Nat→Nat}{i v:Nat}(h:Piv K m c c' bs bs' i v)(x:Nat→Rat){j:Nat}(hj:j<m)(hji:j≠i):
  sQ K (fun k=>c' j k*x k)=sQ K (fun k=>c j k*x k)-c j v*x v+c j v*sQ K (fun k=>c' i k*x k):=by
 have e:∀k,k<K→c' j k*x k=c j k*x k-(if k=v then c j v*x v else 0)+c j v*(c' i k*x k):=by
  intro k hk;rw [h.cj j hj hji k hk];by_cases e2:k=v
  ·subst e2;rw [if_pos rfl,if_pos rfl];grind
  rw [if_neg e2,if_neg e2];grind
 rw [eG K e,qG,Po,xJ,sP K h.hv]
theorem Piv.sat {K m:Nat}{c c':Nat→Nat→Rat}{bs bs':Nat→Nat}{i v:Nat}(h:Piv K m c c' bs bs' i v)(hz:ZC m c bs)(x:Nat→Rat):Sat K m c' bs' x↔Sat K m c bs x:=by
 have hs:=h.sumi hz x;have ha:=h.ha;constructor
 ·intro H;have hi:=H i h.hi;rw [h.bi,hs]at hi;have hii:x (bs i)=sQ K fun k=>c i k*x k:=by grind
  intro j hj;by_cases e:j=i
  ·subst e;exact hii
  have hj':=H j hj;rw [h.bj j hj e,h.sumj x hj e,hs]at hj';rw [hj'];grind
 intro H;have hi:=H i h.hi;intro j hj;by_cases e:j=i
 ·subst e;rw [h.bi,hs];grind
 have hj':=H j hj;rw [h.bj j hj e,h.sumj x hj e,hs,hj'];grind
theorem Piv.zc {K m:Nat}{c c':Nat→Nat→Rat}{bs bs':Nat→Nat}{i v:Nat}(h:Piv K m c c' bs bs' i v)(hz:ZC m c bs):ZC m c' bs':=by
 have hvb:=h.hn i h.hi;have hiv:c' i v=0:=by rw [h.ci v h.hv,if_neg (Ne.symm hvb),if_pos rfl]
 have hib:∀j,j<m→j≠i→c' i (bs j)=0:=by
  intro j hj e;rw [h.ci _ (h.hb j hj),if_neg (h.inj j hj e),if_neg (h.hn j hj),hz i j h.hi hj];grind
 intro p j hp hj;by_cases ep:p=i
 ·subst ep;by_cases ej:j=p
  ·subst ej;rw [h.bi];exact hiv
  rw [h.bj j hj ej];exact hib j hj ej
 by_cases ej:j=i
 ·subst ej;rw [h.bi,h.cj p hp ep v h.hv,if_pos rfl,hiv];grind
 rw [h.bj j hj ej,h.cj p hp ep _ (h.hb j hj),if_neg (h.hn j hj),hz p j hp hj,hib j hj ej];grind
theorem Mv {K m:Nat}{c:Nat→Nat→Rat}{bs:Nat→Nat}(hz:ZC m c bs){x x':Nat→Rat}{v:Nat}{d:Rat}(hv:v<K)(h:Sat K m c bs x)(hb:∀j,j<m→bs j<K)(hnv:∀j,j<m→bs j≠v)
  (h1:x' v=x v+d) (h2:∀i,i<m→x' (bs i)=x (bs i)+d*c i v) (h3:∀k,k<K→k≠v→(∀i,i<m→bs i≠k)→x' k=x k):Sat K m c bs x':=by
 intro i hi;rw [h2 i hi,h i hi];have e:∀k,k<K→c i k*x' k=c i k*x k+(if k=v then c i v*d else 0):=by
  intro k hk;by_cases e2:k=v
  ·subst e2;rw [if_pos rfl,h1];grind
  rw [if_neg e2];by_cases hx:∃j,j<m∧bs j=k
  ·obtain ⟨j,hj,rfl⟩:=hx;rw [hz i j hi hj];grind
  rw [h3 k hk e2 fun j hj e=>hx ⟨j,hj,e⟩];grind
 rw [eG K e,qG,sP K hv];grind
def Ug (K m:Nat)(bs:Nat→Nat):List Nat:=(List.range K).filter fun v=>(List.range m).all fun j=>decide (bs j≠v)
theorem tu {K m:Nat}{bs:Nat→Nat}{v:Nat}:v∈Ug K m bs↔v<K∧∀j,j<m→bs j≠v:=by
 unfold Ug;simp only [List.mem_filter,List.mem_range,List.all_eq_true,decide_eq_true_eq]
theorem Gz {K m:Nat}{bs:Nat→Nat}:(Ug K m bs).Nodup:=List.Pairwise.filter _ List.nodup_range
theorem zC {l:List Nat}(h:l.Nodup){i j:Nat}(hi:i<l.length)(hj:j<l.length)(e:l[i]=l[j]):i=j:=(List.getElem_inj h).1 e
theorem Q0 {K m:Nat}{bs:Nat→Nat}(hb:∀j,j<m→bs j<K)(inj:∀i j,i<m→j<m→bs i=bs j→i=j):(Ug K m bs).length+m≤K:=by
 refine Classical.byContradiction fun hno=> ?_;obtain⟨i,j,hij,hj,he⟩:=Jl K ((Ug K m bs).length+m) (fun i=>if h:i<(Ug K m bs).length then(Ug K m bs)[i]else bs (i-(Ug K m bs).length)) (by
  intro i hi;split
  ·rename_i h;exact(tu.1 (List.getElem_mem h)).1
  exact hb _ om) om
 split at he
 ·rename_i h1;split at he
  ·rename_i h2;have:=zC Gz h1 h2 he;omega
  rename_i h2;exact(tu.1 (List.getElem_mem h1)).2 (j-(Ug K m bs).length) om he.symm
 rename_i h1;split at he
 ·omega
 rename_i h2;have:=inj _ _ om om he;omega
theorem Uh {l L:List Nat}(h:l.Nodup)(hs:∀x∈l,x∈L):l.length≤L.length:=by
 refine Classical.byContradiction fun hno=> ?_;obtain⟨i,j,hij,hj,he⟩:=Jl L.length l.length (fun i=>if h:i<l.length then L.idxOf l[i]else 0) (by
  intro i hi;rw [dif_pos hi];exact List.idxOf_lt_length_of_mem (hs _ (List.getElem_mem hi))) om
 rw [dif_pos om,dif_pos hj]at he;have h1:=List.idxOf_lt_length_of_mem (hs _ (List.getElem_mem (show i<l.length from om)));have e1:L[L.idxOf l[i]]=l[i]:=List.getElem_idxOf h1;have h2:=List.idxOf_lt_length_of_mem (hs _ (List.getElem_mem hj));have e2:L[L.idxOf l[j]]=l[j]:=List.getElem_idxOf h2;have:l[i]=l[j]:=by
  rw [← e1,←e2];simp only [he]
 have:=zC h _ _ this;omega
theorem BS {f:Nat→Int}:∀n,((sZ n f:Int):Rat)=sQ n fun j=>((f j:Int):Rat)
 | 0=>rfl
 | n+1=>by simp only [sZ,sQ];rw [← BS n];exact Rat.intCast_add _ _
def gD (n:Nat)(A:Nat→Nat→Int)(k j:Nat):Int:=if k<n then(if k=j then 1 else 0)else A (k-n) j
def Sys (n m:Nat)(A:Nat→Nat→Int)(x:Nat→Rat):Prop:=∀i,i<m→x (n+i)=sQ n fun j=>(A i j:Rat)*x j
theorem EC {n m M:Nat}{A:Nat→Nat→Int}(hM:0<M)(hA:∀i j,i<m→j<n→(A i j).natAbs≤M){k j:Nat}(hk:k<n+m)(hj:j<n):(gD n A k j).natAbs≤M:=by
 unfold gD;split
 ·split<;>simp<;>omega
 exact hA _ _ om hj
theorem Q5 {n m:Nat}{A:Nat→Nat→Int}(y:Nat→Int):Sys n m A fun k=>((sZ n fun j=>gD n A k j*y j:Int):Rat):=by
 intro i hi;show((sZ n fun j=>gD n A (n+i) j*y j:Int):Rat)=sQ n fun j=>(A i j:Rat)*((sZ n fun j'=>gD n A j j'*y j':Int):Rat);rw [BS];refine eG n fun j hj=> ?_;have e:(sZ n fun j'=>gD n A j j'*y j')=y j:=by
  have:((sZ n fun j'=>gD n A j j'*y j':Int):Rat)=(y j:Rat):=by
   rw [BS,BO (v:=j) n hj]
   ·unfold gD;rw [if_pos hj,if_pos rfl,Int.one_mul]
   intro j' _ hne;unfold gD;rw [if_pos hj,if_neg om,Int.zero_mul];rfl
  exact_mod_cast this
 rw [e];unfold gD;rw [if_neg om,show n+i-n=i from om];exact Rat.intCast_mul _ _
theorem GD {n:Nat}{A:Nat→Nat→Int}(y:Nat→Int){j:Nat}(hj:j<n):(sZ n fun j'=>gD n A j j'*y j')=y j:=by
 have:((sZ n fun j'=>gD n A j j'*y j':Int):Rat)=(y j:Rat):=by
  rw [BS,BO (v:=j) n hj]
  ·unfold gD;rw [if_pos hj,if_pos rfl,Int.one_mul]
  intro j' _ hne;unfold gD;rw [if_pos hj,if_neg om,Int.zero_mul];rfl
 exact_mod_cast this
theorem ML {K m:Nat}{c:Nat→Nat→Rat}{bs:Nat→Nat}(hz:ZC m c bs){x:Nat→Rat}(h:Sat K m c bs x)(h0:∀k,k<K→(∀j,j<m→bs j≠k)→x k=0)(hb:∀j,j<m→bs j<K):∀k,k<K→x k=0:=by
 have hbs:∀i,i<m→x (bs i)=0:=by
  intro i hi;rw [h i hi];refine jR K fun k hk=> ?_;by_cases hx:∃j,j<m∧bs j=k
  ·obtain ⟨j,hj,rfl⟩:=hx;rw [hz i j hi hj];grind
  rw [h0 k hk fun j hj e=>hx ⟨j,hj,e⟩];grind
 intro k hk;by_cases hx:∃j,j<m∧bs j=k
 ·obtain ⟨j,hj,rfl⟩:=hx;exact hbs j hj
 exact h0 k hk fun j hj e=>hx ⟨j,hj,e⟩
def QB (B:Nat)(q:Rat):Prop:=∃a b:Int,b≠0∧q*(b:Rat)=(a:Rat)∧a.natAbs≤B∧b.natAbs≤B
theorem QB.mono {B B':Nat}{q:Rat}(h:QB B q)(hB:B≤B'):QB B' q:=by
 obtain⟨a,b,h1,h2,h3,h4⟩:=h;exact⟨a,b,h1,h2,Nat.le_trans h3 hB,Nat.le_trans h4 hB⟩
theorem QB.zero {B:Nat}(hB:0<B):QB B 0:=⟨0,1,om,by grind,sm,hB⟩
theorem Q6 {n m M Y:Nat}{A:Nat→Nat→Int}(hM:0<M)(hA:∀i j,i<m→j<n→(A i j).natAbs≤M){y:Nat→Int}(hy:∀j,j<n→(y j).natAbs≤Y){k:Nat}(hk:k<n+m):
  (sZ n fun j=>gD n A k j*y j).natAbs≤n*(M*Y):=by
 refine Yn n fun j hj=> ?_;rw [Int.natAbs_mul];exact Nat.mul_le_mul (EC hM hA hk hj) (hy j hj)
theorem Pk {n m M:Nat}{A:Nat→Nat→Int}(hM:0<M)(hA:∀i j,i<m→j<n→(A i j).natAbs≤M){c:Nat→Nat→Rat}{bs:Nat→Nat}
  (hs:∀x,Sys n m A x→Sat (n+m) m c bs x) (hz:ZC m c bs) (hb:∀j,j<m→bs j<n+m) (inj:∀i j,i<m→j<m→bs i=bs j→i=j) {i v:Nat} (hi:i<m) (hv:v<n+m):
  QB ((n+1)*(M*((n+1)*M)^n)) (c i v):=by
 have hB:0<(n+1)*(M*((n+1)*M)^n):=Nat.mul_pos om (Nat.mul_pos hM (Nat.pow_pos (Nat.mul_pos om hM)));by_cases hx:∃j,j<m∧bs j=v
 ·obtain ⟨j,hj,rfl⟩:=hx;rw [hz i j hi hj];exact QB.zero hB
 have hnv:∀j,j<m→bs j≠v:=fun j hj e=>hx ⟨j,hj,e⟩;obtain⟨L,hL⟩:∃L,L=(Ug (n+m) m bs).filter fun u=>decide (u≠v):=⟨_,rfl⟩;have hvm:v∈Ug (n+m) m bs:=tu.2 ⟨hv,hnv⟩;have hlen:L.length<n:=by
  have h1:=Q0 hb inj;have h2:(v::L).Nodup:=by
   refine List.nodup_cons.2 ⟨?_,hL ▸ List.Pairwise.filter _ Gz⟩;rw [hL];simp
  have h3:=Uh (L:=Ug (n+m) m bs) h2 (by
   intro x hx;rcases List.mem_cons.1 hx with rfl | hx
   ·exact hvm
   rw [hL]at hx;exact(List.mem_filter.1 hx).1)
  simp only [List.length_cons]at h3;omega
 obtain⟨y,⟨j0,hj0,hy0⟩,hyb,hyz⟩:=Yp n L.length M hlen hM (fun u j=>gD n A (L.getD u 0) j) (by
  intro u j hu hj;refine EC hM hA ?_ hj;rw [dV,eD hu];have h1:∀x∈L,x<n+m:=fun x hx=>(tu.1 (List.mem_filter.1 (hL ▸ hx)).1).1;exact h1 _ (List.getElem_mem hu))
 have hS:=hs _ (Q5 y);have hx0:∀k,k<n+m→(∀j,j<m→bs j≠k)→k≠v→(sZ n fun j=>gD n A k j*y j)=0:=by
  intro k hk hn hkv;have hm:k∈L:=by rw [hL];exact List.mem_filter.2 ⟨tu.2 ⟨hk,hn⟩,by simpa using hkv⟩
  obtain⟨u,hu,rfl⟩:=List.getElem_of_mem hm;have:=hyz u hu;rw [dV,eD hu]at this;exact this
 have hvz:(sZ n fun j=>gD n A v j*y j)≠0:=by
  intro h0;have hall:=ML hz hS (by
   intro k hk hn;by_cases e:k=v
   ·subst e;simp only [h0];rfl
   simp only [hx0 k hk hn e];rfl) hb j0 om
  simp only [GD y hj0]at hall;exact hy0 (by exact_mod_cast hall)
 have hle:∀k,k<n+m→(sZ n fun j=>gD n A k j*y j).natAbs≤(n+1)*(M*((n+1)*M)^n):=by
  intro k hk;have h1:=Q6 hM hA hyb hk;refine Nat.le_trans h1 (Nat.mul_le_mul om (Nat.mul_le_mul (Nat.le_refl _) ?_));refine Nat.le_trans (Nat.pow_le_pow_left (Nat.mul_le_mul_right M (show n≤n+1 from om)) _) (Nat.pow_le_pow_right (Nat.mul_pos om hM) om)
 refine⟨sZ n fun j=>gD n A (bs i) j*y j,sZ n fun j=>gD n A v j*y j,hvz,?_,hle _ (hb i hi),hle _ hv⟩;have h1:=hS i hi;simp only at h1;rw [h1,BO (v:=v) (n+m) hv];intro k hk hkv;by_cases hx:∃j,j<m∧bs j=k
 ·obtain ⟨j,hj,rfl⟩:=hx;rw [hz i j hi hj];grind
 rw [hx0 k hk (fun j hj e=>hx ⟨j,hj,e⟩) hkv];show c i k*((0:Int):Rat)=0;rw [show((0:Int):Rat)=0 from rfl];grind
theorem zaX {K m:Nat}{c:Nat→Nat→Rat}{bs:Nat→Nat}{x y:Nat→Rat}(hx:Sat K m c bs x)(hy:Sat K m c bs y)(z:Rat):Sat K m c bs fun k=>z*x k-y k:=by
 intro i hi;show z*x (bs i)-y (bs i)=_;rw [hx i hi,hy i hi,←xJ,←Po];refine eG K fun k _=> ?_;grind
theorem Bb {n m M:Nat}{A:Nat→Nat→Int}(hM:0<M)(hA:∀i j,i<m→j<n→(A i j).natAbs≤M){c:Nat→Nat→Rat}{bs:Nat→Nat}
  (hs:∀x,Sys n m A x→Sat (n+m) m c bs x) (hz:ZC m c bs) (hb:∀j,j<m→bs j<n+m) (inj:∀i j,i<m→j<m→bs i=bs j→i=j)
  {x:Nat→Rat} (hx:Sat (n+m) m c bs x) (β:Nat→Int) (hβ:∀k,k<n+m→(∀j,j<m→bs j≠k)→x k=(β k:Rat)∧(β k).natAbs≤M) {k:Nat} (hk:k<n+m):
  QB ((n+1)*(M*((n+1)*M)^n)) (x k):=by
 obtain⟨L,hL⟩:∃L,L=Ug (n+m) m bs:=⟨_,rfl⟩;have hlen:L.length<n+1:=by
  have h1:=Q0 hb inj;rw [hL];omega
 have hLm:∀u (hu:u<L.length),L[u]<n+m∧∀j,j<m→bs j≠L[u]:=by
  intro u hu;have h1:∀x∈L,x<n+m∧∀j,j<m→bs j≠x:=fun x hx=>tu.1 (hL ▸ hx);exact h1 _ (List.getElem_mem hu)
 obtain⟨y,⟨j0,hj0,hy0⟩,hyb,hyz⟩:=Yp (n+1) L.length M hlen hM (fun u j=>if j<n then gD n A (L.getD u 0) j else -β (L.getD u 0)) (by
  intro u j hu hj;rw [dV,eD hu,Option.getD_some];split
  ·rename_i hjn;exact EC hM hA (hLm u hu).1 hjn
  rw [Int.natAbs_neg];exact(hβ _ (hLm u hu).1 (hLm u hu).2).2)
 have hS:=hs _ (Q5 y);have hX:∀k,k<n+m→(∀j,j<m→bs j≠k)→(sZ n fun j=>gD n A k j*y j)=β k*y n:=by
  intro k hk hn;have hm:k∈L:=by rw [hL];exact tu.2 ⟨hk,hn⟩
  obtain⟨u,hu,rfl⟩:=List.getElem_of_mem hm;have:=hyz u hu;simp only [dV,eD hu,Option.getD_some]at this;simp only [sZ]at this;rw [if_neg om]at this;have e:(sZ n fun j=>(if j<n then gD n A L[u] j else -β L[u])*y j)=sZ n fun j=>gD n A L[u] j*y j:=Ez n fun j hj=>by rw [if_pos hj]
  rw [e,Int.neg_mul]at this;omega
 have hall:∀k,k<n+m→(y n:Rat)*x k-((sZ n fun j=>gD n A k j*y j:Int):Rat)=0:=by
  refine ML hz (zaX hx hS (y n:Rat)) ?_ hb;intro k hk hn;rw [hX k hk hn,(hβ k hk hn).1,Rat.intCast_mul];grind
 have hle:(sZ n fun j=>gD n A k j*y j).natAbs≤(n+1)*(M*((n+1)*M)^n):=by
  have h1:=Q6 hM hA (fun j hj=>hyb j om) hk;refine Nat.le_trans h1 (Nat.mul_le_mul om (Nat.mul_le_mul (Nat.le_refl _) ?_));exact Nat.pow_le_pow_right (Nat.mul_pos om hM) om
 have hyn:y n≠0:=by
  intro h0;by_cases e:j0=n
  ·subst e;exact hy0 h0
  have h1:=hall j0 om;rw [GD y (show j0<n from om),h0]at h1;have h2:(y j0:Rat)=0:=by
   rw [show((0:Int):Rat)=0 from rfl]at h1;grind
  exact hy0 (by exact_mod_cast h2)
 refine⟨sZ n fun j=>gD n A k j*y j,y n,hyn,?_,hle,?_⟩
 ·have:=hall k hk;grind
 refine Nat.le_trans (hyb n om) (Nat.le_trans (Nat.pow_le_pow_right (Nat.mul_pos om hM) (show L.length≤n from om)) ?_);rw [← Nat.mul_assoc];exact Nat.le_mul_of_pos_left _ (Nat.mul_pos om hM)
open Go.ChangeShapes Go.WideShapes Go.RowKit Go.Maps
def Two (g g':Nat):Nat→Nat→Prop:=fun b _=>b=g∨b=g'
theorem Keep.off2 {g g':Nat}{w w':World}(h:Keep (Two g g') w w'){b:Nat}(hb:b<w.heap.size)(h1:b≠g)(h2:b≠g'){o:Nat}:w'.cell? ⟨b,o,none⟩=w.cell? ⟨b,o,none⟩:=by
 have:=h.block b hb fun o ho=>ho.elim h1 h2;simp only [World.cell?,this]
theorem Keep.same2 {g g':Nat}{w w':World}(h:Keep (Two g g') w w'){b:Nat}(hb:b<w.heap.size)(h1:b≠g)(h2:b≠g'):w'.heap[b]? =w.heap[b]? :=h.block b hb fun o ho=>ho.elim h1 h2
theorem Yq (w:World):Sem.run Tryz.prog (binOp BinOp.neq 86 (Value.slice none 0 0) (Value.slice none 0 0)) w= .ok (.bool false) w:=kr
theorem Ui {S:TS}(hn:S.nb 100){i v:Nat}(hic:i<S.cells.length)(EX:v<S.cells[i].length)(hib:i<S.basic.length){a:Rat}(ha:S.cell i v=a)(h0:a≠0)(na:NB 100 a):∀x∈S.pivRow i v,NB 300 x:=by
 have e1:S.cells.getD i []=S.cells[i]:=by rw [dV,eD hic];rfl
 intro x hx;unfold TS.pivRow at hx;rw [e1,ha]at hx;rcases List.mem_or_eq_of_mem_set hx with hx | hx
 ·rcases List.mem_or_eq_of_mem_set hx with hx | hx
  ·obtain ⟨j,hj,rfl⟩:=List.mem_map.1 hx;have hj':=List.mem_range.1 hj;simp only [hj',if_true];rw [IL hj'];exact(((hn.c _ (List.getElem_mem hic) _ (List.getElem_mem hj')).div na h0).neg).mono om
  rw [hx];exact kW.mono om
 rw [hx];exact((jg (x:=1) dc).div na h0).mono om
theorem Jh (w0 w:World)(bT nm:Nat)(S:TS)(h:EW w0 w bT nm S)(hw:S.wf)(hn:S.nb 100)(i v:Nat)(hi:i<S.rows.length)(hv:v<S.n+S.rows.length)(hvb:v∉S.basic)(ha:S.cell i v≠0)(hnm:nm<2000000):
  Calls Tryz.prog 75 #[.pointer (some ⟨bT,0,none⟩),.int .i64 (i:Int),.int .i64 (v:Int)] w fun e w'=>e= .returned (.tuple #[])∧EW w0 w' bT (nm+1) (S.pivot i v):=by
 obtain⟨L,h⟩:=h;have HW:=zh hw;have HN:=zh hn;have Js:=zh hvb;have HW0:Hid (w0.heap.size≤w.heap.size):=zh h.k.size;have xs:=h.cv.1;have xs':=h.cv.2;have ys:=h.cb.1;have ys':=h.cb.2;have zs:=h.cc.1;have zs':=h.cc.2;have hvl:=hw.vl;have hbl:=hw.bl;have hcl:=hw.cl;have h40:=hw.r40;have h12:=hw.n12;unfold maxLen at xs' ys' zs';have hib:i<S.basic.length:=om;have hic:i<S.cells.length:=om;have hiI:(i:Int)<(S.basic.length:Int):=om;have hiC:(i:Int)<(S.cells.length:Int):=om;have hll:S.cells[i].length=S.n+S.rows.length:=hw.cr _ (List.getElem_mem hic);have EX:v<S.cells[i].length:=om;have hbb:S.basic[i]<S.cells[i].length:=by rw [hll];exact hw.bb _ (List.getElem_mem hib)
 obtain⟨K,hK⟩:∃K,S.cells[i].length=K:=⟨_,rfl⟩;have HK:=zh hK;have zbQ:K≤76:=om;have hvK:v<K:=om;have hvKI:(v:Int)<(K:Int):=om;have hbKI:(S.basic[i]:Int)<(K:Int):=om;have hbv:S.basic[i]≠v:=fun e=>hvb (e ▸ List.getElem_mem hib);have hA:=pR (S:=S) hic EX;obtain⟨a,hae⟩:∃a,S.cells[i][v]=a:=⟨_,rfl⟩;rw [hae]at hA;have HA0:Hid (a≠0):=zh (by rw [← hA];exact ha);have HA:=zh hA;have HNA:Hid (NB 100 a):=zh (by rw [← hae];exact hn.c _ (List.getElem_mem hic) _ (List.getElem_mem EX));have HAE:=zh hae;have ka:Keep au w (w.alloc (.cells #[.int .i64 (v:Int)] 3)):=(Keep.refl _ _).alloc _;have dY:Hid (aL (w.alloc (.cells #[.int .i64 (v:Int)] 3)) w.heap.size #[.int .i64 (v:Int)]):=zh (aN _ _ rfl);have nJ:=zh (h.keep ka);have HVC:=zh EX;have HBB:=zh hbb;have Zu:Hid (∀j (hj:j<S.cells.length),S.cells[j].length=K):=zh (fun j hj=>by rw [hw.cr _ (List.getElem_mem hj),←hK,hll]);have HSZ:Hid (w0.heap.size≤w.heap.size):=zh h.k.size;have zaY:Hid (bT<w.heap.size∧(L.gb<w.heap.size)∧L.gc<w.heap.size∧L.gv<w.heap.size∧L.gm<w.heap.size∧∀j,j<S.cells.length→L.gs j<w.heap.size):=zh ⟨aL.lt h.t,(h.b (by intro h0;rw [h0]at hib;simp at hib)).2.lt,(h.c (by intro h0;rw [h0]at hic;simp at hic)).2.lt,h.v.lt,h.mp.lt,fun j hj=>(h.r j hj).1.lt⟩;clear h hw hn hvb hA ha hae hK hll;go_enter Tryz.func75,Tryz.ntmps75;go_upto_region 1 with fail;clear ka;generalize w.alloc (.cells #[.int .i64 (v:Int)] 3)=w1 at *;generalize hb5:w.heap.size=b5 at *;obtain⟨_,_,t2,_,t4,_,_,fJ⟩:=nJ.out.t.seven;obtain⟨Io,hbk⟩:=nJ.out.b (by intro h0;rw [h0]at hib;simp at hib);obtain⟨hoc,hck⟩:=nJ.out.c (by intro h0;rw [h0]at hic;simp at hic);obtain⟨cb0,_⟩:=hbk.at (i:=i) hib;obtain⟨cc0,_⟩:=hck.at (i:=i) hic;have hgb:=hbk.lt;have hgc:=hck.lt;have hnb:=(nJ.out.r i hic).1;have hcs:=(nJ.out.r i hic).2.1;have hcs2:=(nJ.out.r i hic).2.2;unfold maxLen at hcs2;obtain⟨ab,aS,ac,aU,m0,m1,m2,m3,wS,_⟩:=hnb.at (k:=v) HVC.out;have hgs:=hnb.lt;rw [HK.out]at cc0 hcs;rw [Io]at t2;rw [hoc]at t4;rw [HAE.out]at wS;have YH:=zh wS;have HT4:=zh t4;have MS:=zh cc0;have EI:=zh hnb;have Og:=zh (And.intro m0 (And.intro m1 (And.intro m2 m3)));have HOB:=zh Io;have HOC:=zh hoc;clear wS hbk hck hnb Io hoc m0 m1 m2 m3;go_upto_region 2 with fail;clear t2 t4 cb0 cc0 hgb;obtain⟨v0,vl⟩:w1.cell? ⟨b5,0,none⟩=some (.int .i64 (v:Int))∧b5<w1.heap.size:=⟨dY.out.cell 0,dY.out.lt⟩;refine aD (fun w'=>Keep au w1 w') [11] [([0,1,2,3,4,5,6,7,8,9],10),([],11)] [] kr kr kp ?_;intro X W hne hF hcls;have aY:=zh hcls;have x0:=fun x=>((hF x).cell fJ).trans HT4.out;have x1:=fun x=>((hF x).cell hgc).trans MS.out;have q0:=fun x=>((hF x).cell hgs).trans Og.out.1;have q1:=fun x=>((hF x).cell hgs).trans Og.out.2.1;have q2:=fun x=>((hF x).cell hgs).trans Og.out.2.2.1;have q3:=fun x=>((hF x).cell hgs).trans Og.out.2.2.2;have z0:=fun x=>((hF x).cell vl).trans v0;clear hF hcls;simp only [aW,aJ,zl0,zl1,zl2,aX,Bool.false_eq_true,if_false]
 (repeat(go_big_quiet_step (fail)));refine wpQuiet_nil ?_
 refine ay rfl rfl fun K hK=> ?_;go_simp;have k2:Keep au w1 (w1.alloc (.cells #[.bool false,.string ⟨#[]⟩,.bool false,.string ⟨#[]⟩] 102)).drew:=((Keep.refl au w1).alloc _).drew;refine hK _ _ ⟨fun _=>aY.out _ k2,?_⟩;clear hK K;have nu:Hid (aL (w1.alloc (.cells #[.bool false,.string ⟨#[]⟩,.bool false,.string ⟨#[]⟩] 102)).drew w1.heap.size #[.bool false,.string ⟨#[]⟩,.bool false,.string ⟨#[]⟩]):=zh ((aN _ _ rfl).keep (Keep.refl au _).drew);have HL2:=zh (nJ.out.keep k2);have zaZ:=zh (dY.out.keep k2);have Fw:Hid (b5<w1.heap.size):=zh vl;have HW1:Hid (w0.heap.size≤w1.heap.size):=zh nJ.out.k.size;have Ay:=zh k2;clear k2;generalize (w1.alloc (.cells #[.bool false,.string ⟨#[]⟩,.bool false,.string ⟨#[]⟩] 102)).drew=w2 at *;generalize hb7:w1.heap.size=b7 at nu Fw ⊢;have HE7:Hid (w1.heap.size=b7):=zh hb7;clear hb7;obtain⟨s0,s1,s2,s3,f0,f1,f2,f3,sl⟩:=nu.out.four
 (repeat(go_big_quiet_step (fail)));refine wpQuiet_nil ?_
 refine ay rfl rfl fun K hK=> ?_;go_simp;refine hK _ _ ⟨fun h=>(by simp at h),?_⟩;clear hK K x0 x1 q0 q1 q2 q3 z0;have Pp:Hid (aL (w4 w2 b7 0 ⟨ab,aS,ac,aU⟩) b7 #[.bool ab,.string aS,.bool ac,.string aU]):=zh (nu.out.set4 _ _ _ _);have zec:Hid (∀b,b≠b7→(w4 w2 b7 0 ⟨ab,aS,ac,aU⟩).heap[b]? =w2.heap[b]?):=zh (fun b hb=>iD hb);have Jv:Hid (Keep au w1 (w4 w2 b7 0 ⟨ab,aS,ac,aU⟩)):=zh (sH Ay.out (Nat.le_of_eq HE7.out));rw [show((((w2.setCell ⟨b7,0,none⟩ (.bool ab)).setCell ⟨b7,1,none⟩ (.string aS)).setCell ⟨b7,2,none⟩ (.bool ac)).setCell ⟨b7,3,none⟩ (.string aU))=w4 w2 b7 0 ⟨ab,aS,ac,aU⟩from rfl];generalize w4 w2 b7 0 ⟨ab,aS,ac,aU⟩=w3 at *;clear s0 s1 s2 s3 f0 f1 f2 f3 sl
 (repeat(go_big_quiet_step (fail)));refine wpQuiet_nil ?_
 refine NoPanic.normal ?_;have Uj:=zh (zaZ.out.same (zec.out b5 (Nat.ne_of_lt Fw.out)));have HG7:Hid (b7<w3.heap.size):=zh Pp.out.lt;have t4:=(Jv.out.cell fJ).trans HT4.out;have c4:=(Jv.out.cell hgc).trans MS.out;have hlt3:=bJ fJ Jv.out.size;have hgc3:=bJ hgc Jv.out.size;obtain⟨w5,hr5,hn5,hk5⟩:=zG w3 K om;go_upto_region 4 with fail;clear hr5;have Pp:=zh (Pp.out.keep hk5);have Uj:=zh (Uj.out.keep hk5);have HK5:=zh (Jv.out.both hk5);have Tc:=zh hn5;have HGR:Hid (w1.heap.size≤w3.heap.size):=zh Jv.out.size;clear HL2 zaZ zec Ay nu Jv t4 c4 hlt3 hgc3 hn5;have ka:Keep au w5 (w5.alloc (.cells #[.slice (some ⟨w3.heap.size,0,none⟩) K K] 86)):=(Keep.refl _ _).alloc _;have jN:Hid (aL (w5.alloc (.cells #[.slice (some ⟨w3.heap.size,0,none⟩) K K] 86)) w5.heap.size #[.slice (some ⟨w3.heap.size,0,none⟩) K K]):=zh (aN _ _ rfl);have Pp:=zh (Pp.out.keep ka);have Uj:=zh (Uj.out.keep ka);have HR6:=zh (Tc.out.keep ka);have Y2:=zh (HK5.out.both ka);have IB:Hid (w3.heap.size<w5.heap.size):=zh Tc.out.lt;generalize w5.alloc (.cells #[.slice (some ⟨w3.heap.size,0,none⟩) K K] 86)=w6 at *;generalize w5.heap.size=b8 at *;generalize w3.heap.size=gr at *;clear ka hk5 Tc HK5;have t4:=(Y2.out.cell fJ).trans HT4.out;have c4:=(Y2.out.cell hgc).trans MS.out;have hlt6:=bJ fJ Y2.out.size;have hgc6:=bJ hgc Y2.out.size;go_wp2;clear t4 c4 hlt6 hgc6;go_loopw [47] (fun s wr=>∃k:Nat,k≤K∧s= .int .i64 k∧Keep au w1 wr∧bD wr gr (qV S.cells[i] a k)∧aL wr b8 #[.slice (some ⟨gr,0,none⟩) K K]∧aL wr b7 #[.bool ab,.string aS,.bool ac,.string aU]∧aL wr b5 #[.int .i64 (v:Int)]) (fun s _=>(K-intOf s).toNat)
 case atStart=>exact⟨0,om,rfl,Y2.out,by rw [S9,HK.out];exact HR6.out,jN.out,Pp.out,Uj.out⟩
 obtain⟨k,hk,rfl,hkr,hrw,hb8,hb7,Yr⟩:=hrel;have dH:=zh hkr;have HRW:=zh hrw;have jN:=zh hb8;have nu:=zh hb7;have dY:=zh Yr;clear hkr hrw hb8 hb7 Yr Y2 HR6 Pp Uj;by_cases hkl:k<K
 case pos=>
  have hlt:(k:Int)<(K:Int):=om;have hkq:k<S.cells[i].length:=by rw [HK.out];exact hkl
  obtain⟨xb,xS,xc,xU,p0,p1,p2,p3,hx,_⟩:=(EI.out.keep dH.out).at (k:=k) hkq;have Xg:=bJ hgs dH.out.size;have nx:NB 100 (S.cells[i][k]):=HN.out.c _ (List.getElem_mem hic) _ (List.getElem_mem hkq);have hxd:S.cells[i].getD k 0=S.cells[i][k]:=IL hkq;rw [← hxd]at hx nx;obtain⟨x,hxe⟩:∃x,S.cells[i].getD k 0=x:=⟨_,rfl⟩;rw [hxe]at hx nx;have CO:=fun w=>zh (sJ w _ _ hx (nx.mono om) _ _ YH.out (HNA.out.mono om) HA0.out);have nd:=nx.div HNA.out HA0.out;obtain⟨⟨tb,tS,tc,tU⟩,htq,htn⟩:=eP (x/a);rw [htq]at CO;have CN:=fun w=>zh (Ga w _ _ htn (nd.mono om));obtain⟨⟨rb,rS,rc,rU⟩,hrq,hrn⟩:=eP (-(x/a));rw [hrq]at CN;unfold NV.v at CO CN;simp only at CO CN;have Xc:Hid (bM (NV.v ⟨rb,rS,rc,rU⟩) (-(S.cells[i].getD k 0/a))):=zh (by rw [hxe];exact hrn);have Xf:Hid ((qV S.cells[i] a k).set k (-(S.cells[i].getD k 0/a))=qV S.cells[i] a (k+1)):=zh (Ta hkq);have HKQ:=zh hkq;clear hx nx nd htq htn hrq hrn hkq hxd hxe;have ka:Keep au wr (wr.alloc (.cells #[.bool xb,.string xS,.bool xc,.string xU] 102)):=(Keep.refl _ _).alloc _;have wL:Hid (aL (wr.alloc (.cells #[.bool xb,.string xS,.bool xc,.string xU] 102)) wr.heap.size #[.bool xb,.string xS,.bool xc,.string xU]):=zh (aN _ _ rfl);have hgrx:gr≠wr.heap.size:=Nat.ne_of_lt HRW.out.lt;go_upto_region 7 with fail;have HRW:=zh (HRW.out.keep ka);have jN:=zh (jN.out.keep ka);have nu:=zh (nu.out.keep ka);have dY:=zh (dY.out.keep ka);have dH:=zh (dH.out.both ka);clear ka p0 p1 p2 p3 Xg;generalize wr.alloc (.cells #[.bool xb,.string xS,.bool xc,.string xU] 102)=wx at *;generalize wr.heap.size=bx at *;obtain⟨r0,rl⟩:wx.cell? ⟨b8,0,none⟩=some (.slice (some ⟨gr,0,none⟩) K K)∧b8<wx.heap.size:=⟨jN.out.cell 0,jN.out.lt⟩;refine aD (fun w'=>Keep au wx w') [7] [([0,1,2,3],4),([],5),([6],7)] [] kr kr kp ?_;intro X W hne hF hcls;have aY:=zh hcls;have x0:=fun x=>((hF x).cell rl).trans r0;have z0:=fun x=>(wL.out.keep (hF x)).four;have z1:=fun x=>(nu.out.keep (hF x)).four;clear hF hcls;simp only [aW,aJ,zl0,zl1,zl2,aX,Bool.false_eq_true,if_false]
  (repeat(go_big_quiet_step (fail)));refine wpQuiet_nil ?_
  refine ay rfl rfl fun K hK=> ?_;go_simp;refine(CO _).out.mono ?_;rintro e w5 ⟨rfl,hk5⟩;have k5:Keep au wx w5:=Keep.trans kp hk5 fun _ _ _ h=>h;refine hK _ _ ⟨fun _=>aY.out _ k5,?_⟩;clear hK hk5 CO
  (repeat(go_big_quiet_step (fail)));refine wpQuiet_nil ?_
  refine ay rfl rfl fun K hK=> ?_;go_simp;refine(CN _).out.mono ?_;rintro e w6 ⟨rfl,hk6⟩;have k6:Keep au wx w6:=k5.both hk6;refine hK _ _ ⟨fun _=>aY.out _ k6,?_⟩;clear hK hk6 CN k5;have HRW:=zh (HRW.out.keep k6);have jN:=zh (jN.out.keep k6);have nu:=zh (nu.out.keep k6);have dY:=zh (dY.out.keep k6);have dH:=zh (dH.out.both k6);obtain⟨_,_,_,_,g0,g1,g2,g3,_,f0,f1,f2,f3⟩:=HRW.out.at (k:=k) (by rw [qW];exact HKQ.out);have hg6:=HRW.out.lt
  (repeat(go_big_quiet_step (fail)));refine wpQuiet_nil ?_
  refine ay rfl rfl fun K hK=> ?_;go_simp;refine hK _ _ ⟨fun h=>(by simp at h),?_⟩;clear hK x0 z0 z1;have Qu:Hid (bD (w4 w6 gr (k*4) ⟨rb,rS,rc,rU⟩) gr (qV S.cells[i] a (k+1))):=zh (by rw [← Xf.out];exact HRW.out.set4 Xc.out);have K7:Hid (Keep au w1 (w4 w6 gr (k*4) ⟨rb,rS,rc,rU⟩)):=zh (sH dH.out HGR.out);have HO:∀b,b≠gr→(w4 w6 gr (k*4) ⟨rb,rS,rc,rU⟩).heap[b]? =w6.heap[b]? :=fun b hb=>iD hb;have jN:=zh (jN.out.same (HO b8 (Nat.ne_of_gt IB.out)));have nu:=zh (nu.out.same (HO b7 (Nat.ne_of_lt HG7.out)));have dY:=zh (dY.out.same (HO b5 (Nat.ne_of_lt (Nat.lt_trans Fw.out HG7.out))));clear HO;rw [show((((w6.setCell ⟨gr,k*4,none⟩ (.bool rb)).setCell ⟨gr,k*4+1,none⟩ (.string rS)).setCell ⟨gr,k*4+2,none⟩ (.bool rc)).setCell ⟨gr,k*4+3,none⟩ (.string rU))=w4 w6 gr (k*4) ⟨rb,rS,rc,rU⟩from rfl];generalize w4 w6 gr (k*4) ⟨rb,rS,rc,rU⟩=w7 at *;clear g0 g1 g2 g3 f0 f1 f2 f3 hg6 HRW dH
  (repeat(go_big_quiet_step (fail)));refine wpQuiet_nil ?_
  refine NoPanic.normal ?_;go_wp2;go_roundw
  case rel=>exact⟨k+1,om,gn,K7.out,Qu.out,jN.out,nu.out,dY.out⟩
  simp [intOf];omega
 have hlt:¬(k:Int)<(K:Int):=om;obtain rfl:k=K:=om;have Qv:=zh (nJ.out.keep dH.out);have zfz:Hid (bD wr gr (qV S.cells[i] a k)):=HRW;obtain⟨r0,rl⟩:wr.cell? ⟨b8,0,none⟩=some (.slice (some ⟨gr,0,none⟩) k k)∧b8<wr.heap.size:=⟨jN.out.cell 0,jN.out.lt⟩;obtain⟨v0',xC⟩:wr.cell? ⟨b5,0,none⟩=some (.int .i64 (v:Int))∧b5<wr.heap.size:=⟨dY.out.cell 0,dY.out.lt⟩;have hrl:(qV S.cells[i] a k).length=k:=by rw [qW,HK.out]
 obtain⟨_,_,_,_,g0,g1,g2,g3,_,f0,f1,f2,f3⟩:=HRW.out.at (k:=v) (by rw [hrl];exact hvK);have hg6:=HRW.out.lt;have HRL:=zh hrl;clear v0 vl;go_upto_region 10 with fail;have Qu:Hid (bD (w4 wr gr (v*4) nv0) gr ((qV S.cells[i] a k).set v 0)):=zh (HRW.out.set4 rJ);have K7:Hid (Keep au w1 (w4 wr gr (v*4) nv0)):=zh (sH dH.out HGR.out);have HO:∀b,b≠gr→(w4 wr gr (v*4) nv0).heap[b]? =wr.heap[b]? :=fun b hb=>iD hb;have jN:=zh (jN.out.same (HO b8 (Nat.ne_of_gt IB.out)));have nu:=zh (nu.out.same (HO b7 (Nat.ne_of_lt HG7.out)));have dY:=zh (dY.out.same (HO b5 (Nat.ne_of_lt (Nat.lt_trans Fw.out HG7.out))));clear HO Qv zfz;rw [show((((wr.setCell ⟨gr,v*4,none⟩ (.bool false)).setCell ⟨gr,v*4+1,none⟩ (.string ⟨#[]⟩)).setCell ⟨gr,v*4+2,none⟩ (.bool false)).setCell ⟨gr,v*4+3,none⟩ (.string ⟨#[]⟩))=w4 wr gr (v*4) nv0 from rfl];generalize w4 wr gr (v*4) nv0=w7 at *;clear g0 g1 g2 g3 f0 f1 f2 f3 hg6 HRW dH r0 rl v0' xC;obtain⟨r0,rl⟩:w7.cell? ⟨b8,0,none⟩=some (.slice (some ⟨gr,0,none⟩) k k)∧b8<w7.heap.size:=⟨jN.out.cell 0,jN.out.lt⟩;have CI:=fun w=>zh (iF w 1 om om);obtain⟨⟨yb,yS,yc,yU⟩,hy,hyn⟩:=uQ 1;rw [hy]at CI;have CO:=fun w=>zh (sJ w _ _ hyn ((jg (x:=1) dc).mono om) _ _ YH.out (HNA.out.mono om) HA0.out);obtain⟨⟨rb,rS,rc,rU⟩,hrq,hrn⟩:=eP (((1:Int):Rat)/a);rw [hrq]at CO;unfold NV.v at CI CO;simp only at CI CO;have Xc:Hid (bM (NV.v ⟨rb,rS,rc,rU⟩) (1/a)):=zh hrn;clear hy hyn hrq hrn;refine aD (fun w'=>Keep au w7 w') [6] [([0,1,3],2),([],4),([5],6)] [] kr kr kp ?_;intro X W hne hF hcls;have aY:=zh hcls;have x0:=fun x=>((hF x).cell rl).trans r0;have z1:=fun x=>(nu.out.keep (hF x)).four;clear hF hcls;simp only [aW,aJ,zl0,zl1,zl2,aX,Bool.false_eq_true,if_false]
 (repeat(go_big_quiet_step (fail)));refine wpQuiet_nil ?_
 refine ay rfl rfl fun K hK=> ?_;go_simp;refine(CI _).out.mono ?_;rintro e w5 ⟨rfl,hk5⟩;have k5:Keep au w7 w5:=Keep.trans kp hk5 fun _ _ _ h=>h;refine hK _ _ ⟨fun _=>aY.out _ k5,?_⟩;clear hK hk5 CI
 (repeat(go_big_quiet_step (fail)));refine wpQuiet_nil ?_
 refine ay rfl rfl fun K hK=> ?_;go_simp;refine(CO _).out.mono ?_;rintro e w6 ⟨rfl,hk6⟩;have k6:Keep au w7 w6:=k5.both hk6;refine hK _ _ ⟨fun _=>aY.out _ k6,?_⟩;clear hK hk6 CO k5;have HRW:=zh (Qu.out.keep k6);have jN:=zh (jN.out.keep k6);have dY:=zh (dY.out.keep k6);have dH:=zh (K7.out.both k6);obtain⟨_,_,_,_,g0,g1,g2,g3,_,f0,f1,f2,f3⟩:=HRW.out.at (k:=S.basic[i]) (by rw [List.length_set,HRL.out,←HK.out];exact hbb);have hg6:=HRW.out.lt
 (repeat(go_big_quiet_step (fail)));refine wpQuiet_nil ?_
 refine ay rfl rfl fun K hK=> ?_;go_simp;refine hK _ _ ⟨fun h=>(by simp at h),?_⟩;clear hK x0 z1;have HR8:Hid (bD (w4 w6 gr (S.basic[i]*4) ⟨rb,rS,rc,rU⟩) gr (S.pivRow i v)):=zh (by
  have:=HRW.out.set4 (k:=S.basic[i]) Xc.out;have e:S.pivRow i v=(((qV S.cells[i] a k).set v 0).set S.basic[i] (1/a)):=by
   unfold TS.pivRow;have e1:S.cells.getD i []=S.cells[i]:=by rw [dV,eD hic];rfl
   rw [e1,HA.out,kN hib,HK.out]
  rw [e];exact this)
 have K8:Hid (Keep au w1 (w4 w6 gr (S.basic[i]*4) ⟨rb,rS,rc,rU⟩)):=zh (sH dH.out HGR.out);have HO:∀b,b≠gr→(w4 w6 gr (S.basic[i]*4) ⟨rb,rS,rc,rU⟩).heap[b]? =w6.heap[b]? :=fun b hb=>iD hb;have jN:=zh (jN.out.same (HO b8 (Nat.ne_of_gt IB.out)));have dY:=zh (dY.out.same (HO b5 (Nat.ne_of_lt (Nat.lt_trans Fw.out HG7.out))));clear HO;rw [show((((w6.setCell ⟨gr,S.basic[i]*4,none⟩ (.bool rb)).setCell ⟨gr,S.basic[i]*4+1,none⟩ (.string rS)).setCell ⟨gr,S.basic[i]*4+2,none⟩ (.bool rc)).setCell ⟨gr,S.basic[i]*4+3,none⟩ (.string rU))=w4 w6 gr (S.basic[i]*4) ⟨rb,rS,rc,rU⟩from rfl];generalize w4 w6 gr (S.basic[i]*4) ⟨rb,rS,rc,rU⟩=w8' at *;clear g0 g1 g2 g3 f0 f1 f2 f3 hg6 HRW dH k6 Qu K7 nu r0 rl;have HL8:=zh (nJ.out.keep K8.out);have MW:Hid ((S.pivRow i v).length=k):=zh (by
  have e1:S.cells.getD i []=S.cells[i]:=by rw [dV,eD hic];rfl
  unfold TS.pivRow;rw [List.length_set,List.length_set,qW,e1,HK.out])
 have HPN:Hid (∀x∈S.pivRow i v,NB 300 x):=zh (Ui HN.out hic HVC.out hib HA.out HA0.out HNA.out)
 (repeat(go_big_quiet_step (fail)));refine wpQuiet_nil ?_
 refine NoPanic.normal ?_;obtain⟨_,_,_,_,t4',_,_,zed⟩:=HL8.out.t.seven;rw [HOC.out]at t4';go_wp2;clear t4' zed;go_loopw [76] (fun s wr=>∃j:Nat,j≤S.cells.length∧s= .int .i64 j∧LT w0 wr bT nm {S with cells:=S.pivC i v j} L∧bD wr gr (S.pivRow i v)∧aL wr b8 #[.slice (some ⟨gr,0,none⟩) k k]∧aL wr b5 #[.int .i64 (v:Int)]) (fun s _=>(S.cells.length-intOf s).toNat)
 case atStart=>exact⟨0,om,rfl,HL8.out,HR8.out,jN.out,dY.out⟩
 obtain⟨j,hj,rfl,hl,hr,hb8,Yr⟩:=hrel;have HL:=zh hl;have HR:=zh hr;have jN:=zh hb8;have dY:=zh Yr;clear hl hr hb8 Yr HL8 HR8;by_cases hjl:j<S.cells.length
 case pos=>
  have hlt:(j:Int)<(S.rows.length:Int):=om;have hlt':(j:Int)<(S.cells.length:Int):=om;have hjd:S.cells.getD j []=S.cells[j]:=by rw [dV,eD hjl];rfl
  by_cases hji:j=i
  case pos=>
   have e1:((j:Int) != (i:Int))=false:=by rw [bne_eq_false_iff_eq];omega
   have HPC:Hid (S.pivC i v (j+1)=S.pivC i v j):=zh (by rw [TS.pivC,if_pos hji]);clear hji hjd;go_wp2;go_roundw
   case rel=>exact⟨j+1,om,gn,by rw [HPC.out];exact HL.out,HR.out,jN.out,dY.out⟩
   simp [intOf];omega
  have e1:((j:Int) != (i:Int))=true:=by rw [bne_iff_ne];omega
  have HPC:Hid (S.pivC i v (j+1)=(S.pivC i v j).set j (yT S.cells[j] v (S.pivRow i v))):=zh (by rw [TS.pivC,if_neg hji,hjd]);have hjp:j<(S.pivC i v j).length:=by rw [eY];exact hjl
  have e2:(S.pivC i v j)[j]=S.cells[j]:=DR hjl j (Nat.le_refl _);obtain⟨_,_,_,_,t4,_,_,fJ⟩:=HL.out.t.seven;rw [HOC.out]at t4;obtain⟨hoc,hck⟩:=HL.out.c (by intro h0;have h0:S.pivC i v j= []:=h0;rw [h0]at hjp;simp at hjp);obtain⟨c0,_⟩:=hck.at (i:=j) hjp;have zfA:=hck.lt;have hrr:=HL.out.r j hjp;simp only [e2,Zu.out j hjl]at c0 hrr;simp only [eY]at t4;obtain⟨hq,hc1,hc2⟩:=hrr;have hlow:=zaY.out.2.2.2.2.2 j hjl;have h57:=Fw.out;have h7g:=HG7.out;have hg8:=IB.out;have ng:gr≠L.gs j:=om;have n5:b5≠L.gs j:=om;have n8:b8≠L.gs j:=om;have hlj:=Zu.out j hjl;have CS:=SV wr (L.gs j) (L.cs j) b5 b8 gr k v S.cells[j] (S.pivRow i v) dY.out (by rw [MW.out];exact jN.out) hq HR.out (by rw [MW.out,hlj]) (by rw [hlj];exact hvK) (by rw [hlj];omega) (by rw [hlj];exact⟨hc1,hc2⟩) (by rw [MW.out];exact⟨Nat.le_refl _,by unfold maxLen;omega⟩) ng n5 n8 (fun x hx=>(HN.out.c _ (List.getElem_mem hjl) x hx).mono om) HPN.out;rw [hlj]at CS;have CS:=zh CS;unfold maxLen at hc2;have HJP:=zh hjp;have HE2:=zh e2;have HLJ:=zh hlj;clear hq hlj hck hoc hjd hji;go_wp2_with fail;refine CS.out.mono ?_;rintro e w2 ⟨rfl,hq2,hk2⟩;have KW:Hid (Keep au w0 w2):=zh (HL.out.k.trans hk2 fun n o hn hs=>by
   have h1:=HL.out.own.2.2.2.2.2 j HJP.out;have h2:n=L.gs j:=hs;omega)
  have HL2:=zh (HL.out.setRow (i:=j) HJP.out (q':=yT S.cells[j] v (S.pivRow i v)) (by simp only [HE2.out];simp [yT]) KW.out (fun b hb hne=>hk2.sameB hb hne) hq2);have HR2:=zh (HR.out.same (hk2.sameB HR.out.lt ng));have zfB:=zh (jN.out.same (hk2.sameB jN.out.lt n8));have zaZ:=zh (dY.out.same (hk2.sameB dY.out.lt n5));clear CS hq2 hk2 HL HR jN dY t4 c0 fJ zfA;go_wp2;go_roundw
  case rel=>exact⟨j+1,om,gn,by rw [HPC.out];exact HL2.out,HR2.out,zfB.out,zaZ.out⟩
  simp [intOf];omega
 have hlt:¬(j:Int)<(S.rows.length:Int):=om;obtain rfl:j=S.cells.length:=om;obtain⟨_,_,_,_,_,_,t6,fJ⟩:=HL.out.t.seven;have hnil:=Yq wr;go_upto_region 20 with fail;clear t6 hnil;obtain⟨_,_,t2,_,t4,_,_,fJ⟩:=HL.out.t.seven;rw [HOC.out]at t4;rw [HOB.out]at t2;simp only [eY]at t4;have hip:i<(S.pivC i v S.cells.length).length:=by rw [eY];exact hic
 obtain⟨hoc,hck⟩:=HL.out.c (by intro h0;have h0:S.pivC i v S.cells.length= []:=h0;rw [h0]at hip;simp at hip);obtain⟨Io,hbk⟩:=HL.out.b (by intro h0;have h0:S.basic= []:=h0;rw [h0]at hib;simp at hib);obtain⟨cc,fc⟩:=hck.at (i:=i) hip;obtain⟨cb,fb⟩:=hbk.at (i:=i) hib;have lc:=hck.lt;have lb:=hbk.lt;obtain⟨r0,rl⟩:wr.cell? ⟨b8,0,none⟩=some (.slice (some ⟨gr,0,none⟩) k k)∧b8<wr.heap.size:=⟨jN.out.cell 0,jN.out.lt⟩;obtain⟨v0',xC⟩:wr.cell? ⟨b5,0,none⟩=some (.int .i64 (v:Int))∧b5<wr.heap.size:=⟨dY.out.cell 0,dY.out.lt⟩;have hbc:L.gb≠L.gc:=HL.out.ap.bc;have h57:=Fw.out;have h7g:=HG7.out;have hg8:=IB.out;have low:=zaY.out;have o1:bT≠L.gc:=HL.out.ap.tc;have o2:bT≠L.gb:=HL.out.ap.tb;have o3:b8≠L.gc:=om;have o4:b8≠L.gb:=om;have o5:b5≠L.gc:=om;have o6:b5≠L.gb:=om;have HO:=zh (And.intro o1 (And.intro o2 (And.intro o3 (And.intro o4 (And.intro o5 o6)))));clear h57 h7g hg8 low hck hbk hoc Io o1 o2 o3 o4 o5 o6;refine aD (fun w'=>Keep (Two L.gc L.gb) wr w') [] [([0,1,2,3,4,5,6,7,8,9,10,11,12],13),([14],15)] [] kr kr (Keep.refl _ _).drew ?_;intro X W hne hF hcls;have aY:=zh hcls;have x0:=fun x=>((hF x).off2 fJ HO.out.1 HO.out.2.1).trans t2;have x1:=fun x=>((hF x).off2 fJ HO.out.1 HO.out.2.1).trans t4;have x2:=fun x=>((hF x).off2 rl HO.out.2.2.1 HO.out.2.2.2.1).trans r0;have x3:=fun x=>((hF x).off2 xC HO.out.2.2.2.2.1 HO.out.2.2.2.2.2).trans v0';clear hF hcls;simp only [aW,aJ,zl0,zl1,zl2,aX,Bool.false_eq_true,if_false]
 (repeat(go_big_quiet_step (fail)));refine wpQuiet_nil ?_
 refine ay rfl rfl fun K hK=> ?_;go_simp;have kS:Keep (Two L.gc L.gb) wr (wr.setCell ⟨L.gc,i,none⟩ (.slice (some ⟨gr,0,none⟩) k k)).drew:=((Keep.refl _ _).setCell _ fun _=> .inl rfl).drew;refine hK _ _ ⟨fun _=>aY.out _ kS,?_⟩;clear hK kS
 (repeat(go_big_quiet_step (fail)));refine wpQuiet_nil ?_
 refine ay rfl rfl fun K hK=> ?_;go_simp;have kT:Keep (Two L.gc L.gb) wr ((wr.setCell ⟨L.gc,i,none⟩ (.slice (some ⟨gr,0,none⟩) k k)).setCell ⟨L.gb,i,none⟩ (.int .i64 (v:Int))).drew:=(((Keep.refl _ _).setCell _ fun _=> .inl rfl).setCell _ fun _=> .inr rfl).drew;refine hK _ _ ⟨fun _=>aY.out _ kT,?_⟩;clear hK aY x0 x1 x2 x3 r0 rl v0' xC t2 t4 cc fc cb fb;have HGC:Hid (∀A,aL wr L.gc A→aL ((wr.setCell ⟨L.gc,i,none⟩ (.slice (some ⟨gr,0,none⟩) k k)).setCell ⟨L.gb,i,none⟩ (.int .i64 (v:Int))).drew L.gc (A.setIfInBounds i (.slice (some ⟨gr,0,none⟩) k k))):=zh (fun A hA=>((hA.set i _).setOther i _ hbc.symm).keep (Keep.refl au _).drew);have HGB:Hid (∀A,aL wr L.gb A→aL ((wr.setCell ⟨L.gc,i,none⟩ (.slice (some ⟨gr,0,none⟩) k k)).setCell ⟨L.gb,i,none⟩ (.int .i64 (v:Int))).drew L.gb (A.setIfInBounds i (.int .i64 (v:Int)))):=zh (fun A hA=>((hA.setOther i _ hbc).set i _).keep (Keep.refl au _).drew);have FB:=zh kT;have EM:Hid (Keep au w0 ((wr.setCell ⟨L.gc,i,none⟩ (.slice (some ⟨gr,0,none⟩) k k)).setCell ⟨L.gb,i,none⟩ (.int .i64 (v:Int))).drew):=zh (((HL.out.k.setCell _ fun hh=>absurd hh (Nat.not_lt.2 HL.out.own.2.2.1)).setCell _ fun hh=>absurd hh (Nat.not_lt.2 HL.out.own.2.1)).drew);clear kT;generalize ((wr.setCell ⟨L.gc,i,none⟩ (.slice (some ⟨gr,0,none⟩) k k)).setCell ⟨L.gb,i,none⟩ (.int .i64 (v:Int))).drew=w3' at*
 (repeat(go_big_quiet_step (fail)));refine wpQuiet_nil ?_
 refine NoPanic.normal ?_;have Kw:=zh (aL.same HL.out.t (FB.out.same2 fJ HO.out.1 HO.out.2.1));have zbi:=zh (dY.out.same (FB.out.same2 dY.out.lt HO.out.2.2.2.2.1 HO.out.2.2.2.2.2));obtain⟨D,hown,hat⟩:=HL.out.mp.same (FB.out.same2 HL.out.mp.lt HL.out.ap.cm.symm HL.out.ap.bm.symm);have law:Keyed Tryz.prog 3:=int_keyed Tryz.underlying3;have hkb:keyOf Tryz.prog 3 (.int .i64 (S.basic[i]:Int))=some (.int .i64 (S.basic[i]:Int)):=keyOf_int_mk Tryz.underlying3 (WalkArith.wf_i64 om);have hkv:keyOf Tryz.prog 3 (.int .i64 (v:Int))=some (.int .i64 (v:Int)):=keyOf_int_mk Tryz.underlying3 (WalkArith.wf_i64 om);have HAT:=zh hat;have HKV:=zh hkv;obtain⟨_,_,_,t3,_,_,_,lt3⟩:=Kw.out.seven;clear hat hkv lc lb hbc fJ;go_wp2_with (at_delete;refine wpList_delete_own _ rfl _ _ 138 3 rfl 3 law Tryz.underlying138 _ L.gm nm D rfl hown _ _ rfl hkb ?_;intro w4' hown1 hturn1);have hg1:=hturn1.grown;have hTl:=Kw.out;have n1:bT≠L.gm:=HL.out.ap.tm;have zab:Hid (vZ w4' bT _ _ _ _ _ _ _):=zh (aL.same Kw.out (hg1.block bT lt3 (by simp [n1])));have n2:b5≠L.gm:=by have:=zaY.out.2.2.2.2.1;omega
 have Vb:=zh (zbi.out.same (hg1.block b5 zbi.out.lt (by simp [n2])));obtain⟨_,_,_,t3',_,_,_,lt4⟩:=zab.out.seven;obtain⟨v0',xC⟩:w4'.cell? ⟨b5,0,none⟩=some (.int .i64 (v:Int))∧b5<w4'.heap.size:=⟨Vb.out.cell 0,Vb.out.lt⟩;obtain⟨w5',hrun,hown2,hg2⟩:=hown1.drew.update law Tryz.underlying138 (by unfold maxLen;omega) HKV.out (plainElem_int (H:=Unit) Tryz.underlying3 (a:=(i:Int)) (WalkArith.wf_i64 om));have Yt:=zh hown1.isMap;have mE:=zh hg1;have HG2:=zh hg2;have HOWN:=zh hown2;clear t3 lt3 hown hown1 hturn1 hg1 hg2 hown2 hTl hkb;refine aD (fun w'=>Keep au w4' w') [6] [([0,1,2,3,4,5],6)] [] kr kr kp ?_;intro X W hne hF hcls;have x0:=fun x=>((hF x).cell lt4).trans t3';have x1:=fun x=>((hF x).cell xC).trans v0';clear hF hcls;simp only [aW,aJ,zl0,zl1,zl2,aX,Bool.false_eq_true,if_false]
 (repeat(go_big_quiet_step (fail)));refine wpQuiet_nil ?_
 refine ay rfl rfl fun K hK=> ?_;go_simp;refine hK _ _ ⟨fun h=>(by simp at h),?_⟩;clear hK x0 x1 hrun t3' lt4 v0' xC
 (repeat(go_big_quiet_step (fail)));refine wpQuiet_nil ?_
 refine NoPanic.normal ?_;go_simp
 repeat go_step
 refine bodyPost_end (by simp [results,Tryz.results75,go_sem];rfl) rfl ?_;refine⟨rfl,?_⟩;have hk5:Keep au w0 w5':=((EM.out.grown mE.out (fun k hk=>by cases hk;exact HL.out.own.2.2.2.2.1)).drew).grown HG2.out (fun k hk=>by cases hk;exact HL.out.own.2.2.2.2.1);have ho5:∀b,b<w3'.heap.size→b≠L.gm→w5'.heap[b]? =w3'.heap[b]? :=fun b hb hne=>by
  have e1:=mE.out.block b hb (by simp [hne]);have e2:=HG2.out.block b (bJ hb mE.out.size) (by simp [hne]);exact e2.trans e1
 have hmb:zX w5' L.gm (nm+1) (S.basic.set i v):=⟨_,HOWN.out,fun j hj=>by
  have hj':j<S.basic.length:=by simpa using hj
  have hD:=HOWN.out.isMap;by_cases e:i=j
  ·subst e;simp only [List.getElem_set_self];exact Maps.atKey_put_same (Yt.out) (show WideAt.IsKeyLit (.int .i64 (v:Int))from by simp [WideAt.IsKeyLit]) _ _
  have h1:S.basic[j]≠v:=fun h=>Js.out (h ▸ List.getElem_mem hj');have h2:S.basic[j]≠S.basic[i]:=fun h=>e ((List.getElem_inj HW.out.nd).1 h).symm;simp only [List.getElem_set,e,if_false];rw [Maps.atKey_put_other (by intro h;injection h with _ h;exact h1 (Int.ofNat.inj h)),Maps.atKey_del_other (by intro h;injection h with _ h;exact h2 (Int.ofNat.inj h))];exact HAT.out j hj'⟩
 have hsz:∀b,b<wr.heap.size→b<w3'.heap.size:=fun b hb=>bJ hb FB.out.size;have h57:=Fw.out;have h7g:=HG7.out;have hg8:=IB.out;have low:=zaY.out;have hres:=LT.pivotEnd HL.out (w':=w5') (nm':=nm+1) (i:=i) (by simp only [eY];exact hic) hib (row:=S.pivRow i v) (gr:=gr) (cr:=k) (v:=v) (by rw [MW.out];simp only [Ab hic];exact HK.out.symm) hk5
  (fun b hb h1 h2 h3=>(ho5 b (hsz b hb) h3).trans (FB.out.same2 hb h1 h2))
  (fun A hA=>by have:=(HGC.out A hA).same (ho5 _ (hsz _ hA.lt) HL.out.ap.cm);rw [MW.out];exact this)
  (fun A hA=>(HGB.out A hA).same (ho5 _ (hsz _ hA.lt) HL.out.ap.bm))
  hmb (HR.out.same ((ho5 _ (hsz _ HR.out.lt) om).trans (FB.out.same2 HR.out.lt om om))) (by rw [MW.out];exact⟨Nat.le_refl _,by unfold maxLen;omega⟩) (by have:=HGR.out;have:=HW1.out;omega) om om om om om
  (fun j hj=>by have:=low.2.2.2.2.2 j (by simpa only [eY]using hj);omega)
 exact hres
end Go.Proofs.YtmepglhdcphffaaGreat
