/- Plain: a pigeonhole, Siegel, sums, systems of lines, the bounds of a tableau. -/
import Derived.Test.YtaiffmebphhdaaaGreatExAA
namespace Go.Proofs.YtaiffmebphhdaaaGreat
set_option linter.unusedSimpArgs false
set_option linter.unusedVariables false
theorem Ji:∀(B A:Nat) (f:Nat→Nat),(∀i,i<A→f i<B)→B<A→∃i j,i<j∧j<A∧f i=f j
 | 0,A,f,h,hA=>absurd (h 0 hA) om
 | B+1,A,f,h,hA=>by
  by_cases hx:∃i,i<A-1∧f i=f (A-1)
  ·obtain ⟨i,hi,he⟩:=hx;exact⟨i,A-1,hi,om,he⟩
  have hx:∀i,i<A-1→f i≠f (A-1):=fun i hi he=>hx ⟨i,hi,he⟩;have hl:=h (A-1) om;obtain⟨i,j,hij,hj,he⟩:=Ji B (A-1) (fun i=>if f i=B then f (A-1)else f i) (by
   intro i hi;have h1:=h i om;have h2:=hx i hi;split<;>omega) om
  refine⟨i,j,hij,om,?_⟩;have h1:=hx i om;have h2:=hx j hj;split at he<;>split at he<;>omega
def AV (W:Nat):Nat→(Nat→Nat)→Nat
 | 0,_=>0
 | k+1,g=>AV W k g*W+g k
theorem Qd {W:Nat}{g:Nat→Nat}:∀k,(∀u,u<k→g u<W)→AV W k g<W^k
 | 0,_=>by simp [AV]
 | k+1,h=>by
  have ih:=Qd k fun u hu=>h u om;have hk:=h k om;unfold AV;rw [Nat.pow_succ];have:(AV W k g+1)*W≤W^k*W:=Nat.mul_le_mul_right _ ih;rw [Nat.add_mul]at this;omega
theorem LZ {W:Nat}{g g':Nat→Nat}:∀k,(∀u,u<k→g u<W)→(∀u,u<k→g' u<W)→AV W k g=AV W k g'→∀u,u<k→g u=g' u
 | 0,_,_,_,u,hu=>absurd hu om
 | k+1,h,h',he,u,hu=>by
  have hk:=h k om;have hk':=h' k om;unfold AV at he;have hm:(AV W k g*W+g k)%W=(AV W k g'*W+g' k)%W:=by rw [he]
  have hd:(AV W k g*W+g k)/W=(AV W k g'*W+g' k)/W:=by rw [he]
  have hW:0<W:=om;rw [Nat.add_comm,Nat.add_mul_mod_self_right,Nat.mod_eq_of_lt hk,Nat.add_comm,Nat.add_mul_mod_self_right,Nat.mod_eq_of_lt hk']at hm;rw [Nat.add_comm,Nat.add_mul_div_right _ _ hW,Nat.div_eq_of_lt hk,Nat.zero_add,Nat.add_comm,Nat.add_mul_div_right _ _ hW,Nat.div_eq_of_lt hk',Nat.zero_add]at hd;by_cases hu':u=k
  ·subst hu';exact hm
  exact LZ k (fun u hu=>h u om) (fun u hu=>h' u om) om u om
def qg (b t j:Nat):Nat:=t/b^j%b
theorem Ma {b:Nat}(hb:0<b):∀(n t t':Nat),t<b^n→t'<b^n→(∀j,j<n→qg b t j=qg b t' j)→t=t'
 | 0,t,t',h,h',_=>by simp at h h';omega
 | n+1,t,t',h,h',hd=>by
  have h0:=hd 0 om;unfold qg at h0;simp only [Nat.pow_zero,Nat.div_one]at h0;have ih:=Ma hb n (t/b) (t'/b) (Nat.div_lt_of_lt_mul (by rw [Nat.pow_succ]at h;rw [Nat.mul_comm];exact h)) (Nat.div_lt_of_lt_mul (by rw [Nat.pow_succ]at h';rw [Nat.mul_comm];exact h')) (by
   intro j hj;have:=hd (j+1) om;unfold qg at this ⊢;rw [Nat.div_div_eq_div_mul,Nat.div_div_eq_div_mul,Nat.mul_comm b,←Nat.pow_succ];exact this)
  rw [← Nat.div_add_mod t b,←Nat.div_add_mod t' b,ih,h0]
def sZ:Nat→(Nat→Int)→Int
 | 0,_=>0
 | k+1,f=>sZ k f+f k
theorem ES {f g:Nat→Int}:∀n,sZ n (fun j=>f j-g j)=sZ n f-sZ n g
 | 0=>rfl
 | n+1=>by simp only [sZ,ES n];omega
theorem ET {f g:Nat→Int}:∀n,(∀j,j<n→f j=g j)→sZ n f=sZ n g
 | 0,_=>rfl
 | n+1,h=>by simp only [sZ];rw [ET n fun j hj=>h j om,h n om]
theorem Wh {f:Nat→Int}{c:Nat}:∀n,(∀j,j<n→(f j).natAbs≤c)→(sZ n f).natAbs≤n*c
 | 0,_=>by simp [sZ]
 | n+1,h=>by
  have ih:=Wh n fun j hj=>h j om;have hn:=h n om;simp only [sZ];rw [Nat.add_mul,Nat.one_mul];omega
theorem Wj {f g:Nat→Int}:∀n,(∀j,j<n→f j≤g j)→sZ n f≤sZ n g
 | 0,_=>Int.le_refl _
 | n+1,h=>by
  have ih:=Wj n fun j hj=>h j om;have hn:=h n om;simp only [sZ];omega
theorem zF {c:Int}:∀n,sZ n (fun _=>c)=n*c
 | 0=>by simp [sZ]
 | n+1=>by
  simp only [sZ,zF n];rw [show((n+1:Nat):Int)=(n:Int)+1 from rfl,Int.add_mul,Int.one_mul]
theorem Wl (n r M:Nat)(hr:r<n)(hM:0<M)(F:Nat→Nat→Int)(hF:∀u j,u<r→j<n→(F u j).natAbs≤M):
  ∃y:Nat→Int,(∃j,j<n∧y j≠0)∧(∀j,j<n→(y j).natAbs≤(n*M)^r)∧∀u,u<r→sZ n (fun j=>F u j*y j)=0:=by
 obtain⟨Y,hY⟩:∃Y,Y=(n*M)^r:=⟨_,rfl⟩;rw [← hY];have hn:0<n:=om;have hnM:0<n*M:=Nat.mul_pos hn hM;let off:Nat→Int:=fun u=>sZ n fun j=>if F u j<0 then -(F u j)*Y else 0
 let val:Nat→Nat→Int:=fun t u=>sZ n fun j=>F u j*(qg (Y+1) t j:Int)
 have hdig:∀t j,qg (Y+1) t j≤Y:=fun t j=>Nat.le_of_lt_succ (Nat.mod_lt _ om);have hlo:∀t u,0≤val t u+off u:=by
  intro t u;have h1:sZ n (fun j=> -(if F u j<0 then -(F u j)*(Y:Int)else 0))≤sZ n fun j=>F u j*(qg (Y+1) t j:Int):=by
   refine Wj n fun j hj=> ?_;have h2:(qg (Y+1) t j:Int)≤Y:=by have:=hdig t j;omega
   have h3:(0:Int)≤(qg (Y+1) t j:Int):=om;split
   ·rename_i hneg;rw [Int.neg_mul,Int.neg_neg];exact Int.mul_le_mul_of_nonpos_left om h2
   rename_i hpos;exact Int.mul_nonneg om h3
  have h4:sZ n (fun j=> -(if F u j<0 then -(F u j)*(Y:Int)else 0))= -(off u):=by
   have:=ES (f:=fun _=>0) (g:=fun j=>if F u j<0 then -(F u j)*(Y:Int)else 0) n;rw [zF]at this;simp only [Int.mul_zero,Int.zero_sub]at this;exact this
  have h1':=h4 ▸ h1;have h5:val t u=sZ n fun j=>F u j*(qg (Y+1) t j:Int):=rfl;omega
 have hhi:∀t u,u<r→val t u+off u≤n*(M*Y):=by
  intro t u hu;have e:val t u+off u=sZ n fun j=>F u j*(qg (Y+1) t j:Int)- -(if F u j<0 then -(F u j)*(Y:Int)else 0):=by
   rw [ES];have h4:sZ n (fun j=> -(if F u j<0 then -(F u j)*(Y:Int)else 0))= -(off u):=by
    have:=ES (f:=fun _=>0) (g:=fun j=>if F u j<0 then -(F u j)*(Y:Int)else 0) n;rw [zF]at this;simp only [Int.mul_zero,Int.zero_sub]at this;exact this
   rw [h4];show val t u+off u=val t u- -off u;omega
  rw [e,←zF (c:=(M:Int)*Y) n];refine Wj n fun j hj=> ?_;have hf:=hF u j hu hj;have h2:(qg (Y+1) t j:Int)≤Y:=by have:=hdig t j;omega
  have h3:(0:Int)≤(qg (Y+1) t j:Int):=om;split
  ·rename_i hneg;have h6:F u j*(qg (Y+1) t j:Int)≤0:=Int.mul_nonpos_of_nonpos_of_nonneg om h3;have h7: -(F u j)*(Y:Int)≤M*Y:=Int.mul_le_mul_of_nonneg_right om om;omega
  rename_i hpos;have h6:F u j*(qg (Y+1) t j:Int)≤M*Y:=Int.mul_le_mul om h2 h3 om;omega
 have hW:∀t u,u<r→(val t u+off u).toNat<n*M*Y+1:=by
  intro t u hu;have h1:=hlo t u;have h2:=hhi t u hu;have h3:(n:Int)*(M*Y)=((n*M*Y:Nat):Int):=by
   rw [Int.natCast_mul,Int.natCast_mul,Int.mul_assoc]
  rw [h3]at h2;omega
 have hbig:(n*M*Y+1)^r<(Y+1)^n:=by
  have h1:(n*M*Y+1)^r≤(n*M*(Y+1))^r:=Nat.pow_le_pow_left (by rw [Nat.mul_add];omega) r;rw [Nat.mul_pow,←hY]at h1;have h2:Y*(Y+1)^r<(Y+1)^(r+1):=by
   rw [Nat.pow_succ,Nat.mul_comm];exact Nat.mul_lt_mul_of_pos_left om (Nat.pow_pos om)
  exact Nat.lt_of_le_of_lt h1 (dJ h2 (Nat.pow_le_pow_right om hr))
 obtain⟨t,t',hlt,ht',he⟩:=Ji ((n*M*Y+1)^r) ((Y+1)^n) (fun t=>AV (n*M*Y+1) r fun u=>(val t u+off u).toNat) (fun t _=>Qd r fun u hu=>hW t u hu) hbig;have hsame:=LZ r (fun u hu=>hW t u hu) (fun u hu=>hW t' u hu) he;refine⟨fun j=>(qg (Y+1) t j:Int)-(qg (Y+1) t' j:Int),?_,?_,?_⟩
 ·refine Classical.byContradiction fun hno=> ?_;have:t=t':=Ma om n t t' om ht' fun j hj=>by
   refine Classical.byContradiction fun hne=>hno ⟨j,hj,?_⟩;show(qg (Y+1) t j:Int)-(qg (Y+1) t' j:Int)≠0;omega
  omega
 ·intro j hj;have h1:=hdig t j;have h2:=hdig t' j;show((qg (Y+1) t j:Int)-(qg (Y+1) t' j:Int)).natAbs≤Y;omega
 intro u hu;have h1:=hsame u hu;have h2:=hlo t u;have h3:=hlo t' u;have e:sZ n (fun j=>F u j*((qg (Y+1) t j:Int)-(qg (Y+1) t' j:Int)))=val t u-val t' u:=by
  rw [← ES];refine ET n fun j hj=> ?_;rw [Int.mul_sub]
 rw [e];omega
def sQ:Nat→(Nat→Rat)→Rat
 | 0,_=>0
 | k+1,f=>sQ k f+f k
theorem dV {f g:Nat→Rat}:∀n,(∀j,j<n→f j=g j)→sQ n f=sQ n g
 | 0,_=>rfl
 | n+1,h=>by simp only [sQ];rw [dV n fun j hj=>h j om,h n om]
theorem qZ {f g:Nat→Rat}:∀n,sQ n (fun j=>f j+g j)=sQ n f+sQ n g
 | 0=>by simp only [sQ];grind
 | n+1=>by simp only [sQ,qZ n];grind
theorem OD {f g:Nat→Rat}:∀n,sQ n (fun j=>f j-g j)=sQ n f-sQ n g
 | 0=>by simp only [sQ];grind
 | n+1=>by simp only [sQ,OD n];grind
theorem yu {f:Nat→Rat}{c:Rat}:∀n,sQ n (fun j=>c*f j)=c*sQ n f
 | 0=>by simp only [sQ];grind
 | n+1=>by simp only [sQ,yu n];grind
theorem P7 {f:Nat→Rat}{c:Rat}:∀n,sQ n (fun j=>f j*c)=sQ n f*c
 | 0=>by simp only [sQ];grind
 | n+1=>by simp only [sQ,P7 n];grind
theorem Qe:∀n,sQ n (fun _=>0)=0
 | 0=>rfl
 | n+1=>by simp only [sQ,Qe n];grind
theorem kZ {f:Nat→Rat}(n:Nat)(h:∀j,j<n→f j=0):sQ n f=0:=(dV n h).trans (Qe n)
theorem tN {v:Nat}{g:Rat}:∀n,v<n→sQ n (fun j=>if j=v then g else 0)=g
 | 0,h=>absurd h om
 | n+1,h=>by
  simp only [sQ];by_cases e:v=n
  ·subst e;rw [kZ v fun j hj=>if_neg om,if_pos rfl];grind
  rw [tN n om,if_neg om];grind
theorem Dt {v:Nat}{f:Nat→Rat}(n:Nat)(hv:v<n)(h:∀j,j<n→j≠v→f j=0):sQ n f=f v:=by
 rw [← tN (v:=v) (g:=f v) n hv];refine dV n fun j hj=> ?_;split
 ·rename_i e;rw [e]
 rename_i e;exact h j hj e
theorem Jd {f:Nat→Rat}{n:Nat}:∀K,(∀j,n≤j→j<n+K→f j=0)→sQ (n+K) f=sQ n f
 | 0,_=>rfl
 | K+1,h=>by
  rw [show n+(K+1)=n+K+1 from rfl];simp only [sQ];rw [Jd K fun j h1 h2=>h j h1 om,h (n+K) om om];grind
def Sat (K m:Nat)(c:Nat→Nat→Rat)(bs:Nat→Nat)(x:Nat→Rat):Prop:=∀i,i<m→x (bs i)=sQ K fun k=>c i k*x k
def ZC (m:Nat)(c:Nat→Nat→Rat)(bs:Nat→Nat):Prop:=∀i j,i<m→j<m→c i (bs j)=0
structure YB (K m:Nat)(c c':Nat→Nat→Rat)(bs bs':Nat→Nat)(i v:Nat):Prop where
 hi:i<m
 hv:v<K
 ha:c i v≠0
 hb:∀j,j<m→bs j<K
 hn:∀j,j<m→bs j≠v
 inj:∀j,j<m→j≠i→bs j≠bs i
 ci:∀k,k<K→c' i k=if k=bs i then 1/c i v else if k=v then 0 else -(c i k/c i v)
 cj:∀j,j<m→j≠i→∀k,k<K→c' j k=(if k=v then 0 else c j k)+c j v*c' i k
 bi:bs' i=v
 bj:∀j,j<m→j≠i→bs' j=bs j
theorem YB.sumi {K m:Nat}{c c':Nat→Nat→Rat}{bs bs':Nat→Nat}{i v:Nat}(h:YB K m c c' bs bs' i v)(hz:ZC m c bs)(x:Nat→Rat):
  sQ K (fun k=>c' i k*x k)=(x (bs i)-sQ K fun k=>c i k*x k)*(1/c i v)+x v:=by
 have hvb:=h.hn i h.hi;have hz':=hz i i h.hi h.hi;have e:∀k,k<K→c' i k*x k=(-(1/c i v)*(c i k*x k))+(if k=bs i then 1/c i v*x (bs i)else 0)+(if k=v then x v else 0):=by
  intro k hk;rw [h.ci k hk];have ha:=h.ha;by_cases e1:k=bs i
  ·subst e1;rw [if_pos rfl,if_pos rfl,if_neg hvb,hz'];grind
  rw [if_neg e1,if_neg e1];by_cases e2:k=v
  ·subst e2;rw [if_pos rfl,if_pos rfl];grind
  rw [if_neg e2,if_neg e2];grind
 rw [dV K e,qZ,qZ,yu,tN K (h.hb i h.hi),tN K h.hv];grind
theorem YB.sumj {K m:Nat}{c c':Nat→Nat→Rat}{bs bs':Nat→Nat}{i v:Nat}(h:YB K m c c' bs bs' i v)(x:Nat→Rat){j:Nat}(hj:j<m)(hji:j≠i):
  sQ K (fun k=>c' j k*x k)=sQ K (fun k=>c j k*x k)-c j v*x v+c j v*sQ K (fun k=>c' i k*x k):=by
 have e:∀k,k<K→c' j k*x k=c j k*x k-(if k=v then c j v*x v else 0)+c j v*(c' i k*x k):=by
  intro k hk;rw [h.cj j hj hji k hk];by_cases e2:k=v
  ·subst e2;rw [if_pos rfl,if_pos rfl];grind
  rw [if_neg e2,if_neg e2];grind
 rw [dV K e,qZ,OD,yu,tN K h.hv]
theorem YB.sat {K m:Nat}{c c':Nat→Nat→Rat}{bs bs':Nat→Nat}{i v:Nat}(h:YB K m c c' bs bs' i v)(hz:ZC m c bs)(x:Nat→Rat):Sat K m c' bs' x↔Sat K m c bs x:=by
 have hs:=h.sumi hz x;have ha:=h.ha;constructor
 ·intro H;have hi:=H i h.hi;rw [h.bi,hs]at hi;have hii:x (bs i)=sQ K fun k=>c i k*x k:=by grind
  intro j hj;by_cases e:j=i
  ·subst e;exact hii
  have hj':=H j hj;rw [h.bj j hj e,h.sumj x hj e,hs]at hj';rw [hj'];grind
 intro H;have hi:=H i h.hi;intro j hj;by_cases e:j=i
 ·subst e;rw [h.bi,hs];grind
 have hj':=H j hj;rw [h.bj j hj e,h.sumj x hj e,hs,hj'];grind
theorem YB.zc {K m:Nat}{c c':Nat→Nat→Rat}{bs bs':Nat→Nat}{i v:Nat}(h:YB K m c c' bs bs' i v)(hz:ZC m c bs):ZC m c' bs':=by
 have hvb:=h.hn i h.hi;have hiv:c' i v=0:=by rw [h.ci v h.hv,if_neg (Ne.symm hvb),if_pos rfl]
 have hib:∀j,j<m→j≠i→c' i (bs j)=0:=by
  intro j hj e;rw [h.ci _ (h.hb j hj),if_neg (h.inj j hj e),if_neg (h.hn j hj),hz i j h.hi hj];grind
 intro p j hp hj;by_cases ep:p=i
 ·subst ep;by_cases ej:j=p
  ·subst ej;rw [h.bi];exact hiv
  rw [h.bj j hj ej];exact hib j hj ej
 by_cases ej:j=i
 ·subst ej;rw [h.bi,h.cj p hp ep v h.hv,if_pos rfl,hiv];grind
 rw [h.bj j hj ej,h.cj p hp ep _ (h.hb j hj),if_neg (h.hn j hj),hz p j hp hj,hib j hj ej];grind
theorem LC {K m:Nat}{c:Nat→Nat→Rat}{bs:Nat→Nat}(hz:ZC m c bs){x x':Nat→Rat}{v:Nat}{d:Rat}(hv:v<K)(h:Sat K m c bs x)(hb:∀j,j<m→bs j<K)(hnv:∀j,j<m→bs j≠v)
  (h1:x' v=x v+d) (h2:∀i,i<m→x' (bs i)=x (bs i)+d*c i v) (h3:∀k,k<K→k≠v→(∀i,i<m→bs i≠k)→x' k=x k):Sat K m c bs x':=by
 intro i hi;rw [h2 i hi,h i hi];have e:∀k,k<K→c i k*x' k=c i k*x k+(if k=v then c i v*d else 0):=by
  intro k hk;by_cases e2:k=v
  ·subst e2;rw [if_pos rfl,h1];grind
  rw [if_neg e2];by_cases hx:∃j,j<m∧bs j=k
  ·obtain ⟨j,hj,rfl⟩:=hx;rw [hz i j hi hj];grind
  rw [h3 k hk e2 fun j hj e=>hx ⟨j,hj,e⟩];grind
 rw [dV K e,qZ,tN K hv];grind
def Sz (K m:Nat)(bs:Nat→Nat):List Nat:=(List.range K).filter fun v=>(List.range m).all fun j=>decide (bs j≠v)
theorem tO {K m:Nat}{bs:Nat→Nat}{v:Nat}:v∈Sz K m bs↔v<K∧∀j,j<m→bs j≠v:=by
 unfold Sz;simp only [List.mem_filter,List.mem_range,List.all_eq_true,decide_eq_true_eq]
theorem G7 {K m:Nat}{bs:Nat→Nat}:(Sz K m bs).Nodup:=List.Pairwise.filter _ List.nodup_range
theorem zG {l:List Nat}(h:l.Nodup){i j:Nat}(hi:i<l.length)(hj:j<l.length)(e:l[i]=l[j]):i=j:=(List.getElem_inj h).1 e
theorem Qf {K m:Nat}{bs:Nat→Nat}(hb:∀j,j<m→bs j<K)(inj:∀i j,i<m→j<m→bs i=bs j→i=j):(Sz K m bs).length+m≤K:=by
 refine Classical.byContradiction fun hno=> ?_;obtain⟨i,j,hij,hj,he⟩:=Ji K ((Sz K m bs).length+m) (fun i=>if h:i<(Sz K m bs).length then(Sz K m bs)[i]else bs (i-(Sz K m bs).length)) (by
  intro i hi;split
  ·rename_i h;exact(tO.1 (List.getElem_mem h)).1
  exact hb _ om) om
 split at he
 ·rename_i h1;split at he
  ·rename_i h2;have:=zG G7 h1 h2 he;omega
  rename_i h2;exact(tO.1 (List.getElem_mem h1)).2 (j-(Sz K m bs).length) om he.symm
 rename_i h1;split at he
 ·omega
 rename_i h2;have:=inj _ _ om om he;omega
theorem SA {l L:List Nat}(h:l.Nodup)(hs:∀x∈l,x∈L):l.length≤L.length:=by
 refine Classical.byContradiction fun hno=> ?_;obtain⟨i,j,hij,hj,he⟩:=Ji L.length l.length (fun i=>if h:i<l.length then L.idxOf l[i]else 0) (by
  intro i hi;rw [dif_pos hi];exact List.idxOf_lt_length_of_mem (hs _ (List.getElem_mem hi))) om
 rw [dif_pos om,dif_pos hj]at he;have h1:=List.idxOf_lt_length_of_mem (hs _ (List.getElem_mem (show i<l.length from om)));have e1:L[L.idxOf l[i]]=l[i]:=List.getElem_idxOf h1;have h2:=List.idxOf_lt_length_of_mem (hs _ (List.getElem_mem hj));have e2:L[L.idxOf l[j]]=l[j]:=List.getElem_idxOf h2;have:l[i]=l[j]:=by
  rw [← e1,←e2];simp only [he]
 have:=zG h _ _ this;omega
theorem Dv {f:Nat→Int}:∀n,((sZ n f:Int):Rat)=sQ n fun j=>((f j:Int):Rat)
 | 0=>rfl
 | n+1=>by simp only [sZ,sQ];rw [← Dv n];exact Rat.intCast_add _ _
def iG (n:Nat)(A:Nat→Nat→Int)(k j:Nat):Int:=if k<n then(if k=j then 1 else 0)else A (k-n) j
def Sys (n m:Nat)(A:Nat→Nat→Int)(x:Nat→Rat):Prop:=∀i,i<m→x (n+i)=sQ n fun j=>(A i j:Rat)*x j
theorem EU {n m M:Nat}{A:Nat→Nat→Int}(hM:0<M)(hA:∀i j,i<m→j<n→(A i j).natAbs≤M){k j:Nat}(hk:k<n+m)(hj:j<n):(iG n A k j).natAbs≤M:=by
 unfold iG;split
 ·split<;>simp<;>omega
 exact hA _ _ om hj
theorem Qg {n m:Nat}{A:Nat→Nat→Int}(y:Nat→Int):Sys n m A fun k=>((sZ n fun j=>iG n A k j*y j:Int):Rat):=by
 intro i hi;show((sZ n fun j=>iG n A (n+i) j*y j:Int):Rat)=sQ n fun j=>(A i j:Rat)*((sZ n fun j'=>iG n A j j'*y j':Int):Rat);rw [Dv];refine dV n fun j hj=> ?_;have e:(sZ n fun j'=>iG n A j j'*y j')=y j:=by
  have:((sZ n fun j'=>iG n A j j'*y j':Int):Rat)=(y j:Rat):=by
   rw [Dv,Dt (v:=j) n hj]
   ·unfold iG;rw [if_pos hj,if_pos rfl,Int.one_mul]
   intro j' _ hne;unfold iG;rw [if_pos hj,if_neg om,Int.zero_mul];rfl
  exact_mod_cast this
 rw [e];unfold iG;rw [if_neg om,show n+i-n=i from om];exact Rat.intCast_mul _ _
theorem G8 {n:Nat}{A:Nat→Nat→Int}(y:Nat→Int){j:Nat}(hj:j<n):(sZ n fun j'=>iG n A j j'*y j')=y j:=by
 have:((sZ n fun j'=>iG n A j j'*y j':Int):Rat)=(y j:Rat):=by
  rw [Dv,Dt (v:=j) n hj]
  ·unfold iG;rw [if_pos hj,if_pos rfl,Int.one_mul]
  intro j' _ hne;unfold iG;rw [if_pos hj,if_neg om,Int.zero_mul];rfl
 exact_mod_cast this
theorem Mc {K m:Nat}{c:Nat→Nat→Rat}{bs:Nat→Nat}(hz:ZC m c bs){x:Nat→Rat}(h:Sat K m c bs x)(h0:∀k,k<K→(∀j,j<m→bs j≠k)→x k=0)(hb:∀j,j<m→bs j<K):∀k,k<K→x k=0:=by
 have hbs:∀i,i<m→x (bs i)=0:=by
  intro i hi;rw [h i hi];refine kZ K fun k hk=> ?_;by_cases hx:∃j,j<m∧bs j=k
  ·obtain ⟨j,hj,rfl⟩:=hx;rw [hz i j hi hj];grind
  rw [h0 k hk fun j hj e=>hx ⟨j,hj,e⟩];grind
 intro k hk;by_cases hx:∃j,j<m∧bs j=k
 ·obtain ⟨j,hj,rfl⟩:=hx;exact hbs j hj
 exact h0 k hk fun j hj e=>hx ⟨j,hj,e⟩
def QB (B:Nat)(q:Rat):Prop:=∃a b:Int,b≠0∧q*(b:Rat)=(a:Rat)∧a.natAbs≤B∧b.natAbs≤B
theorem QB.mono {B B':Nat}{q:Rat}(h:QB B q)(hB:B≤B'):QB B' q:=by
 obtain⟨a,b,h1,h2,h3,h4⟩:=h;exact⟨a,b,h1,h2,Nat.le_trans h3 hB,Nat.le_trans h4 hB⟩
theorem QB.zero {B:Nat}(hB:0<B):QB B 0:=⟨0,1,om,by grind,sm,hB⟩
theorem Qh {n m M Y:Nat}{A:Nat→Nat→Int}(hM:0<M)(hA:∀i j,i<m→j<n→(A i j).natAbs≤M){y:Nat→Int}(hy:∀j,j<n→(y j).natAbs≤Y){k:Nat}(hk:k<n+m):
  (sZ n fun j=>iG n A k j*y j).natAbs≤n*(M*Y):=by
 refine Wh n fun j hj=> ?_;rw [Int.natAbs_mul];exact Nat.mul_le_mul (EU hM hA hk hj) (hy j hj)
theorem OA {n m M:Nat}{A:Nat→Nat→Int}(hM:0<M)(hA:∀i j,i<m→j<n→(A i j).natAbs≤M){c:Nat→Nat→Rat}{bs:Nat→Nat}
  (hs:∀x,Sys n m A x→Sat (n+m) m c bs x) (hz:ZC m c bs) (hb:∀j,j<m→bs j<n+m) (inj:∀i j,i<m→j<m→bs i=bs j→i=j) {i v:Nat} (hi:i<m) (hv:v<n+m):
  QB ((n+1)*(M*((n+1)*M)^n)) (c i v):=by
 have hB:0<(n+1)*(M*((n+1)*M)^n):=Nat.mul_pos om (Nat.mul_pos hM (Nat.pow_pos (Nat.mul_pos om hM)));by_cases hx:∃j,j<m∧bs j=v
 ·obtain ⟨j,hj,rfl⟩:=hx;rw [hz i j hi hj];exact QB.zero hB
 have hnv:∀j,j<m→bs j≠v:=fun j hj e=>hx ⟨j,hj,e⟩;obtain⟨L,hL⟩:∃L,L=(Sz (n+m) m bs).filter fun u=>decide (u≠v):=⟨_,rfl⟩;have hvm:v∈Sz (n+m) m bs:=tO.2 ⟨hv,hnv⟩;have hlen:L.length<n:=by
  have h1:=Qf hb inj;have h2:(v::L).Nodup:=by
   refine List.nodup_cons.2 ⟨?_,hL ▸ List.Pairwise.filter _ G7⟩;rw [hL];simp
  have h3:=SA (L:=Sz (n+m) m bs) h2 (by
   intro x hx;rcases List.mem_cons.1 hx with rfl | hx
   ·exact hvm
   rw [hL]at hx;exact(List.mem_filter.1 hx).1)
  simp only [List.length_cons]at h3;omega
 obtain⟨y,⟨j0,hj0,hy0⟩,hyb,hyz⟩:=Wl n L.length M hlen hM (fun u j=>iG n A (L.getD u 0) j) (by
  intro u j hu hj;refine EU hM hA ?_ hj;rw [dX,fG hu];have h1:∀x∈L,x<n+m:=fun x hx=>(tO.1 (List.mem_filter.1 (hL ▸ hx)).1).1;exact h1 _ (List.getElem_mem hu))
 have hS:=hs _ (Qg y);have hx0:∀k,k<n+m→(∀j,j<m→bs j≠k)→k≠v→(sZ n fun j=>iG n A k j*y j)=0:=by
  intro k hk hn hkv;have hm:k∈L:=by rw [hL];exact List.mem_filter.2 ⟨tO.2 ⟨hk,hn⟩,by simpa using hkv⟩
  obtain⟨u,hu,rfl⟩:=List.getElem_of_mem hm;have:=hyz u hu;rw [dX,fG hu]at this;exact this
 have hvz:(sZ n fun j=>iG n A v j*y j)≠0:=by
  intro h0;have hall:=Mc hz hS (by
   intro k hk hn;by_cases e:k=v
   ·subst e;simp only [h0];rfl
   simp only [hx0 k hk hn e];rfl) hb j0 om
  simp only [G8 y hj0]at hall;exact hy0 (by exact_mod_cast hall)
 have hle:∀k,k<n+m→(sZ n fun j=>iG n A k j*y j).natAbs≤(n+1)*(M*((n+1)*M)^n):=by
  intro k hk;have h1:=Qh hM hA hyb hk;refine Nat.le_trans h1 (Nat.mul_le_mul om (Nat.mul_le_mul (Nat.le_refl _) ?_));refine Nat.le_trans (Nat.pow_le_pow_left (Nat.mul_le_mul_right M (show n≤n+1 from om)) _) (Nat.pow_le_pow_right (Nat.mul_pos om hM) om)
 refine⟨sZ n fun j=>iG n A (bs i) j*y j,sZ n fun j=>iG n A v j*y j,hvz,?_,hle _ (hb i hi),hle _ hv⟩;have h1:=hS i hi;simp only at h1;rw [h1,Dt (v:=v) (n+m) hv];intro k hk hkv;by_cases hx:∃j,j<m∧bs j=k
 ·obtain ⟨j,hj,rfl⟩:=hx;rw [hz i j hi hj];grind
 rw [hx0 k hk (fun j hj e=>hx ⟨j,hj,e⟩) hkv];show c i k*((0:Int):Rat)=0;rw [show((0:Int):Rat)=0 from rfl];grind
theorem YP {K m:Nat}{c:Nat→Nat→Rat}{bs:Nat→Nat}{x y:Nat→Rat}(hx:Sat K m c bs x)(hy:Sat K m c bs y)(z:Rat):Sat K m c bs fun k=>z*x k-y k:=by
 intro i hi;show z*x (bs i)-y (bs i)=_;rw [hx i hi,hy i hi,←yu,←OD];refine dV K fun k _=> ?_;grind
theorem Ch {n m M:Nat}{A:Nat→Nat→Int}(hM:0<M)(hA:∀i j,i<m→j<n→(A i j).natAbs≤M){c:Nat→Nat→Rat}{bs:Nat→Nat}
  (hs:∀x,Sys n m A x→Sat (n+m) m c bs x) (hz:ZC m c bs) (hb:∀j,j<m→bs j<n+m) (inj:∀i j,i<m→j<m→bs i=bs j→i=j)
  {x:Nat→Rat} (hx:Sat (n+m) m c bs x) (β:Nat→Int) (hβ:∀k,k<n+m→(∀j,j<m→bs j≠k)→x k=(β k:Rat)∧(β k).natAbs≤M) {k:Nat} (hk:k<n+m):
  QB ((n+1)*(M*((n+1)*M)^n)) (x k):=by
 obtain⟨L,hL⟩:∃L,L=Sz (n+m) m bs:=⟨_,rfl⟩;have hlen:L.length<n+1:=by
  have h1:=Qf hb inj;rw [hL];omega
 have hLm:∀u (hu:u<L.length),L[u]<n+m∧∀j,j<m→bs j≠L[u]:=by
  intro u hu;have h1:∀x∈L,x<n+m∧∀j,j<m→bs j≠x:=fun x hx=>tO.1 (hL ▸ hx);exact h1 _ (List.getElem_mem hu)
 obtain⟨y,⟨j0,hj0,hy0⟩,hyb,hyz⟩:=Wl (n+1) L.length M hlen hM (fun u j=>if j<n then iG n A (L.getD u 0) j else -β (L.getD u 0)) (by
  intro u j hu hj;rw [dX,fG hu,Option.getD_some];split
  ·rename_i hjn;exact EU hM hA (hLm u hu).1 hjn
  rw [Int.natAbs_neg];exact(hβ _ (hLm u hu).1 (hLm u hu).2).2)
 have hS:=hs _ (Qg y);have hX:∀k,k<n+m→(∀j,j<m→bs j≠k)→(sZ n fun j=>iG n A k j*y j)=β k*y n:=by
  intro k hk hn;have hm:k∈L:=by rw [hL];exact tO.2 ⟨hk,hn⟩
  obtain⟨u,hu,rfl⟩:=List.getElem_of_mem hm;have:=hyz u hu;simp only [dX,fG hu,Option.getD_some]at this;simp only [sZ]at this;rw [if_neg om]at this;have e:(sZ n fun j=>(if j<n then iG n A L[u] j else -β L[u])*y j)=sZ n fun j=>iG n A L[u] j*y j:=ET n fun j hj=>by rw [if_pos hj]
  rw [e,Int.neg_mul]at this;omega
 have hall:∀k,k<n+m→(y n:Rat)*x k-((sZ n fun j=>iG n A k j*y j:Int):Rat)=0:=by
  refine Mc hz (YP hx hS (y n:Rat)) ?_ hb;intro k hk hn;rw [hX k hk hn,(hβ k hk hn).1,Rat.intCast_mul];grind
 have hle:(sZ n fun j=>iG n A k j*y j).natAbs≤(n+1)*(M*((n+1)*M)^n):=by
  have h1:=Qh hM hA (fun j hj=>hyb j om) hk;refine Nat.le_trans h1 (Nat.mul_le_mul om (Nat.mul_le_mul (Nat.le_refl _) ?_));exact Nat.pow_le_pow_right (Nat.mul_pos om hM) om
 have hyn:y n≠0:=by
  intro h0;by_cases e:j0=n
  ·subst e;exact hy0 h0
  have h1:=hall j0 om;rw [G8 y (show j0<n from om),h0]at h1;have h2:(y j0:Rat)=0:=by
   rw [show((0:Int):Rat)=0 from rfl]at h1;grind
  exact hy0 (by exact_mod_cast h2)
 refine⟨sZ n fun j=>iG n A k j*y j,y n,hyn,?_,hle,?_⟩
 ·have:=hall k hk;grind
 refine Nat.le_trans (hyb n om) (Nat.le_trans (Nat.pow_le_pow_right (Nat.mul_pos om hM) (show L.length≤n from om)) ?_);rw [← Nat.mul_assoc];exact Nat.le_mul_of_pos_left _ (Nat.mul_pos om hM)
end Go.Proofs.YtaiffmebphhdaaaGreat
