/- Plain: a pigeonhole, Siegel, sums, systems of lines, the bounds of a tableau. -/
import Derived.Test.YtcnjcnjipddgeaaExAA
namespace Go.Proofs.Ytcnjcnjipddgeaa
set_option linter.unusedSimpArgs false
set_option linter.unusedVariables false
theorem pigeon:∀(B A:Nat) (f:Nat→Nat),(∀i,i<A→f i<B)→B<A→∃i j,i<j∧j<A∧f i=f j
 | 0,A,f,h,hA=>absurd (h 0 hA) (by omega)
 | B+1,A,f,h,hA=>by
  by_cases hx:∃i,i<A-1∧f i=f (A-1)
  ·obtain ⟨i,hi,he⟩:=hx
   exact⟨i,A-1,hi,by omega,he⟩
  have hx:∀i,i<A-1→f i≠f (A-1):=fun i hi he=>hx ⟨i,hi,he⟩
  have hl:=h (A-1) (by omega)
  obtain⟨i,j,hij,hj,he⟩:=pigeon B (A-1) (fun i=>if f i=B then f (A-1)else f i) (by
   intro i hi;have h1:=h i (by omega)
   have h2:=hx i hi
   split<;>omega) (by omega)
  refine⟨i,j,hij,by omega,?_⟩
  have h1:=hx i (by omega)
  have h2:=hx j hj
  split at he<;>split at he<;>omega
def encN (W:Nat):Nat→(Nat→Nat)→Nat
 | 0,_=>0
 | k+1,g=>encN W k g*W+g k
theorem encN_lt {W:Nat}{g:Nat→Nat}:∀k,(∀u,u<k→g u<W)→encN W k g<W^k
 | 0,_=>by simp [encN]
 | k+1,h=>by
  have ih:=encN_lt k fun u hu=>h u (by omega)
  have hk:=h k (by omega)
  unfold encN;rw [Nat.pow_succ];have:(encN W k g+1)*W≤W^k*W:=Nat.mul_le_mul_right _ ih;rw [Nat.add_mul]at this;omega
theorem encN_inj {W:Nat}{g g':Nat→Nat}:∀k,(∀u,u<k→g u<W)→(∀u,u<k→g' u<W)→encN W k g=encN W k g'→∀u,u<k→g u=g' u
 | 0,_,_,_,u,hu=>absurd hu (by omega)
 | k+1,h,h',he,u,hu=>by
  have hk:=h k (by omega)
  have hk':=h' k (by omega)
  unfold encN at he;have hm:(encN W k g*W+g k)%W=(encN W k g'*W+g' k)%W:=by rw [he]
  have hd:(encN W k g*W+g k)/W=(encN W k g'*W+g' k)/W:=by rw [he]
  have hW:0<W:=by omega
  rw [Nat.add_comm,Nat.add_mul_mod_self_right,Nat.mod_eq_of_lt hk,Nat.add_comm,Nat.add_mul_mod_self_right,Nat.mod_eq_of_lt hk']at hm;rw [Nat.add_comm,Nat.add_mul_div_right _ _ hW,Nat.div_eq_of_lt hk,Nat.zero_add,Nat.add_comm,Nat.add_mul_div_right _ _ hW,Nat.div_eq_of_lt hk',Nat.zero_add]at hd
  by_cases hu':u=k
  ·subst hu';exact hm
  ·exact encN_inj k (fun u hu=>h u (by omega)) (fun u hu=>h' u (by omega)) (by omega) u (by omega)
def digB (b t j:Nat):Nat:=t/b^j%b
theorem digB_inj {b:Nat}(hb:0<b):∀(n t t':Nat),t<b^n→t'<b^n→(∀j,j<n→digB b t j=digB b t' j)→t=t'
 | 0,t,t',h,h',_=>by simp at h h';omega
 | n+1,t,t',h,h',hd=>by
  have h0:=hd 0 (by omega)
  unfold digB at h0;simp only [Nat.pow_zero,Nat.div_one]at h0;have ih:=digB_inj hb n (t/b) (t'/b) (Nat.div_lt_of_lt_mul (by rw [Nat.pow_succ]at h;rw [Nat.mul_comm];exact h)) (Nat.div_lt_of_lt_mul (by rw [Nat.pow_succ]at h';rw [Nat.mul_comm];exact h')) (by
   intro j hj;have:=hd (j+1) (by omega)
   unfold digB at this ⊢;rw [Nat.div_div_eq_div_mul,Nat.div_div_eq_div_mul,Nat.mul_comm b,←Nat.pow_succ];exact this)
  rw [← Nat.div_add_mod t b,←Nat.div_add_mod t' b,ih,h0]
def sZ:Nat→(Nat→Int)→Int
 | 0,_=>0
 | k+1,f=>sZ k f+f k
theorem sZ_sub {f g:Nat→Int}:∀n,sZ n (fun j=>f j-g j)=sZ n f-sZ n g
 | 0=>rfl
 | n+1=>by simp only [sZ,sZ_sub n];omega
theorem sZ_congr {f g:Nat→Int}:∀n,(∀j,j<n→f j=g j)→sZ n f=sZ n g
 | 0,_=>rfl
 | n+1,h=>by simp only [sZ];rw [sZ_congr n fun j hj=>h j (by omega),h n (by omega)]
theorem sZ_le {f g:Nat→Int}:∀n,(∀j,j<n→f j≤g j)→sZ n f≤sZ n g
 | 0,_=>Int.le_refl _
 | n+1,h=>by
  have ih:=sZ_le n fun j hj=>h j (by omega)
  have hn:=h n (by omega)
  simp only [sZ];omega
theorem sZ_const {c:Int}:∀n,sZ n (fun _=>c)=n*c
 | 0=>by simp [sZ]
 | n+1=>by
  simp only [sZ,sZ_const n];rw [show((n+1:Nat):Int)=(n:Int)+1 from rfl,Int.add_mul,Int.one_mul]
theorem siegel (n r M:Nat)(hr:r<n)(hM:0<M)(F:Nat→Nat→Int)(hF:∀u j,u<r→j<n→(F u j).natAbs≤M):
  ∃y:Nat→Int,(∃j,j<n∧y j≠0)∧(∀j,j<n→(y j).natAbs≤(n*M)^r)∧∀u,u<r→sZ n (fun j=>F u j*y j)=0:=by
 obtain⟨Y,hY⟩:∃Y,Y=(n*M)^r:=⟨_,rfl⟩;rw [← hY];have hn:0<n:=by omega
 have hnM:0<n*M:=Nat.mul_pos hn hM
 let off:Nat→Int:=fun u=>sZ n fun j=>if F u j<0 then -(F u j)*Y else 0
 let val:Nat→Nat→Int:=fun t u=>sZ n fun j=>F u j*(digB (Y+1) t j:Int)
 have hdig:∀t j,digB (Y+1) t j≤Y:=fun t j=>Nat.le_of_lt_succ (Nat.mod_lt _ (by omega))
 have hlo:∀t u,0≤val t u+off u:=by
  intro t u;have h1:sZ n (fun j=> -(if F u j<0 then -(F u j)*(Y:Int)else 0))≤sZ n fun j=>F u j*(digB (Y+1) t j:Int):=by
   refine sZ_le n fun j hj=> ?_
   have h2:(digB (Y+1) t j:Int)≤Y:=by have:=hdig t j;omega
   have h3:(0:Int)≤(digB (Y+1) t j:Int):=by omega
   split
   ·rename_i hneg
    rw [Int.neg_mul,Int.neg_neg];exact Int.mul_le_mul_of_nonpos_left (by omega) h2
   ·rename_i hpos
    exact Int.mul_nonneg (by omega) h3
  have h4:sZ n (fun j=> -(if F u j<0 then -(F u j)*(Y:Int)else 0))= -(off u):=by
   have:=sZ_sub (f:=fun _=>0) (g:=fun j=>if F u j<0 then -(F u j)*(Y:Int)else 0) n
   rw [sZ_const]at this;simp only [Int.mul_zero,Int.zero_sub]at this;exact this
  have h1':=h4 ▸ h1;have h5:val t u=sZ n fun j=>F u j*(digB (Y+1) t j:Int):=rfl
  omega
 have hhi:∀t u,u<r→val t u+off u≤n*(M*Y):=by
  intro t u hu;have e:val t u+off u=sZ n fun j=>F u j*(digB (Y+1) t j:Int)- -(if F u j<0 then -(F u j)*(Y:Int)else 0):=by
   rw [sZ_sub];have h4:sZ n (fun j=> -(if F u j<0 then -(F u j)*(Y:Int)else 0))= -(off u):=by
    have:=sZ_sub (f:=fun _=>0) (g:=fun j=>if F u j<0 then -(F u j)*(Y:Int)else 0) n
    rw [sZ_const]at this;simp only [Int.mul_zero,Int.zero_sub]at this;exact this
   rw [h4];show val t u+off u=val t u- -off u;omega
  rw [e,←sZ_const (c:=(M:Int)*Y) n];refine sZ_le n fun j hj=> ?_
  have hf:=hF u j hu hj;have h2:(digB (Y+1) t j:Int)≤Y:=by have:=hdig t j;omega
  have h3:(0:Int)≤(digB (Y+1) t j:Int):=by omega
  split
  ·rename_i hneg
   have h6:F u j*(digB (Y+1) t j:Int)≤0:=Int.mul_nonpos_of_nonpos_of_nonneg (by omega) h3
   have h7: -(F u j)*(Y:Int)≤M*Y:=Int.mul_le_mul_of_nonneg_right (by omega) (by omega)
   omega
  ·rename_i hpos
   have h6:F u j*(digB (Y+1) t j:Int)≤M*Y:=Int.mul_le_mul (by omega) h2 h3 (by omega)
   omega
 have hW:∀t u,u<r→(val t u+off u).toNat<n*M*Y+1:=by
  intro t u hu;have h1:=hlo t u;have h2:=hhi t u hu;have h3:(n:Int)*(M*Y)=((n*M*Y:Nat):Int):=by
   rw [Int.natCast_mul,Int.natCast_mul,Int.mul_assoc]
  rw [h3]at h2;omega
 have hbig:(n*M*Y+1)^r<(Y+1)^n:=by
  have h1:(n*M*Y+1)^r≤(n*M*(Y+1))^r:=Nat.pow_le_pow_left (by rw [Nat.mul_add];omega) r
  rw [Nat.mul_pow,←hY]at h1;have h2:Y*(Y+1)^r<(Y+1)^(r+1):=by
   rw [Nat.pow_succ,Nat.mul_comm];exact Nat.mul_lt_mul_of_pos_left (by omega) (Nat.pow_pos (by omega))
  exact Nat.lt_of_le_of_lt h1 (Nat.lt_of_lt_of_le h2 (Nat.pow_le_pow_right (by omega) hr))
 obtain⟨t,t',hlt,ht',he⟩:=pigeon ((n*M*Y+1)^r) ((Y+1)^n) (fun t=>encN (n*M*Y+1) r fun u=>(val t u+off u).toNat) (fun t _=>encN_lt r fun u hu=>hW t u hu) hbig
 have hsame:=encN_inj r (fun u hu=>hW t u hu) (fun u hu=>hW t' u hu) he
 refine⟨fun j=>(digB (Y+1) t j:Int)-(digB (Y+1) t' j:Int),?_,?_,?_⟩
 ·refine Classical.byContradiction fun hno=> ?_
  have:t=t':=digB_inj (by omega) n t t' (by omega) ht' fun j hj=>by
   refine Classical.byContradiction fun hne=>hno ⟨j,hj,?_⟩
   show(digB (Y+1) t j:Int)-(digB (Y+1) t' j:Int)≠0;omega
  omega
 ·intro j hj
  have h1:=hdig t j;have h2:=hdig t' j;show((digB (Y+1) t j:Int)-(digB (Y+1) t' j:Int)).natAbs≤Y;omega
 ·intro u hu
  have h1:=hsame u hu;have h2:=hlo t u;have h3:=hlo t' u;have e:sZ n (fun j=>F u j*((digB (Y+1) t j:Int)-(digB (Y+1) t' j:Int)))=val t u-val t' u:=by
   rw [← sZ_sub];refine sZ_congr n fun j hj=> ?_
   rw [Int.mul_sub]
  rw [e];omega
def sQ:Nat→(Nat→Rat)→Rat
 | 0,_=>0
 | k+1,f=>sQ k f+f k
theorem sQ_congr {f g:Nat→Rat}:∀n,(∀j,j<n→f j=g j)→sQ n f=sQ n g
 | 0,_=>rfl
 | n+1,h=>by simp only [sQ];rw [sQ_congr n fun j hj=>h j (by omega),h n (by omega)]
theorem sQ_add {f g:Nat→Rat}:∀n,sQ n (fun j=>f j+g j)=sQ n f+sQ n g
 | 0=>by simp only [sQ];grind
 | n+1=>by simp only [sQ,sQ_add n];grind
theorem sQ_sub {f g:Nat→Rat}:∀n,sQ n (fun j=>f j-g j)=sQ n f-sQ n g
 | 0=>by simp only [sQ];grind
 | n+1=>by simp only [sQ,sQ_sub n];grind
theorem sQ_mul {f:Nat→Rat}{c:Rat}:∀n,sQ n (fun j=>c*f j)=c*sQ n f
 | 0=>by simp only [sQ];grind
 | n+1=>by simp only [sQ,sQ_mul n];grind
theorem sQ_mul' {f:Nat→Rat}{c:Rat}:∀n,sQ n (fun j=>f j*c)=sQ n f*c
 | 0=>by simp only [sQ];grind
 | n+1=>by simp only [sQ,sQ_mul' n];grind
theorem sQ_zero:∀n,sQ n (fun _=>0)=0
 | 0=>rfl
 | n+1=>by simp only [sQ,sQ_zero n];grind
theorem sQ_zeros {f:Nat→Rat}(n:Nat)(h:∀j,j<n→f j=0):sQ n f=0:=(sQ_congr n h).trans (sQ_zero n)
theorem sQ_one {v:Nat}{g:Rat}:∀n,v<n→sQ n (fun j=>if j=v then g else 0)=g
 | 0,h=>absurd h (by omega)
 | n+1,h=>by
  simp only [sQ]
  by_cases e:v=n
  ·subst e
   rw [sQ_zeros v fun j hj=>if_neg (by omega),if_pos rfl];grind
  ·rw [sQ_one n (by omega),if_neg (by omega)];grind
theorem sQ_only {v:Nat}{f:Nat→Rat}(n:Nat)(hv:v<n)(h:∀j,j<n→j≠v→f j=0):sQ n f=f v:=by
 rw [← sQ_one (v:=v) (g:=f v) n hv];refine sQ_congr n fun j hj=> ?_
 split
 ·rename_i e;rw [e]
 ·rename_i e;exact h j hj e
theorem sQ_swap {f:Nat→Nat→Rat}{m:Nat}:∀n,sQ n (fun i=>sQ m (fun j=>f i j))=sQ m (fun j=>sQ n (fun i=>f i j))
 | 0=>by simp only [sQ];rw [sQ_zero]
 | n+1=>by simp only [sQ];rw [sQ_swap n,←sQ_add]
def ZC (m:Nat)(c:Nat→Nat→Rat)(bs:Nat→Nat):Prop:=∀i j,i<m→j<m→c i (bs j)=0
structure Piv (K m:Nat)(c c':Nat→Nat→Rat)(bs bs':Nat→Nat)(i v:Nat):Prop where
 hi:i<m
 hv:v<K
 ha:c i v≠0
 hb:∀j,j<m→bs j<K
 hn:∀j,j<m→bs j≠v
 inj:∀j,j<m→j≠i→bs j≠bs i
 ci:∀k,k<K→c' i k=if k=bs i then 1/c i v else if k=v then 0 else -(c i k/c i v)
 cj:∀j,j<m→j≠i→∀k,k<K→c' j k=(if k=v then 0 else c j k)+c j v*c' i k
 bi:bs' i=v
 bj:∀j,j<m→j≠i→bs' j=bs j
theorem Piv.zc {K m:Nat}{c c':Nat→Nat→Rat}{bs bs':Nat→Nat}{i v:Nat}(h:Piv K m c c' bs bs' i v)(hz:ZC m c bs):ZC m c' bs':=by
 have hvb:=h.hn i h.hi;have hiv:c' i v=0:=by rw [h.ci v h.hv,if_neg (Ne.symm hvb),if_pos rfl]
 have hib:∀j,j<m→j≠i→c' i (bs j)=0:=by
  intro j hj e;rw [h.ci _ (h.hb j hj),if_neg (h.inj j hj e),if_neg (h.hn j hj),hz i j h.hi hj]
  grind
 intro p j hp hj
 by_cases ep:p=i
 ·subst ep
  by_cases ej:j=p
  ·subst ej;rw [h.bi];exact hiv
  ·rw [h.bj j hj ej];exact hib j hj ej
 ·by_cases ej:j=i
  ·subst ej
   rw [h.bi,h.cj p hp ep v h.hv,if_pos rfl,hiv]
   grind
  ·rw [h.bj j hj ej,h.cj p hp ep _ (h.hb j hj),if_neg (h.hn j hj),hz p j hp hj,hib j hj ej]
   grind
theorem sZ_cast {f:Nat→Int}:∀n,((sZ n f:Int):Rat)=sQ n fun j=>((f j:Int):Rat)
 | 0=>rfl
 | n+1=>by simp only [sZ,sQ];rw [← sZ_cast n];exact Rat.intCast_add _ _
def QB (B:Nat)(q:Rat):Prop:=∃a b:Int,b≠0∧q*(b:Rat)=(a:Rat)∧a.natAbs≤B∧b.natAbs≤B
theorem QB.mono {B B':Nat}{q:Rat}(h:QB B q)(hB:B≤B'):QB B' q:=by
 obtain⟨a,b,h1,h2,h3,h4⟩:=h;exact⟨a,b,h1,h2,Nat.le_trans h3 hB,Nat.le_trans h4 hB⟩
theorem QB.zero {B:Nat}(hB:0<B):QB B 0:=⟨0,1,by omega,by grind,by simp,hB⟩
end Go.Proofs.Ytcnjcnjipddgeaa
