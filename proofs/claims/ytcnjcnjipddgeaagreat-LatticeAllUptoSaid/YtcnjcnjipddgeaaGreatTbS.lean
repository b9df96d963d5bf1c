/- Plain: a pigeonhole, Siegel, sums, systems of lines, the bounds of a tableau. -/
import Derived.Test.YtcnjcnjipddgeaaGreatExAA
namespace Go.Proofs.YtcnjcnjipddgeaaGreat
set_option linter.unusedSimpArgs false
set_option linter.unusedVariables false
theorem pigeon:∀(B A:Nat) (f:Nat→Nat),(∀i,i<A→f i<B)→B<A→∃i j,i<j∧j<A∧f i=f j
 | 0,A,f,h,hA=>absurd (h 0 hA) (by omega)
 | B+1,A,f,h,hA=>by
  by_cases hx:∃i,i<A-1∧f i=f (A-1)
  ·obtain ⟨i,hi,he⟩:=hx
   exact⟨i,A-1,hi,by omega,he⟩
  have hx:∀i,i<A-1→f i≠f (A-1):=fun i hi he=>hx ⟨i,hi,he⟩
  have hl:=h (A-1) (by omega)
  obtain⟨i,j,hij,hj,he⟩:=pigeon B (A-1) (fun i=>if f i=B then f (A-1)else f i) (by
   intro i hi;have h1:=h i (by omega)
   have h2:=hx i hi
   split<;>omega) (by omega)
  refine⟨i,j,hij,by omega,?_⟩
  have h1:=hx i (by omega)
  have h2:=hx j hj
  split at he<;>split at he<;>omega
def encN (W:Nat):Nat→(Nat→Nat)→Nat
 | 0,_=>0
 | k+1,g=>encN W k g*W+g k
theorem encN_lt {W:Nat}{g:Nat→Nat}:∀k,(∀u,u<k→g u<W)→encN W k g<W^k
 | 0,_=>by simp [encN]
 | k+1,h=>by
  have ih:=encN_lt k fun u hu=>h u (by omega)
  have hk:=h k (by omega)
  unfold encN;rw [Nat.pow_succ];have:(encN W k g+1)*W≤W^k*W:=Nat.mul_le_mul_right _ ih;rw [Nat.add_mul]at this;omega
theorem encN_inj {W:Nat}{g g':Nat→Nat}:∀k,(∀u,u<k→g u<W)→(∀u,u<k→g' u<W)→encN W k g=encN W k g'→∀u,u<k→g u=g' u
 | 0,_,_,_,u,hu=>absurd hu (by omega)
 | k+1,h,h',he,u,hu=>by
  have hk:=h k (by omega)
  have hk':=h' k (by omega)
  unfold encN at he;have hm:(encN W k g*W+g k)%W=(encN W k g'*W+g' k)%W:=by rw [he]
  have hd:(encN W k g*W+g k)/W=(encN W k g'*W+g' k)/W:=by rw [he]
  have hW:0<W:=by omega
  rw [Nat.add_comm,Nat.add_mul_mod_self_right,Nat.mod_eq_of_lt hk,Nat.add_comm,Nat.add_mul_mod_self_right,Nat.mod_eq_of_lt hk']at hm;rw [Nat.add_comm,Nat.add_mul_div_right _ _ hW,Nat.div_eq_of_lt hk,Nat.zero_add,Nat.add_comm,Nat.add_mul_div_right _ _ hW,Nat.div_eq_of_lt hk',Nat.zero_add]at hd
  by_cases hu':u=k
  ·subst hu';exact hm
  ·exact encN_inj k (fun u hu=>h u (by omega)) (fun u hu=>h' u (by omega)) (by omega) u (by omega)
def sZ:Nat→(Nat→Int)→Int
 | 0,_=>0
 | k+1,f=>sZ k f+f k
theorem sZ_congr {f g:Nat→Int}:∀n,(∀j,j<n→f j=g j)→sZ n f=sZ n g
 | 0,_=>rfl
 | n+1,h=>by simp only [sZ];rw [sZ_congr n fun j hj=>h j (by omega),h n (by omega)]
def sQ:Nat→(Nat→Rat)→Rat
 | 0,_=>0
 | k+1,f=>sQ k f+f k
theorem sQ_congr {f g:Nat→Rat}:∀n,(∀j,j<n→f j=g j)→sQ n f=sQ n g
 | 0,_=>rfl
 | n+1,h=>by simp only [sQ];rw [sQ_congr n fun j hj=>h j (by omega),h n (by omega)]
theorem sQ_add {f g:Nat→Rat}:∀n,sQ n (fun j=>f j+g j)=sQ n f+sQ n g
 | 0=>by simp only [sQ];grind
 | n+1=>by simp only [sQ,sQ_add n];grind
theorem sQ_sub {f g:Nat→Rat}:∀n,sQ n (fun j=>f j-g j)=sQ n f-sQ n g
 | 0=>by simp only [sQ];grind
 | n+1=>by simp only [sQ,sQ_sub n];grind
theorem sQ_mul {f:Nat→Rat}{c:Rat}:∀n,sQ n (fun j=>c*f j)=c*sQ n f
 | 0=>by simp only [sQ];grind
 | n+1=>by simp only [sQ,sQ_mul n];grind
theorem sQ_mul' {f:Nat→Rat}{c:Rat}:∀n,sQ n (fun j=>f j*c)=sQ n f*c
 | 0=>by simp only [sQ];grind
 | n+1=>by simp only [sQ,sQ_mul' n];grind
theorem sQ_zero:∀n,sQ n (fun _=>0)=0
 | 0=>rfl
 | n+1=>by simp only [sQ,sQ_zero n];grind
theorem sQ_zeros {f:Nat→Rat}(n:Nat)(h:∀j,j<n→f j=0):sQ n f=0:=(sQ_congr n h).trans (sQ_zero n)
theorem sQ_one {v:Nat}{g:Rat}:∀n,v<n→sQ n (fun j=>if j=v then g else 0)=g
 | 0,h=>absurd h (by omega)
 | n+1,h=>by
  simp only [sQ]
  by_cases e:v=n
  ·subst e
   rw [sQ_zeros v fun j hj=>if_neg (by omega),if_pos rfl];grind
  ·rw [sQ_one n (by omega),if_neg (by omega)];grind
theorem sQ_only {v:Nat}{f:Nat→Rat}(n:Nat)(hv:v<n)(h:∀j,j<n→j≠v→f j=0):sQ n f=f v:=by
 rw [← sQ_one (v:=v) (g:=f v) n hv];refine sQ_congr n fun j hj=> ?_
 split
 ·rename_i e;rw [e]
 ·rename_i e;exact h j hj e
theorem sQ_more {f:Nat→Rat}{n:Nat}:∀K,(∀j,n≤j→j<n+K→f j=0)→sQ (n+K) f=sQ n f
 | 0,_=>rfl
 | K+1,h=>by
  rw [show n+(K+1)=n+K+1 from rfl]
  simp only [sQ];rw [sQ_more K fun j h1 h2=>h j h1 (by omega),h (n+K) (by omega) (by omega)];grind
theorem sQ_swap {f:Nat→Nat→Rat}{m:Nat}:∀n,sQ n (fun i=>sQ m (fun j=>f i j))=sQ m (fun j=>sQ n (fun i=>f i j))
 | 0=>by simp only [sQ];rw [sQ_zero]
 | n+1=>by simp only [sQ];rw [sQ_swap n,←sQ_add]
def ZC (m:Nat)(c:Nat→Nat→Rat)(bs:Nat→Nat):Prop:=∀i j,i<m→j<m→c i (bs j)=0
structure Piv (K m:Nat)(c c':Nat→Nat→Rat)(bs bs':Nat→Nat)(i v:Nat):Prop where
 hi:i<m
 hv:v<K
 ha:c i v≠0
 hb:∀j,j<m→bs j<K
 hn:∀j,j<m→bs j≠v
 inj:∀j,j<m→j≠i→bs j≠bs i
 ci:∀k,k<K→c' i k=if k=bs i then 1/c i v else if k=v then 0 else -(c i k/c i v)
 cj:∀j,j<m→j≠i→∀k,k<K→c' j k=(if k=v then 0 else c j k)+c j v*c' i k
 bi:bs' i=v
 bj:∀j,j<m→j≠i→bs' j=bs j
theorem Piv.zc {K m:Nat}{c c':Nat→Nat→Rat}{bs bs':Nat→Nat}{i v:Nat}(h:Piv K m c c' bs bs' i v)(hz:ZC m c bs):ZC m c' bs':=by
 have hvb:=h.hn i h.hi;have hiv:c' i v=0:=by rw [h.ci v h.hv,if_neg (Ne.symm hvb),if_pos rfl]
 have hib:∀j,j<m→j≠i→c' i (bs j)=0:=by
  intro j hj e;rw [h.ci _ (h.hb j hj),if_neg (h.inj j hj e),if_neg (h.hn j hj),hz i j h.hi hj]
  grind
 intro p j hp hj
 by_cases ep:p=i
 ·subst ep
  by_cases ej:j=p
  ·subst ej;rw [h.bi];exact hiv
  ·rw [h.bj j hj ej];exact hib j hj ej
 ·by_cases ej:j=i
  ·subst ej
   rw [h.bi,h.cj p hp ep v h.hv,if_pos rfl,hiv]
   grind
  ·rw [h.bj j hj ej,h.cj p hp ep _ (h.hb j hj),if_neg (h.hn j hj),hz p j hp hj,hib j hj ej]
   grind
theorem sZ_cast {f:Nat→Int}:∀n,((sZ n f:Int):Rat)=sQ n fun j=>((f j:Int):Rat)
 | 0=>rfl
 | n+1=>by simp only [sZ,sQ];rw [← sZ_cast n];exact Rat.intCast_add _ _
def QB (B:Nat)(q:Rat):Prop:=∃a b:Int,b≠0∧q*(b:Rat)=(a:Rat)∧a.natAbs≤B∧b.natAbs≤B
theorem QB.mono {B B':Nat}{q:Rat}(h:QB B q)(hB:B≤B'):QB B' q:=by
 obtain⟨a,b,h1,h2,h3,h4⟩:=h;exact⟨a,b,h1,h2,Nat.le_trans h3 hB,Nat.le_trans h4 hB⟩
theorem QB.zero {B:Nat}(hB:0<B):QB B 0:=⟨0,1,by omega,by grind,by simp,hB⟩
end Go.Proofs.YtcnjcnjipddgeaaGreat
