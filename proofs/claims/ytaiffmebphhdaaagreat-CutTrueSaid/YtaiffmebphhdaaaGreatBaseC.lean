/- The plain law of long division: the guess of a digit. The plain law of long division, joined: the window's guess, one digit, the start and the end. umpiragewide.shiftLeft, by less than 32 places. umpiragewide.shiftRight, by less than 32 places. umpiragewide.parts, by one digit. umpiragewide.parts, by more digits than one. -/
import Derived.Test.YtaiffmebphhdaaaGreatBaseB
import Derived.Deep.DeepCutAuto
import Derived.Deep.CutBlock
namespace Go.Proofs.YtaiffmebphhdaaaGreat
set_option maxRecDepth 1000000
set_option maxHeartbeats 16000000
set_option linter.unusedSimpArgs false
set_option linter.unusedVariables false
structure BZ (v1 v2 V top u2 W P:Nat):Prop where
 hV:∃V',V=(v1*4294967296+v2)*P+V'∧V'<P
 hW:∃W',W=(top*4294967296+u2)*P+W'∧W'<P
 hu:u2<4294967296
 hv:0<v1
theorem xG {a b P c:Nat}(h:a*P<b*P+c)(hc:c≤P):a≤b:=by
 apply Classical.byContradiction;intro hn;have:(b+1)*P≤a*P:=Nat.mul_le_mul_right _ om;rw [Nat.succ_mul]at this;omega
theorem BZ.first {v1 v2 V top u2 W P q:Nat}(g:BZ v1 v2 V top u2 W P)(hq:q*V≤W):q≤top/v1:=by
 obtain⟨⟨V',hV,hV'⟩,⟨W',hW,hW'⟩,hu,hv⟩:=g;rw [Nat.le_div_iff_mul_le hv];have h1:q*v1*(4294967296*P)≤q*V:=by
  rw [hV,Nat.add_mul,Nat.mul_add,Nat.mul_add];have:q*v1*(4294967296*P)=q*(v1*4294967296*P):=by simp only [Nat.mul_assoc]
  omega
 have h2:W<top*(4294967296*P)+4294967296*P:=by
  have h3:u2*P+P≤4294967296*P:=by
   rw [← Nat.succ_mul];exact Nat.mul_le_mul_right _ om
  rw [hW,Nat.add_mul,Nat.mul_assoc];omega
 exact xG (Nat.lt_of_le_of_lt (Nat.le_trans h1 hq) h2) (Nat.le_refl _)
theorem BZ.down {v1 v2 V top u2 W P q qh rh:Nat}(g:BZ v1 v2 V top u2 W P)(hq:q*V≤W)(hr:rh+qh*v1=top)(hl:rh*4294967296+u2<qh*v2):q<qh:=by
 obtain⟨⟨V',hV,hV'⟩,⟨W',hW,hW'⟩,hu,hv⟩:=g;apply Classical.byContradiction;intro hn;have h0:qh*V≤W:=Nat.le_trans (Nat.mul_le_mul_right _ om) hq;have h1:qh*(v1*4294967296+v2)*P≤qh*V:=by
  rw [hV,Nat.mul_add qh (_*P),←Nat.mul_assoc];omega
 have h2:qh*(v1*4294967296+v2)*P<(top*4294967296+u2)*P+P:=om;have h3:=xG h2 (Nat.le_refl _);rw [← hr,Nat.mul_add,Nat.add_mul,←Nat.mul_assoc]at h3;omega
theorem BZ.close {v1 v2 V top u2 W P qh rh:Nat}(g:BZ v1 v2 V top u2 W P)(hb:qh<4294967296)(hr:rh+qh*v1=top)(hl:qh*v2≤rh*4294967296+u2):qh*V<W+V:=by
 obtain⟨⟨V',hV,hV'⟩,⟨W',hW,hW'⟩,hu,hv⟩:=g;have h1:qh*(v1*4294967296+v2)≤top*4294967296+u2:=by
  rw [← hr,Nat.mul_add,Nat.add_mul,←Nat.mul_assoc];omega
 have h2:qh*(v1*4294967296+v2)*P≤(top*4294967296+u2)*P:=Nat.mul_le_mul_right _ h1;have h3:qh*V'≤qh*P:=Nat.mul_le_mul_left _ om;have h4:qh*P+P≤4294967296*P:=by rw [← Nat.succ_mul];exact Nat.mul_le_mul_right _ om
 have h5:4294967296*P≤(v1*4294967296+v2)*P:=Nat.mul_le_mul_right _ om;have h6:qh*V=qh*(v1*4294967296+v2)*P+qh*V':=by rw [hV,Nat.mul_add,←Nat.mul_assoc]
 have h7:(v1*4294967296+v2)*P≤V:=om;omega
theorem Ku {V W q:Nat}(hV:0<V)(h1:q*V<W+V)(h2:W/V≤q):q=W/V∨q=W/V+1:=by
 have h3:q≤W/V+1:=by
  apply Classical.byContradiction;intro hn;have h4:(W/V+2)*V≤q*V:=Nat.mul_le_mul_right _ om;have h5:=Nat.lt_div_mul_add hV (a:=W);have h6:(W/V+2)*V=W/V*V+V+V:=by rw [Nat.add_mul,Nat.two_mul,Nat.add_assoc]
  omega
 omega
structure gX (f v f':Nat→Nat)(k q i c b:Nat):Prop where
 lt:∀p,p<i→f' (k+p)<4294967296
 same:∀p,¬(k≤p∧p<k+i)→f' p=f p
 clt:c<4294967296
 ble:b≤1
 val:dv (fun p=>f' (k+p)) i+q*dv v i=dv (fun p=>f (k+p)) i+4294967296^i*(c+b)
theorem gX.start (f v:Nat→Nat)(k q:Nat):gX f v f k q 0 0 0:=⟨fun p hp=>absurd hp om,fun _ _=>rfl,om,om,by simp [dv]⟩
theorem gX.step {f v f':Nat→Nat}{k q i c b:Nat}(h:gX f v f' k q i c b){c1 b1 d t:Nat}(ht:t=c+q*v i)(hc:c1=t/4294967296)(hc2:c1<4294967296)(hd:d+t%4294967296+b=f (k+i)+4294967296*b1)(hdl:d<4294967296)(hb:b1≤1):
  gX f v (fun p=>if p=k+i then d else f' p) k q (i+1) c1 b1:=by
 refine⟨fun p hp=> ?_,fun p hp=> ?_,hc2,hb,?_⟩
 ·by_cases e:k+p=k+i
  ·simp only [e,if_true];exact hdl
  simp only [e,if_false];exact h.lt p om
 ·rw [if_neg om];exact h.same p om
 have hv:=h.val;rw [dv,if_pos rfl,iB (f:=fun p=>if k+p=k+i then d else f' (k+p)) (g:=fun p=>f' (k+p)) fun p hp=>if_neg om,dv,dv,Nat.pow_succ];have e:=Nat.div_add_mod t 4294967296;rw [← hc]at e;have e1:d+q*v i+(c+b)=f (k+i)+4294967296*(c1+b1):=om;have e2:4294967296^i*(d+q*v i+(c+b))=4294967296^i*(f (k+i)+4294967296*(c1+b1)):=by rw [e1]
 rw [Nat.mul_add,Nat.mul_add (4294967296^i) d,Nat.mul_add (4294967296^i) (f (k+i)),←Nat.mul_assoc (4294967296^i) 4294967296]at e2;have e3:q*(4294967296^i*v i)=4294967296^i*(q*v i):=by rw [← Nat.mul_assoc,Nat.mul_comm q,Nat.mul_assoc]
 rw [Nat.mul_add q,e3];omega
theorem gX.top {f v f':Nat→Nat}{k q n c b:Nat}(h:gX f v f' k q n c b){d b1:Nat}(hd:d+c+b=f (k+n)+4294967296*b1)(hdl:d<4294967296):
  (∀p,p<n+1→(if k+p=k+n then d else f' (k+p))<4294967296)∧
  dv (fun p=>if k+p=k+n then d else f' (k+p)) (n+1)+q*dv v n=dv (fun p=>f (k+p)) (n+1)+4294967296^(n+1)*b1:=by
 refine⟨fun p hp=> ?_,?_⟩
 ·by_cases e:k+p=k+n
  ·rw [if_pos e];exact hdl
  rw [if_neg e];exact h.lt p om
 have hv:=h.val;rw [dv,if_pos rfl,iB (f:=fun p=>if k+p=k+n then d else f' (k+p)) (g:=fun p=>f' (k+p)) fun p hp=>if_neg om,dv,Nat.pow_succ];have e2:4294967296^n*(d+c+b)=4294967296^n*(f (k+n)+4294967296*b1):=by rw [hd]
 rw [Nat.mul_add,Nat.mul_add (4294967296^n) d,Nat.mul_add (4294967296^n) (f (k+n)),←Nat.mul_assoc (4294967296^n) 4294967296]at e2;rw [Nat.mul_add (4294967296^n) c]at hv;omega
structure jl (f v f':Nat→Nat)(k i c:Nat):Prop where
 lt:∀p,p<i→f' (k+p)<4294967296
 same:∀p,¬(k≤p∧p<k+i)→f' p=f p
 cle:c≤1
 val:dv (fun p=>f' (k+p)) i+4294967296^i*c=dv (fun p=>f (k+p)) i+dv v i
theorem jl.start (f v:Nat→Nat)(k:Nat):jl f v f k 0 0:=⟨fun p hp=>absurd hp om,fun _ _=>rfl,om,by simp [dv]⟩
theorem jl.step {f v f':Nat→Nat}{k i c:Nat}(h:jl f v f' k i c)(hf:f (k+i)<4294967296)(hv:v i<4294967296){c1 d:Nat}(hd:d=(c+(f (k+i)+v i))%4294967296)(hc:c1=(c+(f (k+i)+v i))/4294967296):
  jl f v (fun p=>if p=k+i then d else f' p) k (i+1) c1:=by
 have hcl:=h.cle;refine⟨fun p hp=> ?_,fun p hp=> ?_,om,?_⟩
 ·by_cases e:k+p=k+i
  ·simp only [e,if_true];omega
  simp only [e,if_false];exact h.lt p om
 ·rw [if_neg om];exact h.same p om
 have hval:=h.val;rw [dv,if_pos rfl,iB (f:=fun p=>if k+p=k+i then d else f' (k+p)) (g:=fun p=>f' (k+p)) fun p hp=>if_neg om,dv,dv,Nat.pow_succ];have e:=Nat.div_add_mod (c+(f (k+i)+v i)) 4294967296;rw [← hd,←hc]at e;have e2:4294967296^i*(4294967296*c1+d)=4294967296^i*(c+(f (k+i)+v i)):=by rw [e]
 rw [Nat.mul_add,Nat.mul_add,Nat.mul_add,←Nat.mul_assoc]at e2;omega
theorem jl.top {f v f':Nat→Nat}{k n c W q:Nat}(h:jl f v f' k n c)(hf:f (k+n)<4294967296){d:Nat}(hd:d=(f (k+n)+c)%4294967296)(hV:0<dv v n)(hVl:dv v n<4294967296^n)
  (hD:dv (fun p=>f (k+p)) (n+1)+q*dv v n=W+4294967296^(n+1)) (hq:q=W/dv v n∨q=W/dv v n+1) (hfl:∀p,p<n+1→f (k+p)<4294967296):
  q=W/dv v n+1∧(∀p,p<n+1→(if k+p=k+n then d else f' (k+p))<4294967296)∧dv (fun p=>if k+p=k+n then d else f' (k+p)) (n+1)=W%dv v n:=by
 have hlt:=kF hfl;have hm:=Nat.div_add_mod W (dv v n);have hml:=Nat.mod_lt W hV;rw [Nat.mul_comm]at hm;have hq1:q=W/dv v n+1:=by
  rcases hq with h1 | h1
  ·rw [h1]at hD;omega
  exact h1
 have hlt3:∀p,p<n+1→(if k+p=k+n then d else f' (k+p))<4294967296:=fun p hp=>by
  by_cases e:k+p=k+n
  ·rw [if_pos e];omega
  rw [if_neg e];exact h.lt p om
 refine⟨hq1,hlt3,?_⟩;have h3:=kF hlt3;have hval:=h.val;have hcl:=h.cle;rw [hq1,Nat.succ_mul]at hD;obtain⟨e,he,he1⟩:∃e,f (k+n)+c=d+4294967296*e∧e≤1:=⟨(f (k+n)+c)/4294967296,om,om⟩;have e2:4294967296^n*(f (k+n)+c)=4294967296^n*(d+4294967296*e):=by rw [he]
 rw [Nat.mul_add,Nat.mul_add,←Nat.mul_assoc]at e2;have e3:dv (fun p=>if k+p=k+n then d else f' (k+p)) (n+1)=dv (fun p=>f' (k+p)) n+4294967296^n*d:=by
  rw [dv,if_pos rfl,iB (f:=fun p=>if k+p=k+n then d else f' (k+p)) (g:=fun p=>f' (k+p)) fun p hp=>if_neg om]
 rw [e3]at h3 ⊢;rw [dv]at hD;rw [Nat.pow_succ]at h3 hD hlt;rcases(show e=0∨e=1 from om)with rfl | rfl
 ·omega
 omega
structure mG (X V n L k:Nat)(f o:Nat→Nat):Prop where
 lt:∀p,p<L→f p<4294967296
 olt:∀p,p<L→o p<4294967296
 zero:∀p,p<k→o p=0
 val:dv o L*V+dv f L=X
 small:dv f L<V*4294967296^k
theorem mG.window {X V n L k:Nat}{f o:Nat→Nat}(h:mG X V n L (k+1) f o)(hL:k+n+1≤L)(hV:V<4294967296^n):
  dv f L=dv f k+4294967296^k*dv (fun p=>f (k+p)) (n+1)∧dv (fun p=>f (k+p)) (n+1)<V*4294967296∧∀p,k+n+1≤p→p<L→f p=0:=by
 have hs:=h.small;have h1:V*4294967296^(k+1)<4294967296^n*4294967296^(k+1):=Nat.mul_lt_mul_of_pos_right hV (Nat.pow_pos om);rw [← Nat.pow_add,show n+(k+1)=k+n+1 from om]at h1;have h2:=rG f (k+n+1) (L-(k+n+1));rw [show k+n+1+(L-(k+n+1))=L from om]at h2;have hz:dv (fun i=>f (k+n+1+i)) (L-(k+n+1))=0:=by
  apply Classical.byContradiction;intro hne;have:4294967296^(k+n+1)*1≤4294967296^(k+n+1)*dv (fun i=>f (k+n+1+i)) (L-(k+n+1)):=Nat.mul_le_mul_left _ om;omega
 have hz':∀p,k+n+1≤p→p<L→f p=0:=by
  have:∀m (g:Nat→Nat),dv g m=0→∀i,i<m→g i=0:=by
   intro m g
   induction m with
   | zero=>intro _ i hi;omega
   | succ m ih=>
    intro h0 i hi;rw [dv]at h0;have hp:0<4294967296^m:=Nat.pow_pos om;by_cases e:i=m
    ·subst e;have:4294967296^i*g i=0:=om;rcases Nat.mul_eq_zero.1 this with h | h
     ·omega
     exact h
    exact ih om i om
  intro p h3 h4;have:=this _ _ hz (p-(k+n+1)) om;rwa [show k+n+1+(p-(k+n+1))=p from om]at this
 rw [hz,Nat.mul_zero,Nat.add_zero,show k+n+1=k+(n+1)from om,rG]at h2;refine⟨h2,?_,hz'⟩;have h5:4294967296^k*dv (fun p=>f (k+p)) (n+1)<4294967296^k*(V*4294967296):=by
  have:V*4294967296^(k+1)=4294967296^k*(V*4294967296):=by rw [Nat.pow_succ];simp only [Nat.mul_assoc,Nat.mul_comm,Nat.mul_left_comm]
  omega
 exact Nat.lt_of_mul_lt_mul_left h5
theorem mG.step {X V n L k:Nat}{f o f':Nat→Nat}(h:mG X V n L (k+1) f o)(hL:k+n+1≤L)(hV0:0<V)(hV:V<4294967296^n)(hlt:∀p,p<n+1→f' (k+p)<4294967296)(hsame:∀p,¬(k≤p∧p<k+(n+1))→f' p=f p)
  (hr:dv (fun p=>f' (k+p)) (n+1)=dv (fun p=>f (k+p)) (n+1)%V) {q:Nat} (hq:q=dv (fun p=>f (k+p)) (n+1)/V):mG X V n L k f' fun p=>if p=k then q else o p:=by
 obtain⟨h1,h2,h3⟩:=h.window hL hV;generalize dv (fun p=>f (k+p)) (n+1)=W at*;have hqB:q<4294967296:=by rw [hq];exact Nat.div_lt_of_lt_mul h2
 have hlt':∀p,p<L→f' p<4294967296:=fun p hp=>by
  by_cases e:k≤p∧p<k+(n+1)
  ·have:=hlt (p-k) om;rwa [show k+(p-k)=p from om]at this
  rw [hsame p e];exact h.lt p hp
 have hf':dv f' L=dv f k+4294967296^k*(W%V):=by
  have e1:=rG f' (k+(n+1)) (L-(k+(n+1)));rw [show k+(n+1)+(L-(k+(n+1)))=L from om]at e1;rw [e1,rG f' k (n+1),hr,iB (f:=f') (g:=f) fun i hi=>hsame i om];have e2:dv (fun i=>f' (k+(n+1)+i)) (L-(k+(n+1)))=0:=by
   have:=sK (f:=fun i=>f' (k+(n+1)+i)) (n:=0) (L-(k+(n+1))) fun i _ hi=>by
    rw [hsame _ om];exact h3 _ om om
   rw [Nat.zero_add]at this;rw [this];rfl
  rw [e2,Nat.mul_zero,Nat.add_zero]
 have ho:=Ea o k q L om;rw [h.zero k om,Nat.mul_zero,Nat.add_zero]at ho;refine⟨hlt',fun p hp=> ?_,fun p hp=> ?_,?_,?_⟩
 ·by_cases e:p=k
  ·simp only [e,if_true];exact hqB
  simp only [e,if_false];exact h.olt p hp
 ·rw [if_neg om];exact h.zero p om
 ·have hv:=h.val;have hm:=Nat.div_add_mod W V;rw [← hq]at hm;rw [ho,hf',Nat.add_mul];have e:4294967296^k*q*V+4294967296^k*(W%V)=4294967296^k*W:=by
   rw [Nat.mul_assoc,←Nat.mul_add,Nat.mul_comm q V,hm]
  omega
 rw [hf'];have h4:dv f k<4294967296^k:=kF fun i hi=>h.lt i om;have h5:4294967296^k*(W%V+1)≤4294967296^k*V:=Nat.mul_le_mul_left _ (Nat.mod_lt W hV0);rw [Nat.mul_add,Nat.mul_comm _ V]at h5;omega
theorem Vo (k:Nat):0<4294967296^k:=Nat.pow_pos om
theorem Vp {v f:Nat→Nat}{n k:Nat}(hn:2≤n)(hv:∀i,i<n→v i<4294967296)(hf:∀p,p<n+1→f (k+p)<4294967296)(hv1:0<v (n-1)):
  BZ (v (n-1)) (v (n-2)) (dv v n) (f (k+n)*4294967296+f (k+n-1)) (f (k+n-2)) (dv (fun p=>f (k+p)) (n+1)) (4294967296^(n-2)):=by
 obtain⟨m,rfl⟩:∃m,n=m+2:=⟨n-2,om⟩;refine⟨⟨dv v m,?_,kF fun i hi=>hv i om⟩,⟨dv (fun p=>f (k+p)) m,?_,kF fun i hi=>hf i om⟩,?_,hv1⟩
 ·show dv v (m+1+1)=_;rw [dv,dv,show m+2-1=m+1 from om,show m+2-2=m from om,Nat.pow_succ];have:(v (m+1)*4294967296+v m)*4294967296^m=4294967296^m*v m+4294967296^m*4294967296*v (m+1):=by
   rw [Nat.add_mul,Nat.mul_comm (v m),Nat.mul_comm (v (m+1)*4294967296),Nat.mul_comm (v (m+1)),←Nat.mul_assoc,Nat.add_comm]
  omega
 ·show dv _ (m+1+1+1)=_;rw [dv,dv,dv,show k+(m+2)-1=k+(m+1)from om,show k+(m+2)-2=k+m from om,show m+2-2=m from om,show m+1+1=m+2 from rfl,Nat.pow_succ 4294967296 (m+1),Nat.pow_succ];have:((f (k+(m+2))*4294967296+f (k+(m+1)))*4294967296+f (k+m))*4294967296^m=4294967296^m*f (k+m)+4294967296^m*4294967296*f (k+(m+1))+4294967296^m*4294967296*4294967296*f (k+(m+2)):=by
   generalize 4294967296^m=P;rw [Nat.add_mul,Nat.add_mul,Nat.add_mul,Nat.mul_comm (f (k+m)),Nat.mul_assoc (f (k+(m+1))),Nat.mul_assoc (f (k+(m+2))),Nat.mul_assoc (f (k+(m+2))),Nat.mul_comm (f (k+(m+1))),Nat.mul_comm (f (k+(m+2))),Nat.mul_comm 4294967296 P,Nat.mul_comm (4294967296*4294967296) P,←Nat.mul_assoc P];omega
  rw [this];omega
 have:=hf (m+2-2) om;rwa [show k+(m+2-2)=k+(m+2)-2 from om]at this
theorem Oa {v f:Nat→Nat}{n k:Nat}(hn:1≤n)(hv:∀i,i<n→v i<4294967296)(hW:dv (fun p=>f (k+p)) (n+1)<dv v n*4294967296):f (k+n)≤v (n-1):=by
 apply Classical.byContradiction;intro hne;obtain⟨m,rfl⟩:∃m,n=m+1:=⟨n-1,om⟩;simp only [Nat.add_sub_cancel]at hne;have h1:dv v (m+1)<4294967296^m*(v m+1):=by
  rw [dv,Nat.mul_add];have:=kF (f:=v) (k:=m) fun i hi=>hv i om;omega
 have h2:4294967296^(m+1)*f (k+(m+1))≤dv (fun p=>f (k+p)) (m+1+1):=by
  rw [dv];omega
 have h3:4294967296^(m+1)*(v m+1)≤4294967296^(m+1)*f (k+(m+1)):=Nat.mul_le_mul_left _ om;rw [Nat.pow_succ]at h3 h2;have h4:4294967296^m*(v m+1)*4294967296=4294967296^m*4294967296*(v m+1):=Nat.mul_right_comm _ _ _;omega
def AF (v f:Nat→Nat)(n k q:Nat):Prop:=q<4294967296∧(q=dv (fun p=>f (k+p)) (n+1)/dv v n∨q=dv (fun p=>f (k+p)) (n+1)/dv v n+1)
structure mX (v f:Nat→Nat)(n k q r:Nat):Prop where
 sum:r+q*v (n-1)=f (k+n)*4294967296+f (k+n-1)
 ge:dv (fun p=>f (k+p)) (n+1)/dv v n≤q
 rlt:r<4294967296
structure Win (v f:Nat→Nat)(n k:Nat):Prop where
 hn:2≤n
 hv:∀i,i<n→v i<4294967296
 hf:∀p,p<n+1→f (k+p)<4294967296
 hv1:0<v (n-1)
 hW:dv (fun p=>f (k+p)) (n+1)<dv v n*4294967296
namespace Win
variable {v f:Nat→Nat} {n k:Nat} (h:Win v f n k)
include h
theorem guess:BZ (v (n-1)) (v (n-2)) (dv v n) (f (k+n)*4294967296+f (k+n-1)) (f (k+n-2)) (dv (fun p=>f (k+p)) (n+1)) (4294967296^(n-2)):=Vp h.hn h.hv h.hf h.hv1
theorem top:f (k+n)≤v (n-1):=Oa (by have:=h.hn;omega) h.hv h.hW
theorem pos:0<dv v n:=by
 have hn:=h.hn;obtain⟨m,rfl⟩:∃m,n=m+1:=⟨n-1,om⟩;have h1:=h.hv1;rw [dv];have:0<4294967296^m*v (m+1-1):=Nat.mul_pos (Vo m) h1;rw [show m+1-1=m from rfl]at this;omega
theorem start:mX v f n k ((f (k+n)*4294967296+f (k+n-1))/v (n-1)) ((f (k+n)*4294967296+f (k+n-1))%v (n-1)):=by
 refine⟨?_,?_,?_⟩
 ·rw [Nat.mul_comm ((f (k+n)*4294967296+f (k+n-1))/v (n-1))];exact Nat.mod_add_div _ _
 ·exact h.guess.first (by rw [Nat.mul_comm];exact Nat.mul_div_le _ _)
 exact Nat.lt_trans (Nat.mod_lt _ h.hv1) (h.hv _ (by have:=h.hn;omega))
theorem qlt:dv (fun p=>f (k+p)) (n+1)/dv v n<4294967296:=Nat.div_lt_of_lt_mul h.hW
theorem down {q r:Nat}(g:mX v f n k q r)(hb:4294967296≤q∨r*4294967296+f (k+n-2)<q*v (n-2)):
  1≤q∧(r+v (n-1))+(q-1)*v (n-1)=f (k+n)*4294967296+f (k+n-1)∧dv (fun p=>f (k+p)) (n+1)/dv v n≤q-1:=by
 have h1:dv (fun p=>f (k+p)) (n+1)/dv v n<q:=by
  rcases hb with hb | hb
  ·exact dJ h.qlt hb
  exact h.guess.down (by rw [Nat.mul_comm];exact Nat.mul_div_le _ _) g.sum hb
 have h0:1≤q:=Nat.lt_of_le_of_lt (Nat.zero_le _) h1;refine⟨h0,?_,Nat.le_sub_one_of_lt h1⟩;have h3:=g.sum;have h2:v (n-1)≤q*v (n-1):=Nat.le_mul_of_pos_left _ h0;rw [Nat.sub_mul,Nat.one_mul];generalize q*v (n-1)=z at *;omega
theorem next {q r:Nat}(g:mX v f n k q r)(hb:4294967296≤q∨r*4294967296+f (k+n-2)<q*v (n-2))(hr:r+v (n-1)<4294967296):mX v f n k (q-1) (r+v (n-1)):=
 ⟨(h.down g hb).2.1,(h.down g hb).2.2,hr⟩
theorem stand {q r:Nat}(g:mX v f n k q r)(hq:q<4294967296)(hl:q*v (n-2)≤r*4294967296+f (k+n-2)):AF v f n k q:=
 ⟨hq,Ku h.pos (h.guess.close hq g.sum hl) g.ge⟩
theorem over {q r:Nat}(g:mX v f n k q r)(hb:4294967296≤q∨r*4294967296+f (k+n-2)<q*v (n-2))(hr:4294967296≤r+v (n-1)):AF v f n k (q-1):=by
 obtain⟨h1,h2,h3⟩:=h.down g hb;have ht:=h.top;have hu:=h.hf (n-1) (by have:=h.hn;omega);rw [show k+(n-1)=k+n-1 from by have:=h.hn;omega]at hu;have hv2:=h.hv (n-2) (by have:=h.hn;omega);have hq:q-1<4294967296:=by
  apply Classical.byContradiction;intro hn;have h4:4294967296*v (n-1)≤(q-1)*v (n-1):=Nat.mul_le_mul_right _ om;have h5:f (k+n)*4294967296≤v (n-1)*4294967296:=Nat.mul_le_mul_right _ ht;omega
 refine⟨hq,Ku h.pos (h.guess.close hq h2 ?_) h3⟩;have h6:(q-1)*v (n-2)≤4294967296*4294967296:=Nat.mul_le_mul om om;have h7:4294967296*4294967296≤(r+v (n-1))*4294967296:=Nat.mul_le_mul_right _ hr;omega
end Win
structure Digit (v f f':Nat→Nat)(n k q:Nat):Prop where
 q:q=dv (fun p=>f (k+p)) (n+1)/dv v n
 lt:∀p,p<n+1→f' (k+p)<4294967296
 same:∀p,¬(k≤p∧p<k+(n+1))→f' p=f p
 rest:dv (fun p=>f' (k+p)) (n+1)=dv (fun p=>f (k+p)) (n+1)%dv v n
theorem Kv {D q V W:Nat}(hV:0<V)(h:D+q*V=W)(hq:q=W/V∨q=W/V+1):q=W/V∧D=W%V:=by
 have h1:q≤W/V:=(Nat.le_div_iff_mul_le hV).2 om;have h2:q=W/V:=om;refine⟨h2,?_⟩;have:=Nat.div_add_mod W V;rw [← h2,Nat.mul_comm]at this;omega
theorem Kw {v f f1:Nat→Nat}{n k q c b d:Nat}(hw:Win v f n k)(hs:AF v f n k q)(h:gX f v f1 k q n c b)(hd:d+c+b=f (k+n))(hdl:d<4294967296):
  Digit v f (fun p=>if p=k+n then d else f1 p) n k q:=by
 obtain⟨h1,h2⟩:=h.top (d:=d) (b1:=0) (by rw [← h.same (k+n) om]at hd;rw [← h.same (k+n) om];omega) hdl;rw [Nat.mul_zero,Nat.add_zero]at h2;obtain⟨h3,h4⟩:=Kv hw.pos h2 hs.2;refine⟨h3,h1,fun p hp=> ?_,h4⟩;rw [if_neg om];exact h.same p om
theorem Ob {v f f1 f2:Nat→Nat}{n k q c b d c2 d2:Nat}(hw:Win v f n k)(hs:AF v f n k q)(h:gX f v f1 k q n c b)(hd:d+c+b=f (k+n)+4294967296)(hdl:d<4294967296)
  (hb:jl (fun p=>if p=k+n then d else f1 p) v f2 k n c2) (hd2:d2=(d+c2)%4294967296):1≤q∧Digit v f (fun p=>if p=k+n then d2 else f2 p) n k (q-1):=by
 obtain⟨h1,h2⟩:=h.top (d:=d) (b1:=1) om hdl;have hV:=hw.pos;obtain⟨h3,h4,h5⟩:=hb.top (W:=dv (fun p=>f (k+p)) (n+1)) (q:=q) (d:=d2) (by simp only [if_true];exact hdl) (by simp only [if_true];exact hd2) hV (kF hw.hv) (by rw [Nat.mul_one]at h2;exact h2) hs.2 h1;refine⟨by rw [h3];exact Nat.le_add_left _ _,by rw [h3];rfl,h4,fun p hp=> ?_,h5⟩;rw [if_neg om,hb.same p om,if_neg om];exact h.same p om
theorem Oc {v f f1:Nat→Nat}{n k q c b d:Nat}(h:gX f v f1 k q n c b)(hd:d+c+b=f (k+n)+4294967296)(hdl:d<4294967296):1≤q:=by
 obtain⟨h1,h2⟩:=h.top (d:=d) (b1:=1) om hdl;have h3:=kF h1;rcases Nat.eq_zero_or_pos q with h0 | h0
 ·rw [h0,Nat.zero_mul,Nat.mul_one,Nat.add_zero]at h2;rw [h2]at h3;exact absurd h3 (Nat.not_lt.2 (Nat.le_add_left _ _))
 exact h0
theorem mG.begin {xl yl s x y:Nat}{f:Nat→Nat}(hx:x<4294967296^xl)(hy:4294967296^(yl-1)≤y)(hl:yl≤xl)(hy1:1≤yl)(hf:∀i,i<xl+1→f i<4294967296)(hv:dv f (xl+1)=x*2^s):
  mG (x*2^s) (y*2^s) yl (xl+1) (xl+1-yl) f fun _=>0:=by
 refine⟨hf,fun _ _=>om,fun _ _=>rfl,?_,?_⟩
 ·have:=sK (f:=fun _=>0) (n:=0) (xl+1) fun _ _ _=>rfl;rw [Nat.zero_add]at this;rw [this,hv];simp [dv]
 rw [hv];have hs:0<2^s:=Nat.pow_pos om;have h1:4294967296^xl≤y*4294967296^(xl+1-yl):=by
  have:4294967296^xl=4294967296^(yl-1)*4294967296^(xl+1-yl):=by rw [← Nat.pow_add];congr 1;omega
  rw [this];exact Nat.mul_le_mul_right _ hy
 have h2:x*2^s<y*4294967296^(xl+1-yl)*2^s:=Nat.mul_lt_mul_of_pos_right om hs;rwa [Nat.mul_assoc,Nat.mul_comm (4294967296^_),←Nat.mul_assoc]at h2
theorem mG.fin {L n s x y:Nat}{f o:Nat→Nat}(h:mG (x*2^s) (y*2^s) n L 0 f o)(hy:y*2^s<4294967296^n)(hn:n≤L):dv o L=x/y∧dv f n/2^s=x%y:=by
 have hs:0<2^s:=Nat.pow_pos om;have h1:=h.val;have h2:=h.small;rw [Nat.pow_zero,Nat.mul_one]at h2;have h3:dv f L=dv f n:=by
  have:=rG f n (L-n);rw [show n+(L-n)=L from om]at this;rcases Nat.eq_zero_or_pos (dv (fun i=>f (n+i)) (L-n))with h0 | h0
  ·rw [h0]at this;omega
  have:4294967296^n*1≤4294967296^n*dv (fun i=>f (n+i)) (L-n):=Nat.mul_le_mul_left _ h0;omega
 have e1:dv o L=x*2^s/(y*2^s):=by
  rw [← h1,Nat.mul_comm (dv o L),Nat.mul_add_div om,Nat.div_eq_of_lt h2,Nat.add_zero]
 have e2:dv f L=x*2^s%(y*2^s):=by
  rw [← h1,Nat.mul_comm (dv o L),Nat.mul_add_mod,Nat.mod_eq_of_lt h2]
 refine⟨by rw [e1,Nat.mul_div_mul_right _ _ hs],?_⟩;rw [← h3,e2,Nat.mul_mod_mul_right,Nat.mul_div_cancel _ hs]
open Go.ChangeShapes Go.WideShapes Go.RowKit
def Vs (n:Nat)(P:(Nat→Nat)→Prop)(w:World)(e:Ending)(w':World):Prop:=
 ∃g f,e= .returned (.slice (some ⟨g,0,none⟩) n n)∧w.heap.size≤g∧Keep au w w'∧dn w' g n f∧(∀i,i<n→f i<4294967296)∧P f
structure IX (xs:List Nat)(T k:Nat)(f:Nat→Nat):Prop where
 lt:∀p,p<xs.length+1→f p<4294967296
 zero:∀p,k<p→p<xs.length+1→f p=0
 top:f k<T
 val:dv f (k+1)=dv (fun i=>xs.getD i 0) k*T
theorem iy {s:Nat}(hs:s<32):2^s*2^(32-s)=4294967296∧0<2^s∧2^s≤2147483648:=by
 refine⟨by rw [← Nat.pow_add,show s+(32-s)=32 from om],Nat.pow_pos om,?_⟩;exact Nat.le_trans (Nat.pow_le_pow_right om (show s≤31 from om)) dc
theorem IX.step {xs:List Nat}{s k:Nat}{f:Nat→Nat}(hs:s<32)(h:IX xs (2^s) k f)(hk:k<xs.length)(hx:xs.getD k 0<4294967296):
  IX xs (2^s) (k+1) fun p=>if p=k+1 then xs.getD k 0*2^s/4294967296 else if p=k then f k+xs.getD k 0*2^s%4294967296 else f p:=by
 obtain⟨hT,hT0,hT1⟩:=iy hs;have hval:=h.val;have htop:=h.top;have hX:dv (fun i=>xs.getD i 0) (k+1)=dv (fun i=>xs.getD i 0) k+4294967296^k*xs.getD k 0:=rfl;generalize xs.getD k 0=x at *;generalize hTT:2^s=T at *;generalize 2^(32-s)=S at *;have h1:x*T/4294967296<T:=by
  rw [Nat.div_lt_iff_lt_mul om,Nat.mul_comm T];exact Nat.mul_lt_mul_of_pos_right hx hT0
 have h2:f k+x*T%4294967296<4294967296:=by
  rw [← hT,Nat.mul_comm x T,Nat.mul_mod_mul_left,hT];have hS:0<S:=by
   rcases Nat.eq_zero_or_pos S with h | h
   ·rw [h]at hT;omega
   exact h
  have h3:T*(x%S+1)≤T*S:=Nat.mul_le_mul_left _ (Nat.mod_lt x hS);rw [Nat.mul_add]at h3;omega
 refine⟨fun p hp=> ?_,fun p h3 h4=> ?_,by simpa using h1,?_⟩
 ·by_cases e1:p=k+1
  ·simp only [e1,if_true];omega
  by_cases e2:p=k
  ·simp only [e1,e2,if_true,if_false];simp;exact h2
  simp only [e1,e2,if_false];exact h.lt p hp
 ·rw [if_neg om,if_neg om];exact h.zero p om h4
 have e:=Nat.div_add_mod (x*T) 4294967296;rw [dv,if_pos rfl,dv,if_neg om,if_pos rfl,iB (f:=fun p=>if p=k+1 then _ else if p=k then _ else f p) (g:=f) fun i hi=>by rw [if_neg om,if_neg om]];rw [dv]at hval;have e2:4294967296^k*(4294967296*(x*T/4294967296)+x*T%4294967296)=4294967296^k*(x*T):=by rw [e]
 rw [Nat.mul_add,←Nat.mul_assoc]at e2;rw [Nat.pow_succ,Nat.mul_add,hX,Nat.add_mul,Nat.mul_assoc (4294967296^k) x T];omega
theorem Od {s a v:Nat}(hs:s<32)(ha:a<2^s)(hv:2^s∣v)(hv2:v<4294967296)(ha2:a<4294967296):bits .or .u32 (a:Int) (v:Int)=((a+v:Nat):Int):=by
 obtain⟨c,rfl⟩:=hv;have h:=Nat.shiftLeft_add_eq_or_of_lt ha c;rw [Nat.shiftLeft_eq]at h;rw [u32_or_nat _ _ ha2 hv2,Nat.or_comm,Nat.mul_comm (2^s) c,←h];congr 1;omega
theorem xH (w:World)(vx:Value)(xs:List Nat)(s:Nat)(hx:eF w vx xs)(hlx:xs.length≤200000)(hs:s<32):
  Calls Tryz.prog 167 #[vx,.int .i64 s] w (Vs (xs.length+1) (fun f=>dv f (xs.length+1)=dval xs*2^s) w):=by
 have HX:=zh hx;obtain⟨gx,cx,rfl⟩:=hx.form;clear hx;obtain⟨i0,hi0,hz0,hs0,hb0⟩:=info_parts iT;obtain⟨w2,hr2,ho2,hg2⟩:=run_make_full (P:=Tryz.prog) w w.heap.size 123 166 i0 (.int .u32 0) 1 Tryz.underlying123 hi0 hz0 hs0 .i64 .i64 (xs.length+1) (by rw [hb0];omega) (by unfold maxLen;omega) om;rw [show((xs.length+1:Nat):Int)=(xs.length:Int)+1 from om]at hr2;obtain⟨go,hgo⟩:∃go,go=w.heap.size:=⟨_,rfl⟩;rw [← hgo]at hr2 ho2;have P2:dn w2 go (xs.length+1) (fun _=>0):=fq ho2 fun i hi=>jf rfl _ i hi;have L2:Keep au w w2:=Keep.of_below (dH hg2 w.heap.size (Nat.le_refl _) sm) (Nat.le_refl _);have IB:=zh P2;have HL2:=zh L2;have oO:=zh hgo;clear ho2 hg2 P2 L2 hgo;have hd:(s:Int)/32=0:=om;have hm:(s:Int)%32=s:=om;go_enter Tryz.func167,Tryz.ntmps167;go_wp2;clear hr2;obtain⟨hTS,hT0,hT1⟩:=iy hs;have m64:min s 64=s:=om;go_loopw [18] (fun c wr=>∃k:Nat,k≤xs.length∧c= .int .i64 k∧Keep au w wr∧∃f,dn wr go (xs.length+1) f∧IX xs (2^s) k f) (fun c _=>(xs.length-intOf c).toNat)
 case atStart=>exact⟨0,om,rfl,HL2.out,fun _=>0,IB.out,fun _ _=>om,fun _ _ _=>rfl,hT0,by simp [dv]⟩
 obtain⟨k,hk,rfl,hkp,f,har,hinv⟩:=hrel;have nQ:=zh hkp;have rH:=zh har;have jV:=zh hinv;have hgl:=har.lt;by_cases hkl:k<xs.length
 ·have hlt:(k:Int)<(xs.length:Int):=om;have hlt1:(k:Int)<(xs.length:Int)+1:=om;have hlt2:(k:Int)+1<(xs.length:Int)+1:=om;obtain⟨_,_,hv,_,_,hg,hcx,hbx⟩:=HX.out.open
  cases hv;have cx0:=hcx _ hkp k hkl;have bx0:=hbx k;have cf0:=har.cell (i:=k) om;have cf1:=har.cell (i:=k+1) om;have hf0:=har.free k;have hf1:=har.free (k+1);have HST:=zh (hinv.step hs hkl bx0);have htop:=hinv.top;have hfl:=hinv.lt k om;have hxT:xs.getD k 0*2^s≤4294967295*2147483648:=Nat.mul_le_mul om hT1;have Yi:Hid (bits .or .u32 (f k:Int) ((xs.getD k 0*2^s%4294967296:Nat):Int)=((f k+xs.getD k 0*2^s%4294967296:Nat):Int)):=zh (Od hs htop (by
   rw [← hTS,Nat.mul_comm (xs.getD k 0),Nat.mul_mod_mul_left];exact Nat.dvd_mul_right _ _) om hfl)
  clear hcx hbx hkp har hinv htop;generalize xs.getD k 0=x at *;generalize f k=fk at *;generalize f (k+1)=fk1 at cf1;have hi1:0≤(x:Int)*(2:Int)^s:=by
   have:(x:Int)*(2:Int)^s=((x*2^s:Nat):Int):=sm;omega
  have hi2:(x:Int)*(2:Int)^s≤9223372036854775807:=by
   have:(x:Int)*(2:Int)^s=((x*2^s:Nat):Int):=sm;omega
  go_wp2;go_roundw
  case rel=>
   have q1:(x:Int)*2^s%4294967296=((x*2^s%4294967296:Nat):Int):=sm;have q2:(x:Int)*2^s/4294967296=((x*2^s/4294967296:Nat):Int):=sm;exact⟨k+1,om,gn,(nQ.out.setCell _ (fun h=>absurd h (by have:=oO.out;omega))).setCell _ (fun h=>absurd h (by have:=oO.out;omega)),_,
    dn.set (dn.set rH.out k (fk+x*2^s%4294967296) (congrArg (Value.int .u32) (by rw [q1];exact Yi.out))) (k+1) (x*2^s/4294967296) (congrArg (Value.int .u32) q2),HST.out⟩
  simp [intOf];omega
 have hlt:¬(k:Int)<(xs.length:Int):=om;obtain rfl:k=xs.length:=om;clear hkp har hinv;go_wp2;go_ret;exact⟨go,f,rfl,by have:=oO.out;omega,nQ.out,rH.out,jV.out.lt,by show dv f (xs.length+1)=_;rw [jV.out.val,mW xs _ (Nat.le_refl _)]⟩
structure yg (xs:List Nat)(T k:Nat)(f:Nat→Nat):Prop where
 lt:∀p,p<k→f p<4294967296
 val:T*dv f k+xs.getD 0 0%T=dv (fun i=>xs.getD i 0) k+4294967296^k*(xs.getD k 0%T)
theorem yg.step {xs:List Nat}{s k:Nat}{f:Nat→Nat}(hs:s<32)(h:yg xs (2^s) k f)(hx:xs.getD k 0<4294967296):
  yg xs (2^s) (k+1) fun p=>if p=k then xs.getD k 0/2^s+xs.getD (k+1) 0%2^s*2^(32-s)else f p:=by
 obtain⟨hT,hT0,hT1⟩:=iy hs;have hval:=h.val;have hX:dv (fun i=>xs.getD i 0) (k+1)=dv (fun i=>xs.getD i 0) k+4294967296^k*xs.getD k 0:=rfl;generalize 2^s=T at *;generalize 2^(32-s)=S at *;have hm1:=Nat.mod_lt (xs.getD (k+1) 0) hT0;have hd1:=Nat.div_add_mod (xs.getD k 0) T;generalize hr1:xs.getD (k+1) 0%T=r1 at *;have hdl:xs.getD k 0/T<S:=by
  rw [Nat.div_lt_iff_lt_mul hT0,Nat.mul_comm,hT];exact hx
 generalize xs.getD k 0/T=q at *;generalize xs.getD k 0%T=r0 at *;refine⟨fun p hp=> ?_,?_⟩
 ·by_cases e:p=k
  ·simp only [e,if_true];have:(r1+1)*S≤T*S:=Nat.mul_le_mul_right _ hm1;rw [Nat.succ_mul]at this;omega
  simp only [e,if_false];exact h.lt p om
 rw [dv,if_pos rfl,iB (f:=fun p=>if p=k then _ else f p) (g:=f) fun i hi=>if_neg om,hX,Nat.pow_succ,Nat.mul_add];have e1:T*(4294967296^k*(q+r1*S))=4294967296^k*(T*q)+4294967296^k*4294967296*r1:=by
  rw [Nat.mul_left_comm,←hT,Nat.mul_add,Nat.mul_add];congr 1;simp only [Nat.mul_assoc,Nat.mul_comm,Nat.mul_left_comm]
 have e2:4294967296^k*(T*q+r0)=4294967296^k*xs.getD k 0:=by rw [hd1]
 rw [Nat.mul_add]at e2;rw [e1,hr1];generalize 4294967296^k*4294967296*r1=z1 at *;generalize 4294967296^k*(T*q)=z2 at *;generalize 4294967296^k*r0=z3 at *;generalize 4294967296^k*xs.getD k 0=z4 at *;generalize T*dv f k=z5 at *;omega
theorem yg.fin {xs:List Nat}{s:Nat}{f:Nat→Nat}(hs:s<32)(h:yg xs (2^s) xs.length f):dv f xs.length=dval xs/2^s:=by
 have hv:=h.val;obtain⟨_,hT0,_⟩:=iy hs;have h0:xs.getD xs.length 0=0:=sm;rw [h0,Nat.zero_mod,Nat.mul_zero,Nat.add_zero,mW xs _ (Nat.le_refl _)]at hv;have hm:=Nat.mod_lt (xs.getD 0 0) hT0;generalize xs.getD 0 0%2^s=r at *;rw [← hv,Nat.mul_add_div hT0,Nat.div_eq_of_lt hm,Nat.add_zero]
theorem Vt {s x y:Nat}(hs:s<32)(hs0:0<s)(hx:x<4294967296):bits .or .u32 ((x/2^s:Nat):Int) ((y*2^(32-s)%4294967296:Nat):Int)=((x/2^s+y%2^s*2^(32-s):Nat):Int):=by
 obtain⟨hT,hT0,hT1⟩:=iy hs;have e:y*2^(32-s)%4294967296=y%2^s*2^(32-s):=by rw [← hT,Nat.mul_mod_mul_right]
 have h1:y*2^(32-s)%4294967296<4294967296:=Nat.mod_lt _ om;rw [e]at h1 ⊢;have h2:x/2^s<2^(32-s):=by rw [Nat.div_lt_iff_lt_mul hT0,Nat.mul_comm,hT];exact hx
 exact Od (s:=32-s) om h2 ⟨_,Nat.mul_comm _ _⟩ h1 (Nat.lt_of_le_of_lt (Nat.div_le_self _ _) hx)
theorem Ez (w:World)(vx:Value)(xs:List Nat)(s:Nat)(hx:eF w vx xs)(hlx:xs.length≤200000)(hl0:0<xs.length)(hs:s<32):
  Calls Tryz.prog 168 #[vx,.int .i64 s] w (Vs xs.length (fun f=>dv f xs.length=dval xs/2^s) w):=by
 have HX:=zh hx;obtain⟨gx,cx,hv,hcl,hcm,hrest⟩:=hx.open;subst hv;clear hx hrest;unfold maxLen at hcm;obtain⟨i0,hi0,hz0,hs0,hb0⟩:=info_parts iT;obtain⟨w2,hr2,ho2,hg2⟩:=run_make_full (P:=Tryz.prog) w w.heap.size 123 166 i0 (.int .u32 0) 1 Tryz.underlying123 hi0 hz0 hs0 .i64 .i64 xs.length (by rw [hb0];omega) (by unfold maxLen;omega) om
 obtain⟨go,hgo⟩:∃go,go=w.heap.size:=⟨_,rfl⟩;rw [← hgo]at hr2 ho2;have P2:dn w2 go xs.length (fun _=>0):=fq ho2 fun i hi=>jf rfl _ i hi;have L2:Keep au w w2:=Keep.of_below (dH hg2 w.heap.size (Nat.le_refl _) sm) (Nat.le_refl _);have IB:=zh P2;have HL2:=zh L2;have oO:=zh hgo;clear ho2 hg2 P2 L2 hgo;have hd:(s:Int)/32=0:=om;have hm:(s:Int)%32=s:=om;have hl1:decide ((xs.length:Int)≤0)=false:=aZ om;have hl2:decide (xs.length≤0)=false:=decide_eq_false om;have hcap:¬cx=0:=om;have hne:¬xs= []:=by rintro rfl;simp at hl0
 go_enter Tryz.func168,Tryz.ntmps168;go_wp2;clear hr2;obtain⟨hTS,hT0,hT1⟩:=iy hs;have m32:min s 32=s:=om;have zcW:min (32-s) 32=32-s:=om;have m33:((32:Int)-(s:Int)).toNat=32-s:=om;go_loopw [22] (fun c wr=>∃k:Nat,k≤xs.length∧c= .int .i64 k∧Keep au w wr∧∃f,dn wr go xs.length f∧yg xs (2^s) k f) (fun c _=>(xs.length-intOf c).toNat)
 case atStart=>exact⟨0,om,rfl,HL2.out,fun _=>0,IB.out,fun p hp=>absurd hp om,by simp [dv]⟩
 obtain⟨k,hk,rfl,hkp,f,har,hinv⟩:=hrel;have nQ:=zh hkp;have rH:=zh har;have jV:=zh hinv;have hgl:=har.lt;by_cases hkl:k<xs.length
 ·have hlt:(k:Int)<(xs.length:Int):=om;obtain⟨_,_,hv,_,_,hg,hcx,hbx⟩:=HX.out.open
  cases hv;have cx0:=hcx wr hkp k hkl;have cx1:=hcx wr hkp (k+1);have bx0:=hbx k;have bx1:=hbx (k+1);have cf0:=har.cell (i:=k) hkl;have hf0:=har.free k;have hgo2:¬gx=go:=by have:=oO.out;omega
  have HST:=zh (hinv.step hs bx0);have h1z:¬k+1<xs.length→xs.getD (k+1) 0=0:=fun h=>by simp [List.getD,List.getElem?_eq_none (Nat.le_of_not_lt h)]
  clear hcx hbx hkp har hinv;generalize xs.getD k 0=x at *;generalize xs.getD (k+1) 0=y at *;generalize f k=fk at cf0;by_cases hk1:k+1<xs.length
  ·have e1:decide ((k:Int)+1<(xs.length:Int))=true:=bL om;have e2:decide (k+1<xs.length)=true:=decide_eq_true hk1;have cy:=cx1 hk1;by_cases RU:0<s
   ·have e3:decide ((0:Int)<(s:Int))=true:=bL om;have e4:decide (0<s)=true:=decide_eq_true RU;go_wp2;have hkw:IntKind.i64.wrap ((k:Int)+1)=(k:Int)+1:=Go.IntWalk.i64_in _ om;have hsw:IntKind.i64.wrap ((32:Int)-(s:Int))=(32:Int)-(s:Int):=Go.IntWalk.i64_in _ om;have zcX:(k:Int)+1<(xs.length:Int):=om;have XP:(s:Int).tmod 32=(s:Int):=by rw [Int.tmod_eq_emod_of_nonneg om];omega
    have hkn:((k:Int)+1).toNat=k+1:=om;have hk0:(0:Int)≤(k:Int)+1:=om;have hs3:(0:Int)≤(32:Int)-(s:Int):=om;refine aD (fun w'=>w'.cell? ⟨go,k,none⟩=some (.int .u32 ((x:Int)/2^s))∧w'.cell? ⟨gx,k+1,none⟩=some (.int .u32 y)) [15] [([0,1,2,3,4,5,6,7,8,9,10,11,12,13,14],15)] [] kr kr ?_ ?_
    ·refine ⟨?_,?_⟩
     ·have:=(kP.set rH.out k (.int .u32 ((x:Int)/2^s))).cell (i:=k) hkl;rw [if_pos rfl]at this;exact this
     exact(World.cell?_setCell_other _ _ _ _ (fun e=>hgo2 (by injection e with e1;exact e1.symm))).trans cy
    intro X W hne' hF hcl;have hx0:=fun x=>(hF x).1;have hx1:=fun x=>(hF x).2;clear hF hcl;simp only [aO,aJ,zl0,zl1,zl2,aR,Bool.false_eq_true,if_false]
    (repeat(quiet_step (fail)));refine wpQuiet_nil ?_
    refine ay rfl rfl fun K hK=> ?_;go_simp;refine hK _ _ ⟨fun h=>(by simp at h),?_⟩;clear hK K hx0 hx1
    (repeat(quiet_step (fail)));refine wpQuiet_nil ?_
    refine NoPanic.normal ?_;go_wp2;go_roundw
    case rel=>
     have q2:(y:Int)*2^(32-s)%4294967296=((y*2^(32-s)%4294967296:Nat):Int):=sm;have q1:(x:Int)/2^s=((x/2^s:Nat):Int):=sm;have q3:=Vt hs RU bx0 (y:=y);have hd2:=dn.set (dn.set rH.out k (x/2^s) (congrArg (Value.int .u32) q1)) k (x/2^s+y%2^s*2^(32-s)) (v:= .int .u32 (bits .or .u32 ((x:Int)/2^s) ((y:Int)*2^(32-s)%4294967296))) (congrArg (Value.int .u32) (by rw [q1,q2];exact q3));exact⟨k+1,om,gn,((nQ.out.setCell _ (fun h=>absurd h (by have:=oO.out;omega))).setCell _ (fun h=>absurd h (by have:=oO.out;omega))).drew,_,
      (kP.congr hd2 (fun i hi=>by by_cases e:i=k<;>simp [e])).keep (Keep.refl _ _).drew,HST.out⟩
    simp [intOf];omega
   obtain rfl:s=0:=om;clear cy;go_wp2;go_roundw
   case rel=>
    have q1:(x:Int)=((x/2^0+y%2^0*2^(32-0):Nat):Int):=by simp [Nat.mod_one]
    exact⟨k+1,om,gn,nQ.out.setCell _ (fun h=>absurd h (by have:=oO.out;omega)),_,dn.set rH.out k _ (congrArg (Value.int .u32) q1),HST.out⟩
   simp [intOf];omega
  have e1:decide ((k:Int)+1<(xs.length:Int))=false:=aZ om;have e2:decide (k+1<xs.length)=false:=decide_eq_false hk1;obtain rfl:y=0:=h1z hk1;clear cx1;go_wp2;go_roundw
  case rel=>
   have q1:(x:Int)/2^s=((x/2^s+0%2^s*2^(32-s):Nat):Int):=sm;exact⟨k+1,om,gn,nQ.out.setCell _ (fun h=>absurd h (by have:=oO.out;omega)),_,dn.set rH.out k _ (congrArg (Value.int .u32) q1),HST.out⟩
  simp [intOf];omega
 have hlt:¬(k:Int)<(xs.length:Int):=om;obtain rfl:k=xs.length:=om;clear hkp har hinv;go_wp2;go_ret;exact⟨go,f,rfl,by have:=oO.out;omega,nQ.out,rH.out,jV.out.lt,jV.out.fin hs⟩
structure EC (xs:List Nat)(d j r:Nat)(f:Nat→Nat):Prop where
 lt:∀p,p<xs.length→f p<4294967296
 zero:∀p,p<j→f p=0
 rlt:r<d
 val:d*dv f xs.length+4294967296^j*r+dv (fun i=>xs.getD i 0) j=dval xs
theorem EC.step {xs:List Nat}{d j r:Nat}{f:Nat→Nat}(h:EC xs d (j+1) r f)(hj:j<xs.length)(hx:xs.getD j 0<4294967296)(hd:d<4294967296):
  EC xs d j ((r*4294967296+xs.getD j 0)%d) fun p=>if p=j then(r*4294967296+xs.getD j 0)/d else f p:=by
 have hr:=h.rlt;have hv:=h.val;have hX:dv (fun i=>xs.getD i 0) (j+1)=dv (fun i=>xs.getD i 0) j+4294967296^j*xs.getD j 0:=rfl;rw [hX]at hv;generalize xs.getD j 0=x at *;have e:=Nat.div_add_mod (r*4294967296+x) d;have hq:(r*4294967296+x)/d<4294967296:=by
  apply Nat.div_lt_of_lt_mul;have:(r+1)*4294967296≤d*4294967296:=Nat.mul_le_mul_right _ hr;omega
 have hu:=Ea f j ((r*4294967296+x)/d) xs.length hj;rw [h.zero j om,Nat.mul_zero,Nat.add_zero]at hu;refine⟨fun p hp=> ?_,fun p hp=> ?_,Nat.mod_lt _ om,?_⟩
 ·by_cases e:p=j
  ·simp only [e,if_true];exact hq
  simp only [e,if_false];exact h.lt p hp
 ·rw [if_neg om];exact h.zero p om
 rw [hu,←hv,Nat.pow_succ,Nat.mul_add];have e2:4294967296^j*(d*((r*4294967296+x)/d)+(r*4294967296+x)%d)=4294967296^j*(r*4294967296+x):=by rw [e]
 have e3:4294967296^j*(d*((r*4294967296+x)/d))=d*(4294967296^j*((r*4294967296+x)/d)):=Nat.mul_left_comm _ _ _;have e4:4294967296^j*(r*4294967296)=4294967296^j*4294967296*r:=by rw [Nat.mul_comm r,Nat.mul_assoc]
 rw [Nat.mul_add,Nat.mul_add _ (r*4294967296),e3,e4]at e2;omega
def IY (x y:Nat)(w:World)(e:Ending)(w':World):Prop:=∃vq vr dq dr,e= .returned (.tuple #[vq,vr])∧Keep au w w'∧eF w' vq dq∧eF w' vr dr∧dval dq=x/y∧dval dr=x%y
theorem RV (w:World)(vx vy:Value)(xs:List Nat)(d:Nat)(hx:eF w vx xs)(hy:eF w vy [d])(hd0:0<d)(hlx:xs.length≤200000):
  Calls Tryz.prog 161 #[vx,vy] w (IY (dval xs) d w):=by
 have HX:=zh hx;have HY:=zh hy;obtain⟨gx,cx,rfl⟩:=hx.form;obtain⟨gy,cy,rfl⟩:=hy.form;clear hx hy;obtain⟨i0,hi0,hz0,hs0,hb0⟩:=info_parts iT;obtain⟨w2,hr2,ho2,hg2⟩:=run_make_full (P:=Tryz.prog) w w.heap.size 123 166 i0 (.int .u32 0) 1 Tryz.underlying123 hi0 hz0 hs0 .i64 .i64 xs.length (by rw [hb0];omega) (by unfold maxLen;omega) om;obtain⟨go,hgo⟩:∃go,go=w.heap.size:=⟨_,rfl⟩;rw [← hgo]at hr2 ho2;have P2:dn w2 go xs.length (fun _=>0):=fq ho2 fun i hi=>jf rfl _ i hi;have L2:Keep au w w2:=Keep.of_below (dH hg2 w.heap.size (Nat.le_refl _) sm) (Nat.le_refl _);have IB:=zh P2;have HL2:=zh L2;have oO:=zh hgo;clear ho2 hg2 P2 L2 hgo;go_enter Tryz.func161,Tryz.ntmps161;go_wp2;clear hr2;have bd:d<4294967296:=by have:=HY.out.open;obtain⟨_,_,_,_,_,_,_,hb⟩:=this;simpa using hb 0
 go_loopw [8,7] (fun s t wr=>∃j:Nat,j≤xs.length∧s= .int .i64 ((j:Int)-1)∧Keep au w wr∧∃r:Nat,∃f,t= .int .u64 r∧dn wr go xs.length f∧EC xs d j r f) (fun s _ _=>(intOf s+1).toNat)
 case atStart=>exact⟨xs.length,Nat.le_refl _,rfl,HL2.out,0,fun _=>0,rfl,IB.out,fun _ _=>om,fun _ _=>rfl,hd0,by
  have:=sK (f:=fun _=>0) (n:=0) xs.length (fun _ _ _=>rfl);rw [Nat.zero_add]at this;rw [this,mW xs _ (Nat.le_refl _)];simp [dv]⟩
 obtain⟨j,hj,rfl,hkp,r,f,rfl,har,hinv⟩:=hrel;have nQ:=zh hkp;have rH:=zh har;have jV:=zh hinv;have hgl:=har.lt;rcases j with _ | j
 ·have hr0:r<d:=hinv.rlt;have hrm:(r:Int)%4294967296=(r:Int):=om;clear hkp har hinv;go_wp2;go_ret2;have hr:r<4294967296:=by have:=jV.out.rlt;omega
  have hdr:=Pt wr [r] (by simp [maxLen]) (by simpa using hr);have k1:Keep au wr (wr.alloc (.cells #[.int .u32 (r:Nat)] Ec)):=(Keep.refl _ _).alloc _;have hv:=jV.out.val;simp only [Nat.pow_zero,Nat.one_mul,dv,Nat.add_zero]at hv;have hq:dv f xs.length=dval xs/d∧r=dval xs%d:=by
   have h1:=jV.out.rlt;rw [← hv];exact⟨by rw [Nat.mul_add_div hd0,Nat.div_eq_of_lt h1,Nat.add_zero],by rw [Nat.mul_add_mod,Nat.mod_eq_of_lt h1]⟩
  exact⟨_,_,yL f xs.length,[r],rfl,nQ.out.trans k1 fun _ _ _ h=>h,(fC rH.out (Nat.le_refl _) (by unfold maxLen;omega) jV.out.lt).ofNewer k1,by simpa using hdr,by rw [je];exact hq.1,by rw [← hq.2];simp [dval]⟩
 have hjl:j<xs.length:=om;obtain⟨_,_,hv,_,_,hg,hcx,hbx⟩:=HX.out.open
 cases hv;obtain⟨_,_,hv,_,_,hg',hcy,hby⟩:=HY.out.open
 cases hv;have cx0:=hcx wr hkp j hjl;have cy0:=hcy wr hkp 0 sm;simp only [List.getD_cons_zero]at cy0;have bx0:=hbx j;have cf0:=har.cell (i:=j) hjl;have hf0:=har.free j;have br:(r:Int)<(d:Int):=by have:=hinv.rlt;omega
 have HST:=zh (hinv.step hjl bx0 bd);have ej:((j+1:Nat):Int)-1=(j:Int):=om;have hlt:(j:Int)<(xs.length:Int):=om;have hgy:¬gy=go:=by have:=oO.out;omega
 have hgx:¬gx=go:=by have:=oO.out;omega
 have vL:=oG r (xs.getD j 0) om bx0;rw [IntKind.wrap_u64,IntKind.wrap_u64,Int.emod_eq_of_lt om om,Int.emod_eq_of_lt om om]at vL;have ht1:r*4294967296+xs.getD j 0<18446744073709551616:=om;clear hcx hbx hcy hby hkp har hinv;generalize xs.getD j 0=x at *;generalize f j=fj at cf0;generalize r*4294967296+x=t at *;have zcY:(0:Int)<(d:Int):=om;rw [ej];go_wp2;go_roundw
 case rel=>
  have hlt1:=HST.out.lt j hjl;rw [if_pos rfl]at hlt1;have q1:IntKind.u64.wrap ((t:Int)/(d:Int))%4294967296=((t/d:Nat):Int):=by
   rw [vM t d ht1];exact Int.emod_eq_of_lt (Int.natCast_nonneg _) (Int.ofNat_lt.2 hlt1)
  exact⟨j,om,rfl,nQ.out.setCell _ (fun h=>absurd h (by have:=oO.out;omega)),t%d,_,congrArg (Value.int .u64) sm,dn.set rH.out j (t/d) (congrArg (Value.int .u32) q1),HST.out⟩
 simp [intOf]
theorem eF.all_lt {w:World}{v:Value}{ds:List Nat}(h:eF w v ds):∀d∈ds,d<4294967296:=by obtain⟨_,_,_,_,_,_,_,_,_,h⟩:=h;exact h
theorem eF.val_lt {w:World}{v:Value}{ds:List Nat}(h:eF w v ds):dval ds<4294967296^ds.length:=kX ds h.all_lt
theorem zaB {ys:List Nat}(hn:2≤ys.length)(h0:ys.getD (ys.length-1) 0≠0):4294967296^(ys.length-1)≤dval ys:=kV ys (.inr h0) (by rintro rfl;simp at hn)
theorem Ky {ys:List Nat}(hn:2≤ys.length):dval ys=dv (fun i=>ys.getD i 0) (ys.length-1)+4294967296^(ys.length-1)*ys.getD (ys.length-1) 0:=by
 rw [mP];obtain⟨m,hm⟩:∃m,ys.length=m+1:=⟨ys.length-1,om⟩;rw [hm,dv];rfl
theorem Ca (u c p b:Nat)(hu:u<4294967296)(hb:b≤1):∃d b1:Nat,IntKind.u64.wrap (IntKind.u64.wrap ((u:Int)-((c:Int)+(p:Int))%4294967296)-(b:Int))/9223372036854775808=(b1:Int)∧
  IntKind.u64.wrap (IntKind.u64.wrap ((u:Int)-((c:Int)+(p:Int))%4294967296)-(b:Int))%4294967296=(d:Int)∧d+(c+p)%4294967296+b=u+4294967296*b1∧d<4294967296∧b1≤1:=by
 rw [IntKind.wrap_u64,IntKind.wrap_u64];by_cases h:u<(c+p)%4294967296+b
 ·exact ⟨u+4294967296-(c+p)%4294967296-b,1,om,om,om,om,om⟩
 exact⟨u-(c+p)%4294967296-b,0,om,om,om,om,om⟩
theorem Oe (u c b:Nat)(hu:u<4294967296)(hc:c<4294967296)(hb:b≤1):∃d b1:Nat,IntKind.u64.wrap (IntKind.u64.wrap ((u:Int)-(c:Int))-(b:Int))/9223372036854775808=(b1:Int)∧
  IntKind.u64.wrap (IntKind.u64.wrap ((u:Int)-(c:Int))-(b:Int))%4294967296=(d:Int)∧d+c+b=u+4294967296*b1∧d<4294967296∧b1≤1:=by
 rw [IntKind.wrap_u64,IntKind.wrap_u64];by_cases h:u<c+b
 ·exact ⟨u+4294967296-c-b,1,om,om,om,om,om⟩
 exact⟨u-c-b,0,om,om,om,om,om⟩
theorem Vu {y s:Nat}(hs:s<32)(h:y*2^s<4294967296):y*2^s+2^s≤4294967296:=by
 obtain⟨h1,h2,h3⟩:=iy hs;have h4:y<2^(32-s):=by
  apply Classical.byContradiction;intro hn;have:2^(32-s)*2^s≤y*2^s:=Nat.mul_le_mul_right _ om;rw [Nat.mul_comm,h1]at this;omega
 have h5:(y+1)*2^s≤2^(32-s)*2^s:=Nat.mul_le_mul_right _ h4;rw [Nat.mul_comm (2^(32-s)),h1,Nat.add_mul,Nat.one_mul]at h5;exact h5
theorem PE {ys:List Nat}{yt s:Nat}{f:Nat→Nat}(Ug:ys.getD (ys.length-1) 0=yt)(hn:2≤ys.length)(hlt:2147483648≤yt*2^s)
  (hv:dv f ys.length=dval ys*2^s) (hf:∀i,i<ys.length→f i<4294967296):2147483648≤f (ys.length-1):=by
 have h1:=Ky hn;rw [Ug]at h1;obtain⟨m,hm⟩:∃m,ys.length=m+1:=⟨ys.length-1,om⟩;have hm':ys.length-1=m:=om;rw [hm']at h1 ⊢;have h2:dv f m<4294967296^m:=kF fun i hi=>hf i om;rw [hm,dv]at hv;have h3:4294967296^m*yt*2^s≤dval ys*2^s:=Nat.mul_le_mul_right _ om;rw [Nat.mul_assoc]at h3;have h4:4294967296^m*2147483648≤4294967296^m*(yt*2^s):=Nat.mul_le_mul_left _ hlt;have h5:4294967296^m*2147483648<4294967296^m*(f m+1):=by rw [Nat.mul_add,Nat.mul_one];omega
 have:=Nat.lt_of_mul_lt_mul_left h5;omega
theorem Kz {ys:List Nat}{yt s:Nat}{f:Nat→Nat}(Ug:ys.getD (ys.length-1) 0=yt)(hb:∀i,ys.getD i 0<4294967296)(hn:2≤ys.length)(hs32:s<32)(hlt:yt*2^s<4294967296)(hf:∀i,i<ys.length+1→f i<4294967296)
  (hv:dv f (ys.length+1)=dval ys*2^s):dv f ys.length=dval ys*2^s:=by
 have hs:0<2^s:=Nat.pow_pos om;have h1:=Ky hn;have h2:dv (fun i=>ys.getD i 0) (ys.length-1)<4294967296^(ys.length-1):=kF fun i _=>hb i;have h3:dval ys*2^s<4294967296^ys.length:=by
  obtain⟨m,hm⟩:∃m,ys.length=m+1:=⟨ys.length-1,om⟩;rw [Ug]at h1;have hm':ys.length-1=m:=om;rw [hm']at h1 h2;rw [hm,Nat.pow_succ];have h4:(dval ys+1)≤4294967296^m*(yt+1):=by rw [Nat.mul_add];omega
  have h6:yt*2^s+2^s≤4294967296:=Vu hs32 hlt;have h7:4294967296^m*(yt*2^s+2^s)≤4294967296^m*4294967296:=Nat.mul_le_mul_left _ h6;have h8:(dval ys+1)*2^s≤4294967296^m*(yt+1)*2^s:=Nat.mul_le_mul_right _ h4;rw [Nat.mul_assoc,Nat.add_mul yt,Nat.one_mul]at h8;rw [Nat.add_mul,Nat.one_mul]at h8;omega
 rw [dv]at hv;rcases Nat.eq_zero_or_pos (f ys.length)with h0 | h0
 ·rw [h0]at hv;omega
 have:4294967296^ys.length*1≤4294967296^ys.length*f ys.length:=Nat.mul_le_mul_left _ h0;omega
theorem Og (w:World)(vx vy:Value)(xs ys:List Nat)(hx:eF w vx xs)(hy:eF w vy ys)(hn:2≤ys.length)(hne:ys.getD (ys.length-1) 0≠0)(hl:ys.length≤xs.length)(hlx:xs.length≤150000):
  Calls Tryz.prog 161 #[vx,vy] w (IY (dval xs) (dval ys) w):=by
 have HX:=zh hx;have HY:=zh hy;obtain⟨gx,cx,rfl⟩:=hx.form;obtain⟨gy,cy,rfl⟩:=hy.form;clear hx hy;have e1:((ys.length:Int)==1)=false:=by rw [beq_eq_false_iff_ne];omega
 have e2:(ys.length==1)=false:=by rw [beq_eq_false_iff_ne];omega
 obtain⟨_,_,hv,_,_,hg',hcy,hby⟩:=HY.out.open
 cases hv;have cy0:=hcy w (Keep.refl _ _) (ys.length-1) om;have byt:=hby (ys.length-1);have HYT:Hid (∀i,ys.getD i 0<4294967296):=zh hby;clear hcy hby;generalize Ug:ys.getD (ys.length-1) 0=yt at *;have HYE:=zh Ug;have gV:Hid (yt≠0):=zh hne;clear Ug;have hn1:((ys.length:Int)-1).toNat=ys.length-1:=om;go_enter Tryz.func161,Tryz.ntmps161;go_wp2;go_loop [9] (fun c=>∃s:Nat,c= .int .i64 s∧s≤31∧yt*2^s<4294967296) (fun c=>(32-intOf c).toNat)
 case atStart=>exact⟨0,rfl,om,om⟩
 obtain⟨s,rfl,hs,hys⟩:=hrel;have m32:min s 32=s:=om;have hp:0≤(yt:Int)*2^s:=by
  have:(yt:Int)*2^s=((yt*2^s:Nat):Int):=sm;omega
 have hp2:(yt:Int)*2^s<4294967296:=by
  have:(yt:Int)*2^s=((yt*2^s:Nat):Int):=sm;omega
 have hq:(yt:Int)*2^s=((yt*2^s:Nat):Int):=sm;by_cases hlow:yt*2^s<2147483648
 ·have e3:((yt:Int)*2^s/2147483648==0)=true:=by rw [beq_iff_eq,hq];omega
  clear hq;have HS:Hid (s+1≤31∧yt*2^(s+1)<4294967296):=zh (by
   have h1:1*2^s≤yt*2^s:=Nat.mul_le_mul_right _ om;refine⟨?_,by rw [Nat.pow_succ,←Nat.mul_assoc];omega⟩;apply Classical.byContradiction;intro h;obtain rfl:s=31:=om;omega)
  go_wp2;go_round
  case rel=>exact⟨s+1,gn,HS.out.1,HS.out.2⟩
  simp [intOf];omega
 have e3:((yt:Int)*2^s/2147483648==0)=false:=by rw [beq_eq_false_iff_ne,hq];omega
 have zaC:Hid (2147483648≤yt*2^s):=zh om;have nM:=zh hys;clear hq;go_upto_region 14 with fail;clear e3 hp hp2 hys hlow;refine aD (fun w'=>Keep au w w') [] [([0,1,3,5,6],2),([4],7)] [8,9] kr kr kp ?_;intro X W hne' hF hcl;have aQ:=zh hcl;clear hF hcl;simp only [aO,aJ,zl0,zl1,zl2,aR,Bool.false_eq_true,if_false]
 (repeat(quiet_step (fail)));refine wpQuiet_nil ?_
 refine ay rfl rfl fun K hK=> ?_;go_simp;refine(xH _ _ ys s (HY.out.ofNewer kp) om om).mono ?_;rintro e w1 ⟨g1,f1,rfl,hg1,hk1,ha1,hl1,hv1⟩;have k1:Keep au w w1:=Keep.trans kp hk1 fun _ _ _ h=>h;refine hK _ _ ⟨fun _=>aQ.out _ k1,?_⟩;clear hK K;have hb1:(ys.length:Int)≤(ys.length:Int)+1:=om;have hb2:ys.length≤ys.length+1:=om;have hb3:¬ys.length+1<ys.length:=om
 (repeat(quiet_step (fail)));refine wpQuiet_nil ?_
 refine ay rfl rfl fun K hK=> ?_;go_simp;refine(xH _ _ xs s (HX.out.ofNewer k1) om om).mono ?_;rintro e w2 ⟨g2,f2,rfl,hg2,hk2,ha2,hl2,hv2⟩;have k2:Keep au w w2:=k1.trans hk2 fun _ _ _ h=>h;refine hK _ _ ⟨fun _=>aQ.out _ k2,?_⟩;clear hK K
 (repeat(quiet_step (fail)));refine wpQuiet_nil ?_
 refine NoPanic.normal ?_;have Uh:Hid (∀i,i<ys.length→f1 i<4294967296):=zh fun i hi=>hl1 i om;have ZX:Hid (dv f1 ys.length=dval ys*2^s):=zh (Kz HYE.out HYT.out hn om nM.out hl1 hv1);have Pg:Hid (2147483648≤f1 (ys.length-1)):=zh (PE HYE.out hn zaC.out ZX.out Uh.out);have ZY:Hid (∀w',Keep au w1 w'→∀i,i<ys.length→w'.cell? ⟨g1,i,none⟩=some (.int .u32 (f1 i:Nat))):=zh fun w' hk i hi=>(hk.cell ha1.lt).trans (ha1.cell om);have HA2:=zh ha2;have Ab:=zh hk2;have Nn:=zh k1;have Ua:=zh (And.intro ha1.lt hg2);have HDI:=zh (mG.begin (s:=s) (xl:=xs.length) (yl:=ys.length) (x:=dval xs) (y:=dval ys) (f:=f2) HX.out.val_lt (zaB hn (by rw [HYE.out];exact gV.out)) hl om hl2 hv2);obtain⟨i0,hi0,hz0,hs0,hb0⟩:=info_parts iT;obtain⟨w3,hr3,ho3,hg3⟩:=run_make_full (P:=Tryz.prog) w2 w2.heap.size 123 166 i0 (.int .u32 0) 1 Tryz.underlying123 hi0 hz0 hs0 .i64 .i64 (xs.length+1) (by rw [hb0];omega) (by unfold maxLen;omega) om;rw [show((xs.length+1:Nat):Int)=(xs.length:Int)+1 from om]at hr3;obtain⟨go,hgo⟩:∃go,go=w2.heap.size:=⟨_,rfl⟩;rw [← hgo]at hr3 ho3;have P3:dn w3 go (xs.length+1) (fun _=>0):=fq ho3 fun i hi=>jf rfl _ i hi;have L3:Keep au w2 w3:=Keep.of_below (dH hg3 w2.heap.size (Nat.le_refl _) sm) (Nat.le_refl _);have HP3:=zh P3;have XO:=zh L3;have oO:=zh hgo;clear ho3 hg3 P3 L3 hgo ha1 hl1 hv1 ha2 hl2 hv2 hk1 hk2 hg1 hg2 k1 k2 aQ hi0 hz0 hs0 hb0;go_wp2;clear hr3;have HSH:Hid (s<32):=zh om;clear hb1 hb2 hb3 hs e1 e2;go_loopw [14] (fun c wr=>∃k:Nat,k≤xs.length+1-ys.length∧c= .int .i64 ((k:Int)-1)∧Keep au w1 wr∧∃f o,dn wr g2 (xs.length+1) f∧dn wr go (xs.length+1) o∧mG (dval xs*2^s) (dval ys*2^s) ys.length (xs.length+1) k f o) (fun c _=>(intOf c+1).toNat)
 case atStart=>exact⟨xs.length+1-ys.length,Nat.le_refl _,congrArg (Value.int .i64) om,Ab.out.both XO.out,f2,fun _=>0,kP.keep HA2.out XO.out,HP3.out,HDI.out⟩
 obtain⟨k,hk,rfl,hkp,f,o,IZ,hao,hinv⟩:=hrel;rcases k with _ | k
 ·as_aux_lemma=>
  have Vv:=zh (hinv.fin (by rw [← ZX.out];exact kF Uh.out) om);have HOL:=zh hinv.olt;have I9:=zh hao;have nQ:=zh (Nn.out.both hkp);have HDU:=zh (fC (cap:=xs.length+1) (kP.mono (m:=ys.length) IZ om) om (by unfold maxLen;omega) fun i hi=>hinv.lt i om);have hgl:=IZ.lt;have hb9:(ys.length:Int)≤(xs.length:Int)+1:=om;have hb8:ys.length≤xs.length+1:=om;have hsr:=Ez wr _ _ s HDU.out (by rw [fJ];omega) (by rw [fJ];omega) HSH.out;rw [fJ]at hsr;have FL:=zh hsr;clear hkp IZ hao hinv hsr;go_wp2_with fail;refine FL.out.mono ?_;rintro e w5 ⟨g5,f5,rfl,hg5,hk5,ha5,hl5,hv5⟩;have HA5:=zh ha5;have QT:=zh hk5;have KD:=zh hl5;have HV5:=zh hv5;clear ha5 hk5 hl5 hv5 hg5;go_wp2;go_ret2;exact⟨_,_,yL o (xs.length+1),yL f5 ys.length,rfl,nQ.out.both QT.out,fC (kP.keep I9.out QT.out) (Nat.le_refl _) (by unfold maxLen;omega) HOL.out,
   fC HA5.out (Nat.le_refl _) (by unfold maxLen;omega) KD.out,by rw [je];exact Vv.out.1,by rw [je,HV5.out,je];exact Vv.out.2⟩
 have nQ:=zh hkp;have HAF:=zh IZ;have I9:=zh hao;have jV:=zh hinv;have Ae:Hid (Win f1 f ys.length k):=zh ⟨hn,Uh.out,fun p hp=>hinv.lt (k+p) om,by have:=Pg.out;omega,by rw [ZX.out];exact(hinv.window om (by rw [← ZX.out];exact kF Uh.out)).2.1⟩;have ej:((k+1:Nat):Int)-1=(k:Int):=om;have bk:(k:Int)+(ys.length:Int)<(xs.length:Int)+1:=om;have i1:((k:Int)+(ys.length:Int)-1).toNat=k+ys.length-1:=om;have i2:((k:Int)+(ys.length:Int)-2).toNat=k+ys.length-2:=om;have i3:((ys.length:Int)-2).toNat=ys.length-2:=om;have cu1:=IZ.cell (i:=k+ys.length) om;have cu0:=IZ.cell (i:=k+ys.length-1) om;have cum:=IZ.cell (i:=k+ys.length-2) om;have cv1:=ZY.out _ hkp (ys.length-1) om;have cv2:=ZY.out _ hkp (ys.length-2) om;have bu1:=hinv.lt (k+ys.length) om;have bu0:=hinv.lt (k+ys.length-1) om;have bum:=hinv.lt (k+ys.length-2) om;have bv1:=Uh.out (ys.length-1) om;have bv2:=Uh.out (ys.length-2) om;have zcZ:=Pg.out;have HGS:=zh Ae.out.start;have hgl:=IZ.lt;have RX:g1<wr.heap.size:=dJ Ua.out.1 hkp.size;have vL:=oG (f (k+ys.length)) (f (k+ys.length-1)) bu1 bu0;rw [IntKind.wrap_u64,IntKind.wrap_u64,Int.emod_eq_of_lt om om,Int.emod_eq_of_lt om om]at vL;have ht1:f (k+ys.length)*4294967296+f (k+ys.length-1)<18446744073709551616:=om;clear hkp IZ hao hinv;generalize hU1:f (k+ys.length)=u1 at *;generalize hU0:f (k+ys.length-1)=u0 at *;generalize hUM:f (k+ys.length-2)=um at *;generalize hV1:f1 (ys.length-1)=v1 at *;generalize hV2:f1 (ys.length-2)=v2 at *;have lJ:=zh (And.intro hU1 (And.intro hU0 (And.intro hUM (And.intro hV1 hV2))));clear hU1 hU0 hUM hV1 hV2;obtain⟨t,hT⟩:∃t,u1*4294967296+u0=t:=⟨_,rfl⟩;rw [hT]at vL ht1 HGS;have HT:=zh hT;clear hT;have HQ0:Hid (t/v1≤4294967297):=zh (by
  have h1:=Ae.out.top;rw [lJ.out.1,lJ.out.2.2.2.1]at h1;have h2:t/v1<4294967298:=Nat.div_lt_of_lt_mul (by rw [← HT.out];omega);omega)
 rw [ej];go_wp2;go_quiet (fail);go_wp2;go_quiet (fail);go_upto_block 6 with fail;go_cut [16]from 97 to 276 (fun a wx=>∃q:Nat,a= .int .u64 q∧AF f1 f ys.length k q∧∃m,wx=wr.drewN m)
 case first=>
  as_aux_lemma=>
   go_wp2;go_loopw [16,17] (fun a b wx=>∃q r:Nat,a= .int .u64 q∧b= .int .u64 r∧mX f1 f ys.length k q r∧q≤4294967297∧∃m,wx=wr.drewN m) (fun a _ _=>(intOf a).toNat)
   case atStart=>exact⟨t/v1,t%v1,congrArg (Value.int .u64) (by rw [vM t v1 ht1]),congrArg (Value.int .u64) sm,HGS.out,HQ0.out,_,by rw [World.drewN_drewN]⟩
   obtain⟨q,r,rfl,rfl,hg,hq64,m,rfl⟩:=hrel;have HG:=zh hg;have hr:=hg.rlt;clear hg;by_cases hqb:q<4294967296
   ·have e1:((q:Int)/4294967296 != 0)=false:=by rw [bne_eq_false_iff_eq];omega
    have hjoin2:=oG r um hr bum;rw [IntKind.wrap_u64,IntKind.wrap_u64,Int.emod_eq_of_lt om om,Int.emod_eq_of_lt om om]at hjoin2;obtain⟨hm1,hm2⟩:=wF hqb bv2;by_cases hc:r*4294967296+um<q*v2
    ·have e2:decide (((r*4294967296+um:Nat):Int)<(q:Int)*(v2:Int))=true:=bL (by rw [← Int.natCast_mul];omega);have HC:=zh hc;clear hc;obtain⟨z,hZ⟩:∃z,r*4294967296+um=z:=⟨_,rfl⟩;rw [hZ]at hjoin2 e2 HC;have HZZ:=zh hZ;clear hZ;obtain⟨hq1,hsum,hge⟩:=Ae.out.down HG.out (.inr (by rw [lJ.out.2.2.1,lJ.out.2.2.2.2,HZZ.out];exact HC.out));have Vw:(1:Int)≤(q:Int):=om;clear hsum hge;by_cases hrb:r+v1<4294967296
     ·have e3:(((r:Int)+(v1:Int))/4294967296 != 0)=false:=by rw [bne_eq_false_iff_eq];omega
      have Oh:=zh (Ae.out.next HG.out (.inr (by rw [lJ.out.2.2.1,lJ.out.2.2.2.2,HZZ.out];exact HC.out)) (by rw [lJ.out.2.2.2.1];exact hrb));go_wp2;go_quiet (fail);go_wp2;go_roundw
      case rel=>
       have h:=Oh.out;rw [lJ.out.2.2.2.1]at h;exact⟨q-1,r+v1,congrArg (Value.int .u64) om,congrArg (Value.int .u64) om,h,om,_,by first | rfl | rw [World.drewN_drewN]⟩
      simp [intOf];omega
     have e3:(((r:Int)+(v1:Int))/4294967296 != 0)=true:=by rw [bne_iff_ne];omega
     have Oh:=zh (Ae.out.over HG.out (.inr (by rw [lJ.out.2.2.1,lJ.out.2.2.2.2,HZZ.out];exact HC.out)) (by rw [lJ.out.2.2.2.1];omega));go_wp2;go_quiet (fail);go_wp2;go_meet;exact⟨q-1,congrArg (Value.int .u64) om,Oh.out,_,by first | rfl | rw [World.drewN_drewN]⟩
    have e2:decide (((r*4294967296+um:Nat):Int)<(q:Int)*(v2:Int))=false:=aZ (by rw [← Int.natCast_mul];omega);have HST:=zh (Ae.out.stand HG.out hqb (by rw [lJ.out.2.2.1,lJ.out.2.2.2.2];omega));clear hc;obtain⟨z,hZ⟩:∃z,r*4294967296+um=z:=⟨_,rfl⟩;rw [hZ]at hjoin2 e2;clear hZ;go_wp2;go_quiet (fail);go_wp2;go_meet;exact⟨q,rfl,HST.out,_,by first | rfl | rw [World.drewN_drewN]⟩
   have e1:(q:Int)/4294967296=1:=om;obtain⟨hq1,hsum,hge⟩:=Ae.out.down HG.out (.inl om);have Vw:(1:Int)≤(q:Int):=om;clear hsum hge;by_cases hrb:r+v1<4294967296
   ·have e3:(((r:Int)+(v1:Int))/4294967296 != 0)=false:=by rw [bne_eq_false_iff_eq];omega
    have Oh:=zh (Ae.out.next HG.out (.inl om) (by rw [lJ.out.2.2.2.1];exact hrb));go_wp2;go_quiet (fail);go_wp2;go_roundw
    case rel=>
     have h:=Oh.out;rw [lJ.out.2.2.2.1]at h;exact⟨q-1,r+v1,congrArg (Value.int .u64) om,congrArg (Value.int .u64) om,h,om,_,by first | rfl | rw [World.drewN_drewN]⟩
    simp [intOf];omega
   have e3:(((r:Int)+(v1:Int))/4294967296 != 0)=true:=by rw [bne_iff_ne];omega
   have Oh:=zh (Ae.out.over HG.out (.inl om) (by rw [lJ.out.2.2.2.1];omega));go_wp2;go_quiet (fail);go_wp2;go_meet;exact⟨q-1,congrArg (Value.int .u64) om,Oh.out,_,by first | rfl | rw [World.drewN_drewN]⟩
 as_aux_lemma=>
  obtain⟨q,rfl,hst,m,hm⟩:=hcut;have hk4:Keep au wr wc:=by rw [hm];exact dO wr m
  clear hm;obtain⟨w4,hw4⟩:∃W:World,W=wc:=⟨_,rfl⟩;rw [← hw4]at hk4 ⊢;clear hw4;have hqB:=hst.1;have HST:=zh hst;have Yg:=zh (nQ.out.both hk4);have QK:=zh (kP.keep HAF.out hk4);have Nr:=zh (kP.keep I9.out hk4);clear hst hk4 cu1 cu0 cum cv1 cv2 hgl RX vL;go_wp2;go_loopw [174,18,19] (fun i c b wx=>∃j:Nat,j≤ys.length∧i= .int .i64 j∧∃cc bb:Nat,∃g,c= .int .u64 cc∧b= .int .u64 bb∧Keep au w1 wx∧dn wx g2 (xs.length+1) g∧dn wx go (xs.length+1) o∧gX f f1 g k q j cc bb) (fun i _ _ _=>(ys.length-intOf i).toNat)
  case atStart=>exact⟨0,om,rfl,0,0,f,rfl,rfl,Yg.out,QK.out,Nr.out,gX.start f f1 k q⟩
  obtain⟨j,hj,rfl,cc,bb,g,rfl,rfl,hk5,ha5,ho5,hti⟩:=hrel;have QT:=zh hk5;have HA5:=zh ha5;have HO5:=zh ho5;have Vx:=zh hti;have bcc:=hti.clt;have bbb:=hti.ble;have hgl:=ha5.lt;have RX:=dJ Ua.out.1 hk5.size;by_cases hjl:j<ys.length
  ·have hlt:(j:Int)<(ys.length:Int):=om;have cv:=ZY.out _ hk5 j hjl;have bv:=Uh.out j hjl;have cu:=ha5.cell (i:=k+j) om;have fu:=ha5.free (k+j);rw [hti.same (k+j) om]at cu;have bu:=jV.out.lt (k+j) om;have hix:(k:Int)+(j:Int)<(xs.length:Int)+1:=om;have uE:Hid (∀t c1 d b1,t=cc+q*f1 j→c1=t/4294967296→c1<4294967296→d+t%4294967296+bb=f (k+j)+4294967296*b1→d<4294967296→b1≤1→gX f f1 (fun p=>if p=k+j then d else g p) k q (j+1) c1 b1):=
    zh fun t c1 d b1 h1 h2 h3 h4 h5 h6=>Vx.out.step h1 h2 h3 h4 h5 h6
   clear hk5 ha5 ho5 hti;obtain⟨hm1,hm2⟩:=wF hqB bv;generalize f1 j=vj at *;generalize f (k+j)=uj at *;obtain⟨p,hp⟩:∃p:Nat,q*vj=p:=⟨_,rfl⟩;have hpi:(q:Int)*(vj:Int)=(p:Int):=by rw [← hp,Int.natCast_mul]
   rw [hpi]at hm1 hm2;have HP:=zh hp;clear hp;go_wp2;go_roundw
   case rel=>
    obtain⟨d,b1,g1',g2',g3',g4',g5'⟩:=Ca uj cc p bb bu bbb;exact⟨j+1,om,gn,(cc+p)/4294967296,b1,_,congrArg (Value.int .u64) om,congrArg (Value.int .u64) g1',QT.out.setCell _ (fun h=>absurd h (by have:=Ua.out.2;omega)),
     dn.set HA5.out (k+j) d (congrArg (Value.int .u32) g2'),kP.other HO5.out _ _ (by have:=oO.out;have:=HA2.out.lt;omega),uE.out (cc+p) _ d b1 (by rw [← HP.out]) rfl om g3' g4' g5'⟩
   simp [intOf];omega
  have hlt:¬(j:Int)<(ys.length:Int):=om;obtain rfl:j=ys.length:=om;have cu:=ha5.cell (i:=k+ys.length) om;have fu:=ha5.free (k+ys.length);rw [hti.same (k+ys.length) om,lJ.out.1]at cu;obtain⟨d,b1,q1,q2,q3,q4,q5⟩:=Oe u1 cc bb bu1 bcc bbb;have HQ3:=zh q3;clear hk5 ha5 ho5 hti q3;go_upto_if 230 with fail;have FH:=zh (QT.out.setCell (b:=g2) (o:=k+ys.length) (.int .u32 (d:Nat)) (fun h=>absurd h (by have:=Ua.out.2;omega)));have Ui:=zh (dn.set HA5.out (k+ys.length) d rfl);have HO6:=zh (kP.other (g':=g2) HO5.out (k+ys.length) (.int .u32 (d:Nat)) (by have:=oO.out;have:=HA2.out.lt;omega));generalize wr.setCell ⟨g2,k+ys.length,none⟩ (.int .u32 (d:Nat))=w6 at *;clear HA5 HO5 QT q1 q2 cu fu;go_cut [16]from 97 to 276 (fun a wx=>∃q':Nat,∃f',a= .int .u64 q'∧Keep au w1 wx∧dn wx g2 (xs.length+1) f'∧dn wx go (xs.length+1) o∧Digit f1 f f' ys.length k q')
  case first=>
   as_aux_lemma=>
    by_cases hb1:b1=1
    ·have e7:((b1:Int)==1)=true:=by rw [beq_iff_eq];omega
     have hbq:d+cc+bb=f (k+ys.length)+4294967296:=by rw [lJ.out.1,HQ3.out,hb1]
     have HBQ:=zh hbq;have hq1:=Oc Vx.out hbq q4;have Vw:(1:Int)≤(q:Int):=om;clear hbq;go_wp2;go_loopw [235,18] (fun i c wx=>∃j:Nat,j≤ys.length∧i= .int .i64 j∧∃cc:Nat,∃g',c= .int .u64 cc∧Keep au w1 wx∧dn wx g2 (xs.length+1) g'∧dn wx go (xs.length+1) o∧jl (fun p=>if p=k+ys.length then d else g p) f1 g' k j cc) (fun i _ _=>(ys.length-intOf i).toNat)
     case atStart=>exact⟨0,om,rfl,0,_,rfl,FH.out,Ui.out,HO6.out,jl.start _ _ _⟩
     obtain⟨j,hj,rfl,c2,g',rfl,hk7,ha7,ho7,hbi⟩:=hrel;have UM:=zh hk7;have RY:=zh ha7;have FM:=zh ho7;have Z0:=zh hbi;have bc2:=hbi.cle;have hgl:=ha7.lt;have RX:=dJ Ua.out.1 hk7.size;by_cases hjl:j<ys.length
     ·have hlt:(j:Int)<(ys.length:Int):=om;have cv:=ZY.out _ hk7 j hjl;have bv:=Uh.out j hjl;have cu:=ha7.cell (i:=k+j) om;have fu:=ha7.free (k+j);rw [hbi.same (k+j) om,if_neg om]at cu;have bu:=Vx.out.lt j hjl;have hix:(k:Int)+(j:Int)<(xs.length:Int)+1:=om;have uE:Hid (∀c1 dd,dd=(c2+(g (k+j)+f1 j))%4294967296→c1=(c2+(g (k+j)+f1 j))/4294967296→jl (fun p=>if p=k+ys.length then d else g p) f1 (fun p=>if p=k+j then dd else g' p) k (j+1) c1):=zh fun c1 dd h1 h2=>
       Z0.out.step (by show(if k+j=k+ys.length then d else g (k+j))<_;rw [if_neg om];exact bu) bv (by show _=(c2+((if k+j=k+ys.length then d else g (k+j))+_))%_;rw [if_neg om];exact h1) (by show _=(c2+((if k+j=k+ys.length then d else g (k+j))+_))/_;rw [if_neg om];exact h2)
      clear hk7 ha7 ho7 hbi;generalize f1 j=vj at *;generalize g (k+j)=uj at *;go_wp2;go_roundw
      case rel=>
       exact⟨j+1,om,gn,(c2+(uj+vj))/4294967296,_,congrArg (Value.int .u64) om,UM.out.setCell _ (fun h=>absurd h (by have:=Ua.out.2;omega)),
        dn.set RY.out (k+j) ((c2+(uj+vj))%4294967296) (congrArg (Value.int .u32) om),kP.other FM.out _ _ (by have:=oO.out;have:=HA2.out.lt;omega),uE.out _ _ rfl rfl⟩
      simp [intOf];omega
     have hlt:¬(j:Int)<(ys.length:Int):=om;obtain rfl:j=ys.length:=om;have cu:=ha7.cell (i:=k+ys.length) om;have fu:=ha7.free (k+ys.length);rw [hbi.same (k+ys.length) om,if_pos rfl]at cu;have KG:=zh (Ob Ae.out HST.out Vx.out HBQ.out q4 Z0.out (d2:=(d+c2)%4294967296) rfl).2;clear hk7 ha7 ho7 hbi;go_wp2;go_meet;exact⟨q-1,_,congrArg (Value.int .u64) om,UM.out.setCell _ (fun h=>absurd h (by have:=Ua.out.2;omega)),
      dn.set RY.out (k+ys.length) ((d+c2)%4294967296) (congrArg (Value.int .u32) om),kP.other FM.out _ _ (by have:=oO.out;have:=HA2.out.lt;omega),KG.out⟩
    have e7:((b1:Int)==1)=false:=by rw [beq_eq_false_iff_ne];omega
    have KG:=zh (Kw Ae.out HST.out Vx.out (d:=d) (by rw [lJ.out.1,HQ3.out];omega) q4);go_wp2;go_meet;exact⟨q,_,rfl,FH.out,Ui.out,HO6.out,KG.out⟩
  as_aux_lemma=>
   obtain⟨q',f',rfl,hk7,ha7,ho7,hdg⟩:=hcut;obtain⟨w7,hw7⟩:∃W:World,W=wc:=⟨_,rfl⟩;rw [← hw7]at hk7 ha7 ho7 ⊢;clear hw7;have UM:=zh hk7;have RY:=zh ha7;have FM:=zh ho7;have KG:=zh hdg;have hq':q'<4294967296:=by rw [hdg.q];exact Ae.out.qlt
   have cf:=ho7.cell (i:=k) om;have ff:=ho7.free k;have hol:=ho7.lt;have hik:(k:Int)<(xs.length:Int)+1:=om;generalize o k=ok at cf;clear hk7 ha7 ho7 hdg;go_wp2;go_roundw
   case rel=>
    refine⟨k,om,rfl,UM.out.setCell _ (fun h=>absurd h (by have:=oO.out;have:=HA2.out.lt;have:=Ua.out.2;omega)),f',_,kP.other RY.out _ _ (by have:=oO.out;have:=HA2.out.lt;omega),
     dn.set FM.out k q' (congrArg (Value.int .u32) om),jV.out.step om (by rw [← ZX.out];exact Ae.out.pos) (by rw [← ZX.out];exact kF Uh.out) KG.out.lt KG.out.same (by rw [← ZX.out];exact KG.out.rest) (by rw [← ZX.out];exact KG.out.q)⟩
   simp [intOf]
end Go.Proofs.YtaiffmebphhdaaaGreat
