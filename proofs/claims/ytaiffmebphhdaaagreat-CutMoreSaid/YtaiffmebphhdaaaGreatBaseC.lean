/- The plain law of long division: the guess of a digit. The plain law of long division, joined: the window's guess, one digit, the start and the end. umpiragewide.shiftLeft, by less than 32 places. umpiragewide.shiftRight, by less than 32 places. umpiragewide.parts, by one digit. umpiragewide.parts, by more digits than one. -/
import Derived.Test.YtaiffmebphhdaaaGreatBaseB
import Derived.Deep.DeepCutAuto
import Derived.Deep.CutBlock
namespace Go.Proofs.YtaiffmebphhdaaaGreat
set_option maxRecDepth 1000000
set_option maxHeartbeats 16000000
set_option linter.unusedSimpArgs false
set_option linter.unusedVariables false
structure BL (v1 v2 V top u2 W P:Nat):Prop where
 hV:∃V',V=(v1*4294967296+v2)*P+V'∧V'<P
 hW:∃W',W=(top*4294967296+u2)*P+W'∧W'<P
 hu:u2<4294967296
 hv:0<v1
theorem wQ {a b P c:Nat}(h:a*P<b*P+c)(hc:c≤P):a≤b:=by
 apply Classical.byContradiction
 intro hn;have:(b+1)*P≤a*P:=Nat.mul_le_mul_right _ (by omega)
 rw [Nat.succ_mul]at this;omega
theorem BL.first {v1 v2 V top u2 W P q:Nat}(g:BL v1 v2 V top u2 W P)(hq:q*V≤W):q≤top/v1:=by
 obtain⟨⟨V',hV,hV'⟩,⟨W',hW,hW'⟩,hu,hv⟩:=g;rw [Nat.le_div_iff_mul_le hv];have h1:q*v1*(4294967296*P)≤q*V:=by
  rw [hV,Nat.add_mul,Nat.mul_add,Nat.mul_add];have:q*v1*(4294967296*P)=q*(v1*4294967296*P):=by simp only [Nat.mul_assoc]
  omega
 have h2:W<top*(4294967296*P)+4294967296*P:=by
  have h3:u2*P+P≤4294967296*P:=by
   rw [← Nat.succ_mul];exact Nat.mul_le_mul_right _ (by omega)
  rw [hW,Nat.add_mul,Nat.mul_assoc];omega
 exact wQ (Nat.lt_of_le_of_lt (Nat.le_trans h1 hq) h2) (Nat.le_refl _)
theorem BL.down {v1 v2 V top u2 W P q qh rh:Nat}(g:BL v1 v2 V top u2 W P)(hq:q*V≤W)(hr:rh+qh*v1=top)(hl:rh*4294967296+u2<qh*v2):q<qh:=by
 obtain⟨⟨V',hV,hV'⟩,⟨W',hW,hW'⟩,hu,hv⟩:=g
 apply Classical.byContradiction
 intro hn;have h0:qh*V≤W:=Nat.le_trans (Nat.mul_le_mul_right _ (by omega)) hq
 have h1:qh*(v1*4294967296+v2)*P≤qh*V:=by
  rw [hV,Nat.mul_add qh (_*P),←Nat.mul_assoc];omega
 have h2:qh*(v1*4294967296+v2)*P<(top*4294967296+u2)*P+P:=by omega
 have h3:=wQ h2 (Nat.le_refl _);rw [← hr,Nat.mul_add,Nat.add_mul,←Nat.mul_assoc]at h3;omega
theorem BL.close {v1 v2 V top u2 W P qh rh:Nat}(g:BL v1 v2 V top u2 W P)(hb:qh<4294967296)(hr:rh+qh*v1=top)(hl:qh*v2≤rh*4294967296+u2):qh*V<W+V:=by
 obtain⟨⟨V',hV,hV'⟩,⟨W',hW,hW'⟩,hu,hv⟩:=g;have h1:qh*(v1*4294967296+v2)≤top*4294967296+u2:=by
  rw [← hr,Nat.mul_add,Nat.add_mul,←Nat.mul_assoc];omega
 have h2:qh*(v1*4294967296+v2)*P≤(top*4294967296+u2)*P:=Nat.mul_le_mul_right _ h1;have h3:qh*V'≤qh*P:=Nat.mul_le_mul_left _ (by omega)
 have h4:qh*P+P≤4294967296*P:=by rw [← Nat.succ_mul];exact Nat.mul_le_mul_right _ (by omega)
 have h5:4294967296*P≤(v1*4294967296+v2)*P:=Nat.mul_le_mul_right _ (by omega)
 have h6:qh*V=qh*(v1*4294967296+v2)*P+qh*V':=by rw [hV,Nat.mul_add,←Nat.mul_assoc]
 have h7:(v1*4294967296+v2)*P≤V:=by omega
 omega
theorem Kn {V W q:Nat}(hV:0<V)(h1:q*V<W+V)(h2:W/V≤q):q=W/V∨q=W/V+1:=by
 have h3:q≤W/V+1:=by
  apply Classical.byContradiction
  intro hn;have h4:(W/V+2)*V≤q*V:=Nat.mul_le_mul_right _ (by omega)
  have h5:=Nat.lt_div_mul_add hV (a:=W);have h6:(W/V+2)*V=W/V*V+V+V:=by rw [Nat.add_mul,Nat.two_mul,Nat.add_assoc]
  omega
 omega
structure gX (f v f':Nat→Nat)(k q i c b:Nat):Prop where
 lt:∀p,p<i→f' (k+p)<4294967296
 same:∀p,¬(k≤p∧p<k+i)→f' p=f p
 clt:c<4294967296
 ble:b≤1
 val:dv (fun p=>f' (k+p)) i+q*dv v i=dv (fun p=>f (k+p)) i+4294967296^i*(c+b)
theorem gX.start (f v:Nat→Nat)(k q:Nat):gX f v f k q 0 0 0:=⟨fun p hp=>absurd hp (by omega),fun _ _=>rfl,by omega,by omega,by simp [dv]⟩
theorem gX.step {f v f':Nat→Nat}{k q i c b:Nat}(h:gX f v f' k q i c b){c1 b1 d t:Nat}(ht:t=c+q*v i)(hc:c1=t/4294967296)(hc2:c1<4294967296)(hd:d+t%4294967296+b=f (k+i)+4294967296*b1)(hdl:d<4294967296)(hb:b1≤1):
  gX f v (fun p=>if p=k+i then d else f' p) k q (i+1) c1 b1:=by
 refine⟨fun p hp=> ?_,fun p hp=> ?_,hc2,hb,?_⟩
 ·by_cases e:k+p=k+i
  ·simp only [e,if_true];exact hdl
  ·simp only [e,if_false];exact h.lt p (by omega)
 ·rw [if_neg (by omega)];exact h.same p (by omega)
 ·have hv:=h.val
  rw [dv,if_pos rfl,iE (f:=fun p=>if k+p=k+i then d else f' (k+p)) (g:=fun p=>f' (k+p)) fun p hp=>if_neg (by omega),dv,dv,Nat.pow_succ]
  have e:=Nat.div_add_mod t 4294967296;rw [← hc]at e;have e1:d+q*v i+(c+b)=f (k+i)+4294967296*(c1+b1):=by omega
  have e2:4294967296^i*(d+q*v i+(c+b))=4294967296^i*(f (k+i)+4294967296*(c1+b1)):=by rw [e1]
  rw [Nat.mul_add,Nat.mul_add (4294967296^i) d,Nat.mul_add (4294967296^i) (f (k+i)),←Nat.mul_assoc (4294967296^i) 4294967296]at e2;have e3:q*(4294967296^i*v i)=4294967296^i*(q*v i):=by rw [← Nat.mul_assoc,Nat.mul_comm q,Nat.mul_assoc]
  rw [Nat.mul_add q,e3];omega
theorem gX.top {f v f':Nat→Nat}{k q n c b:Nat}(h:gX f v f' k q n c b){d b1:Nat}(hd:d+c+b=f (k+n)+4294967296*b1)(hdl:d<4294967296):
  (∀p,p<n+1→(if k+p=k+n then d else f' (k+p))<4294967296)∧
  dv (fun p=>if k+p=k+n then d else f' (k+p)) (n+1)+q*dv v n=dv (fun p=>f (k+p)) (n+1)+4294967296^(n+1)*b1:=by
 refine⟨fun p hp=> ?_,?_⟩
 ·by_cases e:k+p=k+n
  ·rw [if_pos e];exact hdl
  ·rw [if_neg e];exact h.lt p (by omega)
 ·have hv:=h.val
  rw [dv,if_pos rfl,iE (f:=fun p=>if k+p=k+n then d else f' (k+p)) (g:=fun p=>f' (k+p)) fun p hp=>if_neg (by omega),dv,Nat.pow_succ]
  have e2:4294967296^n*(d+c+b)=4294967296^n*(f (k+n)+4294967296*b1):=by rw [hd]
  rw [Nat.mul_add,Nat.mul_add (4294967296^n) d,Nat.mul_add (4294967296^n) (f (k+n)),←Nat.mul_assoc (4294967296^n) 4294967296]at e2;rw [Nat.mul_add (4294967296^n) c]at hv;omega
structure jr (f v f':Nat→Nat)(k i c:Nat):Prop where
 lt:∀p,p<i→f' (k+p)<4294967296
 same:∀p,¬(k≤p∧p<k+i)→f' p=f p
 cle:c≤1
 val:dv (fun p=>f' (k+p)) i+4294967296^i*c=dv (fun p=>f (k+p)) i+dv v i
theorem jr.start (f v:Nat→Nat)(k:Nat):jr f v f k 0 0:=⟨fun p hp=>absurd hp (by omega),fun _ _=>rfl,by omega,by simp [dv]⟩
theorem jr.step {f v f':Nat→Nat}{k i c:Nat}(h:jr f v f' k i c)(hf:f (k+i)<4294967296)(hv:v i<4294967296){c1 d:Nat}(hd:d=(c+(f (k+i)+v i))%4294967296)(hc:c1=(c+(f (k+i)+v i))/4294967296):
  jr f v (fun p=>if p=k+i then d else f' p) k (i+1) c1:=by
 have hcl:=h.cle;refine⟨fun p hp=> ?_,fun p hp=> ?_,by omega,?_⟩
 ·by_cases e:k+p=k+i
  ·simp only [e,if_true];omega
  ·simp only [e,if_false];exact h.lt p (by omega)
 ·rw [if_neg (by omega)];exact h.same p (by omega)
 ·have hval:=h.val
  rw [dv,if_pos rfl,iE (f:=fun p=>if k+p=k+i then d else f' (k+p)) (g:=fun p=>f' (k+p)) fun p hp=>if_neg (by omega),dv,dv,Nat.pow_succ]
  have e:=Nat.div_add_mod (c+(f (k+i)+v i)) 4294967296;rw [← hd,←hc]at e;have e2:4294967296^i*(4294967296*c1+d)=4294967296^i*(c+(f (k+i)+v i)):=by rw [e]
  rw [Nat.mul_add,Nat.mul_add,Nat.mul_add,←Nat.mul_assoc]at e2;omega
theorem jr.top {f v f':Nat→Nat}{k n c W q:Nat}(h:jr f v f' k n c)(hf:f (k+n)<4294967296){d:Nat}(hd:d=(f (k+n)+c)%4294967296)(hV:0<dv v n)(hVl:dv v n<4294967296^n)
  (hD:dv (fun p=>f (k+p)) (n+1)+q*dv v n=W+4294967296^(n+1)) (hq:q=W/dv v n∨q=W/dv v n+1) (hfl:∀p,p<n+1→f (k+p)<4294967296):
  q=W/dv v n+1∧(∀p,p<n+1→(if k+p=k+n then d else f' (k+p))<4294967296)∧dv (fun p=>if k+p=k+n then d else f' (k+p)) (n+1)=W%dv v n:=by
 have hlt:=kr hfl;have hm:=Nat.div_add_mod W (dv v n);have hml:=Nat.mod_lt W hV;rw [Nat.mul_comm]at hm;have hq1:q=W/dv v n+1:=by
  rcases hq with h1 | h1
  ·rw [h1]at hD;omega
  ·exact h1
 have hlt3:∀p,p<n+1→(if k+p=k+n then d else f' (k+p))<4294967296:=fun p hp=>by
  by_cases e:k+p=k+n
  ·rw [if_pos e];omega
  ·rw [if_neg e];exact h.lt p (by omega)
 refine⟨hq1,hlt3,?_⟩;have h3:=kr hlt3;have hval:=h.val;have hcl:=h.cle;rw [hq1,Nat.succ_mul]at hD;obtain⟨e,he,he1⟩:∃e,f (k+n)+c=d+4294967296*e∧e≤1:=⟨(f (k+n)+c)/4294967296,by omega,by omega⟩
 have e2:4294967296^n*(f (k+n)+c)=4294967296^n*(d+4294967296*e):=by rw [he]
 rw [Nat.mul_add,Nat.mul_add,←Nat.mul_assoc]at e2;have e3:dv (fun p=>if k+p=k+n then d else f' (k+p)) (n+1)=dv (fun p=>f' (k+p)) n+4294967296^n*d:=by
  rw [dv,if_pos rfl,iE (f:=fun p=>if k+p=k+n then d else f' (k+p)) (g:=fun p=>f' (k+p)) fun p hp=>if_neg (by omega)]
 rw [e3]at h3 ⊢;rw [dv]at hD;rw [Nat.pow_succ]at h3 hD hlt
 rcases(show e=0∨e=1 by omega)with rfl | rfl
 ·omega
 ·omega
structure mF (X V n L k:Nat)(f o:Nat→Nat):Prop where
 lt:∀p,p<L→f p<4294967296
 olt:∀p,p<L→o p<4294967296
 zero:∀p,p<k→o p=0
 val:dv o L*V+dv f L=X
 small:dv f L<V*4294967296^k
theorem mF.window {X V n L k:Nat}{f o:Nat→Nat}(h:mF X V n L (k+1) f o)(hL:k+n+1≤L)(hV:V<4294967296^n):
  dv f L=dv f k+4294967296^k*dv (fun p=>f (k+p)) (n+1)∧dv (fun p=>f (k+p)) (n+1)<V*4294967296∧∀p,k+n+1≤p→p<L→f p=0:=by
 have hs:=h.small;have h1:V*4294967296^(k+1)<4294967296^n*4294967296^(k+1):=Nat.mul_lt_mul_of_pos_right hV (Nat.pow_pos (by omega))
 rw [← Nat.pow_add,show n+(k+1)=k+n+1 by omega]at h1
 have h2:=rA f (k+n+1) (L-(k+n+1));rw [show k+n+1+(L-(k+n+1))=L by omega]at h2
 have hz:dv (fun i=>f (k+n+1+i)) (L-(k+n+1))=0:=by
  apply Classical.byContradiction
  intro hne;have:4294967296^(k+n+1)*1≤4294967296^(k+n+1)*dv (fun i=>f (k+n+1+i)) (L-(k+n+1)):=Nat.mul_le_mul_left _ (by omega)
  omega
 have hz':∀p,k+n+1≤p→p<L→f p=0:=by
  have:∀m (g:Nat→Nat),dv g m=0→∀i,i<m→g i=0:=by
   intro m g
   induction m with
   | zero=>intro _ i hi;omega
   | succ m ih=>
    intro h0 i hi;rw [dv]at h0;have hp:0<4294967296^m:=Nat.pow_pos (by omega)
    by_cases e:i=m
    ·subst e
     have:4294967296^i*g i=0:=by omega
     rcases Nat.mul_eq_zero.1 this with h | h
     ·omega
     ·exact h
    ·exact ih (by omega) i (by omega)
  intro p h3 h4;have:=this _ _ hz (p-(k+n+1)) (by omega)
  rwa [show k+n+1+(p-(k+n+1))=p by omega]at this
 rw [hz,Nat.mul_zero,Nat.add_zero,show k+n+1=k+(n+1) by omega,rA]at h2
 refine⟨h2,?_,hz'⟩;have h5:4294967296^k*dv (fun p=>f (k+p)) (n+1)<4294967296^k*(V*4294967296):=by
  have:V*4294967296^(k+1)=4294967296^k*(V*4294967296):=by rw [Nat.pow_succ];simp only [Nat.mul_assoc,Nat.mul_comm,Nat.mul_left_comm]
  omega
 exact Nat.lt_of_mul_lt_mul_left h5
theorem mF.step {X V n L k:Nat}{f o f':Nat→Nat}(h:mF X V n L (k+1) f o)(hL:k+n+1≤L)(hV0:0<V)(hV:V<4294967296^n)(hlt:∀p,p<n+1→f' (k+p)<4294967296)(hsame:∀p,¬(k≤p∧p<k+(n+1))→f' p=f p)
  (hr:dv (fun p=>f' (k+p)) (n+1)=dv (fun p=>f (k+p)) (n+1)%V) {q:Nat} (hq:q=dv (fun p=>f (k+p)) (n+1)/V):mF X V n L k f' fun p=>if p=k then q else o p:=by
 obtain⟨h1,h2,h3⟩:=h.window hL hV;generalize dv (fun p=>f (k+p)) (n+1)=W at*
 have hqB:q<4294967296:=by rw [hq];exact Nat.div_lt_of_lt_mul h2
 have hlt':∀p,p<L→f' p<4294967296:=fun p hp=>by
  by_cases e:k≤p∧p<k+(n+1)
  ·have:=hlt (p-k) (by omega)
   rwa [show k+(p-k)=p by omega]at this
  ·rw [hsame p e];exact h.lt p hp
 have hf':dv f' L=dv f k+4294967296^k*(W%V):=by
  have e1:=rA f' (k+(n+1)) (L-(k+(n+1)));rw [show k+(n+1)+(L-(k+(n+1)))=L by omega]at e1
  rw [e1,rA f' k (n+1),hr,iE (f:=f') (g:=f) fun i hi=>hsame i (by omega)]
  have e2:dv (fun i=>f' (k+(n+1)+i)) (L-(k+(n+1)))=0:=by
   have:=rY (f:=fun i=>f' (k+(n+1)+i)) (n:=0) (L-(k+(n+1))) fun i _ hi=>by
    rw [hsame _ (by omega)];exact h3 _ (by omega) (by omega)
   rw [Nat.zero_add]at this;rw [this];rfl
  rw [e2,Nat.mul_zero,Nat.add_zero]
 have ho:=D6 o k q L (by omega)
 rw [h.zero k (by omega),Nat.mul_zero,Nat.add_zero]at ho
 refine⟨hlt',fun p hp=> ?_,fun p hp=> ?_,?_,?_⟩
 ·by_cases e:p=k
  ·simp only [e,if_true];exact hqB
  ·simp only [e,if_false];exact h.olt p hp
 ·rw [if_neg (by omega)];exact h.zero p (by omega)
 ·have hv:=h.val
  have hm:=Nat.div_add_mod W V;rw [← hq]at hm;rw [ho,hf',Nat.add_mul];have e:4294967296^k*q*V+4294967296^k*(W%V)=4294967296^k*W:=by
   rw [Nat.mul_assoc,←Nat.mul_add,Nat.mul_comm q V,hm]
  omega
 ·rw [hf']
  have h4:dv f k<4294967296^k:=kr fun i hi=>h.lt i (by omega)
  have h5:4294967296^k*(W%V+1)≤4294967296^k*V:=Nat.mul_le_mul_left _ (Nat.mod_lt W hV0);rw [Nat.mul_add,Nat.mul_comm _ V]at h5;omega
theorem Uo (k:Nat):0<4294967296^k:=Nat.pow_pos (by omega)
theorem Uq {v f:Nat→Nat}{n k:Nat}(hn:2≤n)(hv:∀i,i<n→v i<4294967296)(hf:∀p,p<n+1→f (k+p)<4294967296)(hv1:0<v (n-1)):
  BL (v (n-1)) (v (n-2)) (dv v n) (f (k+n)*4294967296+f (k+n-1)) (f (k+n-2)) (dv (fun p=>f (k+p)) (n+1)) (4294967296^(n-2)):=by
 obtain⟨m,rfl⟩:∃m,n=m+2:=⟨n-2,by omega⟩
 refine⟨⟨dv v m,?_,kr fun i hi=>hv i (by omega)⟩,⟨dv (fun p=>f (k+p)) m,?_,kr fun i hi=>hf i (by omega)⟩,?_,hv1⟩
 ·show dv v (m+1+1)=_
  rw [dv,dv,show m+2-1=m+1 from by omega,show m+2-2=m from by omega,Nat.pow_succ]
  have:(v (m+1)*4294967296+v m)*4294967296^m=4294967296^m*v m+4294967296^m*4294967296*v (m+1):=by
   rw [Nat.add_mul,Nat.mul_comm (v m),Nat.mul_comm (v (m+1)*4294967296),Nat.mul_comm (v (m+1)),←Nat.mul_assoc,Nat.add_comm]
  omega
 ·show dv _ (m+1+1+1)=_
  rw [dv,dv,dv,show k+(m+2)-1=k+(m+1)from by omega,show k+(m+2)-2=k+m from by omega,show m+2-2=m from by omega,show m+1+1=m+2 from rfl,Nat.pow_succ 4294967296 (m+1),Nat.pow_succ]
  have:((f (k+(m+2))*4294967296+f (k+(m+1)))*4294967296+f (k+m))*4294967296^m=4294967296^m*f (k+m)+4294967296^m*4294967296*f (k+(m+1))+4294967296^m*4294967296*4294967296*f (k+(m+2)):=by
   generalize 4294967296^m=P;rw [Nat.add_mul,Nat.add_mul,Nat.add_mul,Nat.mul_comm (f (k+m)),Nat.mul_assoc (f (k+(m+1))),Nat.mul_assoc (f (k+(m+2))),Nat.mul_assoc (f (k+(m+2))),Nat.mul_comm (f (k+(m+1))),Nat.mul_comm (f (k+(m+2))),Nat.mul_comm 4294967296 P,Nat.mul_comm (4294967296*4294967296) P,←Nat.mul_assoc P];omega
  rw [this];omega
 ·have:=hf (m+2-2) (by omega)
  rwa [show k+(m+2-2)=k+(m+2)-2 from by omega]at this
theorem Ns {v f:Nat→Nat}{n k:Nat}(hn:1≤n)(hv:∀i,i<n→v i<4294967296)(hW:dv (fun p=>f (k+p)) (n+1)<dv v n*4294967296):f (k+n)≤v (n-1):=by
 apply Classical.byContradiction
 intro hne;obtain⟨m,rfl⟩:∃m,n=m+1:=⟨n-1,by omega⟩
 simp only [Nat.add_sub_cancel]at hne;have h1:dv v (m+1)<4294967296^m*(v m+1):=by
  rw [dv,Nat.mul_add];have:=kr (f:=v) (k:=m) fun i hi=>hv i (by omega)
  omega
 have h2:4294967296^(m+1)*f (k+(m+1))≤dv (fun p=>f (k+p)) (m+1+1):=by
  rw [dv];omega
 have h3:4294967296^(m+1)*(v m+1)≤4294967296^(m+1)*f (k+(m+1)):=Nat.mul_le_mul_left _ (by omega)
 rw [Nat.pow_succ]at h3 h2;have h4:4294967296^m*(v m+1)*4294967296=4294967296^m*4294967296*(v m+1):=Nat.mul_right_comm _ _ _;omega
def AA (v f:Nat→Nat)(n k q:Nat):Prop:=q<4294967296∧(q=dv (fun p=>f (k+p)) (n+1)/dv v n∨q=dv (fun p=>f (k+p)) (n+1)/dv v n+1)
structure mW (v f:Nat→Nat)(n k q r:Nat):Prop where
 sum:r+q*v (n-1)=f (k+n)*4294967296+f (k+n-1)
 ge:dv (fun p=>f (k+p)) (n+1)/dv v n≤q
 rlt:r<4294967296
structure Z7 (v f:Nat→Nat)(n k:Nat):Prop where
 hn:2≤n
 hv:∀i,i<n→v i<4294967296
 hf:∀p,p<n+1→f (k+p)<4294967296
 hv1:0<v (n-1)
 hW:dv (fun p=>f (k+p)) (n+1)<dv v n*4294967296
namespace Z7
variable {v f:Nat→Nat} {n k:Nat} (h:Z7 v f n k)
include h
theorem guess:BL (v (n-1)) (v (n-2)) (dv v n) (f (k+n)*4294967296+f (k+n-1)) (f (k+n-2)) (dv (fun p=>f (k+p)) (n+1)) (4294967296^(n-2)):=Uq h.hn h.hv h.hf h.hv1
theorem top:f (k+n)≤v (n-1):=Ns (by have:=h.hn;omega) h.hv h.hW
theorem pos:0<dv v n:=by
 have hn:=h.hn;obtain⟨m,rfl⟩:∃m,n=m+1:=⟨n-1,by omega⟩
 have h1:=h.hv1;rw [dv];have:0<4294967296^m*v (m+1-1):=Nat.mul_pos (Uo m) h1;rw [show m+1-1=m from rfl]at this
 omega
theorem start:mW v f n k ((f (k+n)*4294967296+f (k+n-1))/v (n-1)) ((f (k+n)*4294967296+f (k+n-1))%v (n-1)):=by
 refine⟨?_,?_,?_⟩
 ·rw [Nat.mul_comm ((f (k+n)*4294967296+f (k+n-1))/v (n-1))];exact Nat.mod_add_div _ _
 ·exact h.guess.first (by rw [Nat.mul_comm];exact Nat.mul_div_le _ _)
 ·exact Nat.lt_trans (Nat.mod_lt _ h.hv1) (h.hv _ (by have:=h.hn;omega))
theorem qlt:dv (fun p=>f (k+p)) (n+1)/dv v n<4294967296:=Nat.div_lt_of_lt_mul h.hW
theorem down {q r:Nat}(g:mW v f n k q r)(hb:4294967296≤q∨r*4294967296+f (k+n-2)<q*v (n-2)):
  1≤q∧(r+v (n-1))+(q-1)*v (n-1)=f (k+n)*4294967296+f (k+n-1)∧dv (fun p=>f (k+p)) (n+1)/dv v n≤q-1:=by
 have h1:dv (fun p=>f (k+p)) (n+1)/dv v n<q:=by
  rcases hb with hb | hb
  ·exact dY h.qlt hb
  ·exact h.guess.down (by rw [Nat.mul_comm];exact Nat.mul_div_le _ _) g.sum hb
 have h0:1≤q:=Nat.lt_of_le_of_lt (Nat.zero_le _) h1;refine⟨h0,?_,Nat.le_sub_one_of_lt h1⟩;have h3:=g.sum;have h2:v (n-1)≤q*v (n-1):=Nat.le_mul_of_pos_left _ h0;rw [Nat.sub_mul,Nat.one_mul];generalize q*v (n-1)=z at *;omega
theorem next {q r:Nat}(g:mW v f n k q r)(hb:4294967296≤q∨r*4294967296+f (k+n-2)<q*v (n-2))(hr:r+v (n-1)<4294967296):mW v f n k (q-1) (r+v (n-1)):=
 ⟨(h.down g hb).2.1,(h.down g hb).2.2,hr⟩
theorem stand {q r:Nat}(g:mW v f n k q r)(hq:q<4294967296)(hl:q*v (n-2)≤r*4294967296+f (k+n-2)):AA v f n k q:=
 ⟨hq,Kn h.pos (h.guess.close hq g.sum hl) g.ge⟩
theorem over {q r:Nat}(g:mW v f n k q r)(hb:4294967296≤q∨r*4294967296+f (k+n-2)<q*v (n-2))(hr:4294967296≤r+v (n-1)):AA v f n k (q-1):=by
 obtain⟨h1,h2,h3⟩:=h.down g hb;have ht:=h.top;have hu:=h.hf (n-1) (by have:=h.hn;omega)
 rw [show k+(n-1)=k+n-1 from by have:=h.hn;omega]at hu
 have hv2:=h.hv (n-2) (by have:=h.hn;omega)
 have hq:q-1<4294967296:=by
  apply Classical.byContradiction
  intro hn;have h4:4294967296*v (n-1)≤(q-1)*v (n-1):=Nat.mul_le_mul_right _ (by omega)
  have h5:f (k+n)*4294967296≤v (n-1)*4294967296:=Nat.mul_le_mul_right _ ht;omega
 refine⟨hq,Kn h.pos (h.guess.close hq h2 ?_) h3⟩;have h6:(q-1)*v (n-2)≤4294967296*4294967296:=Nat.mul_le_mul (by omega) (by omega)
 have h7:4294967296*4294967296≤(r+v (n-1))*4294967296:=Nat.mul_le_mul_right _ hr;omega
end Z7
structure Digit (v f f':Nat→Nat)(n k q:Nat):Prop where
 q:q=dv (fun p=>f (k+p)) (n+1)/dv v n
 lt:∀p,p<n+1→f' (k+p)<4294967296
 same:∀p,¬(k≤p∧p<k+(n+1))→f' p=f p
 rest:dv (fun p=>f' (k+p)) (n+1)=dv (fun p=>f (k+p)) (n+1)%dv v n
theorem Ko {D q V W:Nat}(hV:0<V)(h:D+q*V=W)(hq:q=W/V∨q=W/V+1):q=W/V∧D=W%V:=by
 have h1:q≤W/V:=(Nat.le_div_iff_mul_le hV).2 (by omega)
 have h2:q=W/V:=by omega
 refine⟨h2,?_⟩;have:=Nat.div_add_mod W V;rw [← h2,Nat.mul_comm]at this;omega
theorem Kq {v f f1:Nat→Nat}{n k q c b d:Nat}(hw:Z7 v f n k)(hs:AA v f n k q)(h:gX f v f1 k q n c b)(hd:d+c+b=f (k+n))(hdl:d<4294967296):
  Digit v f (fun p=>if p=k+n then d else f1 p) n k q:=by
 obtain⟨h1,h2⟩:=h.top (d:=d) (b1:=0) (by rw [← h.same (k+n) (by omega)]at hd;rw [← h.same (k+n) (by omega)];omega) hdl
 rw [Nat.mul_zero,Nat.add_zero]at h2;obtain⟨h3,h4⟩:=Ko hw.pos h2 hs.2;refine⟨h3,h1,fun p hp=> ?_,h4⟩
 rw [if_neg (by omega)]
 exact h.same p (by omega)
theorem Nt {v f f1 f2:Nat→Nat}{n k q c b d c2 d2:Nat}(hw:Z7 v f n k)(hs:AA v f n k q)(h:gX f v f1 k q n c b)(hd:d+c+b=f (k+n)+4294967296)(hdl:d<4294967296)
  (hb:jr (fun p=>if p=k+n then d else f1 p) v f2 k n c2) (hd2:d2=(d+c2)%4294967296):1≤q∧Digit v f (fun p=>if p=k+n then d2 else f2 p) n k (q-1):=by
 obtain⟨h1,h2⟩:=h.top (d:=d) (b1:=1) (by omega) hdl
 have hV:=hw.pos;obtain⟨h3,h4,h5⟩:=hb.top (W:=dv (fun p=>f (k+p)) (n+1)) (q:=q) (d:=d2) (by simp only [if_true];exact hdl) (by simp only [if_true];exact hd2) hV (kr hw.hv) (by rw [Nat.mul_one]at h2;exact h2) hs.2 h1
 refine⟨by rw [h3];exact Nat.le_add_left _ _,by rw [h3];rfl,h4,fun p hp=> ?_,h5⟩
 rw [if_neg (by omega),hb.same p (by omega),if_neg (by omega)]
 exact h.same p (by omega)
theorem Nu {v f f1:Nat→Nat}{n k q c b d:Nat}(h:gX f v f1 k q n c b)(hd:d+c+b=f (k+n)+4294967296)(hdl:d<4294967296):1≤q:=by
 obtain⟨h1,h2⟩:=h.top (d:=d) (b1:=1) (by omega) hdl
 have h3:=kr h1
 rcases Nat.eq_zero_or_pos q with h0 | h0
 ·rw [h0,Nat.zero_mul,Nat.mul_one,Nat.add_zero]at h2
  rw [h2]at h3;exact absurd h3 (Nat.not_lt.2 (Nat.le_add_left _ _))
 ·exact h0
theorem mF.begin {xl yl s x y:Nat}{f:Nat→Nat}(hx:x<4294967296^xl)(hy:4294967296^(yl-1)≤y)(hl:yl≤xl)(hy1:1≤yl)(hf:∀i,i<xl+1→f i<4294967296)(hv:dv f (xl+1)=x*2^s):
  mF (x*2^s) (y*2^s) yl (xl+1) (xl+1-yl) f fun _=>0:=by
 refine⟨hf,fun _ _=>by omega,fun _ _=>rfl,?_,?_⟩
 ·have:=rY (f:=fun _=>0) (n:=0) (xl+1) fun _ _ _=>rfl
  rw [Nat.zero_add]at this;rw [this,hv];simp [dv]
 ·rw [hv]
  have hs:0<2^s:=Nat.pow_pos (by omega)
  have h1:4294967296^xl≤y*4294967296^(xl+1-yl):=by
   have:4294967296^xl=4294967296^(yl-1)*4294967296^(xl+1-yl):=by rw [← Nat.pow_add];congr 1;omega
   rw [this];exact Nat.mul_le_mul_right _ hy
  have h2:x*2^s<y*4294967296^(xl+1-yl)*2^s:=Nat.mul_lt_mul_of_pos_right (by omega) hs
  rwa [Nat.mul_assoc,Nat.mul_comm (4294967296^_),←Nat.mul_assoc]at h2
theorem mF.fin {L n s x y:Nat}{f o:Nat→Nat}(h:mF (x*2^s) (y*2^s) n L 0 f o)(hy:y*2^s<4294967296^n)(hn:n≤L):dv o L=x/y∧dv f n/2^s=x%y:=by
 have hs:0<2^s:=Nat.pow_pos (by omega)
 have h1:=h.val;have h2:=h.small;rw [Nat.pow_zero,Nat.mul_one]at h2;have h3:dv f L=dv f n:=by
  have:=rA f n (L-n);rw [show n+(L-n)=L by omega]at this
  rcases Nat.eq_zero_or_pos (dv (fun i=>f (n+i)) (L-n))with h0 | h0
  ·rw [h0]at this;omega
  ·have:4294967296^n*1≤4294967296^n*dv (fun i=>f (n+i)) (L-n):=Nat.mul_le_mul_left _ h0
   omega
 have e1:dv o L=x*2^s/(y*2^s):=by
  rw [← h1,Nat.mul_comm (dv o L),Nat.mul_add_div (by omega),Nat.div_eq_of_lt h2,Nat.add_zero]
 have e2:dv f L=x*2^s%(y*2^s):=by
  rw [← h1,Nat.mul_comm (dv o L),Nat.mul_add_mod,Nat.mod_eq_of_lt h2]
 refine⟨by rw [e1,Nat.mul_div_mul_right _ _ hs],?_⟩
 rw [← h3,e2,Nat.mul_mod_mul_right,Nat.mul_div_cancel _ hs]
open Go.ChangeShapes Go.WideShapes Go.RowKit
def Ur (n:Nat)(P:(Nat→Nat)→Prop)(w:World)(e:Ending)(w':World):Prop:=
 ∃g f,e= .returned (.slice (some ⟨g,0,none⟩) n n)∧w.heap.size≤g∧Keep au w w'∧cO w' g n f∧(∀i,i<n→f i<4294967296)∧P f
structure IW (xs:List Nat)(T k:Nat)(f:Nat→Nat):Prop where
 lt:∀p,p<xs.length+1→f p<4294967296
 zero:∀p,k<p→p<xs.length+1→f p=0
 top:f k<T
 val:dv f (k+1)=dv (fun i=>xs.getD i 0) k*T
theorem iC {s:Nat}(hs:s<32):2^s*2^(32-s)=4294967296∧0<2^s∧2^s≤2147483648:=by
 refine⟨by rw [← Nat.pow_add,show s+(32-s)=32 by omega],Nat.pow_pos (by omega),?_⟩
 exact Nat.le_trans (Nat.pow_le_pow_right (by omega) (show s≤31 by omega)) (by decide)
theorem IW.step {xs:List Nat}{s k:Nat}{f:Nat→Nat}(hs:s<32)(h:IW xs (2^s) k f)(hk:k<xs.length)(hx:xs.getD k 0<4294967296):
  IW xs (2^s) (k+1) fun p=>if p=k+1 then xs.getD k 0*2^s/4294967296 else if p=k then f k+xs.getD k 0*2^s%4294967296 else f p:=by
 obtain⟨hT,hT0,hT1⟩:=iC hs;have hval:=h.val;have htop:=h.top;have hX:dv (fun i=>xs.getD i 0) (k+1)=dv (fun i=>xs.getD i 0) k+4294967296^k*xs.getD k 0:=rfl
 generalize xs.getD k 0=x at *;generalize hTT:2^s=T at *;generalize 2^(32-s)=S at *;have h1:x*T/4294967296<T:=by
  rw [Nat.div_lt_iff_lt_mul (by omega),Nat.mul_comm T]
  exact Nat.mul_lt_mul_of_pos_right hx hT0
 have h2:f k+x*T%4294967296<4294967296:=by
  rw [← hT,Nat.mul_comm x T,Nat.mul_mod_mul_left,hT];have hS:0<S:=by
   rcases Nat.eq_zero_or_pos S with h | h
   ·rw [h]at hT;omega
   ·exact h
  have h3:T*(x%S+1)≤T*S:=Nat.mul_le_mul_left _ (Nat.mod_lt x hS);rw [Nat.mul_add]at h3;omega
 refine⟨fun p hp=> ?_,fun p h3 h4=> ?_,by simpa using h1,?_⟩
 ·by_cases e1:p=k+1
  ·simp only [e1,if_true];omega
  ·by_cases e2:p=k
   ·simp only [e1,e2,if_true,if_false];simp;exact h2
   ·simp only [e1,e2,if_false];exact h.lt p hp
 ·rw [if_neg (by omega),if_neg (by omega)];exact h.zero p (by omega) h4
 ·have e:=Nat.div_add_mod (x*T) 4294967296
  rw [dv,if_pos rfl,dv,if_neg (by omega),if_pos rfl,iE (f:=fun p=>if p=k+1 then _ else if p=k then _ else f p) (g:=f) fun i hi=>by rw [if_neg (by omega),if_neg (by omega)]]
  rw [dv]at hval;have e2:4294967296^k*(4294967296*(x*T/4294967296)+x*T%4294967296)=4294967296^k*(x*T):=by rw [e]
  rw [Nat.mul_add,←Nat.mul_assoc]at e2;rw [Nat.pow_succ,Nat.mul_add,hX,Nat.add_mul,Nat.mul_assoc (4294967296^k) x T];omega
theorem Nv {s a v:Nat}(hs:s<32)(ha:a<2^s)(hv:2^s∣v)(hv2:v<4294967296)(ha2:a<4294967296):bits .or .u32 (a:Int) (v:Int)=((a+v:Nat):Int):=by
 obtain⟨c,rfl⟩:=hv;have h:=Nat.shiftLeft_add_eq_or_of_lt ha c;rw [Nat.shiftLeft_eq]at h;rw [u32_or_nat _ _ ha2 hv2,Nat.or_comm,Nat.mul_comm (2^s) c,←h]
 congr 1
 omega
theorem wR (w:World)(vx:Value)(xs:List Nat)(s:Nat)(hx:dW w vx xs)(hlx:xs.length≤200000)(hs:s<32):
  Calls Tryz.prog 167 #[vx,.int .i64 s] w (Ur (xs.length+1) (fun f=>dv f (xs.length+1)=dval xs*2^s) w):=by
 have HX:=zh hx;obtain⟨gx,cx,rfl⟩:=hx.form;clear hx;obtain⟨i0,hi0,hz0,hs0,hb0⟩:=info_parts iT;obtain⟨w2,hr2,ho2,hg2⟩:=run_make_full (P:=Tryz.prog) w w.heap.size 123 166 i0 (.int .u32 0) 1 Tryz.underlying123 hi0 hz0 hs0 .i64 .i64 (xs.length+1) (by rw [hb0];omega) (by unfold maxLen;omega) (by omega)
 rw [show((xs.length+1:Nat):Int)=(xs.length:Int)+1 from by omega]at hr2
 obtain⟨go,hgo⟩:∃go,go=w.heap.size:=⟨_,rfl⟩;rw [← hgo]at hr2 ho2;have P2:cO w2 go (xs.length+1) (fun _=>0):=eY ho2 fun i hi=>je rfl _ i hi
 have L2:Keep au w w2:=Keep.of_below (cK hg2 w.heap.size (Nat.le_refl _) (by simp)) (Nat.le_refl _)
 have Io:=zh P2;have HL2:=zh L2;have oK:=zh hgo;clear ho2 hg2 P2 L2 hgo;have hd:(s:Int)/32=0:=by omega
 have hm:(s:Int)%32=s:=by omega
 go_enter Tryz.func167,Tryz.ntmps167;go_wp2;clear hr2;obtain⟨hTS,hT0,hT1⟩:=iC hs;have m64:min s 64=s:=by omega
 go_loopw [18] (fun c wr=>∃k:Nat,k≤xs.length∧c= .int .i64 k∧Keep au w wr∧∃f,cO wr go (xs.length+1) f∧IW xs (2^s) k f) (fun c _=>(xs.length-intOf c).toNat)
 case atStart=>exact⟨0,by omega,rfl,HL2.out,fun _=>0,Io.out,fun _ _=>by omega,fun _ _ _=>rfl,hT0,by simp [dv]⟩
 case round=>
  obtain⟨k,hk,rfl,hkp,f,har,hinv⟩:=hrel;have nM:=zh hkp;have rC:=zh har;have jG:=zh hinv;have hgl:=har.lt
  by_cases hkl:k<xs.length
  ·have hlt:(k:Int)<(xs.length:Int):=by omega
   have hlt1:(k:Int)<(xs.length:Int)+1:=by omega
   have hlt2:(k:Int)+1<(xs.length:Int)+1:=by omega
   obtain⟨_,_,hv,_,_,hg,hcx,hbx⟩:=HX.out.open
   cases hv
   have cx0:=hcx _ hkp k hkl;have bx0:=hbx k;have cf0:=har.cell (i:=k) (by omega)
   have cf1:=har.cell (i:=k+1) (by omega)
   have hf0:=har.free k;have hf1:=har.free (k+1);have HST:=zh (hinv.step hs hkl bx0);have htop:=hinv.top;have hfl:=hinv.lt k (by omega)
   have hxT:xs.getD k 0*2^s≤4294967295*2147483648:=Nat.mul_le_mul (by omega) hT1
   have HOR:Hid (bits .or .u32 (f k:Int) ((xs.getD k 0*2^s%4294967296:Nat):Int)=((f k+xs.getD k 0*2^s%4294967296:Nat):Int)):=zh (Nv hs htop (by
    rw [← hTS,Nat.mul_comm (xs.getD k 0),Nat.mul_mod_mul_left];exact Nat.dvd_mul_right _ _) (by omega) hfl)
   clear hcx hbx hkp har hinv htop;generalize xs.getD k 0=x at *;generalize f k=fk at *;generalize f (k+1)=fk1 at cf1;have hi1:0≤(x:Int)*(2:Int)^s:=by
    have:(x:Int)*(2:Int)^s=((x*2^s:Nat):Int):=by simp
    omega
   have hi2:(x:Int)*(2:Int)^s≤9223372036854775807:=by
    have:(x:Int)*(2:Int)^s=((x*2^s:Nat):Int):=by simp
    omega
   go_wp2;go_roundw
   case rel=>
    have q1:(x:Int)*2^s%4294967296=((x*2^s%4294967296:Nat):Int):=by simp
    have q2:(x:Int)*2^s/4294967296=((x*2^s/4294967296:Nat):Int):=by simp
    exact⟨k+1,by omega,by go_num,(nM.out.setCell _ (fun h=>absurd h (by have:=oK.out;omega))).setCell _ (fun h=>absurd h (by have:=oK.out;omega)),_,
     cO.set (cO.set rC.out k (fk+x*2^s%4294967296) (congrArg (Value.int .u32) (by rw [q1];exact HOR.out))) (k+1) (x*2^s/4294967296) (congrArg (Value.int .u32) q2),HST.out⟩
   case measure=>simp [intOf];omega
  ·have hlt:¬(k:Int)<(xs.length:Int):=by omega
   obtain rfl:k=xs.length:=by omega
   clear hkp har hinv;go_wp2;go_ret;exact⟨go,f,rfl,by have:=oK.out;omega,nM.out,rC.out,jG.out.lt,by show dv f (xs.length+1)=_;rw [jG.out.val,mR xs _ (Nat.le_refl _)]⟩
structure xL (xs:List Nat)(T k:Nat)(f:Nat→Nat):Prop where
 lt:∀p,p<k→f p<4294967296
 val:T*dv f k+xs.getD 0 0%T=dv (fun i=>xs.getD i 0) k+4294967296^k*(xs.getD k 0%T)
theorem xL.step {xs:List Nat}{s k:Nat}{f:Nat→Nat}(hs:s<32)(h:xL xs (2^s) k f)(hx:xs.getD k 0<4294967296):
  xL xs (2^s) (k+1) fun p=>if p=k then xs.getD k 0/2^s+xs.getD (k+1) 0%2^s*2^(32-s)else f p:=by
 obtain⟨hT,hT0,hT1⟩:=iC hs;have hval:=h.val;have hX:dv (fun i=>xs.getD i 0) (k+1)=dv (fun i=>xs.getD i 0) k+4294967296^k*xs.getD k 0:=rfl
 generalize 2^s=T at *;generalize 2^(32-s)=S at *;have hm1:=Nat.mod_lt (xs.getD (k+1) 0) hT0;have hd1:=Nat.div_add_mod (xs.getD k 0) T;generalize hr1:xs.getD (k+1) 0%T=r1 at *;have hdl:xs.getD k 0/T<S:=by
  rw [Nat.div_lt_iff_lt_mul hT0,Nat.mul_comm,hT];exact hx
 generalize xs.getD k 0/T=q at *;generalize xs.getD k 0%T=r0 at *;refine⟨fun p hp=> ?_,?_⟩
 ·by_cases e:p=k
  ·simp only [e,if_true]
   have:(r1+1)*S≤T*S:=Nat.mul_le_mul_right _ hm1;rw [Nat.succ_mul]at this;omega
  ·simp only [e,if_false];exact h.lt p (by omega)
 ·rw [dv,if_pos rfl,iE (f:=fun p=>if p=k then _ else f p) (g:=f) fun i hi=>if_neg (by omega),hX,Nat.pow_succ,Nat.mul_add]
  have e1:T*(4294967296^k*(q+r1*S))=4294967296^k*(T*q)+4294967296^k*4294967296*r1:=by
   rw [Nat.mul_left_comm,←hT,Nat.mul_add,Nat.mul_add]
   congr 1
   simp only [Nat.mul_assoc,Nat.mul_comm,Nat.mul_left_comm]
  have e2:4294967296^k*(T*q+r0)=4294967296^k*xs.getD k 0:=by rw [hd1]
  rw [Nat.mul_add]at e2;rw [e1,hr1];generalize 4294967296^k*4294967296*r1=z1 at *;generalize 4294967296^k*(T*q)=z2 at *;generalize 4294967296^k*r0=z3 at *;generalize 4294967296^k*xs.getD k 0=z4 at *;generalize T*dv f k=z5 at *;omega
theorem xL.fin {xs:List Nat}{s:Nat}{f:Nat→Nat}(hs:s<32)(h:xL xs (2^s) xs.length f):dv f xs.length=dval xs/2^s:=by
 have hv:=h.val;obtain⟨_,hT0,_⟩:=iC hs;have h0:xs.getD xs.length 0=0:=by simp
 rw [h0,Nat.zero_mod,Nat.mul_zero,Nat.add_zero,mR xs _ (Nat.le_refl _)]at hv;have hm:=Nat.mod_lt (xs.getD 0 0) hT0;generalize xs.getD 0 0%2^s=r at *;rw [← hv,Nat.mul_add_div hT0,Nat.div_eq_of_lt hm,Nat.add_zero]
theorem Us {s x y:Nat}(hs:s<32)(hs0:0<s)(hx:x<4294967296):bits .or .u32 ((x/2^s:Nat):Int) ((y*2^(32-s)%4294967296:Nat):Int)=((x/2^s+y%2^s*2^(32-s):Nat):Int):=by
 obtain⟨hT,hT0,hT1⟩:=iC hs;have e:y*2^(32-s)%4294967296=y%2^s*2^(32-s):=by rw [← hT,Nat.mul_mod_mul_right]
 have h1:y*2^(32-s)%4294967296<4294967296:=Nat.mod_lt _ (by omega)
 rw [e]at h1 ⊢;have h2:x/2^s<2^(32-s):=by rw [Nat.div_lt_iff_lt_mul hT0,Nat.mul_comm,hT];exact hx
 exact Nv (s:=32-s) (by omega) h2 ⟨_,Nat.mul_comm _ _⟩ h1 (Nat.lt_of_le_of_lt (Nat.div_le_self _ _) hx)
theorem Ey (w:World)(vx:Value)(xs:List Nat)(s:Nat)(hx:dW w vx xs)(hlx:xs.length≤200000)(hl0:0<xs.length)(hs:s<32):
  Calls Tryz.prog 168 #[vx,.int .i64 s] w (Ur xs.length (fun f=>dv f xs.length=dval xs/2^s) w):=by
 have HX:=zh hx;obtain⟨gx,cx,hv,hcl,hcm,hrest⟩:=hx.open;subst hv;clear hx hrest;unfold maxLen at hcm;obtain⟨i0,hi0,hz0,hs0,hb0⟩:=info_parts iT;obtain⟨w2,hr2,ho2,hg2⟩:=run_make_full (P:=Tryz.prog) w w.heap.size 123 166 i0 (.int .u32 0) 1 Tryz.underlying123 hi0 hz0 hs0 .i64 .i64 xs.length (by rw [hb0];omega) (by unfold maxLen;omega) (by omega)
 obtain⟨go,hgo⟩:∃go,go=w.heap.size:=⟨_,rfl⟩;rw [← hgo]at hr2 ho2;have P2:cO w2 go xs.length (fun _=>0):=eY ho2 fun i hi=>je rfl _ i hi
 have L2:Keep au w w2:=Keep.of_below (cK hg2 w.heap.size (Nat.le_refl _) (by simp)) (Nat.le_refl _)
 have Io:=zh P2;have HL2:=zh L2;have oK:=zh hgo;clear ho2 hg2 P2 L2 hgo;have hd:(s:Int)/32=0:=by omega
 have hm:(s:Int)%32=s:=by omega
 have hl1:decide ((xs.length:Int)≤0)=false:=aW (by omega)
 have hl2:decide (xs.length≤0)=false:=decide_eq_false (by omega)
 have hcap:¬cx=0:=by omega
 have hne:¬xs= []:=by rintro rfl;simp at hl0
 go_enter Tryz.func168,Tryz.ntmps168;go_wp2;clear hr2;obtain⟨hTS,hT0,hT1⟩:=iC hs;have m32:min s 32=s:=by omega
 have zct:min (32-s) 32=32-s:=by omega
 have m33:((32:Int)-(s:Int)).toNat=32-s:=by omega
 go_loopw [22] (fun c wr=>∃k:Nat,k≤xs.length∧c= .int .i64 k∧Keep au w wr∧∃f,cO wr go xs.length f∧xL xs (2^s) k f) (fun c _=>(xs.length-intOf c).toNat)
 case atStart=>exact⟨0,by omega,rfl,HL2.out,fun _=>0,Io.out,fun p hp=>absurd hp (by omega),by simp [dv]⟩
 case round=>
  obtain⟨k,hk,rfl,hkp,f,har,hinv⟩:=hrel;have nM:=zh hkp;have rC:=zh har;have jG:=zh hinv;have hgl:=har.lt
  by_cases hkl:k<xs.length
  ·have hlt:(k:Int)<(xs.length:Int):=by omega
   obtain⟨_,_,hv,_,_,hg,hcx,hbx⟩:=HX.out.open
   cases hv
   have cx0:=hcx wr hkp k hkl;have cx1:=hcx wr hkp (k+1);have bx0:=hbx k;have bx1:=hbx (k+1);have cf0:=har.cell (i:=k) hkl;have hf0:=har.free k;have hgo2:¬gx=go:=by have:=oK.out;omega
   have HST:=zh (hinv.step hs bx0);have h1z:¬k+1<xs.length→xs.getD (k+1) 0=0:=fun h=>by simp [List.getD,List.getElem?_eq_none (Nat.le_of_not_lt h)]
   clear hcx hbx hkp har hinv;generalize xs.getD k 0=x at *;generalize xs.getD (k+1) 0=y at *;generalize f k=fk at cf0
   by_cases hk1:k+1<xs.length
   ·have e1:decide ((k:Int)+1<(xs.length:Int))=true:=bI (by omega)
    have e2:decide (k+1<xs.length)=true:=decide_eq_true hk1;have cy:=cx1 hk1
    by_cases QJ:0<s
    ·have e3:decide ((0:Int)<(s:Int))=true:=bI (by omega)
     have e4:decide (0<s)=true:=decide_eq_true QJ;go_wp2;have hkw:IntKind.i64.wrap ((k:Int)+1)=(k:Int)+1:=Go.IntWalk.i64_in _ (by omega)
     have hsw:IntKind.i64.wrap ((32:Int)-(s:Int))=(32:Int)-(s:Int):=Go.IntWalk.i64_in _ (by omega)
     have zcu:(k:Int)+1<(xs.length:Int):=by omega
     have htm:(s:Int).tmod 32=(s:Int):=by rw [Int.tmod_eq_emod_of_nonneg (by omega)];omega
     have hkn:((k:Int)+1).toNat=k+1:=by omega
     have hk0:(0:Int)≤(k:Int)+1:=by omega
     have hs3:(0:Int)≤(32:Int)-(s:Int):=by omega
     refine aD (fun w'=>w'.cell? ⟨go,k,none⟩=some (.int .u32 ((x:Int)/2^s))∧w'.cell? ⟨gx,k+1,none⟩=some (.int .u32 y)) [15] [([0,1,2,3,4,5,6,7,8,9,10,11,12,13,14],15)] [] (by kernel_rfl) (by kernel_rfl) ?_ ?_
     ·refine ⟨?_,?_⟩
      ·have:=(kM.set rC.out k (.int .u32 ((x:Int)/2^s))).cell (i:=k) hkl
       rw [if_pos rfl]at this;exact this
      ·exact (World.cell?_setCell_other _ _ _ _ (fun e=>hgo2 (by injection e with e1;exact e1.symm))).trans cy
     intro X W hne' hF hcl;have hx0:=fun x=>(hF x).1
     have hx1:=fun x=>(hF x).2
     clear hF hcl;simp only [aO,aJ,zl0,zl1,zl2,aV,Bool.false_eq_true,if_false]
     (repeat(quiet_step (fail)));refine wpQuiet_nil ?_
     refine ay rfl rfl fun K hK=> ?_
     go_simp;refine hK _ _ ⟨fun h=>(by simp at h),?_⟩
     clear hK K hx0 hx1
     (repeat(quiet_step (fail)));refine wpQuiet_nil ?_
     refine NoPanic.normal ?_;go_wp2;go_roundw
     case rel=>
      have q2:(y:Int)*2^(32-s)%4294967296=((y*2^(32-s)%4294967296:Nat):Int):=by simp
      have q1:(x:Int)/2^s=((x/2^s:Nat):Int):=by simp
      have q3:=Us hs QJ bx0 (y:=y);have hd2:=cO.set (cO.set rC.out k (x/2^s) (congrArg (Value.int .u32) q1)) k (x/2^s+y%2^s*2^(32-s)) (v:= .int .u32 (bits .or .u32 ((x:Int)/2^s) ((y:Int)*2^(32-s)%4294967296))) (congrArg (Value.int .u32) (by rw [q1,q2];exact q3))
      exact⟨k+1,by omega,by go_num,((nM.out.setCell _ (fun h=>absurd h (by have:=oK.out;omega))).setCell _ (fun h=>absurd h (by have:=oK.out;omega))).drew,_,
       (kM.congr hd2 (fun i hi=>by by_cases e:i=k<;>simp [e])).keep (Keep.refl _ _).drew,HST.out⟩
     case measure=>simp [intOf];omega
    ·obtain rfl:s=0:=by omega
     clear cy;go_wp2;go_roundw
     case rel=>
      have q1:(x:Int)=((x/2^0+y%2^0*2^(32-0):Nat):Int):=by simp [Nat.mod_one]
      exact⟨k+1,by omega,by go_num,nM.out.setCell _ (fun h=>absurd h (by have:=oK.out;omega)),_,cO.set rC.out k _ (congrArg (Value.int .u32) q1),HST.out⟩
     case measure=>simp [intOf];omega
   ·have e1:decide ((k:Int)+1<(xs.length:Int))=false:=aW (by omega)
    have e2:decide (k+1<xs.length)=false:=decide_eq_false hk1;obtain rfl:y=0:=h1z hk1;clear cx1;go_wp2;go_roundw
    case rel=>
     have q1:(x:Int)/2^s=((x/2^s+0%2^s*2^(32-s):Nat):Int):=by simp
     exact⟨k+1,by omega,by go_num,nM.out.setCell _ (fun h=>absurd h (by have:=oK.out;omega)),_,cO.set rC.out k _ (congrArg (Value.int .u32) q1),HST.out⟩
    case measure=>simp [intOf];omega
  ·have hlt:¬(k:Int)<(xs.length:Int):=by omega
   obtain rfl:k=xs.length:=by omega
   clear hkp har hinv;go_wp2;go_ret;exact⟨go,f,rfl,by have:=oK.out;omega,nM.out,rC.out,jG.out.lt,jG.out.fin hs⟩
structure Ez (xs:List Nat)(d j r:Nat)(f:Nat→Nat):Prop where
 lt:∀p,p<xs.length→f p<4294967296
 zero:∀p,p<j→f p=0
 rlt:r<d
 val:d*dv f xs.length+4294967296^j*r+dv (fun i=>xs.getD i 0) j=dval xs
theorem Ez.step {xs:List Nat}{d j r:Nat}{f:Nat→Nat}(h:Ez xs d (j+1) r f)(hj:j<xs.length)(hx:xs.getD j 0<4294967296)(hd:d<4294967296):
  Ez xs d j ((r*4294967296+xs.getD j 0)%d) fun p=>if p=j then(r*4294967296+xs.getD j 0)/d else f p:=by
 have hr:=h.rlt;have hv:=h.val;have hX:dv (fun i=>xs.getD i 0) (j+1)=dv (fun i=>xs.getD i 0) j+4294967296^j*xs.getD j 0:=rfl
 rw [hX]at hv;generalize xs.getD j 0=x at *;have e:=Nat.div_add_mod (r*4294967296+x) d;have hq:(r*4294967296+x)/d<4294967296:=by
  apply Nat.div_lt_of_lt_mul
  have:(r+1)*4294967296≤d*4294967296:=Nat.mul_le_mul_right _ hr;omega
 have hu:=D6 f j ((r*4294967296+x)/d) xs.length hj;rw [h.zero j (by omega),Nat.mul_zero,Nat.add_zero]at hu
 refine⟨fun p hp=> ?_,fun p hp=> ?_,Nat.mod_lt _ (by omega),?_⟩
 ·by_cases e:p=j
  ·simp only [e,if_true];exact hq
  ·simp only [e,if_false];exact h.lt p hp
 ·rw [if_neg (by omega)];exact h.zero p (by omega)
 ·rw [hu,←hv,Nat.pow_succ,Nat.mul_add]
  have e2:4294967296^j*(d*((r*4294967296+x)/d)+(r*4294967296+x)%d)=4294967296^j*(r*4294967296+x):=by rw [e]
  have e3:4294967296^j*(d*((r*4294967296+x)/d))=d*(4294967296^j*((r*4294967296+x)/d)):=Nat.mul_left_comm _ _ _;have e4:4294967296^j*(r*4294967296)=4294967296^j*4294967296*r:=by rw [Nat.mul_comm r,Nat.mul_assoc]
  rw [Nat.mul_add,Nat.mul_add _ (r*4294967296),e3,e4]at e2;omega
def IX (x y:Nat)(w:World)(e:Ending)(w':World):Prop:=∃vq vr dq dr,e= .returned (.tuple #[vq,vr])∧Keep au w w'∧dW w' vq dq∧dW w' vr dr∧dval dq=x/y∧dval dr=x%y
theorem QK (w:World)(vx vy:Value)(xs:List Nat)(d:Nat)(hx:dW w vx xs)(hy:dW w vy [d])(hd0:0<d)(hlx:xs.length≤200000):
  Calls Tryz.prog 161 #[vx,vy] w (IX (dval xs) d w):=by
 have HX:=zh hx;have HY:=zh hy;obtain⟨gx,cx,rfl⟩:=hx.form;obtain⟨gy,cy,rfl⟩:=hy.form;clear hx hy;obtain⟨i0,hi0,hz0,hs0,hb0⟩:=info_parts iT;obtain⟨w2,hr2,ho2,hg2⟩:=run_make_full (P:=Tryz.prog) w w.heap.size 123 166 i0 (.int .u32 0) 1 Tryz.underlying123 hi0 hz0 hs0 .i64 .i64 xs.length (by rw [hb0];omega) (by unfold maxLen;omega) (by omega)
 obtain⟨go,hgo⟩:∃go,go=w.heap.size:=⟨_,rfl⟩;rw [← hgo]at hr2 ho2;have P2:cO w2 go xs.length (fun _=>0):=eY ho2 fun i hi=>je rfl _ i hi
 have L2:Keep au w w2:=Keep.of_below (cK hg2 w.heap.size (Nat.le_refl _) (by simp)) (Nat.le_refl _)
 have Io:=zh P2;have HL2:=zh L2;have oK:=zh hgo;clear ho2 hg2 P2 L2 hgo;go_enter Tryz.func161,Tryz.ntmps161;go_wp2;clear hr2;have bd:d<4294967296:=by have:=HY.out.open;obtain⟨_,_,_,_,_,_,_,hb⟩:=this;simpa using hb 0
 go_loopw [8,7] (fun s t wr=>∃j:Nat,j≤xs.length∧s= .int .i64 ((j:Int)-1)∧Keep au w wr∧∃r:Nat,∃f,t= .int .u64 r∧cO wr go xs.length f∧Ez xs d j r f) (fun s _ _=>(intOf s+1).toNat)
 case atStart=>exact⟨xs.length,Nat.le_refl _,rfl,HL2.out,0,fun _=>0,rfl,Io.out,fun _ _=>by omega,fun _ _=>rfl,hd0,by
  have:=rY (f:=fun _=>0) (n:=0) xs.length (fun _ _ _=>rfl)
  rw [Nat.zero_add]at this;rw [this,mR xs _ (Nat.le_refl _)];simp [dv]⟩
 case round=>
  obtain⟨j,hj,rfl,hkp,r,f,rfl,har,hinv⟩:=hrel;have nM:=zh hkp;have rC:=zh har;have jG:=zh hinv;have hgl:=har.lt
  rcases j with _ | j
  ·have hr0:r<d:=hinv.rlt
   have hrm:(r:Int)%4294967296=(r:Int):=by omega
   clear hkp har hinv;go_wp2;go_ret2;have hr:r<4294967296:=by have:=jG.out.rlt;omega
   have hdr:=OG wr [r] (by simp [maxLen]) (by simpa using hr)
   have k1:Keep au wr (wr.alloc (.cells #[.int .u32 (r:Nat)] D8)):=(Keep.refl _ _).alloc _;have hv:=jG.out.val;simp only [Nat.pow_zero,Nat.one_mul,dv,Nat.add_zero]at hv;have hq:dv f xs.length=dval xs/d∧r=dval xs%d:=by
    have h1:=jG.out.rlt;rw [← hv];exact⟨by rw [Nat.mul_add_div hd0,Nat.div_eq_of_lt h1,Nat.add_zero],by rw [Nat.mul_add_mod,Nat.mod_eq_of_lt h1]⟩
   exact⟨_,_,yE f xs.length,[r],rfl,nM.out.trans k1 fun _ _ _ h=>h,(eZ rC.out (Nat.le_refl _) (by unfold maxLen;omega) jG.out.lt).ofNewer k1,by simpa using hdr,by rw [jd];exact hq.1,by rw [← hq.2];simp [dval]⟩
  ·have hjl:j<xs.length:=by omega
   obtain⟨_,_,hv,_,_,hg,hcx,hbx⟩:=HX.out.open
   cases hv
   obtain⟨_,_,hv,_,_,hg',hcy,hby⟩:=HY.out.open
   cases hv
   have cx0:=hcx wr hkp j hjl;have cy0:=hcy wr hkp 0 (by simp)
   simp only [List.getD_cons_zero]at cy0;have bx0:=hbx j;have cf0:=har.cell (i:=j) hjl;have hf0:=har.free j;have br:(r:Int)<(d:Int):=by have:=hinv.rlt;omega
   have HST:=zh (hinv.step hjl bx0 bd);have ej:((j+1:Nat):Int)-1=(j:Int):=by omega
   have hlt:(j:Int)<(xs.length:Int):=by omega
   have hgy:¬gy=go:=by have:=oK.out;omega
   have hgx:¬gx=go:=by have:=oK.out;omega
   have vC:=oC r (xs.getD j 0) (by omega) bx0
   rw [IntKind.wrap_u64,IntKind.wrap_u64,Int.emod_eq_of_lt (by omega) (by omega),Int.emod_eq_of_lt (by omega) (by omega)]at vC
   have ht1:r*4294967296+xs.getD j 0<18446744073709551616:=by omega
   clear hcx hbx hcy hby hkp har hinv;generalize xs.getD j 0=x at *;generalize f j=fj at cf0;generalize r*4294967296+x=t at *;have zcv:(0:Int)<(d:Int):=by omega
   rw [ej];go_wp2;go_roundw
   case rel=>
    have hlt1:=HST.out.lt j hjl;rw [if_pos rfl]at hlt1;have q1:IntKind.u64.wrap ((t:Int)/(d:Int))%4294967296=((t/d:Nat):Int):=by
     rw [vD t d ht1];exact Int.emod_eq_of_lt (Int.natCast_nonneg _) (Int.ofNat_lt.2 hlt1)
    exact⟨j,by omega,rfl,nM.out.setCell _ (fun h=>absurd h (by have:=oK.out;omega)),t%d,_,congrArg (Value.int .u64) (by simp),cO.set rC.out j (t/d) (congrArg (Value.int .u32) q1),HST.out⟩
   case measure=>simp [intOf]
theorem dW.all_lt {w:World}{v:Value}{ds:List Nat}(h:dW w v ds):∀d∈ds,d<4294967296:=by obtain⟨_,_,_,_,_,_,_,_,_,h⟩:=h;exact h
theorem dW.val_lt {w:World}{v:Value}{ds:List Nat}(h:dW w v ds):dval ds<4294967296^ds.length:=kW ds h.all_lt
theorem Z8 {ys:List Nat}(hn:2≤ys.length)(h0:ys.getD (ys.length-1) 0≠0):4294967296^(ys.length-1)≤dval ys:=kR ys (.inr h0) (by rintro rfl;simp at hn)
theorem Kr {ys:List Nat}(hn:2≤ys.length):dval ys=dv (fun i=>ys.getD i 0) (ys.length-1)+4294967296^(ys.length-1)*ys.getD (ys.length-1) 0:=by
 rw [mO];obtain⟨m,hm⟩:∃m,ys.length=m+1:=⟨ys.length-1,by omega⟩
 rw [hm,dv];rfl
theorem BN (u c p b:Nat)(hu:u<4294967296)(hb:b≤1):∃d b1:Nat,IntKind.u64.wrap (IntKind.u64.wrap ((u:Int)-((c:Int)+(p:Int))%4294967296)-(b:Int))/9223372036854775808=(b1:Int)∧
  IntKind.u64.wrap (IntKind.u64.wrap ((u:Int)-((c:Int)+(p:Int))%4294967296)-(b:Int))%4294967296=(d:Int)∧d+(c+p)%4294967296+b=u+4294967296*b1∧d<4294967296∧b1≤1:=by
 rw [IntKind.wrap_u64,IntKind.wrap_u64]
 by_cases h:u<(c+p)%4294967296+b
 ·exact ⟨u+4294967296-(c+p)%4294967296-b,1,by omega,by omega,by omega,by omega,by omega⟩
 ·exact ⟨u-(c+p)%4294967296-b,0,by omega,by omega,by omega,by omega,by omega⟩
theorem Nw (u c b:Nat)(hu:u<4294967296)(hc:c<4294967296)(hb:b≤1):∃d b1:Nat,IntKind.u64.wrap (IntKind.u64.wrap ((u:Int)-(c:Int))-(b:Int))/9223372036854775808=(b1:Int)∧
  IntKind.u64.wrap (IntKind.u64.wrap ((u:Int)-(c:Int))-(b:Int))%4294967296=(d:Int)∧d+c+b=u+4294967296*b1∧d<4294967296∧b1≤1:=by
 rw [IntKind.wrap_u64,IntKind.wrap_u64]
 by_cases h:u<c+b
 ·exact ⟨u+4294967296-c-b,1,by omega,by omega,by omega,by omega,by omega⟩
 ·exact ⟨u-c-b,0,by omega,by omega,by omega,by omega,by omega⟩
theorem Ut {y s:Nat}(hs:s<32)(h:y*2^s<4294967296):y*2^s+2^s≤4294967296:=by
 obtain⟨h1,h2,h3⟩:=iC hs;have h4:y<2^(32-s):=by
  apply Classical.byContradiction
  intro hn;have:2^(32-s)*2^s≤y*2^s:=Nat.mul_le_mul_right _ (by omega)
  rw [Nat.mul_comm,h1]at this;omega
 have h5:(y+1)*2^s≤2^(32-s)*2^s:=Nat.mul_le_mul_right _ h4;rw [Nat.mul_comm (2^(32-s)),h1,Nat.add_mul,Nat.one_mul]at h5;exact h5
theorem OU {ys:List Nat}{yt s:Nat}{f:Nat→Nat}(R7:ys.getD (ys.length-1) 0=yt)(hn:2≤ys.length)(hlt:2147483648≤yt*2^s)
  (hv:dv f ys.length=dval ys*2^s) (hf:∀i,i<ys.length→f i<4294967296):2147483648≤f (ys.length-1):=by
 have h1:=Kr hn;rw [R7]at h1;obtain⟨m,hm⟩:∃m,ys.length=m+1:=⟨ys.length-1,by omega⟩
 have hm':ys.length-1=m:=by omega
 rw [hm']at h1 ⊢;have h2:dv f m<4294967296^m:=kr fun i hi=>hf i (by omega)
 rw [hm,dv]at hv;have h3:4294967296^m*yt*2^s≤dval ys*2^s:=Nat.mul_le_mul_right _ (by omega)
 rw [Nat.mul_assoc]at h3;have h4:4294967296^m*2147483648≤4294967296^m*(yt*2^s):=Nat.mul_le_mul_left _ hlt;have h5:4294967296^m*2147483648<4294967296^m*(f m+1):=by rw [Nat.mul_add,Nat.mul_one];omega
 have:=Nat.lt_of_mul_lt_mul_left h5;omega
theorem Kt {ys:List Nat}{yt s:Nat}{f:Nat→Nat}(R7:ys.getD (ys.length-1) 0=yt)(hb:∀i,ys.getD i 0<4294967296)(hn:2≤ys.length)(hs32:s<32)(hlt:yt*2^s<4294967296)(hf:∀i,i<ys.length+1→f i<4294967296)
  (hv:dv f (ys.length+1)=dval ys*2^s):dv f ys.length=dval ys*2^s:=by
 have hs:0<2^s:=Nat.pow_pos (by omega)
 have h1:=Kr hn;have h2:dv (fun i=>ys.getD i 0) (ys.length-1)<4294967296^(ys.length-1):=kr fun i _=>hb i
 have h3:dval ys*2^s<4294967296^ys.length:=by
  obtain⟨m,hm⟩:∃m,ys.length=m+1:=⟨ys.length-1,by omega⟩
  rw [R7]at h1;have hm':ys.length-1=m:=by omega
  rw [hm']at h1 h2;rw [hm,Nat.pow_succ];have h4:(dval ys+1)≤4294967296^m*(yt+1):=by rw [Nat.mul_add];omega
  have h6:yt*2^s+2^s≤4294967296:=Ut hs32 hlt;have h7:4294967296^m*(yt*2^s+2^s)≤4294967296^m*4294967296:=Nat.mul_le_mul_left _ h6;have h8:(dval ys+1)*2^s≤4294967296^m*(yt+1)*2^s:=Nat.mul_le_mul_right _ h4;rw [Nat.mul_assoc,Nat.add_mul yt,Nat.one_mul]at h8;rw [Nat.add_mul,Nat.one_mul]at h8;omega
 rw [dv]at hv
 rcases Nat.eq_zero_or_pos (f ys.length)with h0 | h0
 ·rw [h0]at hv;omega
 ·have:4294967296^ys.length*1≤4294967296^ys.length*f ys.length:=Nat.mul_le_mul_left _ h0
  omega
theorem Ny (w:World)(vx vy:Value)(xs ys:List Nat)(hx:dW w vx xs)(hy:dW w vy ys)(hn:2≤ys.length)(hne:ys.getD (ys.length-1) 0≠0)(hl:ys.length≤xs.length)(hlx:xs.length≤150000):
  Calls Tryz.prog 161 #[vx,vy] w (IX (dval xs) (dval ys) w):=by
 have HX:=zh hx;have HY:=zh hy;obtain⟨gx,cx,rfl⟩:=hx.form;obtain⟨gy,cy,rfl⟩:=hy.form;clear hx hy;have e1:((ys.length:Int)==1)=false:=by rw [beq_eq_false_iff_ne];omega
 have e2:(ys.length==1)=false:=by rw [beq_eq_false_iff_ne];omega
 obtain⟨_,_,hv,_,_,hg',hcy,hby⟩:=HY.out.open
 cases hv
 have cy0:=hcy w (Keep.refl _ _) (ys.length-1) (by omega)
 have byt:=hby (ys.length-1);have HYT:Hid (∀i,ys.getD i 0<4294967296):=zh hby;clear hcy hby;generalize R7:ys.getD (ys.length-1) 0=yt at *;have HYE:=zh R7;have gV:Hid (yt≠0):=zh hne;clear R7;have hn1:((ys.length:Int)-1).toNat=ys.length-1:=by omega
 go_enter Tryz.func161,Tryz.ntmps161;go_wp2;go_loop [9] (fun c=>∃s:Nat,c= .int .i64 s∧s≤31∧yt*2^s<4294967296) (fun c=>(32-intOf c).toNat)
 case atStart=>exact⟨0,rfl,by omega,by omega⟩
 case round=>
  obtain⟨s,rfl,hs,hys⟩:=hrel;have m32:min s 32=s:=by omega
  have hp:0≤(yt:Int)*2^s:=by
   have:(yt:Int)*2^s=((yt*2^s:Nat):Int):=by simp
   omega
  have hp2:(yt:Int)*2^s<4294967296:=by
   have:(yt:Int)*2^s=((yt*2^s:Nat):Int):=by simp
   omega
  have hq:(yt:Int)*2^s=((yt*2^s:Nat):Int):=by simp
  by_cases hlow:yt*2^s<2147483648
  ·have e3:((yt:Int)*2^s/2147483648==0)=true:=by rw [beq_iff_eq,hq];omega
   clear hq;have HS:Hid (s+1≤31∧yt*2^(s+1)<4294967296):=zh (by
    have h1:1*2^s≤yt*2^s:=Nat.mul_le_mul_right _ (by omega)
    refine⟨?_,by rw [Nat.pow_succ,←Nat.mul_assoc];omega⟩
    apply Classical.byContradiction
    intro h;obtain rfl:s=31:=by omega
    omega)
   go_wp2;go_round
   case rel=>exact⟨s+1,by go_num,HS.out.1,HS.out.2⟩
   case measure=>simp [intOf];omega
  ·have e3:((yt:Int)*2^s/2147483648==0)=false:=by rw [beq_eq_false_iff_ne,hq];omega
   have Z9:Hid (2147483648≤yt*2^s):=zh (by omega)
   have nJ:=zh hys;clear hq;go_upto_region 14 with fail
   clear e3 hp hp2 hys hlow;refine aD (fun w'=>Keep au w w') [] [([0,1,3,5,6],2),([4],7)] [8,9] (by kernel_rfl) (by kernel_rfl) kp ?_
   intro X W hne' hF hcl;have aQ:=zh hcl;clear hF hcl;simp only [aO,aJ,zl0,zl1,zl2,aV,Bool.false_eq_true,if_false]
   (repeat(quiet_step (fail)));refine wpQuiet_nil ?_
   refine ay rfl rfl fun K hK=> ?_
   go_simp;refine(wR _ _ ys s (HY.out.ofNewer kp) (by omega) (by omega)).mono ?_
   rintro e w1 ⟨g1,f1,rfl,hg1,hk1,ha1,hl1,hv1⟩;have k1:Keep au w w1:=Keep.trans kp hk1 fun _ _ _ h=>h
   refine hK _ _ ⟨fun _=>aQ.out _ k1,?_⟩
   clear hK K;have hb1:(ys.length:Int)≤(ys.length:Int)+1:=by omega
   have hb2:ys.length≤ys.length+1:=by omega
   have hb3:¬ys.length+1<ys.length:=by omega
   (repeat(quiet_step (fail)));refine wpQuiet_nil ?_
   refine ay rfl rfl fun K hK=> ?_
   go_simp;refine(wR _ _ xs s (HX.out.ofNewer k1) (by omega) (by omega)).mono ?_
   rintro e w2 ⟨g2,f2,rfl,hg2,hk2,ha2,hl2,hv2⟩;have k2:Keep au w w2:=k1.trans hk2 fun _ _ _ h=>h
   refine hK _ _ ⟨fun _=>aQ.out _ k2,?_⟩
   clear hK K
   (repeat(quiet_step (fail)));refine wpQuiet_nil ?_
   refine NoPanic.normal ?_;have R3:Hid (∀i,i<ys.length→f1 i<4294967296):=zh fun i hi=>hl1 i (by omega)
   have YJ:Hid (dv f1 ys.length=dval ys*2^s):=zh (Kt HYE.out HYT.out hn (by omega) nJ.out hl1 hv1)
   have Ou:Hid (2147483648≤f1 (ys.length-1)):=zh (OU HYE.out hn Z9.out YJ.out R3.out);have YK:Hid (∀w',Keep au w1 w'→∀i,i<ys.length→w'.cell? ⟨g1,i,none⟩=some (.int .u32 (f1 i:Nat))):=zh fun w' hk i hi=>(hk.cell ha1.lt).trans (ha1.cell (by omega))
   have HA2:=zh ha2;have zW:=zh hk2;have Wd:=zh k1;have RX:=zh (And.intro ha1.lt hg2);have HDI:=zh (mF.begin (s:=s) (xl:=xs.length) (yl:=ys.length) (x:=dval xs) (y:=dval ys) (f:=f2) HX.out.val_lt (Z8 hn (by rw [HYE.out];exact gV.out)) hl (by omega) hl2 hv2)
   obtain⟨i0,hi0,hz0,hs0,hb0⟩:=info_parts iT;obtain⟨w3,hr3,ho3,hg3⟩:=run_make_full (P:=Tryz.prog) w2 w2.heap.size 123 166 i0 (.int .u32 0) 1 Tryz.underlying123 hi0 hz0 hs0 .i64 .i64 (xs.length+1) (by rw [hb0];omega) (by unfold maxLen;omega) (by omega)
   rw [show((xs.length+1:Nat):Int)=(xs.length:Int)+1 from by omega]at hr3
   obtain⟨go,hgo⟩:∃go,go=w2.heap.size:=⟨_,rfl⟩;rw [← hgo]at hr3 ho3;have P3:cO w3 go (xs.length+1) (fun _=>0):=eY ho3 fun i hi=>je rfl _ i hi
   have L3:Keep au w2 w3:=Keep.of_below (cK hg3 w2.heap.size (Nat.le_refl _) (by simp)) (Nat.le_refl _)
   have HP3:=zh P3;have Wm:=zh L3;have oK:=zh hgo;clear ho3 hg3 P3 L3 hgo ha1 hl1 hv1 ha2 hl2 hv2 hk1 hk2 hg1 hg2 k1 k2 aQ hi0 hz0 hs0 hb0;go_wp2;clear hr3;have HSH:Hid (s<32):=zh (by omega)
   clear hb1 hb2 hb3 hs e1 e2;go_loopw [14] (fun c wr=>∃k:Nat,k≤xs.length+1-ys.length∧c= .int .i64 ((k:Int)-1)∧Keep au w1 wr∧∃f o,cO wr g2 (xs.length+1) f∧cO wr go (xs.length+1) o∧mF (dval xs*2^s) (dval ys*2^s) ys.length (xs.length+1) k f o) (fun c _=>(intOf c+1).toNat)
   case atStart=>exact⟨xs.length+1-ys.length,Nat.le_refl _,congrArg (Value.int .i64) (by omega),zW.out.both Wm.out,f2,fun _=>0,kM.keep HA2.out Wm.out,HP3.out,HDI.out⟩
   case round=>
    obtain⟨k,hk,rfl,hkp,f,o,IY,hao,hinv⟩:=hrel
    rcases k with _ | k
    ·as_aux_lemma=>
     have Uu:=zh (hinv.fin (by rw [← YJ.out];exact kr R3.out) (by omega))
     have HOL:=zh hinv.olt;have IZ:=zh hao;have nM:=zh (Wd.out.both hkp);have HDU:=zh (eZ (cap:=xs.length+1) (kM.mono (m:=ys.length) IY (by omega)) (by omega) (by unfold maxLen;omega) fun i hi=>hinv.lt i (by omega))
     have hgl:=IY.lt;have hb9:(ys.length:Int)≤(xs.length:Int)+1:=by omega
     have hb8:ys.length≤xs.length+1:=by omega
     have hsr:=Ey wr _ _ s HDU.out (by rw [fI];omega) (by rw [fI];omega) HSH.out
     rw [fI]at hsr;have FP:=zh hsr;clear hkp IY hao hinv hsr;go_wp2_with fail;refine FP.out.mono ?_;rintro e w5 ⟨g5,f5,rfl,hg5,hk5,ha5,hl5,hv5⟩;have HA5:=zh ha5;have Py:=zh hk5;have Ku:=zh hl5;have HV5:=zh hv5;clear ha5 hk5 hl5 hv5 hg5;go_wp2;go_ret2;exact⟨_,_,yE o (xs.length+1),yE f5 ys.length,rfl,nM.out.both Py.out,eZ (kM.keep IZ.out Py.out) (Nat.le_refl _) (by unfold maxLen;omega) HOL.out,
      eZ HA5.out (Nat.le_refl _) (by unfold maxLen;omega) Ku.out,by rw [jd];exact Uu.out.1,by rw [jd,HV5.out,jd];exact Uu.out.2⟩
    ·have nM:=zh hkp
     have HAF:=zh IY;have IZ:=zh hao;have jG:=zh hinv;have zY:Hid (Z7 f1 f ys.length k):=zh ⟨hn,R3.out,fun p hp=>hinv.lt (k+p) (by omega),by have:=Ou.out;omega,by rw [YJ.out];exact(hinv.window (by omega) (by rw [← YJ.out];exact kr R3.out)).2.1⟩
     have ej:((k+1:Nat):Int)-1=(k:Int):=by omega
     have bk:(k:Int)+(ys.length:Int)<(xs.length:Int)+1:=by omega
     have i1:((k:Int)+(ys.length:Int)-1).toNat=k+ys.length-1:=by omega
     have i2:((k:Int)+(ys.length:Int)-2).toNat=k+ys.length-2:=by omega
     have i3:((ys.length:Int)-2).toNat=ys.length-2:=by omega
     have cu1:=IY.cell (i:=k+ys.length) (by omega)
     have cu0:=IY.cell (i:=k+ys.length-1) (by omega)
     have cum:=IY.cell (i:=k+ys.length-2) (by omega)
     have cv1:=YK.out _ hkp (ys.length-1) (by omega)
     have cv2:=YK.out _ hkp (ys.length-2) (by omega)
     have bu1:=hinv.lt (k+ys.length) (by omega)
     have bu0:=hinv.lt (k+ys.length-1) (by omega)
     have bum:=hinv.lt (k+ys.length-2) (by omega)
     have bv1:=R3.out (ys.length-1) (by omega)
     have bv2:=R3.out (ys.length-2) (by omega)
     have zcw:=Ou.out;have ZE:=zh zY.out.start;have hgl:=IY.lt;have QL:g1<wr.heap.size:=dY RX.out.1 hkp.size;have vC:=oC (f (k+ys.length)) (f (k+ys.length-1)) bu1 bu0;rw [IntKind.wrap_u64,IntKind.wrap_u64,Int.emod_eq_of_lt (by omega) (by omega),Int.emod_eq_of_lt (by omega) (by omega)]at vC
     have ht1:f (k+ys.length)*4294967296+f (k+ys.length-1)<18446744073709551616:=by omega
     clear hkp IY hao hinv;generalize hU1:f (k+ys.length)=u1 at *;generalize hU0:f (k+ys.length-1)=u0 at *;generalize hUM:f (k+ys.length-2)=um at *;generalize hV1:f1 (ys.length-1)=v1 at *;generalize hV2:f1 (ys.length-2)=v2 at *;have lF:=zh (And.intro hU1 (And.intro hU0 (And.intro hUM (And.intro hV1 hV2))));clear hU1 hU0 hUM hV1 hV2;obtain⟨t,hT⟩:∃t,u1*4294967296+u0=t:=⟨_,rfl⟩;rw [hT]at vC ht1 ZE;have HT:=zh hT;clear hT;have Zg:Hid (t/v1≤4294967297):=zh (by
      have h1:=zY.out.top;rw [lF.out.1,lF.out.2.2.2.1]at h1;have h2:t/v1<4294967298:=Nat.div_lt_of_lt_mul (by rw [← HT.out];omega)
      omega)
     rw [ej];go_wp2;go_quiet (fail);go_wp2;go_quiet (fail);go_upto_block 6 with fail
     go_cut [16]from 97 to 276 (fun a wx=>∃q:Nat,a= .int .u64 q∧AA f1 f ys.length k q∧∃m,wx=wr.drewN m)
     case first=>
      as_aux_lemma=>
       go_wp2;go_loopw [16,17] (fun a b wx=>∃q r:Nat,a= .int .u64 q∧b= .int .u64 r∧mW f1 f ys.length k q r∧q≤4294967297∧∃m,wx=wr.drewN m) (fun a _ _=>(intOf a).toNat)
       case atStart=>exact⟨t/v1,t%v1,congrArg (Value.int .u64) (by rw [vD t v1 ht1]),congrArg (Value.int .u64) (by simp),ZE.out,Zg.out,_,by rw [World.drewN_drewN]⟩
       case round=>
        obtain⟨q,r,rfl,rfl,hg,hq64,m,rfl⟩:=hrel;have HG:=zh hg;have hr:=hg.rlt;clear hg
        by_cases hqb:q<4294967296
        ·have e1:((q:Int)/4294967296 != 0)=false:=by rw [bne_eq_false_iff_eq];omega
         have hjoin2:=oC r um hr bum;rw [IntKind.wrap_u64,IntKind.wrap_u64,Int.emod_eq_of_lt (by omega) (by omega),Int.emod_eq_of_lt (by omega) (by omega)]at hjoin2
         obtain⟨hm1,hm2⟩:=vQ hqb bv2
         by_cases hc:r*4294967296+um<q*v2
         ·have e2:decide (((r*4294967296+um:Nat):Int)<(q:Int)*(v2:Int))=true:=bI (by rw [← Int.natCast_mul];omega)
          have HC:=zh hc;clear hc;obtain⟨z,hZ⟩:∃z,r*4294967296+um=z:=⟨_,rfl⟩;rw [hZ]at hjoin2 e2 HC;have HZZ:=zh hZ;clear hZ;obtain⟨hq1,hsum,hge⟩:=zY.out.down HG.out (.inr (by rw [lF.out.2.2.1,lF.out.2.2.2.2,HZZ.out];exact HC.out))
          have Uv:(1:Int)≤(q:Int):=by omega
          clear hsum hge
          by_cases hrb:r+v1<4294967296
          ·have e3:(((r:Int)+(v1:Int))/4294967296 != 0)=false:=by rw [bne_eq_false_iff_eq];omega
           have Nz:=zh (zY.out.next HG.out (.inr (by rw [lF.out.2.2.1,lF.out.2.2.2.2,HZZ.out];exact HC.out)) (by rw [lF.out.2.2.2.1];exact hrb))
           go_wp2;go_quiet (fail);go_wp2;go_roundw
           case rel=>
            have h:=Nz.out;rw [lF.out.2.2.2.1]at h;exact⟨q-1,r+v1,congrArg (Value.int .u64) (by omega),congrArg (Value.int .u64) (by omega),h,by omega,_,by first | rfl | rw [World.drewN_drewN]⟩
           case measure=>simp [intOf];omega
          ·have e3:(((r:Int)+(v1:Int))/4294967296 != 0)=true:=by rw [bne_iff_ne];omega
           have Nz:=zh (zY.out.over HG.out (.inr (by rw [lF.out.2.2.1,lF.out.2.2.2.2,HZZ.out];exact HC.out)) (by rw [lF.out.2.2.2.1];omega))
           go_wp2;go_quiet (fail);go_wp2;go_meet
           case rel=>exact⟨q-1,congrArg (Value.int .u64) (by omega),Nz.out,_,by first | rfl | rw [World.drewN_drewN]⟩
         ·have e2:decide (((r*4294967296+um:Nat):Int)<(q:Int)*(v2:Int))=false:=aW (by rw [← Int.natCast_mul];omega)
          have HST:=zh (zY.out.stand HG.out hqb (by rw [lF.out.2.2.1,lF.out.2.2.2.2];omega))
          clear hc;obtain⟨z,hZ⟩:∃z,r*4294967296+um=z:=⟨_,rfl⟩;rw [hZ]at hjoin2 e2;clear hZ;go_wp2;go_quiet (fail);go_wp2;go_meet
          case rel=>exact⟨q,rfl,HST.out,_,by first | rfl | rw [World.drewN_drewN]⟩
        ·have e1:(q:Int)/4294967296=1:=by omega
         obtain⟨hq1,hsum,hge⟩:=zY.out.down HG.out (.inl (by omega))
         have Uv:(1:Int)≤(q:Int):=by omega
         clear hsum hge
         by_cases hrb:r+v1<4294967296
         ·have e3:(((r:Int)+(v1:Int))/4294967296 != 0)=false:=by rw [bne_eq_false_iff_eq];omega
          have Nz:=zh (zY.out.next HG.out (.inl (by omega)) (by rw [lF.out.2.2.2.1];exact hrb))
          go_wp2;go_quiet (fail);go_wp2;go_roundw
          case rel=>
           have h:=Nz.out;rw [lF.out.2.2.2.1]at h;exact⟨q-1,r+v1,congrArg (Value.int .u64) (by omega),congrArg (Value.int .u64) (by omega),h,by omega,_,by first | rfl | rw [World.drewN_drewN]⟩
          case measure=>simp [intOf];omega
         ·have e3:(((r:Int)+(v1:Int))/4294967296 != 0)=true:=by rw [bne_iff_ne];omega
          have Nz:=zh (zY.out.over HG.out (.inl (by omega)) (by rw [lF.out.2.2.2.1];omega))
          go_wp2;go_quiet (fail);go_wp2;go_meet
          case rel=>exact⟨q-1,congrArg (Value.int .u64) (by omega),Nz.out,_,by first | rfl | rw [World.drewN_drewN]⟩
     case rest=>
      as_aux_lemma=>
       obtain⟨q,rfl,hst,m,hm⟩:=hcut;have hk4:Keep au wr wc:=by rw [hm];exact dI wr m
       clear hm;obtain⟨w4,hw4⟩:∃W:World,W=wc:=⟨_,rfl⟩;rw [← hw4]at hk4 ⊢;clear hw4;have hqB:=hst.1;have HST:=zh hst;have WO:=zh (nM.out.both hk4);have Pq:=zh (kM.keep HAF.out hk4);have MF:=zh (kM.keep IZ.out hk4);clear hst hk4 cu1 cu0 cum cv1 cv2 hgl QL vC;go_wp2;go_loopw [174,18,19] (fun i c b wx=>∃j:Nat,j≤ys.length∧i= .int .i64 j∧∃cc bb:Nat,∃g,c= .int .u64 cc∧b= .int .u64 bb∧Keep au w1 wx∧cO wx g2 (xs.length+1) g∧cO wx go (xs.length+1) o∧gX f f1 g k q j cc bb) (fun i _ _ _=>(ys.length-intOf i).toNat)
       case atStart=>exact⟨0,by omega,rfl,0,0,f,rfl,rfl,WO.out,Pq.out,MF.out,gX.start f f1 k q⟩
       case round=>
        obtain⟨j,hj,rfl,cc,bb,g,rfl,rfl,hk5,ha5,ho5,hti⟩:=hrel;have Py:=zh hk5;have HA5:=zh ha5;have HO5:=zh ho5;have Uw:=zh hti;have bcc:=hti.clt;have bbb:=hti.ble;have hgl:=ha5.lt;have QL:=dY RX.out.1 hk5.size
        by_cases hjl:j<ys.length
        ·have hlt:(j:Int)<(ys.length:Int):=by omega
         have cv:=YK.out _ hk5 j hjl;have bv:=R3.out j hjl;have cu:=ha5.cell (i:=k+j) (by omega)
         have fu:=ha5.free (k+j);rw [hti.same (k+j) (by omega)]at cu
         have bu:=jG.out.lt (k+j) (by omega)
         have hix:(k:Int)+(j:Int)<(xs.length:Int)+1:=by omega
         have rT:Hid (∀t c1 d b1,t=cc+q*f1 j→c1=t/4294967296→c1<4294967296→d+t%4294967296+bb=f (k+j)+4294967296*b1→d<4294967296→b1≤1→gX f f1 (fun p=>if p=k+j then d else g p) k q (j+1) c1 b1):=
          zh fun t c1 d b1 h1 h2 h3 h4 h5 h6=>Uw.out.step h1 h2 h3 h4 h5 h6
         clear hk5 ha5 ho5 hti;obtain⟨hm1,hm2⟩:=vQ hqB bv;generalize f1 j=vj at *;generalize f (k+j)=uj at *;obtain⟨p,hp⟩:∃p:Nat,q*vj=p:=⟨_,rfl⟩;have hpi:(q:Int)*(vj:Int)=(p:Int):=by rw [← hp,Int.natCast_mul]
         rw [hpi]at hm1 hm2;have HP:=zh hp;clear hp;go_wp2;go_roundw
         case rel=>
          obtain⟨d,b1,g1',g2',g3',g4',g5'⟩:=BN uj cc p bb bu bbb;exact⟨j+1,by omega,by go_num,(cc+p)/4294967296,b1,_,congrArg (Value.int .u64) (by omega),congrArg (Value.int .u64) g1',Py.out.setCell _ (fun h=>absurd h (by have:=RX.out.2;omega)),
           cO.set HA5.out (k+j) d (congrArg (Value.int .u32) g2'),kM.other HO5.out _ _ (by have:=oK.out;have:=HA2.out.lt;omega),rT.out (cc+p) _ d b1 (by rw [← HP.out]) rfl (by omega) g3' g4' g5'⟩
         case measure=>simp [intOf];omega
        ·have hlt:¬(j:Int)<(ys.length:Int):=by omega
         obtain rfl:j=ys.length:=by omega
         have cu:=ha5.cell (i:=k+ys.length) (by omega)
         have fu:=ha5.free (k+ys.length);rw [hti.same (k+ys.length) (by omega),lF.out.1]at cu
         obtain⟨d,b1,q1,q2,q3,q4,q5⟩:=Nw u1 cc bb bu1 bcc bbb;have HQ3:=zh q3;clear hk5 ha5 ho5 hti q3;go_upto_if 230 with fail
         have FK:=zh (Py.out.setCell (b:=g2) (o:=k+ys.length) (.int .u32 (d:Nat)) (fun h=>absurd h (by have:=RX.out.2;omega)))
         have R8:=zh (cO.set HA5.out (k+ys.length) d rfl);have HO6:=zh (kM.other (g':=g2) HO5.out (k+ys.length) (.int .u32 (d:Nat)) (by have:=oK.out;have:=HA2.out.lt;omega))
         generalize wr.setCell ⟨g2,k+ys.length,none⟩ (.int .u32 (d:Nat))=w6 at *;clear HA5 HO5 Py q1 q2 cu fu;go_cut [16]from 97 to 276 (fun a wx=>∃q':Nat,∃f',a= .int .u64 q'∧Keep au w1 wx∧cO wx g2 (xs.length+1) f'∧cO wx go (xs.length+1) o∧Digit f1 f f' ys.length k q')
         case first=>
          as_aux_lemma=>
           by_cases hb1:b1=1
           ·have e7:((b1:Int)==1)=true:=by rw [beq_iff_eq];omega
            have hbq:d+cc+bb=f (k+ys.length)+4294967296:=by rw [lF.out.1,HQ3.out,hb1]
            have HBQ:=zh hbq;have hq1:=Nu Uw.out hbq q4;have Uv:(1:Int)≤(q:Int):=by omega
            clear hbq;go_wp2;go_loopw [235,18] (fun i c wx=>∃j:Nat,j≤ys.length∧i= .int .i64 j∧∃cc:Nat,∃g',c= .int .u64 cc∧Keep au w1 wx∧cO wx g2 (xs.length+1) g'∧cO wx go (xs.length+1) o∧jr (fun p=>if p=k+ys.length then d else g p) f1 g' k j cc) (fun i _ _=>(ys.length-intOf i).toNat)
            case atStart=>exact⟨0,by omega,rfl,0,_,rfl,FK.out,R8.out,HO6.out,jr.start _ _ _⟩
            case round=>
             obtain⟨j,hj,rfl,c2,g',rfl,hk7,ha7,ho7,hbi⟩:=hrel;have Tj:=zh hk7;have HA7:=zh ha7;have R9:=zh ho7;have YL:=zh hbi;have bc2:=hbi.cle;have hgl:=ha7.lt;have QL:=dY RX.out.1 hk7.size
             by_cases hjl:j<ys.length
             ·have hlt:(j:Int)<(ys.length:Int):=by omega
              have cv:=YK.out _ hk7 j hjl;have bv:=R3.out j hjl;have cu:=ha7.cell (i:=k+j) (by omega)
              have fu:=ha7.free (k+j);rw [hbi.same (k+j) (by omega),if_neg (by omega)]at cu
              have bu:=Uw.out.lt j hjl;have hix:(k:Int)+(j:Int)<(xs.length:Int)+1:=by omega
              have rT:Hid (∀c1 dd,dd=(c2+(g (k+j)+f1 j))%4294967296→c1=(c2+(g (k+j)+f1 j))/4294967296→jr (fun p=>if p=k+ys.length then d else g p) f1 (fun p=>if p=k+j then dd else g' p) k (j+1) c1):=zh fun c1 dd h1 h2=>
               YL.out.step (by show(if k+j=k+ys.length then d else g (k+j))<_;rw [if_neg (by omega)];exact bu) bv (by show _=(c2+((if k+j=k+ys.length then d else g (k+j))+_))%_;rw [if_neg (by omega)];exact h1) (by show _=(c2+((if k+j=k+ys.length then d else g (k+j))+_))/_;rw [if_neg (by omega)];exact h2)
              clear hk7 ha7 ho7 hbi;generalize f1 j=vj at *;generalize g (k+j)=uj at *;go_wp2;go_roundw
              case rel=>
               exact⟨j+1,by omega,by go_num,(c2+(uj+vj))/4294967296,_,congrArg (Value.int .u64) (by omega),Tj.out.setCell _ (fun h=>absurd h (by have:=RX.out.2;omega)),
                cO.set HA7.out (k+j) ((c2+(uj+vj))%4294967296) (congrArg (Value.int .u32) (by omega)),kM.other R9.out _ _ (by have:=oK.out;have:=HA2.out.lt;omega),rT.out _ _ rfl rfl⟩
              case measure=>simp [intOf];omega
             ·have hlt:¬(j:Int)<(ys.length:Int):=by omega
              obtain rfl:j=ys.length:=by omega
              have cu:=ha7.cell (i:=k+ys.length) (by omega)
              have fu:=ha7.free (k+ys.length);rw [hbi.same (k+ys.length) (by omega),if_pos rfl]at cu
              have Kv:=zh (Nt zY.out HST.out Uw.out HBQ.out q4 YL.out (d2:=(d+c2)%4294967296) rfl).2;clear hk7 ha7 ho7 hbi;go_wp2;go_meet
              case rel=>
               exact⟨q-1,_,congrArg (Value.int .u64) (by omega),Tj.out.setCell _ (fun h=>absurd h (by have:=RX.out.2;omega)),
                cO.set HA7.out (k+ys.length) ((d+c2)%4294967296) (congrArg (Value.int .u32) (by omega)),kM.other R9.out _ _ (by have:=oK.out;have:=HA2.out.lt;omega),Kv.out⟩
           ·have e7:((b1:Int)==1)=false:=by rw [beq_eq_false_iff_ne];omega
            have Kv:=zh (Kq zY.out HST.out Uw.out (d:=d) (by rw [lF.out.1,HQ3.out];omega) q4)
            go_wp2;go_meet
            case rel=>exact⟨q,_,rfl,FK.out,R8.out,HO6.out,Kv.out⟩
         case rest=>
          as_aux_lemma=>
           obtain⟨q',f',rfl,hk7,ha7,ho7,hdg⟩:=hcut;obtain⟨w7,hw7⟩:∃W:World,W=wc:=⟨_,rfl⟩;rw [← hw7]at hk7 ha7 ho7 ⊢;clear hw7;have Tj:=zh hk7;have HA7:=zh ha7;have R9:=zh ho7;have Kv:=zh hdg;have hq':q'<4294967296:=by rw [hdg.q];exact zY.out.qlt
           have cf:=ho7.cell (i:=k) (by omega)
           have ff:=ho7.free k;have hol:=ho7.lt;have hik:(k:Int)<(xs.length:Int)+1:=by omega
           generalize o k=ok at cf;clear hk7 ha7 ho7 hdg;go_wp2;go_roundw
           case rel=>
            refine⟨k,by omega,rfl,Tj.out.setCell _ (fun h=>absurd h (by have:=oK.out;have:=HA2.out.lt;have:=RX.out.2;omega)),f',_,kM.other HA7.out _ _ (by have:=oK.out;have:=HA2.out.lt;omega),
             cO.set R9.out k q' (congrArg (Value.int .u32) (by omega)),jG.out.step (by omega) (by rw [← YJ.out];exact zY.out.pos) (by rw [← YJ.out];exact kr R3.out) Kv.out.lt Kv.out.same (by rw [← YJ.out];exact Kv.out.rest) (by rw [← YJ.out];exact Kv.out.q)⟩
           case measure=>simp [intOf]
end Go.Proofs.YtaiffmebphhdaaaGreat
