/- The plain law of long division: the guess of a digit. umpiragewide.shiftLeft, by less than 32 places. umpiragewide.shiftRight, by less than 32 places. umpiragewide.parts, by one digit. The plain law of long division, joined: the window's guess, one digit, the start and the end. umpiragewide.parts, by more digits than one. -/
import Derived.Test.YtmepglhdcphffaaGreatBaseB
import Derived.Deep.DeepCutAuto
import Derived.Deep.CutBlock
namespace Go.Proofs.YtmepglhdcphffaaGreat
set_option linter.unusedSimpArgs false
set_option linter.unusedVariables false
structure Av (v1 v2 V top u2 W P:Nat):Prop where
 hV:∃V',V=(v1*4294967296+v2)*P+V'∧V'<P
 hW:∃W',W=(top*4294967296+u2)*P+W'∧W'<P
 hu:u2<4294967296
 hv:0<v1
theorem wK {a b P c:Nat}(h:a*P<b*P+c)(hc:c≤P):a≤b:=by
 apply Classical.byContradiction;intro hn;have:(b+1)*P≤a*P:=Nat.mul_le_mul_right _ om;rw [Nat.succ_mul]at this;omega
theorem Av.first {v1 v2 V top u2 W P q:Nat}(g:Av v1 v2 V top u2 W P)(hq:q*V≤W):q≤top/v1:=by
 obtain⟨⟨V',hV,hV'⟩,⟨W',hW,hW'⟩,hu,hv⟩:=g;rw [Nat.le_div_iff_mul_le hv];have h1:q*v1*(4294967296*P)≤q*V:=by
  rw [hV,Nat.add_mul,Nat.mul_add,Nat.mul_add];have:q*v1*(4294967296*P)=q*(v1*4294967296*P):=by simp only [Nat.mul_assoc]
  omega
 have h2:W<top*(4294967296*P)+4294967296*P:=by
  have h3:u2*P+P≤4294967296*P:=by
   rw [← Nat.succ_mul];exact Nat.mul_le_mul_right _ om
  rw [hW,Nat.add_mul,Nat.mul_assoc];omega
 exact wK (Nat.lt_of_le_of_lt (Nat.le_trans h1 hq) h2) (Nat.le_refl _)
theorem Av.down {v1 v2 V top u2 W P q qh rh:Nat}(g:Av v1 v2 V top u2 W P)(hq:q*V≤W)(hr:rh+qh*v1=top)(hl:rh*4294967296+u2<qh*v2):q<qh:=by
 obtain⟨⟨V',hV,hV'⟩,⟨W',hW,hW'⟩,hu,hv⟩:=g;apply Classical.byContradiction;intro hn;have h0:qh*V≤W:=Nat.le_trans (Nat.mul_le_mul_right _ om) hq;have h1:qh*(v1*4294967296+v2)*P≤qh*V:=by
  rw [hV,Nat.mul_add qh (_*P),←Nat.mul_assoc];omega
 have h2:qh*(v1*4294967296+v2)*P<(top*4294967296+u2)*P+P:=om;have h3:=wK h2 (Nat.le_refl _);rw [← hr,Nat.mul_add,Nat.add_mul,←Nat.mul_assoc]at h3;omega
theorem Av.close {v1 v2 V top u2 W P qh rh:Nat}(g:Av v1 v2 V top u2 W P)(hb:qh<4294967296)(hr:rh+qh*v1=top)(hl:qh*v2≤rh*4294967296+u2):qh*V<W+V:=by
 obtain⟨⟨V',hV,hV'⟩,⟨W',hW,hW'⟩,hu,hv⟩:=g;have h1:qh*(v1*4294967296+v2)≤top*4294967296+u2:=by
  rw [← hr,Nat.mul_add,Nat.add_mul,←Nat.mul_assoc];omega
 have h2:qh*(v1*4294967296+v2)*P≤(top*4294967296+u2)*P:=Nat.mul_le_mul_right _ h1;have h3:qh*V'≤qh*P:=Nat.mul_le_mul_left _ om;have h4:qh*P+P≤4294967296*P:=by rw [← Nat.succ_mul];exact Nat.mul_le_mul_right _ om
 have h5:4294967296*P≤(v1*4294967296+v2)*P:=Nat.mul_le_mul_right _ om;have h6:qh*V=qh*(v1*4294967296+v2)*P+qh*V':=by rw [hV,Nat.mul_add,←Nat.mul_assoc]
 have h7:(v1*4294967296+v2)*P≤V:=om;omega
theorem JV {V W q:Nat}(hV:0<V)(h1:q*V<W+V)(h2:W/V≤q):q=W/V∨q=W/V+1:=by
 have h3:q≤W/V+1:=by
  apply Classical.byContradiction;intro hn;have h4:(W/V+2)*V≤q*V:=Nat.mul_le_mul_right _ om;have h5:=Nat.lt_div_mul_add hV (a:=W);have h6:(W/V+2)*V=W/V*V+V+V:=by rw [Nat.add_mul,Nat.two_mul,Nat.add_assoc]
  omega
 omega
structure jy (f v f':Nat→Nat)(k q i c b:Nat):Prop where
 lt:∀p,p<i→f' (k+p)<4294967296
 same:∀p,¬(k≤p∧p<k+i)→f' p=f p
 clt:c<4294967296
 ble:b≤1
 val:dv (fun p=>f' (k+p)) i+q*dv v i=dv (fun p=>f (k+p)) i+4294967296^i*(c+b)
theorem jy.start (f v:Nat→Nat)(k q:Nat):jy f v f k q 0 0 0:=⟨fun p hp=>absurd hp om,fun _ _=>rfl,om,om,by simp [dv]⟩
theorem jy.step {f v f':Nat→Nat}{k q i c b:Nat}(h:jy f v f' k q i c b){c1 b1 d t:Nat}(ht:t=c+q*v i)(hc:c1=t/4294967296)(hc2:c1<4294967296)(hd:d+t%4294967296+b=f (k+i)+4294967296*b1)(hdl:d<4294967296)(hb:b1≤1):
  jy f v (fun p=>if p=k+i then d else f' p) k q (i+1) c1 b1:=by
 refine⟨fun p hp=> ?_,fun p hp=> ?_,hc2,hb,?_⟩
 ·by_cases e:k+p=k+i
  ·simp only [e,if_true];exact hdl
  simp only [e,if_false];exact h.lt p om
 ·rw [if_neg om];exact h.same p om
 have hv:=h.val;rw [dv,if_pos rfl,fQ (f:=fun p=>if k+p=k+i then d else f' (k+p)) (g:=fun p=>f' (k+p)) fun p hp=>if_neg om,dv,dv,Nat.pow_succ];have e:=Nat.div_add_mod t 4294967296;rw [← hc]at e;have e1:d+q*v i+(c+b)=f (k+i)+4294967296*(c1+b1):=om;have e2:4294967296^i*(d+q*v i+(c+b))=4294967296^i*(f (k+i)+4294967296*(c1+b1)):=by rw [e1]
 rw [Nat.mul_add,Nat.mul_add (4294967296^i) d,Nat.mul_add (4294967296^i) (f (k+i)),←Nat.mul_assoc (4294967296^i) 4294967296]at e2;have e3:q*(4294967296^i*v i)=4294967296^i*(q*v i):=by rw [← Nat.mul_assoc,Nat.mul_comm q,Nat.mul_assoc]
 rw [Nat.mul_add q,e3];omega
theorem jy.top {f v f':Nat→Nat}{k q n c b:Nat}(h:jy f v f' k q n c b){d b1:Nat}(hd:d+c+b=f (k+n)+4294967296*b1)(hdl:d<4294967296):
  (∀p,p<n+1→(if k+p=k+n then d else f' (k+p))<4294967296)∧
  dv (fun p=>if k+p=k+n then d else f' (k+p)) (n+1)+q*dv v n=dv (fun p=>f (k+p)) (n+1)+4294967296^(n+1)*b1:=by
 refine⟨fun p hp=> ?_,?_⟩
 ·by_cases e:k+p=k+n
  ·rw [if_pos e];exact hdl
  rw [if_neg e];exact h.lt p om
 have hv:=h.val;rw [dv,if_pos rfl,fQ (f:=fun p=>if k+p=k+n then d else f' (k+p)) (g:=fun p=>f' (k+p)) fun p hp=>if_neg om,dv,Nat.pow_succ];have e2:4294967296^n*(d+c+b)=4294967296^n*(f (k+n)+4294967296*b1):=by rw [hd]
 rw [Nat.mul_add,Nat.mul_add (4294967296^n) d,Nat.mul_add (4294967296^n) (f (k+n)),←Nat.mul_assoc (4294967296^n) 4294967296]at e2;rw [Nat.mul_add (4294967296^n) c]at hv;omega
structure kX (f v f':Nat→Nat)(k i c:Nat):Prop where
 lt:∀p,p<i→f' (k+p)<4294967296
 same:∀p,¬(k≤p∧p<k+i)→f' p=f p
 cle:c≤1
 val:dv (fun p=>f' (k+p)) i+4294967296^i*c=dv (fun p=>f (k+p)) i+dv v i
theorem kX.start (f v:Nat→Nat)(k:Nat):kX f v f k 0 0:=⟨fun p hp=>absurd hp om,fun _ _=>rfl,om,by simp [dv]⟩
theorem kX.step {f v f':Nat→Nat}{k i c:Nat}(h:kX f v f' k i c)(hf:f (k+i)<4294967296)(hv:v i<4294967296){c1 d:Nat}(hd:d=(c+(f (k+i)+v i))%4294967296)(hc:c1=(c+(f (k+i)+v i))/4294967296):
  kX f v (fun p=>if p=k+i then d else f' p) k (i+1) c1:=by
 have hcl:=h.cle;refine⟨fun p hp=> ?_,fun p hp=> ?_,om,?_⟩
 ·by_cases e:k+p=k+i
  ·simp only [e,if_true];omega
  simp only [e,if_false];exact h.lt p om
 ·rw [if_neg om];exact h.same p om
 have hval:=h.val;rw [dv,if_pos rfl,fQ (f:=fun p=>if k+p=k+i then d else f' (k+p)) (g:=fun p=>f' (k+p)) fun p hp=>if_neg om,dv,dv,Nat.pow_succ];have e:=Nat.div_add_mod (c+(f (k+i)+v i)) 4294967296;rw [← hd,←hc]at e;have e2:4294967296^i*(4294967296*c1+d)=4294967296^i*(c+(f (k+i)+v i)):=by rw [e]
 rw [Nat.mul_add,Nat.mul_add,Nat.mul_add,←Nat.mul_assoc]at e2;omega
theorem kX.top {f v f':Nat→Nat}{k n c W q:Nat}(h:kX f v f' k n c)(hf:f (k+n)<4294967296){d:Nat}(hd:d=(f (k+n)+c)%4294967296)(hV:0<dv v n)(hVl:dv v n<4294967296^n)
  (hD:dv (fun p=>f (k+p)) (n+1)+q*dv v n=W+4294967296^(n+1)) (hq:q=W/dv v n∨q=W/dv v n+1) (hfl:∀p,p<n+1→f (k+p)<4294967296):
  q=W/dv v n+1∧(∀p,p<n+1→(if k+p=k+n then d else f' (k+p))<4294967296)∧dv (fun p=>if k+p=k+n then d else f' (k+p)) (n+1)=W%dv v n:=by
 have hlt:=mX hfl;have hm:=Nat.div_add_mod W (dv v n);have hml:=Nat.mod_lt W hV;rw [Nat.mul_comm]at hm;have hq1:q=W/dv v n+1:=by
  rcases hq with h1 | h1
  ·rw [h1]at hD;omega
  exact h1
 have hlt3:∀p,p<n+1→(if k+p=k+n then d else f' (k+p))<4294967296:=fun p hp=>by
  by_cases e:k+p=k+n
  ·rw [if_pos e];omega
  rw [if_neg e];exact h.lt p om
 refine⟨hq1,hlt3,?_⟩;have h3:=mX hlt3;have hval:=h.val;have hcl:=h.cle;rw [hq1,Nat.succ_mul]at hD;obtain⟨e,he,he1⟩:∃e,f (k+n)+c=d+4294967296*e∧e≤1:=⟨(f (k+n)+c)/4294967296,om,om⟩;have e2:4294967296^n*(f (k+n)+c)=4294967296^n*(d+4294967296*e):=by rw [he]
 rw [Nat.mul_add,Nat.mul_add,←Nat.mul_assoc]at e2;have e3:dv (fun p=>if k+p=k+n then d else f' (k+p)) (n+1)=dv (fun p=>f' (k+p)) n+4294967296^n*d:=by
  rw [dv,if_pos rfl,fQ (f:=fun p=>if k+p=k+n then d else f' (k+p)) (g:=fun p=>f' (k+p)) fun p hp=>if_neg om]
 rw [e3]at h3 ⊢;rw [dv]at hD;rw [Nat.pow_succ]at h3 hD hlt;rcases(show e=0∨e=1 from om)with rfl | rfl
 ·omega
 omega
structure mY (X V n L k:Nat)(f o:Nat→Nat):Prop where
 lt:∀p,p<L→f p<4294967296
 olt:∀p,p<L→o p<4294967296
 zero:∀p,p<k→o p=0
 val:dv o L*V+dv f L=X
 small:dv f L<V*4294967296^k
theorem mY.window {X V n L k:Nat}{f o:Nat→Nat}(h:mY X V n L (k+1) f o)(hL:k+n+1≤L)(hV:V<4294967296^n):
  dv f L=dv f k+4294967296^k*dv (fun p=>f (k+p)) (n+1)∧dv (fun p=>f (k+p)) (n+1)<V*4294967296∧∀p,k+n+1≤p→p<L→f p=0:=by
 have hs:=h.small;have h1:V*4294967296^(k+1)<4294967296^n*4294967296^(k+1):=Nat.mul_lt_mul_of_pos_right hV (Nat.pow_pos om);rw [← Nat.pow_add,show n+(k+1)=k+n+1 from om]at h1;have h2:=qL f (k+n+1) (L-(k+n+1));rw [show k+n+1+(L-(k+n+1))=L from om]at h2;have hz:dv (fun i=>f (k+n+1+i)) (L-(k+n+1))=0:=by
  apply Classical.byContradiction;intro hne;have:4294967296^(k+n+1)*1≤4294967296^(k+n+1)*dv (fun i=>f (k+n+1+i)) (L-(k+n+1)):=Nat.mul_le_mul_left _ om;omega
 have hz':∀p,k+n+1≤p→p<L→f p=0:=by
  have:∀m (g:Nat→Nat),dv g m=0→∀i,i<m→g i=0:=by
   intro m g
   induction m with
   | zero=>intro _ i hi;omega
   | succ m ih=>
    intro h0 i hi;rw [dv]at h0;have hp:0<4294967296^m:=Nat.pow_pos om;by_cases e:i=m
    ·subst e;have:4294967296^i*g i=0:=om;rcases Nat.mul_eq_zero.1 this with h | h
     ·omega
     exact h
    exact ih om i om
  intro p h3 h4;have:=this _ _ hz (p-(k+n+1)) om;rwa [show k+n+1+(p-(k+n+1))=p from om]at this
 rw [hz,Nat.mul_zero,Nat.add_zero,show k+n+1=k+(n+1)from om,qL]at h2;refine⟨h2,?_,hz'⟩;have h5:4294967296^k*dv (fun p=>f (k+p)) (n+1)<4294967296^k*(V*4294967296):=by
  have:V*4294967296^(k+1)=4294967296^k*(V*4294967296):=by rw [Nat.pow_succ];simp only [Nat.mul_assoc,Nat.mul_comm,Nat.mul_left_comm]
  omega
 exact Nat.lt_of_mul_lt_mul_left h5
theorem mY.step {X V n L k:Nat}{f o f':Nat→Nat}(h:mY X V n L (k+1) f o)(hL:k+n+1≤L)(hV0:0<V)(hV:V<4294967296^n)(hlt:∀p,p<n+1→f' (k+p)<4294967296)(hsame:∀p,¬(k≤p∧p<k+(n+1))→f' p=f p)
  (hr:dv (fun p=>f' (k+p)) (n+1)=dv (fun p=>f (k+p)) (n+1)%V) {q:Nat} (hq:q=dv (fun p=>f (k+p)) (n+1)/V):mY X V n L k f' fun p=>if p=k then q else o p:=by
 obtain⟨h1,h2,h3⟩:=h.window hL hV;generalize dv (fun p=>f (k+p)) (n+1)=W at*;have hqB:q<4294967296:=by rw [hq];exact Nat.div_lt_of_lt_mul h2
 have hlt':∀p,p<L→f' p<4294967296:=fun p hp=>by
  by_cases e:k≤p∧p<k+(n+1)
  ·have:=hlt (p-k) om;rwa [show k+(p-k)=p from om]at this
  rw [hsame p e];exact h.lt p hp
 have hf':dv f' L=dv f k+4294967296^k*(W%V):=by
  have e1:=qL f' (k+(n+1)) (L-(k+(n+1)));rw [show k+(n+1)+(L-(k+(n+1)))=L from om]at e1;rw [e1,qL f' k (n+1),hr,fQ (f:=f') (g:=f) fun i hi=>hsame i om];have e2:dv (fun i=>f' (k+(n+1)+i)) (L-(k+(n+1)))=0:=by
   have:=wZ (f:=fun i=>f' (k+(n+1)+i)) (n:=0) (L-(k+(n+1))) fun i _ hi=>by
    rw [hsame _ om];exact h3 _ om om
   rw [Nat.zero_add]at this;rw [this];rfl
  rw [e2,Nat.mul_zero,Nat.add_zero]
 have ho:=Cw o k q L om;rw [h.zero k om,Nat.mul_zero,Nat.add_zero]at ho;refine⟨hlt',fun p hp=> ?_,fun p hp=> ?_,?_,?_⟩
 ·by_cases e:p=k
  ·simp only [e,if_true];exact hqB
  simp only [e,if_false];exact h.olt p hp
 ·rw [if_neg om];exact h.zero p om
 ·have hv:=h.val;have hm:=Nat.div_add_mod W V;rw [← hq]at hm;rw [ho,hf',Nat.add_mul];have e:4294967296^k*q*V+4294967296^k*(W%V)=4294967296^k*W:=by
   rw [Nat.mul_assoc,←Nat.mul_add,Nat.mul_comm q V,hm]
  omega
 rw [hf'];have h4:dv f k<4294967296^k:=mX fun i hi=>h.lt i om;have h5:4294967296^k*(W%V+1)≤4294967296^k*V:=Nat.mul_le_mul_left _ (Nat.mod_lt W hV0);rw [Nat.mul_add,Nat.mul_comm _ V]at h5;omega
open Go.ChangeShapes Go.WideShapes Go.RowKit
structure Ny (xs:List Nat)(T k:Nat)(f:Nat→Nat):Prop where
 lt:∀p,p<xs.length+1→f p<4294967296
 zero:∀p,k<p→p<xs.length+1→f p=0
 top:f k<T
 val:dv f (k+1)=dv (fun i=>xs.getD i 0) k*T
theorem iG {s:Nat}(hs:s<32):2^s*2^(32-s)=4294967296∧0<2^s∧2^s≤2147483648:=by
 refine⟨by rw [← Nat.pow_add,show s+(32-s)=32 from om],Nat.pow_pos om,?_⟩;exact Nat.le_trans (Nat.pow_le_pow_right om (show s≤31 from om)) dc
theorem Ny.step {xs:List Nat}{s k:Nat}{f:Nat→Nat}(hs:s<32)(h:Ny xs (2^s) k f)(hk:k<xs.length)(hx:xs.getD k 0<4294967296):
  Ny xs (2^s) (k+1) fun p=>if p=k+1 then xs.getD k 0*2^s/4294967296 else if p=k then f k+xs.getD k 0*2^s%4294967296 else f p:=by
 obtain⟨hT,hT0,hT1⟩:=iG hs;have hval:=h.val;have htop:=h.top;have hX:dv (fun i=>xs.getD i 0) (k+1)=dv (fun i=>xs.getD i 0) k+4294967296^k*xs.getD k 0:=rfl;generalize xs.getD k 0=x at *;generalize hTT:2^s=T at *;generalize 2^(32-s)=S at *;have h1:x*T/4294967296<T:=by
  rw [Nat.div_lt_iff_lt_mul om,Nat.mul_comm T];exact Nat.mul_lt_mul_of_pos_right hx hT0
 have h2:f k+x*T%4294967296<4294967296:=by
  rw [← hT,Nat.mul_comm x T,Nat.mul_mod_mul_left,hT];have hS:0<S:=by
   rcases Nat.eq_zero_or_pos S with h | h
   ·rw [h]at hT;omega
   exact h
  have h3:T*(x%S+1)≤T*S:=Nat.mul_le_mul_left _ (Nat.mod_lt x hS);rw [Nat.mul_add]at h3;omega
 refine⟨fun p hp=> ?_,fun p h3 h4=> ?_,by simpa using h1,?_⟩
 ·by_cases e1:p=k+1
  ·simp only [e1,if_true];omega
  by_cases e2:p=k
  ·simp only [e1,e2,if_true,if_false];simp;exact h2
  simp only [e1,e2,if_false];exact h.lt p hp
 ·rw [if_neg om,if_neg om];exact h.zero p om h4
 have e:=Nat.div_add_mod (x*T) 4294967296;rw [dv,if_pos rfl,dv,if_neg om,if_pos rfl,fQ (f:=fun p=>if p=k+1 then _ else if p=k then _ else f p) (g:=f) fun i hi=>by rw [if_neg om,if_neg om]];rw [dv]at hval;have e2:4294967296^k*(4294967296*(x*T/4294967296)+x*T%4294967296)=4294967296^k*(x*T):=by rw [e]
 rw [Nat.mul_add,←Nat.mul_assoc]at e2;rw [Nat.pow_succ,Nat.mul_add,hX,Nat.add_mul,Nat.mul_assoc (4294967296^k) x T];omega
theorem VF {s a v:Nat}(hs:s<32)(ha:a<2^s)(hv:2^s∣v)(hv2:v<4294967296)(ha2:a<4294967296):bits .or .u32 (a:Int) (v:Int)=((a+v:Nat):Int):=by
 obtain⟨c,rfl⟩:=hv;have h:=Nat.shiftLeft_add_eq_or_of_lt ha c;rw [Nat.shiftLeft_eq]at h;rw [u32_or_nat _ _ ha2 hv2,Nat.or_comm,Nat.mul_comm (2^s) c,←h];congr 1;omega
structure zO (xs:List Nat)(T k:Nat)(f:Nat→Nat):Prop where
 lt:∀p,p<k→f p<4294967296
 val:T*dv f k+xs.getD 0 0%T=dv (fun i=>xs.getD i 0) k+4294967296^k*(xs.getD k 0%T)
theorem zO.step {xs:List Nat}{s k:Nat}{f:Nat→Nat}(hs:s<32)(h:zO xs (2^s) k f)(hx:xs.getD k 0<4294967296):
  zO xs (2^s) (k+1) fun p=>if p=k then xs.getD k 0/2^s+xs.getD (k+1) 0%2^s*2^(32-s)else f p:=by
 obtain⟨hT,hT0,hT1⟩:=iG hs;have hval:=h.val;have hX:dv (fun i=>xs.getD i 0) (k+1)=dv (fun i=>xs.getD i 0) k+4294967296^k*xs.getD k 0:=rfl;generalize 2^s=T at *;generalize 2^(32-s)=S at *;have hm1:=Nat.mod_lt (xs.getD (k+1) 0) hT0;have hd1:=Nat.div_add_mod (xs.getD k 0) T;generalize hr1:xs.getD (k+1) 0%T=r1 at *;have hdl:xs.getD k 0/T<S:=by
  rw [Nat.div_lt_iff_lt_mul hT0,Nat.mul_comm,hT];exact hx
 generalize xs.getD k 0/T=q at *;generalize xs.getD k 0%T=r0 at *;refine⟨fun p hp=> ?_,?_⟩
 ·by_cases e:p=k
  ·simp only [e,if_true];have:(r1+1)*S≤T*S:=Nat.mul_le_mul_right _ hm1;rw [Nat.succ_mul]at this;omega
  simp only [e,if_false];exact h.lt p om
 rw [dv,if_pos rfl,fQ (f:=fun p=>if p=k then _ else f p) (g:=f) fun i hi=>if_neg om,hX,Nat.pow_succ,Nat.mul_add];have e1:T*(4294967296^k*(q+r1*S))=4294967296^k*(T*q)+4294967296^k*4294967296*r1:=by
  rw [Nat.mul_left_comm,←hT,Nat.mul_add,Nat.mul_add];congr 1;simp only [Nat.mul_assoc,Nat.mul_comm,Nat.mul_left_comm]
 have e2:4294967296^k*(T*q+r0)=4294967296^k*xs.getD k 0:=by rw [hd1]
 rw [Nat.mul_add]at e2;rw [e1,hr1];generalize 4294967296^k*4294967296*r1=z1 at *;generalize 4294967296^k*(T*q)=z2 at *;generalize 4294967296^k*r0=z3 at *;generalize 4294967296^k*xs.getD k 0=z4 at *;generalize T*dv f k=z5 at *;omega
theorem zO.fin {xs:List Nat}{s:Nat}{f:Nat→Nat}(hs:s<32)(h:zO xs (2^s) xs.length f):dv f xs.length=dval xs/2^s:=by
 have hv:=h.val;obtain⟨_,hT0,_⟩:=iG hs;have h0:xs.getD xs.length 0=0:=sm;rw [h0,Nat.zero_mod,Nat.mul_zero,Nat.add_zero,qM xs _ (Nat.le_refl _)]at hv;have hm:=Nat.mod_lt (xs.getD 0 0) hT0;generalize xs.getD 0 0%2^s=r at *;rw [← hv,Nat.mul_add_div hT0,Nat.div_eq_of_lt hm,Nat.add_zero]
theorem zbx {s x y:Nat}(hs:s<32)(hs0:0<s)(hx:x<4294967296):bits .or .u32 ((x/2^s:Nat):Int) ((y*2^(32-s)%4294967296:Nat):Int)=((x/2^s+y%2^s*2^(32-s):Nat):Int):=by
 obtain⟨hT,hT0,hT1⟩:=iG hs;have e:y*2^(32-s)%4294967296=y%2^s*2^(32-s):=by rw [← hT,Nat.mul_mod_mul_right]
 have h1:y*2^(32-s)%4294967296<4294967296:=Nat.mod_lt _ om;rw [e]at h1 ⊢;have h2:x/2^s<2^(32-s):=by rw [Nat.div_lt_iff_lt_mul hT0,Nat.mul_comm,hT];exact hx
 exact VF (s:=32-s) om h2 ⟨_,Nat.mul_comm _ _⟩ h1 (Nat.lt_of_le_of_lt (Nat.div_le_self _ _) hx)
structure Ic (xs:List Nat)(d j r:Nat)(f:Nat→Nat):Prop where
 lt:∀p,p<xs.length→f p<4294967296
 zero:∀p,p<j→f p=0
 rlt:r<d
 val:d*dv f xs.length+4294967296^j*r+dv (fun i=>xs.getD i 0) j=dval xs
theorem Ic.step {xs:List Nat}{d j r:Nat}{f:Nat→Nat}(h:Ic xs d (j+1) r f)(hj:j<xs.length)(hx:xs.getD j 0<4294967296)(hd:d<4294967296):
  Ic xs d j ((r*4294967296+xs.getD j 0)%d) fun p=>if p=j then(r*4294967296+xs.getD j 0)/d else f p:=by
 have hr:=h.rlt;have hv:=h.val;have hX:dv (fun i=>xs.getD i 0) (j+1)=dv (fun i=>xs.getD i 0) j+4294967296^j*xs.getD j 0:=rfl;rw [hX]at hv;generalize xs.getD j 0=x at *;have e:=Nat.div_add_mod (r*4294967296+x) d;have hq:(r*4294967296+x)/d<4294967296:=by
  apply Nat.div_lt_of_lt_mul;have:(r+1)*4294967296≤d*4294967296:=Nat.mul_le_mul_right _ hr;omega
 have hu:=Cw f j ((r*4294967296+x)/d) xs.length hj;rw [h.zero j om,Nat.mul_zero,Nat.add_zero]at hu;refine⟨fun p hp=> ?_,fun p hp=> ?_,Nat.mod_lt _ om,?_⟩
 ·by_cases e:p=j
  ·simp only [e,if_true];exact hq
  simp only [e,if_false];exact h.lt p hp
 ·rw [if_neg om];exact h.zero p om
 rw [hu,←hv,Nat.pow_succ,Nat.mul_add];have e2:4294967296^j*(d*((r*4294967296+x)/d)+(r*4294967296+x)%d)=4294967296^j*(r*4294967296+x):=by rw [e]
 have e3:4294967296^j*(d*((r*4294967296+x)/d))=d*(4294967296^j*((r*4294967296+x)/d)):=Nat.mul_left_comm _ _ _;have e4:4294967296^j*(r*4294967296)=4294967296^j*4294967296*r:=by rw [Nat.mul_comm r,Nat.mul_assoc]
 rw [Nat.mul_add,Nat.mul_add _ (r*4294967296),e3,e4]at e2;omega
theorem VG (k:Nat):0<4294967296^k:=Nat.pow_pos om
theorem VH {v f:Nat→Nat}{n k:Nat}(hn:2≤n)(hv:∀i,i<n→v i<4294967296)(hf:∀p,p<n+1→f (k+p)<4294967296)(hv1:0<v (n-1)):
  Av (v (n-1)) (v (n-2)) (dv v n) (f (k+n)*4294967296+f (k+n-1)) (f (k+n-2)) (dv (fun p=>f (k+p)) (n+1)) (4294967296^(n-2)):=by
 obtain⟨m,rfl⟩:∃m,n=m+2:=⟨n-2,om⟩;refine⟨⟨dv v m,?_,mX fun i hi=>hv i om⟩,⟨dv (fun p=>f (k+p)) m,?_,mX fun i hi=>hf i om⟩,?_,hv1⟩
 ·show dv v (m+1+1)=_;rw [dv,dv,show m+2-1=m+1 from om,show m+2-2=m from om,Nat.pow_succ];have:(v (m+1)*4294967296+v m)*4294967296^m=4294967296^m*v m+4294967296^m*4294967296*v (m+1):=by
   rw [Nat.add_mul,Nat.mul_comm (v m),Nat.mul_comm (v (m+1)*4294967296),Nat.mul_comm (v (m+1)),←Nat.mul_assoc,Nat.add_comm]
  omega
 ·show dv _ (m+1+1+1)=_;rw [dv,dv,dv,show k+(m+2)-1=k+(m+1)from om,show k+(m+2)-2=k+m from om,show m+2-2=m from om,show m+1+1=m+2 from rfl,Nat.pow_succ 4294967296 (m+1),Nat.pow_succ];have:((f (k+(m+2))*4294967296+f (k+(m+1)))*4294967296+f (k+m))*4294967296^m=4294967296^m*f (k+m)+4294967296^m*4294967296*f (k+(m+1))+4294967296^m*4294967296*4294967296*f (k+(m+2)):=by
   generalize 4294967296^m=P;rw [Nat.add_mul,Nat.add_mul,Nat.add_mul,Nat.mul_comm (f (k+m)),Nat.mul_assoc (f (k+(m+1))),Nat.mul_assoc (f (k+(m+2))),Nat.mul_assoc (f (k+(m+2))),Nat.mul_comm (f (k+(m+1))),Nat.mul_comm (f (k+(m+2))),Nat.mul_comm 4294967296 P,Nat.mul_comm (4294967296*4294967296) P,←Nat.mul_assoc P];omega
  rw [this];omega
 have:=hf (m+2-2) om;rwa [show k+(m+2-2)=k+(m+2)-2 from om]at this
theorem Nz {v f:Nat→Nat}{n k:Nat}(hn:1≤n)(hv:∀i,i<n→v i<4294967296)(hW:dv (fun p=>f (k+p)) (n+1)<dv v n*4294967296):f (k+n)≤v (n-1):=by
 apply Classical.byContradiction;intro hne;obtain⟨m,rfl⟩:∃m,n=m+1:=⟨n-1,om⟩;simp only [Nat.add_sub_cancel]at hne;have h1:dv v (m+1)<4294967296^m*(v m+1):=by
  rw [dv,Nat.mul_add];have:=mX (f:=v) (k:=m) fun i hi=>hv i om;omega
 have h2:4294967296^(m+1)*f (k+(m+1))≤dv (fun p=>f (k+p)) (m+1+1):=by
  rw [dv];omega
 have h3:4294967296^(m+1)*(v m+1)≤4294967296^(m+1)*f (k+(m+1)):=Nat.mul_le_mul_left _ om;rw [Nat.pow_succ]at h3 h2;have h4:4294967296^m*(v m+1)*4294967296=4294967296^m*4294967296*(v m+1):=Nat.mul_right_comm _ _ _;omega
def NA (v f:Nat→Nat)(n k q:Nat):Prop:=q<4294967296∧(q=dv (fun p=>f (k+p)) (n+1)/dv v n∨q=dv (fun p=>f (k+p)) (n+1)/dv v n+1)
structure mZ (v f:Nat→Nat)(n k q r:Nat):Prop where
 sum:r+q*v (n-1)=f (k+n)*4294967296+f (k+n-1)
 ge:dv (fun p=>f (k+p)) (n+1)/dv v n≤q
 rlt:r<4294967296
structure Win (v f:Nat→Nat)(n k:Nat):Prop where
 hn:2≤n
 hv:∀i,i<n→v i<4294967296
 hf:∀p,p<n+1→f (k+p)<4294967296
 hv1:0<v (n-1)
 hW:dv (fun p=>f (k+p)) (n+1)<dv v n*4294967296
namespace Win
variable {v f:Nat→Nat} {n k:Nat} (h:Win v f n k)
include h
theorem guess:Av (v (n-1)) (v (n-2)) (dv v n) (f (k+n)*4294967296+f (k+n-1)) (f (k+n-2)) (dv (fun p=>f (k+p)) (n+1)) (4294967296^(n-2)):=VH h.hn h.hv h.hf h.hv1
theorem top:f (k+n)≤v (n-1):=Nz (by have:=h.hn;omega) h.hv h.hW
theorem pos:0<dv v n:=by
 have hn:=h.hn;obtain⟨m,rfl⟩:∃m,n=m+1:=⟨n-1,om⟩;have h1:=h.hv1;rw [dv];have:0<4294967296^m*v (m+1-1):=Nat.mul_pos (VG m) h1;rw [show m+1-1=m from rfl]at this;omega
theorem start:mZ v f n k ((f (k+n)*4294967296+f (k+n-1))/v (n-1)) ((f (k+n)*4294967296+f (k+n-1))%v (n-1)):=by
 refine⟨?_,?_,?_⟩
 ·rw [Nat.mul_comm ((f (k+n)*4294967296+f (k+n-1))/v (n-1))];exact Nat.mod_add_div _ _
 ·exact h.guess.first (by rw [Nat.mul_comm];exact Nat.mul_div_le _ _)
 exact Nat.lt_trans (Nat.mod_lt _ h.hv1) (h.hv _ (by have:=h.hn;omega))
theorem qlt:dv (fun p=>f (k+p)) (n+1)/dv v n<4294967296:=Nat.div_lt_of_lt_mul h.hW
theorem down {q r:Nat}(g:mZ v f n k q r)(hb:4294967296≤q∨r*4294967296+f (k+n-2)<q*v (n-2)):
  1≤q∧(r+v (n-1))+(q-1)*v (n-1)=f (k+n)*4294967296+f (k+n-1)∧dv (fun p=>f (k+p)) (n+1)/dv v n≤q-1:=by
 have h1:dv (fun p=>f (k+p)) (n+1)/dv v n<q:=by
  rcases hb with hb | hb
  ·exact bJ h.qlt hb
  exact h.guess.down (by rw [Nat.mul_comm];exact Nat.mul_div_le _ _) g.sum hb
 have h0:1≤q:=Nat.lt_of_le_of_lt (Nat.zero_le _) h1;refine⟨h0,?_,Nat.le_sub_one_of_lt h1⟩;have h3:=g.sum;have h2:v (n-1)≤q*v (n-1):=Nat.le_mul_of_pos_left _ h0;rw [Nat.sub_mul,Nat.one_mul];generalize q*v (n-1)=z at *;omega
theorem next {q r:Nat}(g:mZ v f n k q r)(hb:4294967296≤q∨r*4294967296+f (k+n-2)<q*v (n-2))(hr:r+v (n-1)<4294967296):mZ v f n k (q-1) (r+v (n-1)):=
 ⟨(h.down g hb).2.1,(h.down g hb).2.2,hr⟩
theorem stand {q r:Nat}(g:mZ v f n k q r)(hq:q<4294967296)(hl:q*v (n-2)≤r*4294967296+f (k+n-2)):NA v f n k q:=
 ⟨hq,JV h.pos (h.guess.close hq g.sum hl) g.ge⟩
theorem over {q r:Nat}(g:mZ v f n k q r)(hb:4294967296≤q∨r*4294967296+f (k+n-2)<q*v (n-2))(hr:4294967296≤r+v (n-1)):NA v f n k (q-1):=by
 obtain⟨h1,h2,h3⟩:=h.down g hb;have ht:=h.top;have hu:=h.hf (n-1) (by have:=h.hn;omega);rw [show k+(n-1)=k+n-1 from by have:=h.hn;omega]at hu;have hv2:=h.hv (n-2) (by have:=h.hn;omega);have hq:q-1<4294967296:=by
  apply Classical.byContradiction;intro hn;have h4:4294967296*v (n-1)≤(q-1)*v (n-1):=Nat.mul_le_mul_right _ om;have h5:f (k+n)*4294967296≤v (n-1)*4294967296:=Nat.mul_le_mul_right _ ht;omega
 refine⟨hq,JV h.pos (h.guess.close hq h2 ?_) h3⟩;have h6:(q-1)*v (n-2)≤4294967296*4294967296:=Nat.mul_le_mul om om;have h7:4294967296*4294967296≤(r+v (n-1))*4294967296:=Nat.mul_le_mul_right _ hr;omega
end Win
structure Digit (v f f':Nat→Nat)(n k q:Nat):Prop where
 q:q=dv (fun p=>f (k+p)) (n+1)/dv v n
 lt:∀p,p<n+1→f' (k+p)<4294967296
 same:∀p,¬(k≤p∧p<k+(n+1))→f' p=f p
 rest:dv (fun p=>f' (k+p)) (n+1)=dv (fun p=>f (k+p)) (n+1)%dv v n
theorem VI {D q V W:Nat}(hV:0<V)(h:D+q*V=W)(hq:q=W/V∨q=W/V+1):q=W/V∧D=W%V:=by
 have h1:q≤W/V:=(Nat.le_div_iff_mul_le hV).2 om;have h2:q=W/V:=om;refine⟨h2,?_⟩;have:=Nat.div_add_mod W V;rw [← h2,Nat.mul_comm]at this;omega
theorem mY.begin {xl yl s x y:Nat}{f:Nat→Nat}(hx:x<4294967296^xl)(hy:4294967296^(yl-1)≤y)(hl:yl≤xl)(hy1:1≤yl)(hf:∀i,i<xl+1→f i<4294967296)(hv:dv f (xl+1)=x*2^s):
  mY (x*2^s) (y*2^s) yl (xl+1) (xl+1-yl) f fun _=>0:=by
 refine⟨hf,fun _ _=>om,fun _ _=>rfl,?_,?_⟩
 ·have:=wZ (f:=fun _=>0) (n:=0) (xl+1) fun _ _ _=>rfl;rw [Nat.zero_add]at this;rw [this,hv];simp [dv]
 rw [hv];have hs:0<2^s:=Nat.pow_pos om;have h1:4294967296^xl≤y*4294967296^(xl+1-yl):=by
  have:4294967296^xl=4294967296^(yl-1)*4294967296^(xl+1-yl):=by rw [← Nat.pow_add];congr 1;omega
  rw [this];exact Nat.mul_le_mul_right _ hy
 have h2:x*2^s<y*4294967296^(xl+1-yl)*2^s:=Nat.mul_lt_mul_of_pos_right om hs;rwa [Nat.mul_assoc,Nat.mul_comm (4294967296^_),←Nat.mul_assoc]at h2
theorem mY.fin {L n s x y:Nat}{f o:Nat→Nat}(h:mY (x*2^s) (y*2^s) n L 0 f o)(hy:y*2^s<4294967296^n)(hn:n≤L):dv o L=x/y∧dv f n/2^s=x%y:=by
 have hs:0<2^s:=Nat.pow_pos om;have h1:=h.val;have h2:=h.small;rw [Nat.pow_zero,Nat.mul_one]at h2;have h3:dv f L=dv f n:=by
  have:=qL f n (L-n);rw [show n+(L-n)=L from om]at this;rcases Nat.eq_zero_or_pos (dv (fun i=>f (n+i)) (L-n))with h0 | h0
  ·rw [h0]at this;omega
  have:4294967296^n*1≤4294967296^n*dv (fun i=>f (n+i)) (L-n):=Nat.mul_le_mul_left _ h0;omega
 have e1:dv o L=x*2^s/(y*2^s):=by
  rw [← h1,Nat.mul_comm (dv o L),Nat.mul_add_div om,Nat.div_eq_of_lt h2,Nat.add_zero]
 have e2:dv f L=x*2^s%(y*2^s):=by
  rw [← h1,Nat.mul_comm (dv o L),Nat.mul_add_mod,Nat.mod_eq_of_lt h2]
 refine⟨by rw [e1,Nat.mul_div_mul_right _ _ hs],?_⟩;rw [← h3,e2,Nat.mul_mod_mul_right,Nat.mul_div_cancel _ hs]
theorem JW {ys:List Nat}(hn:2≤ys.length):dval ys=dv (fun i=>ys.getD i 0) (ys.length-1)+4294967296^(ys.length-1)*ys.getD (ys.length-1) 0:=by
 rw [oZ];obtain⟨m,hm⟩:∃m,ys.length=m+1:=⟨ys.length-1,om⟩;rw [hm,dv];rfl
theorem JX (u c p b:Nat)(hu:u<4294967296)(hb:b≤1):∃d b1:Nat,IntKind.u64.wrap (IntKind.u64.wrap ((u:Int)-((c:Int)+(p:Int))%4294967296)-(b:Int))/9223372036854775808=(b1:Int)∧
  IntKind.u64.wrap (IntKind.u64.wrap ((u:Int)-((c:Int)+(p:Int))%4294967296)-(b:Int))%4294967296=(d:Int)∧d+(c+p)%4294967296+b=u+4294967296*b1∧d<4294967296∧b1≤1:=by
 rw [IntKind.wrap_u64,IntKind.wrap_u64];by_cases h:u<(c+p)%4294967296+b
 ·exact ⟨u+4294967296-(c+p)%4294967296-b,1,om,om,om,om,om⟩
 exact⟨u-(c+p)%4294967296-b,0,om,om,om,om,om⟩
theorem VJ {y s:Nat}(hs:s<32)(h:y*2^s<4294967296):y*2^s+2^s≤4294967296:=by
 obtain⟨h1,h2,h3⟩:=iG hs;have h4:y<2^(32-s):=by
  apply Classical.byContradiction;intro hn;have:2^(32-s)*2^s≤y*2^s:=Nat.mul_le_mul_right _ om;rw [Nat.mul_comm,h1]at this;omega
 have h5:(y+1)*2^s≤2^(32-s)*2^s:=Nat.mul_le_mul_right _ h4;rw [Nat.mul_comm (2^(32-s)),h1,Nat.add_mul,Nat.one_mul]at h5;exact h5
theorem Zz {ys:List Nat}{yt s:Nat}{f:Nat→Nat}(ZA:ys.getD (ys.length-1) 0=yt)(hn:2≤ys.length)(hlt:2147483648≤yt*2^s)
  (hv:dv f ys.length=dval ys*2^s) (hf:∀i,i<ys.length→f i<4294967296):2147483648≤f (ys.length-1):=by
 have h1:=JW hn;rw [ZA]at h1;obtain⟨m,hm⟩:∃m,ys.length=m+1:=⟨ys.length-1,om⟩;have hm':ys.length-1=m:=om;rw [hm']at h1 ⊢;have h2:dv f m<4294967296^m:=mX fun i hi=>hf i om;rw [hm,dv]at hv;have h3:4294967296^m*yt*2^s≤dval ys*2^s:=Nat.mul_le_mul_right _ om;rw [Nat.mul_assoc]at h3;have h4:4294967296^m*2147483648≤4294967296^m*(yt*2^s):=Nat.mul_le_mul_left _ hlt;have h5:4294967296^m*2147483648<4294967296^m*(f m+1):=by rw [Nat.mul_add,Nat.mul_one];omega
 have:=Nat.lt_of_mul_lt_mul_left h5;omega
theorem VK {ys:List Nat}{yt s:Nat}{f:Nat→Nat}(ZA:ys.getD (ys.length-1) 0=yt)(hb:∀i,ys.getD i 0<4294967296)(hn:2≤ys.length)(hs32:s<32)(hlt:yt*2^s<4294967296)(hf:∀i,i<ys.length+1→f i<4294967296)
  (hv:dv f (ys.length+1)=dval ys*2^s):dv f ys.length=dval ys*2^s:=by
 have hs:0<2^s:=Nat.pow_pos om;have h1:=JW hn;have h2:dv (fun i=>ys.getD i 0) (ys.length-1)<4294967296^(ys.length-1):=mX fun i _=>hb i;have h3:dval ys*2^s<4294967296^ys.length:=by
  obtain⟨m,hm⟩:∃m,ys.length=m+1:=⟨ys.length-1,om⟩;rw [ZA]at h1;have hm':ys.length-1=m:=om;rw [hm']at h1 h2;rw [hm,Nat.pow_succ];have h4:(dval ys+1)≤4294967296^m*(yt+1):=by rw [Nat.mul_add];omega
  have h6:yt*2^s+2^s≤4294967296:=VJ hs32 hlt;have h7:4294967296^m*(yt*2^s+2^s)≤4294967296^m*4294967296:=Nat.mul_le_mul_left _ h6;have h8:(dval ys+1)*2^s≤4294967296^m*(yt+1)*2^s:=Nat.mul_le_mul_right _ h4;rw [Nat.mul_assoc,Nat.add_mul yt,Nat.one_mul]at h8;rw [Nat.add_mul,Nat.one_mul]at h8;omega
 rw [dv]at hv;rcases Nat.eq_zero_or_pos (f ys.length)with h0 | h0
 ·rw [h0]at hv;omega
 have:4294967296^ys.length*1≤4294967296^ys.length*f ys.length:=Nat.mul_le_mul_left _ h0;omega
end Go.Proofs.YtmepglhdcphffaaGreat
