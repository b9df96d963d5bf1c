/- Package lattice's clear, plain: in the plane nothing grows; what it keeps. -/
import Derived.Test.YtcnjcnjipddgeaaGreatLcCC
import Derived.Test.YtcnjcnjipddgeaaGreatTbS
namespace Go.Proofs.YtcnjcnjipddgeaaGreat
set_option linter.unusedSimpArgs false
set_option linter.unusedVariables false
open Go.ChangeShapes Go.WideShapes Go.RowKit
def Wi (b q:Rat):Prop:= -b≤q∧q≤b
theorem Wi.mono {b c q:Rat}(h:Wi b q)(hc:b≤c):Wi c q:=by unfold Wi at *;grind
theorem Wi.neg {b q:Rat}(h:Wi b q):Wi b (-q):=by unfold Wi at *;grind
theorem Wi.nonneg {b q:Rat}(h:Wi b q):0≤b:=by unfold Wi at *;grind
theorem Wi.add {a b p q:Rat}(h:Wi a p)(k:Wi b q):Wi (a+b) (p+q):=by unfold Wi at *;grind
theorem Wi.sub {a b p q:Rat}(h:Wi a p)(k:Wi b q):Wi (a+b) (p-q):=by unfold Wi at *;grind
theorem mulP {a x y:Rat}(ha:0≤a)(h:x≤y):a*x≤a*y:=Rat.mul_le_mul_of_nonneg_left h ha
theorem Wi.mul {a b p q:Rat}(h:Wi a p)(k:Wi b q):Wi (a*b) (p*q):=by
 have ha:=h.nonneg;have hb:=k.nonneg;unfold Wi at*
 rcases Rat.le_total (a:=0) (b:=p)with hp | hp
 ·have h1:=mulP hp k.1
  have h2:=mulP hp k.2;have h3:=mulP hb h.2
  grind
 ·have h1:=mulP (a:= -p) (by grind) k.1
  have h2:=mulP (a:= -p) (by grind) k.2
  have h3:=mulP hb h.1
  grind
theorem cancQ {p x y:Rat}(hp:0<p)(h:p*x≤p*y):x≤y:=by
 rcases Rat.le_total (a:=x) (b:=y)with h1 | h1
 ·exact h1
 ·have:=mulP (Rat.le_of_lt hp) h1
  have e:p*x=p*y:=Rat.le_antisymm h this;have:x=y:=by
   have hne:p≠0:=by grind
   have e2:p⁻¹ *(p*x)=p⁻¹ *(p*y):=by rw [e]
   grind
  grind
theorem Wi.canc {p b q:Rat}(hp:1≤p)(h:Wi (p*b) (p*q)):Wi b q:=by
 unfold Wi at *;have hp0:0<p:=by grind
 refine⟨cancQ hp0 (by grind),cancQ hp0 (by grind)⟩
theorem rd1_u {p ua x u d B D:Rat}(hp:1≤p)(h0:0≤x)(h1:x≤p)(he:p*u=x*ua-d)(hB:Wi B ua)(hd:Wi D d):Wi (B+D) u:=by
 refine Wi.canc hp ?_;rw [he];have h2:Wi (p*B) (x*ua):=(Wi.mul (a:=p) (p:=x) ⟨by grind,h1⟩ hB)
 have h3:D≤p*D:=by
  have:=mulP hd.nonneg hp
  grind
 have:=(h2.sub hd).mono (c:=p*B+p*D) (by grind)
 rw [show p*(B+D)=p*B+p*D by grind]
 exact this
theorem rd1_m {p x y a b D m:Rat}(hp:1≤p)(hx:0≤x∧x≤p)(hy:0≤y∧y≤p)(ha:Wi D a)(hb:Wi D b)(he:p*m=y*a-x*b):Wi (D+D) m:=by
 refine Wi.canc hp ?_;rw [he];have h1:Wi (p*D) (y*a):=Wi.mul (a:=p) (p:=y) ⟨by grind,hy.2⟩ ha
 have h2:Wi (p*D) (x*b):=Wi.mul (a:=p) (p:=x) ⟨by grind,hx.2⟩ hb
 exact(h1.sub h2).mono (by grind)
theorem rd2_m {p x y X Y a b D m M:Rat}(hp:1≤p)(hx:0≤x∧x≤p∧x≤X)(hy:0≤y∧y≤p∧y≤Y)(ha:Wi D a)(hb:Wi D b)(hM:Wi D M)(he:p*m=y*a-x*b)(hE:p*M=Y*a-X*b):Wi D m:=by
 refine Wi.canc hp ?_;have h1:Wi (p*D) (y*a):=Wi.mul (a:=p) (p:=y) ⟨by grind,hy.2.1⟩ ha
 have h2:Wi (p*D) (x*b):=Wi.mul (a:=p) (p:=x) ⟨by grind,hx.2.1⟩ hb
 have h3:Wi (p*D) (p*M):=Wi.mul (a:=p) (p:=p) ⟨by grind,Rat.le_refl⟩ hM
 rw [hE]at h3;rw [he];unfold Wi at h1 h2 h3 ⊢
 rcases Rat.le_total (a:=0) (b:=a)with h4 | h4
 ·have f1:=mulP (a:=a) h4 hy.1
  have f2:=mulP (a:=a) h4 hy.2.2
  rcases Rat.le_total (a:=0) (b:=b)with h5 | h5
  ·have g1:=mulP h5 hx.1
   grind
  ·have g1:=mulP (a:= -b) (by grind) hx.1
   have g2:=mulP (a:= -b) (by grind) hx.2.2
   grind
 ·have f1:=mulP (a:= -a) (by grind) hy.1
  have f2:=mulP (a:= -a) (by grind) hy.2.2
  rcases Rat.le_total (a:=0) (b:=b)with h5 | h5
  ·have g1:=mulP h5 hx.1
   have g2:=mulP h5 hx.2.2
   grind
  ·have g1:=mulP (a:= -b) (by grind) hx.1
   grind
theorem rd2_u {p ua x u U q d B D:Rat}(hp:1≤p)(h0:0≤x)(hq:0≤q)(hu:u=U-q*ua)(he:p*u=x*ua-d)(hU:Wi B U)(hd:Wi D d)(hDB:D≤B):Wi B u:=by
 have key:(Wi B u)∨Wi (p*D) (p*u):=by
  unfold Wi at*
  rcases Rat.le_total (a:=0) (b:=ua)with h4 | h4
  ·have f1:=mulP hq h4
   have f2:=mulP h0 h4;have f3:D≤p*D:=by have:=mulP (a:=D) (by grind) hp;grind
   rcases Rat.le_total (a:=0) (b:=u)with h5 | h5
   ·left;grind
   ·right
    have:=mulP (a:=p) (by grind) h5
    grind
  ·have f1:=mulP (a:=q) hq (x:=ua) (y:=0) h4
   have f2:=mulP (a:=x) h0 (x:=ua) (y:=0) h4;have f3:D≤p*D:=by have:=mulP (a:=D) (by grind) hp;grind
   rcases Rat.le_total (a:=0) (b:=u)with h5 | h5
   ·right
    have:=mulP (a:=p) (by grind) h5
    grind
   ·left;grind
 rcases key with h | h
 ·exact h
 ·exact (Wi.canc hp h).mono hDB
def IsZ (q:Rat):Prop:=∃z:Int,q=(z:Rat)
theorem IsZ.den {q:Rat}(h:IsZ q):q.den=1:=by obtain⟨z,rfl⟩:=h;exact Rat.den_intCast _
theorem IsZ.of_den {q:Rat}(h:q.den=1):IsZ q:=⟨q.num,Rat.ext rfl h⟩
theorem IsZ.int (z:Int):IsZ (z:Rat):=⟨z,rfl⟩
theorem IsZ.zero:IsZ 0:=⟨0,rfl⟩
theorem IsZ.add {a b:Rat}(ha:IsZ a)(hb:IsZ b):IsZ (a+b):=by obtain⟨x,rfl⟩:=ha;obtain⟨y,rfl⟩:=hb;exact⟨x+y,by rw [Rat.intCast_add]⟩
theorem IsZ.sub {a b:Rat}(ha:IsZ a)(hb:IsZ b):IsZ (a-b):=by obtain⟨x,rfl⟩:=ha;obtain⟨y,rfl⟩:=hb;exact⟨x-y,by rw [Rat.intCast_sub]⟩
theorem IsZ.mul {a b:Rat}(ha:IsZ a)(hb:IsZ b):IsZ (a*b):=by obtain⟨x,rfl⟩:=ha;obtain⟨y,rfl⟩:=hb;exact⟨x*y,by rw [Rat.intCast_mul]⟩
theorem IsZ.fl (q:Rat):IsZ (flQ q):=⟨_,rfl⟩
theorem IsZ.one {q:Rat}(h:IsZ q)(h0:0<q):1≤q:=by
 obtain⟨z,rfl⟩:=h;have h1:((0:Int):Rat)<(z:Rat):=h0;rw [Rat.intCast_lt_intCast]at h1;have:((1:Int):Rat)≤(z:Rat):=Rat.intCast_le_intCast.2 (by omega)
 exact this
theorem flQ_le (q:Rat):flQ q≤q∧q<flQ q+1:=by
 have e:flQ q=(q.floor:Rat):=by unfold flQ;rw [Rat.floor_def]
 rw [e];exact⟨Rat.floor_le q,by have:=Rat.lt_floor_add_one q;rw [Rat.intCast_add]at this;exact this⟩
theorem less_cell {q row:List Rat}{c:Rat}(hl:row.length=q.length)(t:Nat):(lessQ q row c).getD t 0=q.getD t 0-row.getD t 0*c:=by
 unfold lessQ;rw [List.getD_eq_getElem?_getD,List.getElem?_map]
 by_cases h:t<q.length
 ·rw [List.getElem?_range h];rfl
 ·rw [List.getElem?_eq_none (by simp;omega),List.getD_eq_getElem?_getD,List.getElem?_eq_none (by omega),List.getD_eq_getElem?_getD,List.getElem?_eq_none (by omega)]
  show(0:Rat)=0-0*c
  grind
def qOf (c:List (List Rat))(i fr k:Nat):Rat:=if cellQ c k i=0 then 0 else flQ (cellQ c k i/cellQ c fr i)
theorem qOf_z {c:List (List Rat)}{i fr k:Nat}:IsZ (qOf c i fr k):=by
 unfold qOf
 split
 ·exact IsZ.zero
 ·exact IsZ.fl _
theorem redK_cell {c:List (List Rat)}{i fr D k t L:Nat}(hU:∀k,k<c.length→(c.getD k []).length=L)(h1:fr<k)(h2:k<fr+1+D)(h3:k<c.length):
  cellQ (redK c i fr D) k t=cellQ c k t-cellQ c fr t*qOf c i fr k:=by
 obtain⟨d,rfl⟩:∃d,k=fr+1+d:=⟨k-(fr+1),by omega⟩
 have e1:(redK c i fr D).getD (fr+1+d) []=(redK c i fr (d+1)).getD (fr+1+d) []:=redK_mid D (d+1) _ (by omega) (by omega)
 have e2:(redK c i fr d).getD (fr+1+d) []=c.getD (fr+1+d) []:=redK_high d _ (Nat.le_refl _);have e3:(redK c i fr d).getD fr []=c.getD fr []:=redK_low d _ (Nat.le_refl _);have e4:cellQ (redK c i fr d) (fr+1+d) i=cellQ c (fr+1+d) i:=by unfold cellQ;rw [e2]
 have e5:cellQ (redK c i fr d) fr i=cellQ c fr i:=by unfold cellQ;rw [e3]
 have e6:(redK c i fr (d+1)).getD (fr+1+d) []=if cellQ c (fr+1+d) i=0 then c.getD (fr+1+d) []else lessQ (c.getD (fr+1+d) []) (c.getD fr []) (flQ (cellQ c (fr+1+d) i/cellQ c fr i)):=by
  simp only [redK];rw [e4,e5,e2,e3]
  split
  ·exact e2
  ·rw [List.getD_eq_getElem?_getD,List.getElem?_set,if_pos rfl,if_pos (by rw [redK_len];exact h3)];rfl
 unfold cellQ at e6 ⊢;rw [e1,e6];unfold qOf cellQ
 split
 ·grind
 ·rw [less_cell (by rw [hU _ h3,hU _ (by omega)])]
theorem set_getD {α:Type}{l:List α}{i j:Nat}{a d:α}(hi:i<l.length):(l.set i a).getD j d=if j=i then a else l.getD j d:=by
 rw [List.getD_eq_getElem?_getD,List.getElem?_set]
 by_cases h:j=i
 ·subst h;rw [if_pos rfl,if_pos hi,if_pos rfl];rfl
 ·rw [if_neg (fun e=>h e.symm),if_neg h,List.getD_eq_getElem?_getD]
def sw (a b k:Nat):Nat:=if k=b then a else if k=a then b else k
theorem swp_get {c:List (List Rat)}{a b k:Nat}(ha:a<c.length)(hb:b<c.length):(swpQ c a b).getD k []=c.getD (sw a b k) []:=by
 unfold swpQ sw;rw [set_getD (by simpa using hb),set_getD ha]
 by_cases h1:k=b
 ·rw [if_pos h1,if_pos h1]
 ·rw [if_neg h1,if_neg h1]
  by_cases h2:k=a
  ·rw [if_pos h2,if_pos h2]
  ·rw [if_neg h2,if_neg h2]
theorem swp_cell {c:List (List Rat)}{a b k t:Nat}(ha:a<c.length)(hb:b<c.length):cellQ (swpQ c a b) k t=cellQ c (sw a b k) t:=by
 unfold cellQ;rw [swp_get ha hb]
theorem sw_in {a b k n fr:Nat}(ha:fr≤a∧a<n)(hb:fr≤b∧b<n)(hk:fr≤k∧k<n):fr≤sw a b k∧sw a b k<n:=by
 unfold sw;split
 ·exact ha
 ·split
  ·exact hb
  ·exact hk
theorem resid {p x:Rat}(h0:p≠0):(0<p→0≤x-p*flQ (x/p)∧x-p*flQ (x/p)<p)∧(p<0→p<x-p*flQ (x/p)∧x-p*flQ (x/p)≤0):=by
 obtain⟨h1,h2⟩:=flQ_le (x/p);have e:p*(x/p)=x:=by grind
 refine⟨fun hp=> ?_,fun hp=> ?_⟩
 ·have a:=mulP (Rat.le_of_lt hp) h1
  have b:=Rat.mul_lt_mul_of_pos_left h2 hp
  grind
 ·have a:=mulP (a:= -p) (by grind) h1
  have b:=Rat.mul_lt_mul_of_pos_left h2 (show 0< -p by grind)
  grind
structure Sgn (s p:Rat):Prop where
 e:s=1∨s= -1
 g:1≤s*p
theorem Sgn.of {p:Rat}(h:IsZ p)(h0:p≠0):∃s,Sgn s p:=by
 rcases Rat.le_total (a:=0) (b:=p)with h1 | h1
 ·exact ⟨1,.inl rfl,by have:=h.one (by grind);grind⟩
 ·exact ⟨-1,.inr rfl,by
   have h2:IsZ (0-p):=IsZ.zero.sub h;have:=h2.one (by grind)
   grind⟩
theorem Sgn.res {s p x q:Rat}(h:Sgn s p)(hq:q=flQ (x/p)∨x=0∧q=0):0≤s*(x-p*q)∧s*(x-p*q)<s*p:=by
 have h2:=h.g
 rcases hq with rfl | ⟨rfl,rfl⟩
 ·have h0:p≠0:=fun e=>by rw [e]at h2;grind
  obtain⟨a,b⟩:=resid (x:=x) h0
  rcases h.e with rfl | rfl
  ·have:=a (by grind);grind
  ·have:=b (by grind);grind
 ·rcases h.e with rfl | rfl<;>grind
theorem Wi.sgn {s b q:Rat}(hs:s=1∨s= -1):Wi b (s*q)↔Wi b q:=by
 rcases hs with rfl | rfl
 ·rw [show(1:Rat)*q=q by grind]
 ·rw [show(-1:Rat)*q= -q by grind]
  exact⟨fun h=>by have:=h.neg;rwa [show- -q=q by grind]at this,Wi.neg⟩
theorem sq1 {s:Rat}(hs:s=1∨s= -1):s*s=1:=by rcases hs with rfl | rfl<;>grind
theorem one_u {s p ua xk uk q B D:Rat}(h:Sgn s p)(hr:0≤s*(xk-p*q)∧s*(xk-p*q)<s*p)(hB:Wi B ua)(hc:Wi D (xk*ua-p*uk)):Wi (B+D) (uk-ua*q):=by
 rw [← Wi.sgn h.e];refine rd1_u (x:=s*(xk-p*q)) (ua:=s*ua) (d:=xk*ua-p*uk) h.g hr.1 (Rat.le_of_lt hr.2) ?_ ((Wi.sgn h.e).2 hB) hc;have:=sq1 h.e
 grind
theorem one_m {s p ua xk uk xl ul q r D:Rat}(h:Sgn s p)(hk:0≤s*(xk-p*q)∧s*(xk-p*q)<s*p)(hl:0≤s*(xl-p*r)∧s*(xl-p*r)<s*p)(ck:Wi D (xk*ua-p*uk))(cl:Wi D (xl*ua-p*ul)):
  Wi (D+D) ((xk-p*q)*(ul-ua*r)-(xl-p*r)*(uk-ua*q)):=by
 refine rd1_m (x:=s*(xk-p*q)) (y:=s*(xl-p*r)) h.g ⟨hk.1,Rat.le_of_lt hk.2⟩ ⟨hl.1,Rat.le_of_lt hl.2⟩ ck cl ?_;have:=sq1 h.e
 grind
theorem two_m {s p ua xk uk xl ul q r D:Rat}(h:Sgn s p)(hk:0≤s*(xk-p*q)∧s*(xk-p*q)<s*p)(hl:0≤s*(xl-p*r)∧s*(xl-p*r)<s*p)(gk:s*(xk-p*q)≤s*xk)(gl:s*(xl-p*r)≤s*xl)(ck:Wi D (xk*ua-p*uk))(cl:Wi D (xl*ua-p*ul))(cc:Wi D (xk*ul-xl*uk)):
  Wi D ((xk-p*q)*(ul-ua*r)-(xl-p*r)*(uk-ua*q)):=by
 have:=sq1 h.e;refine rd2_m (x:=s*(xk-p*q)) (y:=s*(xl-p*r)) (X:=s*xk) (Y:=s*xl) (M:=xk*ul-xl*uk) h.g ⟨hk.1,Rat.le_of_lt hk.2,gk⟩ ⟨hl.1,Rat.le_of_lt hl.2,gl⟩ ck cl cc ?_ ?_
 ·grind
 ·grind
theorem two_u {s p ua xk uk q B D:Rat}(h:Sgn s p)(hr:0≤s*(xk-p*q)∧s*(xk-p*q)<s*p)(hq:0≤q)(hB:Wi B uk)(hc:Wi D (xk*ua-p*uk))(hDB:D≤B):Wi B (uk-ua*q):=by
 rw [← Wi.sgn h.e];have:=sq1 h.e;refine rd2_u (ua:=s*ua) (x:=s*(xk-p*q)) (U:=s*uk) (q:=q) (d:=xk*ua-p*uk) h.g hr.1 hq ?_ ?_ ((Wi.sgn h.e).2 hB) hc hDB
 ·grind
 ·grind
theorem scan_spec {c:List (List Rat)}{i fr:Nat}:∀d,((scanS c i fr d).2=0→∀k,fr≤k→k<fr+d→cellQ c k i=0)∧((scanS c i fr d).2=1→∀k,fr≤k→k<fr+d→k≠(scanS c i fr d).1→cellQ c k i=0)∧((scanS c i fr d).2≠0→∀k,fr≤k→k<fr+d→cellQ c k i=0∨absQ (cellQ c (scanS c i fr d).1 i)≤absQ (cellQ c k i))
 | 0=>⟨fun _ k h1 h2=>by omega,fun h=>by simp [scanS]at h,fun h=>absurd rfl h⟩
 | d+1=>by
  obtain⟨h1,h2,h3⟩:=scan_spec (c:=c) (i:=i) (fr:=fr) d;simp only [scanS]
  by_cases hx:cellQ c (fr+d) i=0
  ·rw [if_pos hx]
   refine⟨fun h k a b=> ?_,fun h k a b e=> ?_,fun h k a b=> ?_⟩
   ·by_cases hk:k=fr+d
    ·rw [hk];exact hx
    ·exact h1 h k a (by omega)
   ·by_cases hk:k=fr+d
    ·rw [hk];exact hx
    ·exact h2 h k a (by omega) e
   ·by_cases hk:k=fr+d
    ·rw [hk];exact .inl hx
    ·exact h3 h k a (by omega)
  ·rw [if_neg hx]
   simp only;refine⟨fun h=>by omega,fun h k a b e=> ?_,fun _ k a b=> ?_⟩
   ·have h0:(scanS c i fr d).2=0:=by omega
    rw [if_pos (.inl h0)]at e;exact h1 h0 k a (by omega)
   ·by_cases h0:(scanS c i fr d).2=0∨absQ (cellQ c (fr+d) i)<absQ (cellQ c (scanS c i fr d).1 i)
    ·rw [if_pos h0]
     by_cases hk:k=fr+d
     ·rw [hk];exact .inr Rat.le_refl
     ·rcases h0 with h0 | h0
      ·exact .inl (h1 h0 k a (by omega))
      ·by_cases h9:(scanS c i fr d).2=0
       ·exact .inl (h1 h9 k a (by omega))
       ·rcases h3 h9 k a (by omega)with h | h
        ·exact .inl h
        ·exact .inr (Rat.le_trans (Rat.le_of_lt h0) h)
    ·rw [if_neg h0]
     have h9:¬(scanS c i fr d).2=0:=fun e=>h0 (.inl e)
     by_cases hk:k=fr+d
     ·rw [hk];exact .inr (Rat.not_lt.1 fun e=>h0 (.inr e))
     ·exact h3 h9 k a (by omega)
theorem scan_two {c:List (List Rat)}{i fr:Nat}:∀d,(scanS c i fr d).2≠0→(scanS c i fr d).2≠1→∃k,fr≤k∧k<fr+d∧k≠(scanS c i fr d).1∧cellQ c k i≠0
 | 0,h,_=>absurd rfl h
 | d+1,h,h'=>by
  have hin:=scan_bd (c:=c) (i:=i) (fr:=fr) d;simp only [scanS]at h h' ⊢
  by_cases hx:cellQ c (fr+d) i=0
  ·rw [if_pos hx]at h h' ⊢
   obtain⟨k,h1,h2,h3,h4⟩:=scan_two d h h';exact⟨k,h1,by omega,h3,h4⟩
  ·rw [if_neg hx]at h h' ⊢
   simp only at h h' ⊢;obtain⟨b1,b2,b3⟩:=hin.2 (by omega)
   split
   ·exact ⟨_,b1,by omega,by omega,b3⟩
   ·exact ⟨fr+d,by omega,by omega,by omega,hx⟩
structure Cols (n L:Nat)(c:List (List Rat)):Prop where
 l:c.length=n
 u:∀k,k<n→(c.getD k []).length=L
 z:∀k t,IsZ (cellQ c k t)
def BdL (n fr t:Nat)(B:Rat)(c:List (List Rat)):Prop:=∀k,fr≤k→k<n→Wi B (cellQ c k t)
def Cr (n fr i t:Nat)(D:Rat)(c:List (List Rat)):Prop:=∀k l,fr≤k→k<n→fr≤l→l<n→Wi D (cellQ c k i*cellQ c l t-cellQ c l i*cellQ c k t)
def Sg (n fr i:Nat)(s:Rat)(c:List (List Rat)):Prop:=∀k,fr≤k→k<n→0≤s*cellQ c k i
theorem Cols.swap {n L:Nat}{c:List (List Rat)}(h:Cols n L c){a b:Nat}(ha:a<n)(hb:b<n):Cols n L (swpQ c a b):=by
 have hl:=h.l;refine⟨by simp [swpQ,h.l],fun k hk=> ?_,fun k t=> ?_⟩
 ·rw [swp_get (by omega) (by omega)]
  exact h.u _ (sw_in (fr:=0) ⟨by omega,ha⟩ ⟨by omega,hb⟩ ⟨by omega,hk⟩).2
 ·rw [swp_cell (by omega) (by omega)];exact h.z _ _
theorem BdL.swap {n L fr t a b:Nat}{B:Rat}{c:List (List Rat)}(hc:Cols n L c)(h:BdL n fr t B c)(ha:fr≤a∧a<n)(hb:fr≤b∧b<n):BdL n fr t B (swpQ c a b):=fun k h1 h2=>by
 have hl:=hc.l;have:=sw_in ha hb ⟨h1,h2⟩;rw [swp_cell (by omega) (by omega)]
 exact h _ this.1 this.2
theorem Cr.swap {n L fr i t a b:Nat}{D:Rat}{c:List (List Rat)}(hc:Cols n L c)(h:Cr n fr i t D c)(ha:fr≤a∧a<n)(hb:fr≤b∧b<n):Cr n fr i t D (swpQ c a b):=fun k l h1 h2 h3 h4=>by
 have hl:=hc.l;have hk:=sw_in ha hb ⟨h1,h2⟩;have hl:=sw_in ha hb ⟨h3,h4⟩
 repeat rw [swp_cell (by omega) (by omega)]
 exact h _ _ hk.1 hk.2 hl.1 hl.2
theorem Sg.swap {n L fr i a b:Nat}{s:Rat}{c:List (List Rat)}(hc:Cols n L c)(h:Sg n fr i s c)(ha:fr≤a∧a<n)(hb:fr≤b∧b<n):Sg n fr i s (swpQ c a b):=fun k h1 h2=>by
 have hl:=hc.l;have:=sw_in ha hb ⟨h1,h2⟩;rw [swp_cell (by omega) (by omega)]
 exact h _ this.1 this.2
theorem red_cell {n L fr i k t:Nat}{c:List (List Rat)}(hc:Cols n L c)(h1:fr<k)(h2:k<n):cellQ (redK c i fr (n-(fr+1))) k t=cellQ c k t-cellQ c fr t*qOf c i fr k:=
 redK_cell (fun k hk=>hc.u k (by rw [hc.l]at hk;exact hk)) h1 (by omega) (by rw [hc.l];exact h2)
theorem red_low {n fr i k t:Nat}{c:List (List Rat)}(h:k≤fr):cellQ (redK c i fr n) k t=cellQ c k t:=by unfold cellQ;rw [redK_low _ _ h]
theorem red_high {fr i k t d:Nat}{c:List (List Rat)}(h:fr+1+d≤k):cellQ (redK c i fr d) k t=cellQ c k t:=by unfold cellQ;rw [redK_high _ _ h]
theorem Cols.red {n L fr i:Nat}{c:List (List Rat)}(h:Cols n L c)(hf:fr<n):Cols n L (redK c i fr (n-(fr+1))):=by
 refine⟨by rw [redK_len,h.l],fun k hk=> ?_,fun k t=> ?_⟩
 ·have key:∀d,fr+1+d≤n→∀k,k<n→((redK c i fr d).getD k []).length=L:=by
   intro d
   induction d with
   | zero=>exact fun _ k hk=>h.u k hk
   | succ d ih=>
    intro hd k hk;simp only [redK]
    split
    ·exact ih (by omega) k hk
    ·rw [set_getD (by rw [redK_len,h.l];omega)]
     split
     ·rw [lessQ_len];exact ih (by omega) _ (by omega)
     ·exact ih (by omega) k hk
  exact key _ (by omega) k hk
 ·by_cases h1:k≤fr
  ·rw [red_low h1];exact h.z _ _
  ·by_cases h2:k<n
   ·rw [red_cell h (by omega) h2];exact(h.z _ _).sub ((h.z _ _).mul qOf_z)
   ·rw [red_high (by omega)];exact h.z _ _
theorem Sgn.q {s:Rat}{fr i k:Nat}{c:List (List Rat)}(h:Sgn s (cellQ c fr i)):0≤s*(cellQ c k i-cellQ c fr i*qOf c i fr k)∧s*(cellQ c k i-cellQ c fr i*qOf c i fr k)<s*cellQ c fr i:=by
 refine h.res ?_;unfold qOf
 by_cases e:cellQ c k i=0
 ·rw [if_pos e];exact .inr ⟨e,rfl⟩
 ·rw [if_neg e];exact .inl rfl
theorem Sgn.q0 {s:Rat}{fr i k:Nat}{c:List (List Rat)}(h:Sgn s (cellQ c fr i))(hk:0≤s*cellQ c k i):0≤qOf c i fr k:=by
 have hp:=h.g;have hr:=h.q (k:=k)
 rcases Rat.le_total (a:=0) (b:=qOf c i fr k)with h1 | h1
 ·exact h1
 ·rw [← Rat.not_lt]
  intro h2;obtain⟨z,hz⟩:=qOf_z (c:=c) (i:=i) (fr:=fr) (k:=k);have h3:qOf c i fr k≤ -1:=by
   have:(0:Rat)-qOf c i fr k≥1:=(IsZ.zero.sub qOf_z).one (by grind)
   grind
  have:=mulP (a:=s*cellQ c fr i) (by grind) h3
  grind
theorem red_sg {n L fr i:Nat}{s:Rat}{c:List (List Rat)}(hc:Cols n L c)(hs:Sgn s (cellQ c fr i)):Sg n fr i s (redK c i fr (n-(fr+1)))∧∀k,fr<k→k<n→s*cellQ (redK c i fr (n-(fr+1))) k i<s*cellQ c fr i:=by
 refine⟨fun k h1 h2=> ?_,fun k h1 h2=> ?_⟩
 ·by_cases e:k=fr
  ·subst e;rw [red_low (Nat.le_refl _)];have:=hs.g;grind
  ·rw [red_cell hc (by omega) h2];exact hs.q.1
 ·rw [red_cell hc h1 h2];exact hs.q.2
theorem Wi.self {x:Rat}:Wi 0 (x-x):=by unfold Wi;grind
theorem round_one {n L fr i t:Nat}{s B D:Rat}{c:List (List Rat)}(hc:Cols n L c)(hs:Sgn s (cellQ c fr i))(hf:fr<n)(hB:BdL n fr t B c)(hC:Cr n fr i t D c):BdL n fr t (B+D) (redK c i fr (n-(fr+1)))∧Cr n fr i t (D+D) (redK c i fr (n-(fr+1))):=by
 have hD:0≤D:=(hC fr fr (Nat.le_refl _) hf (Nat.le_refl _) hf).nonneg;refine⟨fun k h1 h2=> ?_,fun k l h1 h2 h3 h4=> ?_⟩
 ·by_cases e:k=fr
  ·subst e;rw [red_low (Nat.le_refl _)];exact(hB _ h1 h2).mono (by grind)
  ·rw [red_cell hc (by omega) h2]
   exact one_u hs hs.q (hB fr (Nat.le_refl _) hf) (hC k fr h1 h2 (Nat.le_refl _) hf)
 ·by_cases e:k=fr
  ·subst e
   by_cases e':l=k
   ·subst e';exact Wi.self.mono (by grind)
   ·rw [red_low (Nat.le_refl _),red_low (Nat.le_refl _),red_cell hc (by omega) h4,red_cell hc (by omega) h4]
    have:=hC k l h1 h2 h3 h4;refine Wi.mono (b:=D) ?_ (by grind)
    rw [show cellQ c k i*(cellQ c l t-cellQ c k t*qOf c i k l)-(cellQ c l i-cellQ c k i*qOf c i k l)*cellQ c k t=cellQ c k i*cellQ c l t-cellQ c l i*cellQ c k t by grind]
    exact this
  ·by_cases e':l=fr
   ·subst e'
    rw [red_low (Nat.le_refl _),red_low (Nat.le_refl _),red_cell hc (by omega) h2,red_cell hc (by omega) h2]
    have:=hC k l h1 h2 h3 h4;refine Wi.mono (b:=D) ?_ (by grind)
    rw [show(cellQ c k i-cellQ c l i*qOf c i l k)*cellQ c l t-cellQ c l i*(cellQ c k t-cellQ c l t*qOf c i l k)=cellQ c k i*cellQ c l t-cellQ c l i*cellQ c k t by grind]
    exact this
   ·rw [red_cell hc (by omega) h2,red_cell hc (by omega) h2,red_cell hc (by omega) h4,red_cell hc (by omega) h4]
    exact one_m hs hs.q hs.q (hC k fr h1 h2 (Nat.le_refl _) hf) (hC l fr h3 h4 (Nat.le_refl _) hf)
theorem round_two {n L fr i t:Nat}{s B D:Rat}{c:List (List Rat)}(hc:Cols n L c)(hs:Sgn s (cellQ c fr i))(hf:fr<n)(hS:Sg n fr i s c)(hB:BdL n fr t B c)(hC:Cr n fr i t D c)(hDB:D≤B):BdL n fr t B (redK c i fr (n-(fr+1)))∧Cr n fr i t D (redK c i fr (n-(fr+1))):=by
 have hD:0≤D:=(hC fr fr (Nat.le_refl _) hf (Nat.le_refl _) hf).nonneg;have less:∀k,fr≤k→k<n→s*(cellQ c k i-cellQ c fr i*qOf c i fr k)≤s*cellQ c k i:=fun k h1 h2=>by
  have:=mulP (hs.q0 (hS k h1 h2)) (show(0:Rat)≤s*cellQ c fr i by have:=hs.g;grind)
  grind
 refine⟨fun k h1 h2=> ?_,fun k l h1 h2 h3 h4=> ?_⟩
 ·by_cases e:k=fr
  ·subst e;rw [red_low (Nat.le_refl _)];exact hB _ h1 h2
  ·rw [red_cell hc (by omega) h2]
   exact two_u hs hs.q (hs.q0 (hS k h1 h2)) (hB k h1 h2) (hC k fr h1 h2 (Nat.le_refl _) hf) hDB
 ·by_cases e:k=fr
  ·subst e
   by_cases e':l=k
   ·subst e';exact Wi.self.mono (by grind)
   ·rw [red_low (Nat.le_refl _),red_low (Nat.le_refl _),red_cell hc (by omega) h4,red_cell hc (by omega) h4]
    have:=hC k l h1 h2 h3 h4;rw [show cellQ c k i*(cellQ c l t-cellQ c k t*qOf c i k l)-(cellQ c l i-cellQ c k i*qOf c i k l)*cellQ c k t=cellQ c k i*cellQ c l t-cellQ c l i*cellQ c k t by grind]
    exact this
  ·by_cases e':l=fr
   ·subst e'
    rw [red_low (Nat.le_refl _),red_low (Nat.le_refl _),red_cell hc (by omega) h2,red_cell hc (by omega) h2]
    have:=hC k l h1 h2 h3 h4;rw [show(cellQ c k i-cellQ c l i*qOf c i l k)*cellQ c l t-cellQ c l i*(cellQ c k t-cellQ c l t*qOf c i l k)=cellQ c k i*cellQ c l t-cellQ c l i*cellQ c k t by grind]
    exact this
   ·rw [red_cell hc (by omega) h2,red_cell hc (by omega) h2,red_cell hc (by omega) h4,red_cell hc (by omega) h4]
    exact two_m hs hs.q hs.q (less k h1 h2) (less l h3 h4) (hC k fr h1 h2 (Nat.le_refl _) hf) (hC l fr h3 h4 (Nat.le_refl _) hf) (hC k l h1 h2 h3 h4)
theorem IsZ.num {q:Rat}(h:IsZ q):q=(q.num:Rat):=by obtain⟨z,rfl⟩:=h;rw [Rat.num_intCast]
theorem bdQ_of {q B:Rat}(hz:IsZ q)(hw:Wi B q)(hB:B<((4294967296^1500:Nat):Rat)):bdQ q=true:=by
 unfold bdQ;refine decide_eq_true ⟨hz.den,?_⟩;generalize 4294967296^1500=M at *;obtain⟨z,rfl⟩:=hz;rw [Rat.num_intCast];unfold Wi at hw;have e:((M:Nat):Rat)=((M:Int):Rat):=(Rat.intCast_natCast M).symm;rw [e]at hB;have h1:(z:Rat)<((M:Int):Rat):=by grind
 have h2:((-(M:Int):Int):Rat)<(z:Rat):=by rw [Rat.intCast_neg];grind
 rw [Rat.intCast_lt_intCast]at h1 h2;omega
theorem all_bd {n L:Nat}{c:List (List Rat)}{B:Rat}(hc:Cols n L c)(h:∀k t,k<n→Wi B (cellQ c k t))(hB:B<((4294967296^1500:Nat):Rat)):bdC c=true:=by
 unfold bdC;rw [List.all_eq_true];intro l hl;obtain⟨k,hk,rfl⟩:=List.getElem_of_mem hl;rw [List.all_eq_true];intro q hq;obtain⟨t,ht,rfl⟩:=List.getElem_of_mem hq;have e:c[k][t]=cellQ c k t:=by
  unfold cellQ;rw [List.getD_eq_getElem?_getD (l:=c),List.getElem?_eq_getElem hk,Option.getD_some,List.getD_eq_getElem?_getD,List.getElem?_eq_getElem ht];rfl
 rw [e];exact bdQ_of (hc.z _ _) (h _ _ (by rw [← hc.l];exact hk)) hB
structure ClrOut (n L i fr:Nat)(c:List (List Rat))(b:Bool)(c':List (List Rat)):Prop where
 cols:Cols n L c'
 no:b=false→c'=c∧∀k,fr≤k→k<n→cellQ c k i=0
 yes:b=true→fr<n∧cellQ c' fr i≠0∧∀k,fr<k→k<n→cellQ c' k i=0
structure Kept (n L fr:Nat)(R:List (List Rat)→Prop):Prop where
 swap:∀c a b,Cols n L c→fr≤a→a<n→fr≤b→b<n→R c→R (swpQ c a b)
 red:∀c i,Cols n L c→fr<n→R c→R (redK c i fr (n-(fr+1)))
theorem absQ_of {s x:Rat}(hs:s=1∨s= -1)(h:0≤s*x):absQ x=s*x:=by
 unfold absQ
 rcases hs with rfl | rfl
 ·rw [if_neg (by grind)];grind
 ·split<;>grind
theorem clear_later {n L i fr:Nat}{B D s:Rat}{R:List (List Rat)→Prop}(hR:Kept n L fr R)(hDB:D≤B)(hlim:B<((4294967296^1500:Nat):Rat))(hs:s=1∨s= -1):
  ∀(f:Nat) (c:List (List Rat)),Cols n L c→fr<n→Sg n fr i s c→(∀t,BdL n fr t B c)→(∀t,Cr n fr i t D c)→(∀k t,k<fr→Wi B (cellQ c k t))→R c→cellQ c fr i≠0→(∀k,fr<k→k<n→s*cellQ c k i<s*cellQ c fr i)→s*cellQ c fr i<(f:Rat)→
  ∃c',clearR n i fr f c=some (true,c')∧Cols n L c'∧R c'∧(∀k t,k<n→Wi B (cellQ c' k t))∧cellQ c' fr i≠0∧(∀k,fr<k→k<n→cellQ c' k i=0)
 | 0,c,hc,hf,hS,hB,hC,hlow,hr,h0,hless,hm=>by
  have:=hS fr (Nat.le_refl _) hf;have e:((0:Nat):Rat)=0:=rfl;rw [e]at hm
  grind
 | f+1,c,hc,hf,hS,hB,hC,hlow,hr,h0,hless,hm=>by
  have hin:=scan_bd (c:=c) (i:=i) (fr:=fr) (n-fr);obtain⟨p1,p2,p3⟩:=scan_spec (c:=c) (i:=i) (fr:=fr) (n-fr);have ne:(scanS c i fr (n-fr)).2≠0:=fun e=>h0 (p1 e fr (Nat.le_refl _) (by omega))
  obtain⟨a1,a2,a3⟩:=hin.2 ne;generalize hb:(scanS c i fr (n-fr)).1=b at *;have hbn:b<n:=by omega
  have hl:=hc.l;have hc1:=hc.swap hf hbn;have hfr:cellQ (swpQ c fr b) fr i=cellQ c b i:=by
   rw [swp_cell (by omega) (by omega)];unfold sw;split
   ·rename_i e;rw [e]
   ·rw [if_pos rfl]
  have hr1:R (swpQ c fr b):=hR.swap c fr b hc (Nat.le_refl _) hf a1 hbn hr;have hB1:=fun t=>(hB t).swap hc ⟨Nat.le_refl _,hf⟩ ⟨a1,hbn⟩
  have hC1:=fun t=>(hC t).swap hc ⟨Nat.le_refl _,hf⟩ ⟨a1,hbn⟩
  have hS1:=hS.swap hc ⟨Nat.le_refl _,hf⟩ ⟨a1,hbn⟩;have hlow1:∀k t,k<fr→Wi B (cellQ (swpQ c fr b) k t):=fun k t hk=>by
   rw [swp_cell (by omega) (by omega)]
   unfold sw;rw [if_neg (by omega),if_neg (by omega)]
   exact hlow k t hk
  unfold clearR;simp only [hb];rw [if_neg ne]
  by_cases e1:(scanS c i fr (n-fr)).2=1
  ·rw [if_pos e1]
   refine⟨_,rfl,hc1,hr1,fun k t hk=> ?_,by rw [hfr];exact a3,fun k h1 h2=> ?_⟩
   ·by_cases hkf:fr≤k
    ·exact hB1 t k hkf hk
    ·exact hlow1 k t (by omega)
   ·rw [swp_cell (by omega) (by omega)]
    have:=sw_in (fr:=fr) ⟨Nat.le_refl _,hf⟩ ⟨a1,hbn⟩ ⟨Nat.le_of_lt h1,h2⟩;refine p2 e1 _ this.1 (by omega) ?_
    unfold sw
    split
    ·rename_i e;omega
    ·split
     ·omega
     ·omega
  ·rw [if_neg e1]
   have hsg:Sgn s (cellQ (swpQ c fr b) fr i):=by
    refine⟨hs,?_⟩;rw [hfr];have h1:=hS b a1 hbn;have h2:IsZ (s*cellQ c b i):=IsZ.mul (by rcases hs with rfl | rfl;exact⟨1,rfl⟩;exact⟨-1,rfl⟩) (hc.z _ _)
    refine h2.one ?_;have h3:s*cellQ c b i≠0:=fun e=>a3 (by rcases hs with rfl | rfl<;>grind)
    grind
   have hc2:=hc1.red (i:=i) hf;have two:=fun t=>round_two hc1 hsg hf hS1 (hB1 t) (hC1 t) hDB
   obtain⟨sg2,less2⟩:=red_sg hc1 hsg;have hlow2:∀k t,k<fr→Wi B (cellQ (redK (swpQ c fr b) i fr (n-(fr+1))) k t):=fun k t hk=>by
    rw [red_low (by omega)];exact hlow1 k t hk
   have hall:bdC (redK (swpQ c fr b) i fr (n-(fr+1)))=true:=all_bd hc2 (fun k t hk=>by
    by_cases hkf:fr≤k
    ·exact (two t).1 k hkf hk
    ·exact hlow2 k t (by omega)) hlim
   rw [if_pos hall];have hfr2:cellQ (redK (swpQ c fr b) i fr (n-(fr+1))) fr i=cellQ c b i:=by rw [red_low (Nat.le_refl _),hfr]
   refine clear_later hR hDB hlim hs f _ hc2 hf sg2 (fun t=>(two t).1) (fun t=>(two t).2) hlow2 (hR.red _ i hc1 hf hr1) (by rw [hfr2];exact a3) (fun k h1 h2=>by rw [hfr2,←hfr];exact less2 k h1 h2) ?_
   rw [hfr2];have hbf:b≠fr:=by
    intro e;obtain⟨k,k1,k2,k3,k4⟩:=scan_two (c:=c) (i:=i) (fr:=fr) (n-fr) ne e1;rw [hb]at k3;have h8:=hless k (by omega) (by omega)
    rcases p3 ne k k1 k2 with h9 | h9
    ·exact k4 h9
    ·rw [absQ_of hs (hS b a1 hbn),absQ_of hs (hS k k1 (by omega)),e]at h9
     grind
   have h5:=hless b (by omega) hbn
   have h6:((f+1:Nat):Rat)=(f:Rat)+1:=by rw [Rat.natCast_add];rfl
   rw [h6]at hm;obtain⟨z,hz⟩:IsZ (s*cellQ c b i):=IsZ.mul (by rcases hs with rfl | rfl;exact⟨1,rfl⟩;exact⟨-1,rfl⟩) (hc.z _ _)
   obtain⟨y,hy⟩:IsZ (s*cellQ c fr i):=IsZ.mul (by rcases hs with rfl | rfl;exact⟨1,rfl⟩;exact⟨-1,rfl⟩) (hc.z _ _)
   rw [hz,hy,Rat.intCast_lt_intCast]at h5;rw [hy]at hm;have h7:(y:Rat)<((f+1:Int):Rat):=by rw [Rat.intCast_add];exact hm
   rw [Rat.intCast_lt_intCast]at h7;rw [hz];have:(z:Rat)<((f:Int):Rat):=Rat.intCast_lt_intCast.2 (by omega)
   exact this
theorem clear_all {n L i fr:Nat}{A B D:Rat}{R:List (List Rat)→Prop}(hR:Kept n L fr R)(hAB:A+D≤B)(hDB:D+D≤B)(hlim:B<((4294967296^1500:Nat):Rat)){f:Nat}{c:List (List Rat)}(hc:Cols n L c)(hf:fr≤n)(hA0:0≤A)(hD0:0≤D)(hA:∀k t,k<n→Wi A (cellQ c k t))(hC:∀t,Cr n fr i t D c)(hr:R c)(hm:A+1<(f:Rat)):
  ∃b c',clearR n i fr f c=some (b,c')∧ClrOut n L i fr c b c'∧R c'∧∀k t,k<n→Wi B (cellQ c' k t):=by
 obtain⟨g,rfl⟩:∃g,f=g+1:=by
  rcases f with _ | g
  ·exfalso
   have e:((0:Nat):Rat)=0:=rfl;rw [e]at hm;grind
  ·exact ⟨g,rfl⟩
 have hm2:A<(g:Rat):=by
  have h6:((g+1:Nat):Rat)=(g:Rat)+1:=by rw [Rat.natCast_add];rfl
  rw [h6]at hm;grind
 have hin:=scan_bd (c:=c) (i:=i) (fr:=fr) (n-fr);obtain⟨p1,p2,p3⟩:=scan_spec (c:=c) (i:=i) (fr:=fr) (n-fr)
 by_cases ne:(scanS c i fr (n-fr)).2=0
 ·have hAB':A≤B:=by grind
  exact⟨false,c,by unfold clearR;simp only;rw [if_pos ne],⟨hc,fun _=>⟨rfl,fun k h1 h2=>p1 ne k h1 (by omega)⟩,fun h=>by cases h⟩,hr,fun k t hk=>(hA k t hk).mono hAB'⟩
 ·obtain ⟨a1,a2,a3⟩:=hin.2 ne
  generalize hb:(scanS c i fr (n-fr)).1=b at *;have hbn:b<n:=by omega
  have hfn:fr<n:=by omega
  have hl:=hc.l;have hD:0≤D:=((hC 0) fr fr (Nat.le_refl _) hfn (Nat.le_refl _) hfn).nonneg;have hc1:=hc.swap hfn hbn;have hfr:cellQ (swpQ c fr b) fr i=cellQ c b i:=by
   rw [swp_cell (by omega) (by omega)];unfold sw;split
   ·rename_i e;rw [e]
   ·rw [if_pos rfl]
  have hr1:R (swpQ c fr b):=hR.swap c fr b hc (Nat.le_refl _) hfn a1 hbn hr;have hA1:∀k t,k<n→Wi A (cellQ (swpQ c fr b) k t):=fun k t hk=>by
   rw [swp_cell (by omega) (by omega)]
   exact hA _ _ (sw_in (fr:=0) ⟨by omega,hfn⟩ ⟨by omega,hbn⟩ ⟨by omega,hk⟩).2
  have hC1:=fun t=>(hC t).swap hc ⟨Nat.le_refl _,hfn⟩ ⟨a1,hbn⟩
  by_cases e1:(scanS c i fr (n-fr)).2=1
  ·refine ⟨true,_,by unfold clearR;simp only [hb];rw [if_neg ne,if_pos e1],⟨hc1,fun h=>(by cases h),fun _=>⟨hfn,by rw [hfr];exact a3,fun k h1 h2=> ?_⟩⟩,hr1,fun k t hk=>(hA1 k t hk).mono (by grind)⟩
   rw [swp_cell (by omega) (by omega)]
   have:=sw_in (fr:=fr) ⟨Nat.le_refl _,hfn⟩ ⟨a1,hbn⟩ ⟨Nat.le_of_lt h1,h2⟩;refine p2 e1 _ this.1 (by omega) ?_
   unfold sw
   split
   ·omega
   ·split
    ·omega
    ·omega
  ·obtain ⟨s,hsg⟩:=Sgn.of (hc1.z fr i) (by rw [hfr];exact a3)
   have hc2:=hc1.red (i:=i) hfn;have one:=fun t=>round_one hc1 hsg hfn (fun k h1 h2=>hA1 k t h2) (hC1 t)
   obtain⟨sg2,less2⟩:=red_sg hc1 hsg;have hlow2:∀k t,k<fr→Wi B (cellQ (redK (swpQ c fr b) i fr (n-(fr+1))) k t):=fun k t hk=>by
    rw [red_low (by omega)];exact(hA1 k t (by omega)).mono (by grind)
   have hB2:=fun t k h1 h2=>((one t).1 k h1 h2).mono hAB
   have hall:bdC (redK (swpQ c fr b) i fr (n-(fr+1)))=true:=all_bd hc2 (fun k t hk=>by
    by_cases hkf:fr≤k
    ·exact hB2 t k hkf hk
    ·exact hlow2 k t (by omega)) hlim
   have hfr2:cellQ (redK (swpQ c fr b) i fr (n-(fr+1))) fr i=cellQ (swpQ c fr b) fr i:=red_low (Nat.le_refl _);obtain⟨c',h1,h2,h3,h4,h5,h6⟩:=clear_later (i:=i) (D:=D+D) hR hDB hlim hsg.e g _ hc2 hfn sg2 (fun t=>hB2 t) (fun t=>(one t).2) hlow2 (hR.red _ i hc1 hfn hr1) (by rw [hfr2,hfr];exact a3) (fun k k1 k2=>by rw [hfr2];exact less2 k k1 k2) (by
    rw [hfr2];have:=(Wi.sgn hsg.e).2 (hA1 fr i hfn);unfold Wi at this
    grind)
   exact⟨true,c',by unfold clearR;simp only [hb];rw [if_neg ne,if_neg e1,if_pos hall];exact h1,⟨h2,fun h=>(by cases h),fun _=>⟨hfn,h5,h6⟩⟩,h3,h4⟩
theorem sQ_sw {f:Nat→Rat}{n a b:Nat}(ha:a<n)(hb:b<n):sQ n (fun k=>f (sw a b k))=sQ n f:=by
 by_cases e:a=b
 ·subst e
  refine sQ_congr n fun k _=> ?_
  unfold sw
  split
  ·rename_i h;rw [h]
  ·rfl
 have h:sQ n (fun k=>f (sw a b k)-f k)=sQ n fun k=>(if k=a then f b-f a else 0)+(if k=b then f a-f b else 0):=by
  refine sQ_congr n fun k _=> ?_
  unfold sw
  by_cases h1:k=b
  ·rw [if_pos h1,if_neg (by omega),if_pos h1,h1];grind
  ·rw [if_neg h1,if_neg h1]
   by_cases h2:k=a
   ·rw [if_pos h2,if_pos h2,h2];grind
   ·rw [if_neg h2,if_neg h2];grind
 rw [sQ_sub,sQ_add,sQ_one n ha,sQ_one n hb]at h
 grind
theorem sw_sw {a b k:Nat}:sw a b (sw a b k)=k:=by
 unfold sw
 by_cases h1:k=b
 ·rw [if_pos h1]
  by_cases h2:a=b
  ·rw [if_pos h2];omega
  ·rw [if_neg h2,if_pos rfl];omega
 ·rw [if_neg h1]
  by_cases h2:k=a
  ·rw [if_pos h2,if_pos rfl];omega
  ·rw [if_neg h2,if_neg h1,if_neg h2]
def qAll (c:List (List Rat))(i fr k:Nat):Rat:=if fr<k then qOf c i fr k else 0
theorem qAll_z {c:List (List Rat)}{i fr k:Nat}:IsZ (qAll c i fr k):=by
 unfold qAll
 split
 ·exact qOf_z
 ·exact IsZ.zero
theorem red_all {n L fr i k t:Nat}{c:List (List Rat)}(hc:Cols n L c)(h2:k<n):cellQ (redK c i fr (n-(fr+1))) k t=cellQ c k t-cellQ c fr t*qAll c i fr k:=by
 unfold qAll
 by_cases h:fr<k
 ·rw [if_pos h,red_cell hc h h2]
 ·rw [if_neg h,red_low (by omega)];grind
theorem kept_lin {n L fr m:Nat}{A:Nat→Nat→Rat}:Kept n L fr fun c=>∀k,k<n→∀r,r<m→cellQ c k r=sQ n fun j=>A r j*cellQ c k (m+j)where
 swap c a b hc ha1 ha hb1 hb h k hk r hr:=by
  have hl:=hc.l;have:=(sw_in (fr:=0) (a:=a) (b:=b) (k:=k) ⟨by omega,ha⟩ ⟨by omega,hb⟩ ⟨by omega,hk⟩).2
  rw [swp_cell (by omega) (by omega),h _ this r hr]
  exact sQ_congr n fun j _=>by rw [swp_cell (by omega) (by omega)]
 red c i hc hf h k hk r hr:=by
  rw [red_all hc hk,h k hk r hr,h fr hf r hr,←sQ_mul',←sQ_sub];exact sQ_congr n fun j _=>by rw [red_all hc hk];grind
theorem kept_func {n L fr K:Nat}{W:Nat→Rat}:Kept n L fr fun c=>∀k,fr≤k→k<n→(sQ K fun t=>W t*cellQ c k t)=0 where
 swap c a b hc ha1 ha hb1 hb h k hk1 hk:=by
  have hl:=hc.l;have:=sw_in ⟨ha1,ha⟩ ⟨hb1,hb⟩ ⟨hk1,hk⟩;refine Eq.trans ?_ (h _ this.1 this.2);exact sQ_congr K fun t _=>by rw [swp_cell (by omega) (by omega)]
 red c i hc hf h k hk1 hk:=by
  have e:(sQ K fun t=>W t*cellQ (redK c i fr (n-(fr+1))) k t)=(sQ K fun t=>W t*cellQ c k t)-(sQ K fun t=>W t*cellQ c fr t)*qAll c i fr k:=by
   rw [← sQ_mul',←sQ_sub];exact sQ_congr K fun t _=>by rw [red_all hc hk];grind
  rw [e,h k hk1 hk,h fr (Nat.le_refl _) hf];grind
theorem kept_low {n L fr:Nat}{c0:List (List Rat)}:Kept n L fr fun c=>∀k,k<fr→c.getD k []=c0.getD k []where
 swap c a b hc ha1 ha hb1 hb h k hk:=by
  have hl:=hc.l;rw [swp_get (by omega) (by omega)]
  unfold sw;rw [if_neg (by omega),if_neg (by omega)]
  exact h k hk
 red c i hc hf h k hk:=by rw [redK_low _ _ (by omega)];exact h k hk
theorem kept_span {n L fr:Nat}{v:Nat→Rat}:Kept n L fr fun c=>∃z:Nat→Rat,(∀k,IsZ (z k))∧∀t,v t=sQ n fun k=>z k*cellQ c k t where
 swap c a b hc ha1 ha hb1 hb h:=by
  have hl:=hc.l;obtain⟨z,hz,h⟩:=h;refine⟨fun k=>z (sw a b k),fun k=>hz _,fun t=> ?_⟩
  rw [h t,←sQ_sw ha hb];exact sQ_congr n fun k _=>by rw [swp_cell (by omega) (by omega)]
 red c i hc hf h:=by
  obtain⟨z,hz,h⟩:=h;have hS:∀d,IsZ (sQ d fun k=>z k*qAll c i fr k):=fun d=>by
   induction d with
   | zero=>exact IsZ.zero
   | succ d ih=>exact ih.add ((hz d).mul qAll_z)
  obtain⟨S,hSe⟩:∃S,S=sQ n fun k=>z k*qAll c i fr k:=⟨_,rfl⟩
  refine⟨fun k=>z k+(if k=fr then S else 0),fun k=>(hz k).add (by split;rw [hSe];exact hS n;exact IsZ.zero),fun t=> ?_⟩
  have e1:(sQ n fun k=>(z k+(if k=fr then S else 0))*cellQ (redK c i fr (n-(fr+1))) k t)=(sQ n fun k=>z k*cellQ c k t)-(sQ n fun k=>z k*qAll c i fr k)*cellQ c fr t+S*cellQ c fr t:=by
   rw [← sQ_mul',←sQ_sub,←sQ_one (v:=fr) (g:=S*cellQ c fr t) n hf,←sQ_add];refine sQ_congr n fun k hk=> ?_
   rw [red_all hc hk]
   by_cases e:k=fr
   ·rw [if_pos e,if_pos e,e]
    have:qAll c i fr fr=0:=if_neg (by omega)
    rw [this];grind
   ·rw [if_neg e,if_neg e];grind
  rw [e1,←hSe,h t];grind
theorem kept_free {n L fr:Nat}:Kept n L fr fun c=>∀y:Nat→Rat,(∀t,(sQ n fun k=>y k*cellQ c k t)=0)→∀k,k<n→y k=0 where
 swap c a b hc ha1 ha hb1 hb h y hy k hk:=by
  have hl:=hc.l;have:=h (fun k=>y (sw a b k)) (fun t=>by
   refine Eq.trans ?_ (hy t);rw [← sQ_sw ha hb];exact sQ_congr n fun k _=>by rw [swp_cell (by omega) (by omega),sw_sw]) (sw a b k) (sw_in (fr:=0) ⟨by omega,ha⟩ ⟨by omega,hb⟩ ⟨by omega,hk⟩).2
  simpa [sw_sw]using this
 red c i hc hf h y hy:=by
  obtain⟨S,hSe⟩:∃S,S=sQ n fun k=>y k*qAll c i fr k:=⟨_,rfl⟩
  have h1:=h (fun k=>y k-(if k=fr then S else 0)) (fun t=>by
   refine Eq.trans ?_ (hy t);have e1:(sQ n fun k=>y k*cellQ (redK c i fr (n-(fr+1))) k t)=(sQ n fun k=>y k*cellQ c k t)-S*cellQ c fr t:=by
    rw [hSe,←sQ_mul',←sQ_sub];exact sQ_congr n fun k hk=>by rw [red_all hc hk];grind
   rw [e1,←sQ_one (v:=fr) (g:=S*cellQ c fr t) n hf,←sQ_sub];refine sQ_congr n fun k _=> ?_
   by_cases e:k=fr
   ·rw [if_pos e,if_pos e,e];grind
   ·rw [if_neg e,if_neg e];grind)
  have hS:S=0:=by
   rw [hSe];refine sQ_zeros n fun k hk=> ?_
   by_cases e:k=fr
   ·have:qAll c i fr fr=0:=if_neg (by omega)
    rw [e,this];grind
   ·have:=h1 k hk
    simp only [if_neg e]at this;have e2:y k=0:=by grind
    rw [e2];grind
  intro k hk;have:=h1 k hk;simp only [hS]at this
  split at this<;>grind
theorem Kept.and {n L fr:Nat}{R R':List (List Rat)→Prop}(h:Kept n L fr R)(h':Kept n L fr R'):Kept n L fr fun c=>R c∧R' c where
 swap c a b hc h1 h2 h3 h4 hr:=⟨h.swap c a b hc h1 h2 h3 h4 hr.1,h'.swap c a b hc h1 h2 h3 h4 hr.2⟩
 red c i hc hf hr:=⟨h.red c i hc hf hr.1,h'.red c i hc hf hr.2⟩
theorem Kept.all {n L fr:Nat}{ι:Sort _}{R:ι→List (List Rat)→Prop}(h:∀x,Kept n L fr (R x)):Kept n L fr fun c=>∀x,R x c where
 swap c a b hc h1 h2 h3 h4 hr x:=(h x).swap c a b hc h1 h2 h3 h4 (hr x)
 red c i hc hf hr x:=(h x).red c i hc hf (hr x)
structure RBl (n m fr:Nat)(A:Nat→Nat→Rat)(c0 c x:List (List Rat)):Prop where
 lin:(∀k,k<n→∀r,r<m→cellQ c k r=sQ n fun j=>A r j*cellQ c k (m+j))→∀k,k<n→∀r,r<m→cellQ x k r=sQ n fun j=>A r j*cellQ x k (m+j)
 low:∀k,k<fr→x.getD k []=c.getD k []
 func:∀(K:Nat) (W:Nat→Rat),(∀k,fr≤k→k<n→(sQ K fun t=>W t*cellQ c k t)=0)→∀k,fr≤k→k<n→(sQ K fun t=>W t*cellQ x k t)=0
 span:∀j,(∃z:Nat→Rat,(∀k,IsZ (z k))∧∀t,cellQ c0 j t=sQ n fun k=>z k*cellQ c k t)→∃z:Nat→Rat,(∀k,IsZ (z k))∧∀t,cellQ c0 j t=sQ n fun k=>z k*cellQ x k t
 free:(∀y:Nat→Rat,(∀t,(sQ n fun k=>y k*cellQ c k t)=0)→∀k,k<n→y k=0)→∀y:Nat→Rat,(∀t,(sQ n fun k=>y k*cellQ x k t)=0)→∀k,k<n→y k=0
theorem RBl.self {n m fr:Nat}{A:Nat→Nat→Rat}{c0 c:List (List Rat)}:RBl n m fr A c0 c c:=⟨fun h=>h,fun _ _=>rfl,fun _ _ h=>h,fun _ h=>h,fun h=>h⟩
theorem kept_rb {n L m fr:Nat}{A:Nat→Nat→Rat}{c0 c:List (List Rat)}:Kept n L fr (RBl n m fr A c0 c)where
 swap x a b hc h1 h2 h3 h4 h:=⟨fun g=>kept_lin.swap x a b hc h1 h2 h3 h4 (h.lin g),kept_low.swap x a b hc h1 h2 h3 h4 h.low,fun K W g=>kept_func.swap x a b hc h1 h2 h3 h4 (h.func K W g),fun j g=>kept_span.swap x a b hc h1 h2 h3 h4 (h.span j g),fun g=>kept_free.swap x a b hc h1 h2 h3 h4 (h.free g)⟩
 red x i hc hf h:=⟨fun g=>kept_lin.red x i hc hf (h.lin g),kept_low.red x i hc hf h.low,fun K W g=>kept_func.red x i hc hf (h.func K W g),fun j g=>kept_span.red x i hc hf (h.span j g),fun g=>kept_free.red x i hc hf (h.free g)⟩
theorem wi_nat {z:Int}{M:Nat}(h:z.natAbs≤M):Wi (M:Rat) (z:Rat):=by
 unfold Wi;have a:((-(M:Int):Int):Rat)≤(z:Rat):=Rat.intCast_le_intCast.2 (by omega)
 have b:(z:Rat)≤((M:Int):Rat):=Rat.intCast_le_intCast.2 (by omega)
 rw [Rat.intCast_neg]at a;exact⟨a,b⟩
theorem fl_size {x u:Rat}(hx:x.den=1)(hu:u.den=1)(h0:u≠0):(flQ (x/u)).num.natAbs≤x.num.natAbs∧(flQ (x/u)).den=1:=by
 have zx:=IsZ.of_den hx;obtain⟨s,hs⟩:=Sgn.of (IsZ.of_den hu) h0;have h1:Wi (x.num.natAbs:Rat) x:=by
  have:=wi_nat (z:=x.num) (Nat.le_refl _)
  rwa [← zx.num]at this
 have h2:Wi (x.num.natAbs:Rat) (x/u):=by
  rw [← Wi.sgn hs.e];refine Wi.canc (p:=s*u) hs.g ?_;have e1:s*u*(s*(x/u))=x:=by
   have:=sq1 hs.e;have:u*(x/u)=x:=by grind
   grind
  rw [e1];refine h1.mono ?_;have:=mulP h1.nonneg hs.g
  grind
 obtain⟨h3,h4⟩:=flQ_le (x/u);refine⟨?_,(IsZ.fl _).den⟩;unfold flQ at *;rw [Rat.num_intCast];generalize (x/u).num/((x/u).den:Int)=z at *;generalize x.num.natAbs=M at *;unfold Wi at h2;have a:(z:Rat)≤((M:Int):Rat):=by have:((M:Int):Rat)=(M:Rat):=Rat.intCast_natCast M;grind
 have b:((-(M:Int)-1:Int):Rat)<(z:Rat):=by
  rw [Rat.intCast_sub,Rat.intCast_neg,Rat.intCast_natCast,show((1:Int):Rat)=1 from rfl];grind
 rw [Rat.intCast_le_intCast]at a;rw [Rat.intCast_lt_intCast]at b;omega
end Go.Proofs.YtcnjcnjipddgeaaGreat
