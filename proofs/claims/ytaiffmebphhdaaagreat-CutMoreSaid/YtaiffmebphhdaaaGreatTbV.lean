/- The tableau, plain: the point that is told holds; the multipliers that are told refute. -/
import Derived.Test.YtaiffmebphhdaaaGreatTbU
import Derived.Test.YtaiffmebphhdaaaGreatTbK
namespace Go.Proofs.YtaiffmebphhdaaaGreat
set_option linter.unusedSimpArgs false
set_option linter.unusedVariables false
open Go.ChangeShapes Go.WideShapes Go.RowKit
theorem Ki {f:Nat→Rat}{n:Nat}:∀m,sQ (n+m) f=sQ n f+sQ m fun p=>f (n+p)
 | 0=>by simp only [sQ,Nat.add_zero];grind
 | m+1=>by
  rw [show n+(m+1)=n+m+1 from rfl]
  simp only [sQ];rw [Ki m]
  grind
theorem yZ {n:Nat}{rows:List Rw}{i:Nat}:fF n rows (n+i)=⟨((rows.getD i bJ).to:Rat),if(rows.getD i bJ).kind=2 then -1 else 0⟩:=by
 unfold fF;rw [if_neg (by omega),show n+i-n=i by omega]
theorem Gy {n i:Nat}:gK n (n+i)=true:=by unfold gK;exact decide_eq_true (by omega)
theorem Az {n:Nat}{rows:List Rw}{i:Nat}:hasLo n rows (n+i)=true↔(rows.getD i bJ).kind=3:=by
 unfold hasLo;rw [decide_eq_true_eq,show n+i-n=i by omega]
 exact⟨fun h=>h.2,fun h=>⟨by omega,h⟩⟩
theorem Inv.inside {n:Nat}{rows:List Rw}{T:TS}(h:Inv n rows T)(hb:∀b∈T.basic,¬T.lowB b∧¬T.upB b){i:Nat}(hi:i<rows.length):
  ((T.val (n+i)).n<(fF n rows (n+i)).n∨(T.val (n+i)).n=(fF n rows (n+i)).n∧(T.val (n+i)).s≤(fF n rows (n+i)).s)∧((rows.getD i bJ).kind=3→T.val (n+i)=fF n rows (n+i)):=by
 by_cases hm:n+i∈T.basic
 ·obtain ⟨h1,h2⟩:=hb _ hm
  unfold TS.upB at h2;unfold TS.lowB at h1;rw [h.hn,h.hr,rG]at h2;rw [h.hn,h.hr,uY]at h1;have h3:¬((fF n rows (n+i)).n<(T.val (n+i)).n∨(T.val (n+i)).n=(fF n rows (n+i)).n∧(fF n rows (n+i)).s<(T.val (n+i)).s):=fun hx=>h2 ⟨Gy,hx⟩
  constructor
  ·grind
  ·intro hk
   have hlo:=Az (n:=n).2 hk;have h4:¬_:=fun hx=>h1 ⟨hlo,hx⟩
   rw [oP hlo]at h4;generalize fF n rows (n+i)=u at h3 h4;generalize T.val (n+i)=x at h3 h4;obtain⟨u1,u2⟩:=u;obtain⟨x1,x2⟩:=x;simp only at h3 h4;rw [Pr.mk.injEq]
   constructor<;>grind
 ·have:=h.up (n+i) (by omega) hm
  rw [this];exact⟨.inr ⟨rfl,by grind⟩,fun _=>rfl⟩
theorem nT {q:Rat}:0<q.num.sign↔0<q:=by
 rw [Ui,Rat.lt_iff];simp
theorem yB {q:Rat}:q.num.sign<0↔q<0:=by
 rw [Uj,Rat.lt_iff];simp
theorem Kj {S:TS}:∀k,0<S.smK k∧∀v,v<k→gK S.n v=true→0<S.kK v→0<S.dK v→S.smK k*S.kK v≤S.dK v
 | 0=>⟨by unfold TS.smK;grind,fun v hv=>absurd hv (by omega)⟩
 | k+1=>by
  obtain⟨h1,h2⟩:=Kj (S:=S) k
  by_cases hc:gK S.n k=true∧0<(S.kK k).num.sign∧0<(S.dK k).num.sign∧qM (S.dK k/S.kK k) (S.smK k)<0
  ·have e:S.smK (k+1)=S.dK k/S.kK k:=by
    rw [TS.smK,if_pos hc]
   obtain⟨c1,c2,c3,c4⟩:=hc;rw [nT]at c2 c3;rw [ze]at c4;have h0:S.kK k≠0:=by grind
   have hq:0<S.dK k/S.kK k:=by
    rw [Rat.div_def];exact Rat.mul_pos c3 (Rat.inv_pos.2 c2)
   rw [e];refine⟨hq,fun v hv hu hk hd=> ?_⟩
   by_cases ev:v=k
   ·subst ev
    have:S.dK v/S.kK v*S.kK v=S.dK v:=by grind
    rw [this];grind
   ·have h3:=h2 v (by omega) hu hk hd
    have h4:S.dK k/S.kK k*S.kK v≤S.smK k*S.kK v:=Rat.mul_le_mul_of_nonneg_right (by grind) (by grind)
    grind
  ·have e:S.smK (k+1)=S.smK k:=by rw [TS.smK,if_neg hc]
   rw [e];refine⟨h1,fun v hv hu hk hd=> ?_⟩
   by_cases ev:v=k
   ·subst ev
    have h5:¬qM (S.dK v/S.kK v) (S.smK v)<0:=fun hx=>hc ⟨hu,nT.2 hk,nT.2 hd,hx⟩
    rw [ze]at h5;have h0:S.kK v≠0:=by grind
    have h6:S.dK v/S.kK v*S.kK v=S.dK v:=by grind
    have h7:S.smK v*S.kK v≤S.dK v/S.kK v*S.kK v:=Rat.mul_le_mul_of_nonneg_right (by grind) (by grind)
    grind
   ·exact h2 v (by omega) hu hk hd
theorem Inv.sum {n:Nat}{rows:List Rw}{T:TS}(h:Inv n rows T){i:Nat}(hi:i<rows.length):(sQ n fun j=>(iO rows i j:Rat)*T.ptQ j)=(T.val (n+i)).n+(T.val (n+i)).s*T.smK T.vals.length:=by
 have h1:=(h.sat _).1 h.vn i hi;have h2:=(h.sat _).1 h.vs i hi;rw [h1,h2,←OO,←oZ];refine dD n fun j _=> ?_
 unfold TS.ptQ
 grind
theorem Qw {n:Nat}{rows:List Rw}{T:TS}(h:Inv n rows T)(hb:∀b∈T.basic,¬T.lowB b∧¬T.upB b){i:Nat}(hi:i<rows.length):
  ((rows.getD i bJ).kind=1→(sQ n fun j=>(iO rows i j:Rat)*T.ptQ j)≤((rows.getD i bJ).to:Rat))∧
  ((rows.getD i bJ).kind=2→(sQ n fun j=>(iO rows i j:Rat)*T.ptQ j)<((rows.getD i bJ).to:Rat))∧
  ((rows.getD i bJ).kind=3→(sQ n fun j=>(iO rows i j:Rat)*T.ptQ j)=((rows.getD i bJ).to:Rat)):=by
 rw [h.sum hi];obtain⟨h1,h2⟩:=h.inside hb hi;obtain⟨he,hs⟩:=Kj (S:=T) T.vals.length;have hs:=hs (n+i) (by rw [h.wf.vl,h.hn,h.hr];omega) (by rw [h.hn];exact Gy)
 unfold TS.kK TS.dK at hs;rw [h.hn,h.hr]at hs;generalize T.smK T.vals.length=ε at *;rw [yZ]at h1 h2 hs;simp only at h1 h2 hs;generalize (T.val (n+i))=x at *;obtain⟨a,b⟩:=x;simp only at h1 h2 hs ⊢;generalize (rows.getD i bJ).kind=kd at *;generalize (((rows.getD i bJ).to:Int):Rat)=t at *;have main:a+b*ε≤t+(if kd=2 then -1 else 0)*ε:=by
  generalize (if kd=2 then(-1:Rat)else 0)=u at*
  by_cases hk:0<b-u
  ·have hd:0<t-a:=by grind
   have:=hs hk hd
   grind
  ·have hd:0≤t-a:=by grind
   have:ε*(b-u)≤ε*0:=Rat.mul_le_mul_of_nonneg_left (by grind) (by grind)
   grind
 refine⟨fun e=> ?_,fun e=> ?_,fun e=> ?_⟩
 ·subst e
  rw [if_neg (by decide)]at main
  grind
 ·subst e
  rw [if_pos rfl]at main
  grind
 ·have:=h2 e
  subst e;rw [if_neg (by decide)]at this
  injection this with h3 h4
  subst h3 h4
  grind
theorem Inv.free {n:Nat}{rows:List Rw}{T:TS}(h:Inv n rows T){i:Nat}{way:Int}(he:T.enter i way=none){v:Nat}(hv:v<n):T.cell i v=0:=by
 refine Classical.byContradiction fun hc=> ?_
 refine Et he (v:=v) (by rw [h.hn];omega) ⟨hc,?_⟩
 have h1:gK T.n v=false:=by unfold gK;rw [h.hn];exact decide_eq_false (by omega)
 have h2:hasLo T.n T.rows v=false:=by unfold hasLo;rw [h.hn];exact decide_eq_false (by omega)
 unfold TS.canB;rw [h1,h2]
 split<;>rfl
theorem Kk {S:TS}{i:Nat}{way:Int}{b p:Nat}(hb:S.basic.getD i 0=b)(hnb:S.n≤b)(hbl:b<S.n+S.rows.length)(hcb:S.cell i b=0)(hz:∀v,v<S.n→S.cell i v=0)(hp:p<S.rows.length):∀k,k≤S.n+S.rows.length→
  (S.refK i way k).getD p 0=if S.n+p=b then((-way:Int):Rat)else if S.n+p<k then S.cell i (S.n+p)*(way:Rat)else 0
 | 0,_=>by
  unfold TS.refK;rw [hb,iL (by rw [List.length_replicate];omega)]
  by_cases e:S.n+p=b
  ·rw [if_pos (by omega),if_pos e]
  ·rw [if_neg (by omega),if_neg e,if_neg (by omega),eG,List.getElem?_replicate,if_pos hp]
   rfl
 | k+1,hk=>by
  have ih:=Kk (way:=way) hb hnb hbl hcb hz hp k (by omega)
  unfold TS.refK
  split
  ·rename_i h0
   rw [ih]
   by_cases e:S.n+p=b
   ·rw [if_pos e,if_pos e]
   ·rw [if_neg e,if_neg e]
    by_cases e2:S.n+p<k
    ·rw [if_pos e2,if_pos (by omega)]
    ·rw [if_neg e2]
     by_cases e3:S.n+p=k
     ·rw [if_pos (by omega),e3,h0,Rat.zero_mul]
     ·rw [if_neg (by omega)]
  ·rename_i h0
   have hkn:S.n≤k:=Classical.byContradiction fun hx=>h0 (hz k (by omega))
   have hkb:k≠b:=fun e=>h0 (e ▸ hcb)
   rw [iL (by rw [pK];omega),ih]
   by_cases e3:k-S.n=p
   ·have e4:S.n+p=k:=by omega
    rw [if_pos e3,if_neg (by omega),if_pos (by omega),e4]
    rw [show((-way:Int):Rat)= -(way:Rat)from Rat.intCast_neg _]
    grind
   ·rw [if_neg e3]
    by_cases e:S.n+p=b
    ·rw [if_pos e,if_pos e]
    ·rw [if_neg e,if_neg e]
     by_cases e2:S.n+p<k
     ·rw [if_pos e2,if_pos (by omega)]
     ·rw [if_neg e2,if_neg (by omega)]
theorem Nb {n:Nat}{rows:List Rw}{T:TS}{b:Nat}{way:Int}(h:Inv n rows T)(hb:OP T b way)(he:T.enter (T.lineOf b) way=none)(t:Nat→Rat)
  (ht:∀p,p<rows.length→t p=(T.refK (T.lineOf b) way (T.n+T.rows.length)).getD p 0):
  (∀p,p<rows.length→(rows.getD p bJ).kind≠3→0≤t p)∧(∀k,k<n→(sQ rows.length fun p=>t p*(iO rows p k:Rat))=0)∧
  ((sQ rows.length fun p=>t p*((rows.getD p bJ).to:Rat))<0∨(sQ rows.length fun p=>t p*((rows.getD p bJ).to:Rat))=0∧∃p,p<rows.length∧(rows.getD p bJ).kind=2∧t p≠0):=by
 obtain⟨hi,hib⟩:=lW hb.mem;obtain⟨i,hii⟩:∃i,i=T.lineOf (b:Int):=⟨_,rfl⟩;rw [← hii]at hi hib he ht;have hbl:=h.wf.bl;rw [h.hr]at hbl;rw [hbl]at hi;have hbK:b<n+rows.length:=by have:=h.wf.bb _ hb.mem;rw [h.hn,h.hr]at this;exact this
 have hnb:n≤b:=by have:=hb.n_le;rw [h.hn]at this;exact this
 have hcb:T.cell i b=0:=by rw [← hib];exact h.zc i i hi hi
 have hz:∀v,v<n→T.cell i v=0:=fun v hv=>h.free he hv
 have ht:∀p,p<rows.length→t p=if n+p=b then -(way:Rat)else T.cell i (n+p)*(way:Rat):=by
  intro p hp;rw [ht p hp,Kk (b:=b) hib (by rw [h.hn];exact hnb) (by rw [h.hn,h.hr];exact hbK) hcb (by rw [h.hn];exact hz) (by rw [h.hr];exact hp) _ (Nat.le_refl _),h.hn,h.hr,if_pos (show n+p<n+rows.length by omega)]
  rw [Rat.intCast_neg]
 have comb:∀x,Sat (n+rows.length) rows.length T.cell T.bs x→(sQ rows.length fun p=>t p*x (n+p))=0:=by
  intro x hx;have h1:=hx i hi;rw [hib,Ki,jR n fun v hv=>by rw [hz v hv,Rat.zero_mul]]at h1
  have e:∀p,p<rows.length→t p*x (n+p)=(way:Rat)*(T.cell i (n+p)*x (n+p))+(if p=b-n then -(way:Rat)*x b else 0):=by
   intro p hp;rw [ht p hp]
   by_cases e:n+p=b
   ·rw [if_pos e,if_pos (by omega),e,hcb];grind
   ·rw [if_neg e,if_neg (by omega)];grind
  rw [dD _ e,oZ,sI,sJ rows.length (by omega)]
  grind
 have hval:∀p,p<rows.length→n+p≠b→t p≠0→T.val (n+p)=fF n rows (n+p):=by
  intro p hp hpb h0;rw [ht p hp,if_neg hpb]at h0;refine h.up _ (by omega) (h.not_basic (i:=i) hi fun hc=>h0 ?_)
  rw [hc,Rat.zero_mul]
 obtain⟨pb,hpb⟩:∃pb,n+pb=b:=⟨b-n,by omega⟩
 have hpl:pb<rows.length:=by omega
 have htb:t pb= -(way:Rat):=by rw [ht pb hpl,if_pos hpb]
 have S1:(sQ rows.length fun p=>t p*((rows.getD p bJ).to:Rat))= -(way:Rat)*((fF n rows b).n-(T.val b).n):=by
  have e0:=comb _ h.vn;have e1:∀p,p<rows.length→t p*((rows.getD p bJ).to:Rat)=t p*(T.val (n+p)).n+(if p=pb then -(way:Rat)*((fF n rows b).n-(T.val b).n)else 0):=by
   intro p hp
   by_cases e:p=pb
   ·subst e
    rw [if_pos rfl,htb,hpb];rw [← hpb,yZ]
    grind
   ·rw [if_neg e]
    by_cases h0:t p=0
    ·rw [h0];grind
    ·rw [hval p hp (by omega) h0,yZ];grind
  rw [dD _ e1,oZ,e0,sJ rows.length hpl]
  grind
 have S2:(sQ rows.length fun p=>t p*(if(rows.getD p bJ).kind=2 then -1 else 0))= -(way:Rat)*((fF n rows b).s-(T.val b).s):=by
  have e0:=comb _ h.vs;have e1:∀p,p<rows.length→t p*(if(rows.getD p bJ).kind=2 then -1 else 0)=t p*(T.val (n+p)).s+(if p=pb then -(way:Rat)*((fF n rows b).s-(T.val b).s)else 0):=by
   intro p hp
   by_cases e:p=pb
   ·subst e
    rw [if_pos rfl,htb,hpb];rw [← hpb,yZ];simp only
    grind
   ·rw [if_neg e]
    by_cases h0:t p=0
    ·rw [h0];grind
    ·rw [hval p hp (by omega) h0,yZ];grind
  rw [dD _ e1,oZ,e0,sJ rows.length hpl]
  grind
 refine⟨fun p hp hk=> ?_,fun k hk=> ?_,?_⟩
 ·by_cases e:n+p=b
  ·rcases hb.out with⟨e1,h1⟩ | ⟨e1,_⟩
   ·have:=h1.1
    rw [h.hn,h.hr,←e,Az]at this;exact absurd this hk
   ·rw [ht p hp,if_pos e,e1]
    decide
  ·by_cases hc:T.cell i (n+p)=0
   ·rw [ht p hp,if_neg e,hc,Rat.zero_mul];exact Rat.le_refl
   ·have:=Et he (v:=n+p) (by rw [h.hn,h.hr];omega)
    have hcan:¬T.canB (n+p) (way*(T.cell i (n+p)).num.sign)=true:=fun hx=>this ⟨hc,hx⟩
    unfold TS.canB at hcan
    split at hcan
    ·rename_i hpos
     rw [ht p hp,if_neg e];have hs:∀q:Rat,0<(q.num.sign)→0<q:=fun q=>nT.1
     have hs':∀q:Rat,q.num.sign<0→q<0:=fun q=>yB.1
     rcases hb.way with e1 | e1
     ·subst e1
      rw [Int.one_mul]at hpos;have:=hs _ hpos;rw [show((1:Int):Rat)=1 from rfl];grind
     ·subst e1
      have:=hs' _ (show(T.cell i (n+p)).num.sign<0 by omega)
      rw [show((-1:Int):Rat)= -1 from rfl];grind
    ·have hlo:¬hasLo T.n T.rows (n+p)=true:=by
      rw [h.hn,h.hr,Az];exact hk
     rw [Bool.not_eq_true]at hlo;rw [hlo]at hcan;simp at hcan
 ·have hx:Sys n rows.length (iO rows) fun v=>if v<n then(if v=k then 1 else 0)else(iO rows (v-n) k:Rat):=by
   intro j hj;simp only;rw [if_neg (by omega),show n+j-n=j by omega,Df (v:=k) n hk,if_pos hk,if_pos rfl]
   ·grind
   ·intro v hv hvk
    rw [if_pos hv,if_neg hvk,Rat.mul_zero]
  have:=comb _ ((h.sat _).2 hx);rw [← this];refine dD _ fun p _=> ?_
  rw [if_neg (by omega),show n+p-n=p by omega]
 ·rw [S1]
  have hneg:(fF n rows b).n-(T.val b).n=0∧ -(way:Rat)*((fF n rows b).s-(T.val b).s)<0∨ -(way:Rat)*((fF n rows b).n-(T.val b).n)<0:=by
   rcases hb.out with⟨e1,h1⟩ | ⟨e1,_,h1⟩
   ·have h2:=h1.2
    have h3:=h1.1;rw [h.hn,h.hr]at h2 h3;rw [oP h3,uY]at h2;subst e1;rw [show((1:Int):Rat)=1 from rfl]
    grind
   ·have h2:=h1.2
    rw [h.hn,h.hr,rG]at h2;subst e1;rw [show((-1:Int):Rat)= -1 from rfl]
    grind
  rcases hneg with⟨h1,h2⟩ | h1
  ·refine .inr ⟨by rw [h1,Rat.mul_zero],?_⟩
   rw [← S2]at h2;refine Classical.byContradiction fun hno=> ?_
   have:(sQ rows.length fun p=>t p*(if(rows.getD p bJ).kind=2 then -1 else 0))=0:=by
    refine jR _ fun p hp=> ?_
    by_cases hk:(rows.getD p bJ).kind=2
    ·by_cases h0:t p=0
     ·rw [h0,Rat.zero_mul]
     ·exact absurd ⟨p,hp,hk,h0⟩ hno
    ·rw [if_neg hk,Rat.mul_zero]
   rw [this]at h2;exact absurd h2 (by grind)
  ·exact .inl h1
end Go.Proofs.YtaiffmebphhdaaaGreat
