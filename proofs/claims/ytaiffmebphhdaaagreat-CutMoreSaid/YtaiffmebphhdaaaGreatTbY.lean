/- The tableau, plain: of small rows all numbers that are told fit. -/
import Derived.Test.YtaiffmebphhdaaaGreatTbW
namespace Go.Proofs.YtaiffmebphhdaaaGreat
set_option linter.unusedSimpArgs false
set_option linter.unusedVariables false
open Go.ChangeShapes Go.WideShapes Go.RowKit
theorem Ij {B:Nat}{q:Rat}(h:QB B q)(hB:B≤1073741824):Fits q:=by
 obtain⟨a,b,h1,h2,h3,h4⟩:=h;have e:q.num*b=a*q.den:=by
  have h5:(q.num:Rat)=q*(q.den:Rat):=by
   have h6:(q.num:Rat)/(((q.den:Nat):Int):Rat)=q:=by rw [← Rat.divInt_eq_div];exact Rat.num_divInt_den q
   have h9:(((q.den:Nat):Int):Rat)=(q.den:Rat):=rfl;rw [h9]at h6;have h7:(q.den:Rat)≠0:=by exact_mod_cast q.den_nz
   grind
  have h8:((q.num*b:Int):Rat)=((a*q.den:Int):Rat):=by
   rw [Rat.intCast_mul,Rat.intCast_mul,h5,←h2];have:(((q.den:Nat):Int):Rat)=(q.den:Rat):=rfl;rw [this]
   grind
  exact_mod_cast h8
 have e':q.num.natAbs*b.natAbs=a.natAbs*q.den:=by
  have:=congrArg Int.natAbs e
  rwa [Int.natAbs_mul,Int.natAbs_mul,Int.natAbs_natCast]at this
 have hb:0<b.natAbs:=Int.natAbs_pos.2 h1;have hden:q.den≤b.natAbs:=by
  refine Nat.le_of_dvd hb ?_;have:q.den∣q.num.natAbs*b.natAbs:=⟨a.natAbs,by rw [e',Nat.mul_comm]⟩
  exact(Nat.Coprime.symm q.reduced).dvd_of_dvd_mul_left this
 have DR:q.num.natAbs≤a.natAbs:=by
  by_cases h0:a.natAbs=0
  ·rw [h0,Nat.zero_mul]at e'
   rcases Nat.mul_eq_zero.1 e' with h | h
   ·rw [h];exact Nat.zero_le _
   ·omega
  ·refine Nat.le_of_dvd (by omega) ?_
   have:q.num.natAbs∣a.natAbs*q.den:=⟨b.natAbs,e'.symm⟩;exact q.reduced.dvd_of_dvd_mul_right this
 exact⟨by omega,by omega⟩
theorem JM {n m M:Nat}{A:Nat→Nat→Int}(hM:0<M)(hA:∀i j,i<m→j<n→(A i j).natAbs≤M){c:Nat→Nat→Rat}{bs:Nat→Nat}
  (hs:∀x,Sys n m A x→Sat (n+m) m c bs x) (hz:ZC m c bs) (hb:∀j,j<m→bs j<n+m) (inj:∀i j,i<m→j<m→bs i=bs j→i=j)
  {x s:Nat→Rat} (hx:Sat (n+m) m c bs x) (hs':Sat (n+m) m c bs s) (β σ:Nat→Int) (hβ:∀k,k<n+m→(∀j,j<m→bs j≠k)→x k=(β k:Rat)∧s k=(σ k:Rat)) (hM2:∀k,(β k).natAbs≤M∧(σ k).natAbs≤M)
  {v:Nat} (hv:v<n+m) {ε:Rat} (hk:s v-(σ v:Rat)≠0) (hε:ε*(s v-(σ v:Rat))=(β v:Rat)-x v) {k:Nat} (hkn:k<n):
  QB (((n+2)*M)^(n+1)) (x k+s k*ε):=by
 obtain⟨L,hL⟩:∃L,L=FL (n+m) m bs:=⟨_,rfl⟩;have hlen:L.length≤n:=by
  have h1:=Cw hb inj;rw [hL];omega
 have hLm:∀u (hu:u<L.length),L[u]<n+m∧∀j,j<m→bs j≠L[u]:=by
  intro u hu;have h1:∀x∈L,x<n+m∧∀j,j<m→bs j≠x:=fun x hx=>kL.1 (hL ▸ hx)
  exact h1 _ (List.getElem_mem hu)
 obtain⟨row,hrow⟩:∃row:Nat→Nat,row=fun u=>if u<L.length then L.getD u 0 else v:=⟨_,rfl⟩
 have Zp:∀u,u<L.length+1→row u<n+m:=by
  intro u hu;rw [hrow];simp only
  split
  ·rename_i h
   rw [eG,iw h];exact(hLm u h).1
  ·exact hv
 obtain⟨y,⟨j0,hj0,hy0⟩,hyb,hyz⟩:=MN (n+2) (L.length+1) M (by omega) hM (fun u j=>if j<n then fD n A (row u) j else if j=n then -σ (row u)else -β (row u)) (by
  intro u j hu hj
  split
  ·rename_i hjn
   exact yC hM hA (Zp u hu) hjn
  ·split
   ·rw [Int.natAbs_neg];exact(hM2 _).2
   ·rw [Int.natAbs_neg];exact(hM2 _).1)
 have hS:=hs _ (Ik y);have hX:∀u,u<L.length+1→(sZ n fun j=>fD n A (row u) j*y j)=σ (row u)*y n+β (row u)*y (n+1):=by
  intro u hu;have:=hyz u hu;rw [show n+2=n+1+1 from rfl]at this
  simp only [sZ]at this;rw [if_neg (by omega),if_pos trivial,if_neg (by omega),if_neg (by omega)]at this
  have e:(sZ n fun j=>(if j<n then fD n A (row u) j else if j=n then -σ (row u)else -β (row u))*y j)=sZ n fun j=>fD n A (row u) j*y j:=yD n fun j hj=>by rw [if_pos hj]
  rw [e,Int.neg_mul,Int.neg_mul]at this;omega
 have hXn:∀k,k<n+m→(∀j,j<m→bs j≠k)→(sZ n fun j=>fD n A k j*y j)=σ k*y n+β k*y (n+1):=by
  intro k hk hn;have hm:k∈L:=by rw [hL];exact kL.2 ⟨hk,hn⟩
  obtain⟨u,hu,rfl⟩:=List.getElem_of_mem hm;have:=hX u (by omega)
  rw [hrow]at this;simp only [if_pos hu,eG,iw hu,Option.getD_some]at this;exact this
 have hXv:(sZ n fun j=>fD n A v j*y j)=σ v*y n+β v*y (n+1):=by
  have:=hX L.length (by omega)
  rw [hrow]at this;simp only [Nat.lt_irrefl,if_false]at this;exact this
 have SV:Sat (n+m) m c bs fun k=>1*((y n:Rat)*s k-(-(y (n+1):Rat))*x k)-((sZ n fun j=>fD n A k j*y j:Int):Rat):=by
  refine Cx (x:=fun k=>(y n:Rat)*s k-(-(y (n+1):Rat))*x k) ?_ hS 1
  have:=Cx hs' (Cx hx (x:=x) (y:=fun _=>0) (fun i hi=>(jR _ fun k _=>by rw [Rat.mul_zero]).symm) (-(y (n+1):Rat))) (y n:Rat)
  intro i hi;have h1:=this i hi;simp only at h1 ⊢;have e:∀k,(y n:Rat)*s k-(-(y (n+1):Rat)*x k-0)=(y n:Rat)*s k- -(y (n+1):Rat)*x k:=fun k=>by grind
  rw [e]at h1;rw [h1];refine dD _ fun k _=> ?_
  rw [e]
 have hall:∀k,k<n+m→((sZ n fun j=>fD n A k j*y j:Int):Rat)=(y n:Rat)*s k+(y (n+1):Rat)*x k:=by
  intro k hk;have:=DU hz SV (by
   intro k hk hn;rw [hXn k hk hn,(hβ k hk hn).1,(hβ k hk hn).2,Rat.intCast_add,Rat.intCast_mul,Rat.intCast_mul]
   grind) hb k hk
  grind
 have hv1:=hall v hv;rw [hXv,Rat.intCast_add,Rat.intCast_mul,Rat.intCast_mul]at hv1;have hrel:(y n:Rat)=(y (n+1):Rat)*ε:=by
  have h1:(y n:Rat)*(s v-(σ v:Rat))=(y (n+1):Rat)*ε*(s v-(σ v:Rat)):=by
   have:(y (n+1):Rat)*(ε*(s v-(σ v:Rat)))=(y (n+1):Rat)*((β v:Rat)-x v):=by rw [hε]
   grind
  generalize s v-(σ v:Rat)=d at h1 hk
  grind
 have hyz1:y (n+1)≠0:=by
  intro h0;have h0':(y (n+1):Rat)=0:=by rw [h0];rfl
  rw [h0',Rat.zero_mul]at hrel;have hn0:y n=0:=by exact_mod_cast hrel
  by_cases e1:j0=n+1
  ·subst e1;exact hy0 h0
  by_cases e2:j0=n
  ·subst e2;exact hy0 hn0
  have h1:=hall j0 (by omega)
  rw [vM y (show j0<n by omega),hrel,h0']at h1
  have h2:(y j0:Rat)=0:=by grind
  exact hy0 (by exact_mod_cast h2)
 have zaU:∀j,j<n+2→(y j).natAbs≤((n+2)*M)^(n+1):=fun j hj=>Nat.le_trans (hyb j hj) (Nat.pow_le_pow_right (Nat.mul_pos (by omega) hM) (by omega))
 refine⟨y k,y (n+1),hyz1,?_,zaU k (by omega),zaU (n+1) (by omega)⟩
 have:=hall k (by omega)
 rw [vM y hkn,hrel]at this
 grind
def Il (rows:List Rw):Prop:=∀r∈rows,(∀x∈r.of,x.natAbs≤9)∧r.to.natAbs≤9
theorem DV {rows:List Rw}(h:Il rows){i j:Nat}(hi:i<rows.length):(iO rows i j).natAbs≤9:=by
 unfold iO;have e2:rows.getD i bJ=rows[i]:=by rw [eG,iw hi];rfl
 rw [e2]
 by_cases hj:j<rows[i].of.length
 ·rw [eG,iw hj]
  exact(h _ (List.getElem_mem hi)).1 _ (List.getElem_mem hj)
 ·rw [eG,List.getElem?_eq_none (by omega)]
  decide
theorem S9 {S:TS}:∀k,S.smK k=1∨∃v,v<k∧gK S.n v=true∧0<S.kK v∧S.smK k=S.dK v/S.kK v
 | 0=> .inl rfl
 | k+1=>by
  by_cases hc:gK S.n k=true∧0<(S.kK k).num.sign∧0<(S.dK k).num.sign∧qM (S.dK k/S.kK k) (S.smK k)<0
  ·exact .inr ⟨k,by omega,hc.1,nT.1 hc.2.1,by rw [TS.smK,if_pos hc]⟩
  ·have e:S.smK (k+1)=S.smK k:=by rw [TS.smK,if_neg hc]
   rcases S9 (S:=S) k with h | ⟨v,h1,h2,h3,h4⟩
   ·exact .inl (e.trans h)
   ·exact .inr ⟨v,by omega,h2,h3,e.trans h4⟩
section
variable {n:Nat} {rows:List Rw} {S:TS} (h:Inv n rows S) (hsm:Il rows) (hn:n≤3)
include h hsm hn
theorem Inv.small_cell {i v:Nat}(hi:i<rows.length)(hv:v<n+rows.length):Fits (S.cell i v):=by
 have:=DW (A:=iO rows) (M:=9) (by decide) (fun i j hi _=>DV hsm hi) (fun x hx=>(h.sat x).2 hx) h.zc (fun j hj=>by
  have:=h.wf.lt (i:=j) (by rw [h.hr];exact hj)
  rw [h.hn,h.hr]at this;exact this) (fun i j hi hj e=>h.wf.inj (by rw [h.hr];exact hi) (by rw [h.hr];exact hj) e) hi hv
 refine Ij this ?_
 rcases(by omega:n=0∨n=1∨n=2∨n=3)with rfl | rfl | rfl | rfl<;>decide
theorem Inv.small_pt {k:Nat}(hk:k<n):Fits (S.ptQ k):=by
 have hA:∀i j,i<rows.length→j<n→(iO rows i j).natAbs≤9:=fun i j hi _=>DV hsm hi
 have hlt:∀j,j<rows.length→S.bs j<n+rows.length:=by
  intro j hj;have:=h.wf.lt (i:=j) (by rw [h.hr];exact hj)
  rw [h.hn,h.hr]at this;exact this
 have hinj:∀i j,i<rows.length→j<rows.length→S.bs i=S.bs j→i=j:=fun i j hi hj e=>h.wf.inj (by rw [h.hr];exact hi) (by rw [h.hr];exact hj) e
 have hup:∀k,k<n+rows.length→(∀j,j<rows.length→S.bs j≠k)→S.val k=fF n rows k:=by
  intro k hk hkb;refine h.up k hk fun hm=> ?_
  obtain⟨j,hj,hjk⟩:=DX hm;exact hkb j (by rw [← h.hr,←h.wf.bl];exact hj) hjk
 have hto:∀k,k<n+rows.length→n≤k→((rows.getD (k-n) bJ).to).natAbs≤9:=by
  intro k hk hkn;have e2:rows.getD (k-n) bJ=rows[k-n]:=by rw [eG,iw (by omega)];rfl
  rw [e2];exact(hsm _ (List.getElem_mem (show k-n<rows.length by omega))).2
 unfold TS.ptQ
 rcases S9 (S:=S) S.vals.length with he | ⟨v,hv,hu,hkp,he⟩
 ·rw [he]
  have SV:Sat (n+rows.length) rows.length S.cell S.bs fun k=>(S.val k).n+(S.val k).s*1:=by
   intro i hi;have h1:=h.vn i hi;have h2:=h.vs i hi;simp only at h1 h2 ⊢;rw [h1,h2,Rat.mul_one,←oZ];refine dD _ fun k _=> ?_
   grind
  have:=uF (A:=iO rows) (M:=10) (by decide) (fun i j hi hj=>Nat.le_trans (hA i j hi hj) (by decide)) (fun x hx=>(h.sat x).2 hx) h.zc hlt hinj SV (fun k=>if k<n then 0 else(rows.getD (k-n) bJ).to+(if(rows.getD (k-n) bJ).kind=2 then -1 else 0)) (fun k hk hkb=>by
   rw [hup k hk hkb];unfold fF
   split
   ·refine ⟨?_,by simp⟩
    show(0:Rat)+0*1=((0:Int):Rat);rw [show((0:Int):Rat)=0 from rfl];grind
   ·rename_i hkn
    have:=hto k hk (by omega)
    simp only;rw [Rat.intCast_add]
    split
    ·exact ⟨by rw [show((-1:Int):Rat)= -1 from rfl];grind,by omega⟩
    ·exact ⟨by rw [show((0:Int):Rat)=0 from rfl];grind,by omega⟩) (show k<n+rows.length by omega)
  refine Ij this ?_
  rcases(by omega:n=0∨n=1∨n=2∨n=3)with rfl | rfl | rfl | rfl<;>decide
 ·have hvl:v<n+rows.length:=by rw [h.wf.vl,h.hn,h.hr]at hv;exact hv
  have RY:n≤v:=by
   unfold gK at hu;have:=of_decide_eq_true hu;rw [h.hn]at this;exact this
  unfold TS.kK at hkp;rw [h.hn,h.hr]at hkp;have hkd:S.smK S.vals.length*((S.val v).s-(fF n rows v).s)=(fF n rows v).n-(S.val v).n:=by
   rw [he];unfold TS.dK TS.kK;rw [h.hn,h.hr];generalize (S.val v).s-(fF n rows v).s=d at hkp;have:d≠0:=by grind
   grind
  have hun:(fF n rows v).n=(((rows.getD (v-n) bJ).to:Int):Rat):=by unfold fF;rw [if_neg (by omega)]
  have hus:(fF n rows v).s=(((if(rows.getD (v-n) bJ).kind=2 then -1 else 0:Int)):Rat):=by
   unfold fF;rw [if_neg (by omega)]
   simp only
   split<;>rfl
  rw [hun,hus]at hkd;rw [hus]at hkp;have:=JM (A:=iO rows) (M:=9) (by decide) hA (fun x hx=>(h.sat x).2 hx) h.zc hlt hinj h.vn h.vs
   (fun k=>if k<n then 0 else if k<n+rows.length then(rows.getD (k-n) bJ).to else 0) (fun k=>if k<n then 0 else if(rows.getD (k-n) bJ).kind=2 then -1 else 0) (fun k hk hkb=>by
    rw [hup k hk hkb];unfold fF
    split
    ·exact ⟨rfl,rfl⟩
    ·refine ⟨by first | rfl | rw [if_pos hk],?_⟩
     show(if(rows.getD (k-n) bJ).kind=2 then(-1:Rat)else 0)=_
     split<;>rfl) (fun k=>by
    constructor
    ·split
     ·decide
     ·split
      ·exact hto k (by omega) (by omega)
      ·decide
    ·split
     ·decide
     ·split<;>decide) hvl (ε:=S.smK S.vals.length) (by
    simp only [if_neg (show ¬v<n by omega)]
    grind) (by
    simp only [if_neg (show ¬v<n by omega),if_pos hvl]
    exact hkd) hk
  refine Ij this ?_
  rcases(by omega:n=0∨n=1∨n=2∨n=3)with rfl | rfl | rfl | rfl<;>decide
end
end Go.Proofs.YtaiffmebphhdaaaGreat
