/- Package simplex's Do. What simplex.Do tells, plain. Of small rows it is always told; with fewer rows, and with a row's contrary: plain. A point and multipliers, as the laws ask for them: plain. -/
import Derived.Test.YtaiffmebphhdaaaGreatTbX
import Derived.Test.YtaiffmebphhdaaaGreatTbOO
import Derived.Test.YtaiffmebphhdaaaGreatOwGG
import Derived.Test.YtaiffmebphhdaaaGreatTbTT
import Derived.Test.YtaiffmebphhdaaaGreatRowAA
import Derived.Test.YtaiffmebphhdaaaGreatFkAA
namespace Go.Proofs.YtaiffmebphhdaaaGreat
set_option linter.unusedSimpArgs false
set_option linter.unusedVariables false
open Go.ChangeShapes Go.WideShapes Go.RowKit Go.Maps
theorem wP {l:List Rw}{n:Int}(h:(nW l n).1=0):nW l n=(0,0)∧0≤n∧n≤12∧l.length≤40∧∀r∈l,eD r n:=by
 unfold nW at h ⊢;by_cases h1:n<0∨12<n
 ·rw [if_pos h1]at h;simp at h
 rw [if_neg h1]at h ⊢;by_cases h2:40<l.length
 ·rw [if_pos h2]at h;simp at h
 rw [if_neg h2]at h ⊢;exact⟨(uh h).1,om,om,om,(uh h).2⟩
theorem za7 {n:Nat}{rows:List Rw}{T:TS}(h:Inv n rows T):∀q∈T.ptK T.n,NB 1000 q:=by
 intro q hq;unfold TS.ptK at hq;obtain⟨v,hv,rfl⟩:=List.mem_map.1 hq;have hv:=List.mem_range.1 hv;have hvl:v<T.vals.length:=by rw [h.wf.vl];omega
 have hs:=OV h.wf h.nb T.vals.length (Nat.le_refl _);have ho:(T.val v).ok 100:=by rw [kg hvl];exact h.nb.v _ (List.getElem_mem hvl)
 unfold TS.ptQ;exact(ho.1.add (ho.2.mul hs)).mono om
theorem Jm {n:Nat}{rows:List Rw}{T:TS}{i:Nat}{way:Int}(h:Inv n rows T)(hi:i<rows.length)(hw:way=1∨way= -1):∀k,k≤n+rows.length→∀q∈T.refK i way k,NB 1000 q
 | 0,_,q,hq=>by
  unfold TS.refK at hq;rcases List.mem_or_eq_of_mem_set hq with hq | rfl
  ·rw [(List.mem_replicate.1 hq).2];exact jJ.mono om
  exact(jv (x:= -way) om).mono om
 | k+1,hk,q,hq=>by
  unfold TS.refK at hq;split at hq
  ·exact Jm h hi hw k om q hq
  rcases List.mem_or_eq_of_mem_set hq with hq | rfl
  ·exact Jm h hi hw k om q hq
  have hic:i<T.cells.length:=by rw [h.wf.cl,h.hr];exact hi
  have hkc:k<T.cells[i].length:=by rw [h.wf.cr _ (List.getElem_mem hic),h.hn,h.hr];omega
  have hc:NB 100 (T.cell i k):=by rw [mK hic hkc];exact h.nb.c _ (List.getElem_mem hic) _ (List.getElem_mem hkc)
  exact((hc.mul (jv (x:= -way) om)).neg).mono om
theorem dR.other2 {α:Type}{T:TypeId}{K:Nat}{c:α→List Value}{w:World}{base b:Nat}{v:Value}{l:List α}(h:dR T K c w base v l)(hb:b<base)(x y:Value):dR T K c ((w.setCell ⟨b,0,none⟩ x).setCell ⟨b,1,none⟩ y) base v l:=
 iW h fun k hk=>by have:=h.block k hk;have hne:k≠b:=om;rw [heap_setCell_other _ _ _ _ hne,heap_setCell_other _ _ _ _ hne]
open Go.ChangeShapes Go.WideShapes Go.RowKit
def jO (l:List Fq)(i:Nat):Rat:=(l.getD i ⟨0,0⟩).q
structure PK (rows:List Rw)(N:Nat)(pt:List Fq):Prop where
 len:pt.length=N
 ok:∀g∈pt,dW g.N g.D
 holds:∀i,i<rows.length→
  ((rows.getD i bG).kind=1→(sQ N fun j=>(iX rows i j:Rat)*jO pt j)≤((rows.getD i bG).to:Rat))∧
  ((rows.getD i bG).kind=2→(sQ N fun j=>(iX rows i j:Rat)*jO pt j)<((rows.getD i bG).to:Rat))∧
  ((rows.getD i bG).kind=3→(sQ N fun j=>(iX rows i j:Rat)*jO pt j)=((rows.getD i bG).to:Rat))
structure Ox (rows:List Rw)(N:Nat)(tm:List Fq):Prop where
 len:tm.length=rows.length
 ok:∀g∈tm,dW g.N g.D
 sign:∀p,p<rows.length→(rows.getD p bG).kind≠3→0≤jO tm p
 col:∀k,k<N→(sQ rows.length fun p=>jO tm p*(iX rows p k:Rat))=0
 neg:(sQ rows.length fun p=>jO tm p*((rows.getD p bG).to:Rat))<0∨(sQ rows.length fun p=>jO tm p*((rows.getD p bG).to:Rat))=0∧∃p,p<rows.length∧(rows.getD p bG).kind=2∧jO tm p≠0
theorem zI {l:List Rat}(h:allFit l l.length=true):∀q∈l,Fits q:=by
 unfold allFit at h;rw [List.take_length,List.all_eq_true]at h;exact fun q hq=>of_decide_eq_true (h q hq)
theorem yh {l:List Rat}(h:allFit l l.length=true):∀g∈l.map cZ,dW g.N g.D:=by
 intro g hg;obtain⟨q,hq,rfl⟩:=List.mem_map.1 hg;unfold cZ;rw [if_pos (zI h q hq)];exact Qv (zI h q hq)
theorem Zw {q:Rat}(h:Fits q):(cZ q).q=q:=by
 unfold cZ;rw [if_pos h];exact Rat.num_divInt_den _
theorem EG {l:List Rat}(h:allFit l l.length=true){i:Nat}(hi:i<l.length):jO (l.map cZ) i=l[i]:=by
 unfold jO;rw [dX,List.getElem?_map,fG hi];exact Zw (zI h _ (List.getElem_mem hi))
theorem TA {N f:Nat}{rows:List Rw}(hn:N≤12)(h40:rows.length≤64)(hok:∀r∈rows,eD r N):
  TS.feas f (TS.start N rows)= .hungry∨
  (∃T,TS.feas f (TS.start N rows)= .yes T∧Inv N rows T∧(allFit (T.ptK T.n) (T.ptK T.n).length=true→PK rows N ((T.ptK T.n).map cZ)))∨
  (∃l,TS.feas f (TS.start N rows)= .no l∧(∃T b way,Inv N rows T∧Oz T b way∧T.enter (T.lineOf b) way=none∧l=T.refK (T.lineOf b) way (T.n+T.rows.length))∧(allFit l l.length=true→Ox rows N (l.map cZ))):=by
 have h0:=wJ hn h40 hok;rcases hf:TS.feas f (TS.start N rows)with T | l | _
 ·obtain ⟨hI,hb⟩:=zk f _ T h0 hf;refine .inr (.inl ⟨T,rfl,hI,fun ha=> ?_⟩);have hn:=hI.hn;have hl:(T.ptK T.n).length=N:=by rw [zn,hn]
  refine⟨by rw [List.length_map,hl],yh ha,fun i hi=> ?_⟩;have e:(sQ N fun j=>(iX rows i j:Rat)*jO ((T.ptK T.n).map cZ) j)=sQ N fun j=>(iX rows i j:Rat)*T.ptQ j:=by
   refine dV N fun j hj=> ?_;rw [EG ha om];congr 1;simp [TS.ptK]
  rw [e];exact GU hI hb hi
 ·obtain ⟨T,b,way,hI,hB,hE,hl⟩:=Dq f _ l h0 hf;refine .inr (.inr ⟨l,rfl,⟨T,b,way,hI,hB,hE,hl⟩,fun ha=> ?_⟩);have hlen:l.length=rows.length:=by rw [hl,nu,hI.hr]
  obtain⟨h1,h2,h3⟩:=EJ hI hB hE (fun p=>jO (l.map cZ) p) (fun p hp=>by
   rw [EG ha om,←hl,dX,fG om];rfl)
  exact⟨by rw [List.length_map,hlen],yh ha,h1,h2,h3⟩
 exact .inl rfl
def wV (r:Rw)(N:Nat)(x:Nat→Rat):Prop:=
 (r.kind=1→(sQ N fun j=>(r.of.getD j 0:Rat)*x j)≤(r.to:Rat))∧(r.kind=2→(sQ N fun j=>(r.of.getD j 0:Rat)*x j)<(r.to:Rat))∧(r.kind=3→(sQ N fun j=>(r.of.getD j 0:Rat)*x j)=(r.to:Rat))
theorem zbN {rows:List Rw}{i:Nat}(hi:i<rows.length):rows.getD i bG=rows[i]:=by rw [dX,fG hi];rfl
theorem PO {f:Nat→Nat→Rat}{m:Nat}:∀n,sQ n (fun i=>sQ m (fun j=>f i j))=sQ m (fun j=>sQ n (fun i=>f i j))
 | 0=>by simp only [sQ];exact(kZ m fun _ _=>rfl).symm
 | n+1=>by simp only [sQ];rw [PO n,←qZ]
theorem VI {f g:Nat→Rat}:∀n,(∀j,j<n→f j≤g j)→sQ n f≤sQ n g
 | 0,_=>Rat.le_refl
 | n+1,h=>by
  have ih:=VI n fun j hj=>h j om;have:=h n om;simp only [sQ];grind
theorem Z6 {f g:Nat→Rat}{p:Nat}:∀n,p<n→(∀j,j<n→f j≤g j)→f p<g p→sQ n f<sQ n g
 | 0,h,_,_=>absurd h om
 | n+1,hp,h,hs=>by
  simp only [sQ];by_cases e:p=n
  ·subst e;have:=VI p fun j hj=>h j om;grind
  have:=Z6 n om (fun j hj=>h j om) hs;have:=h n om;grind
theorem Qw {of:List Int}{nums:List Fq}:∀k,Bl of nums k=sQ k fun j=>(of.getD j 0:Rat)*jO nums j
 | 0=>rfl
 | k+1=>by simp only [Bl,sQ];rw [Qw k];rfl
theorem Xr {rows:List Rw}{i:Nat}(hi:i<rows.length):rows.getD i bG=rows[i]:=by rw [dX,fG hi];rfl
theorem Oq {rows:List Rw}{N:Nat}{pt:List Fq}(hok:∀r∈rows,eD r N)(h:PK rows N pt):∀r∈rows,vX r pt=true:=by
 intro r hr;obtain⟨i,hi,rfl⟩:=List.getElem_of_mem hr;have hk:=hok _ hr;obtain⟨h1,h2,h3⟩:=h.holds i hi;have e:Bl rows[i].of pt rows[i].of.length=sQ N fun j=>(iX rows i j:Rat)*jO pt j:=by
  rw [Qw];have hl:=hk.len;obtain⟨d,hd⟩:∃d,N=rows[i].of.length+d:=⟨N-rows[i].of.length,om⟩;subst hd;have e1:∀j,(iX rows i j:Rat)*jO pt j=(rows[i].of.getD j 0:Rat)*jO pt j:=fun j=>by unfold iX;rw [Xr hi]
  rw [dV _ fun j _=>e1 j,Jd d fun j hj _=> ?_];rw [dX,List.getElem?_eq_none om];show((0:Int):Rat)*_=0;rw [show((0:Int):Rat)=0 from rfl,Rat.zero_mul]
 unfold vX lH;rw [Xr hi]at h1 h2 h3;rw [e];generalize (sQ N fun j=>(iX rows i j:Rat)*jO pt j)=s at*;generalize ((rows[i].to:Int):Rat)=t at *;have s1:=P6 (q:=s-t);have s2:=zC (q:=s-t);rcases hk.kind with hc | hc | hc
 ·have:=h1 hc;rw [if_pos hc];refine decide_eq_true ?_;have:¬0<(s-t).num.sign:=fun hx=>by have:=s2.1 hx;grind
  omega
 ·have:=h2 hc;rw [if_neg om,if_pos hc];exact decide_eq_true (s1.2 (by grind))
 have:=h3 hc;rw [if_neg om,if_neg om];refine decide_eq_true ?_;have a1:¬0<(s-t).num.sign:=fun hx=>by have:=s2.1 hx;grind
 have a2:¬(s-t).num.sign<0:=fun hx=>by have:=s1.1 hx;grind
 omega
theorem Zx {tm:List Fq}(i:Nat):(tm.map Fq.q).getD i 0=jO tm i:=by
 unfold jO;by_cases hi:i<tm.length
 ·rw [dX,List.getElem?_map,fG hi,dX,fG hi];rfl
 rw [dX,List.getElem?_map,List.getElem?_eq_none om,dX,List.getElem?_eq_none om];show(0:Rat)=Rat.divInt 0 0;rfl
theorem Qx {rows:List Rw}{tm:List Fq}{k:Nat}:∀m,Gf rows (tm.map Fq.q) k m=sQ m fun p=>jO tm p*(iX rows p k:Rat)
 | 0=>rfl
 | m+1=>by
  simp only [Gf,sQ];rw [Qx m,Zx,Rat.mul_comm];rfl
theorem Xt {rows:List Rw}{tm:List Fq}:∀m,Uk rows (tm.map Fq.q) m=sQ m fun p=>jO tm p*((rows.getD p bG).to:Rat)
 | 0=>rfl
 | m+1=>by
  simp only [Uk,sQ];rw [Xt m,Zx,Rat.mul_comm]
theorem Qy {rows:List Rw}{tm:List Fq}{p:Nat}(hk:(rows.getD p bG).kind=2)(h0:jO tm p≠0):∀m,p<m→uO rows (tm.map Fq.q) m=true
 | 0,h=>absurd h om
 | m+1,h=>by
  unfold uO;by_cases e:p=m
  ·subst e;rw [Zx,hk];simp [h0]
  rw [Qy hk h0 m om];rfl
theorem Qz {rows:List Rw}{tm:List Fq}:∀m,(∀p,p<m→(rows.getD p bG).kind≠3→0≤jO tm p)→wW rows (tm.map Fq.q) m=true
 | 0,_=>rfl
 | m+1,h=>by
  unfold wW;rw [Qz m fun p hp=>h p om,Zx];rw [Bool.true_and,Bool.or_eq_true,decide_eq_true_eq,decide_eq_true_eq];by_cases hk:(rows.getD m bG).kind=3
  ·exact .inl hk
  exact .inr (h m om hk)
theorem MP {rows:List Rw}{tm:List Fq}:∀N,(∀k,k<N→(sQ rows.length fun p=>jO tm p*(iX rows p k:Rat))=0)→oC rows (tm.map Fq.q) N=true
 | 0,_=>rfl
 | N+1,h=>by
  unfold oC;rw [MP N fun k hk=>h k om,Qx,h N om];rfl
theorem YA {rows:List Rw}{N:Nat}{tm:List Fq}(h:Ox rows N tm):Xj rows (tm.map Fq.q) N=true:=by
 unfold Xj Zm;rw [Qz _ h.sign,MP _ h.col,Xt,Bool.true_and,Bool.true_and,Bool.or_eq_true,Bool.and_eq_true,decide_eq_true_eq,decide_eq_true_eq];rcases h.neg with hn | ⟨hn,p,hp,hk,h0⟩
 ·exact .inl hn
 exact .inr ⟨hn,Qy hk h0 _ hp⟩
theorem MQ:∀ {l:List Int} {i:Nat},(∀x∈l,bZ x)→bI l i=(0,0)
 | [],_,_=>rfl
 | x::l,i,h=>by unfold bI;rw [if_pos (h x sm)];exact MQ fun y hy=>h y (by simp [hy])
theorem VF {r:Rw}{n:Int}(h:eD r n):gG r n=(0,0):=by
 have h0:=h.n0;have h1:=h.n12;have h2:=h.len;unfold gG;rw [if_neg om,if_neg (not_not_intro h.kind),if_neg om];apply MQ;intro x hx;rcases List.mem_append.1 hx with hx | hx
 ·exact h.fit x hx
 rw [List.mem_singleton]at hx;subst hx;exact h.fto
theorem VG:∀ {l:List Fq} {i:Nat},(∀g∈l,dW g.N g.D)→gW l i=(0,0)
 | [],_,_=>rfl
 | g::l,i,h=>by unfold gW;rw [if_pos (h g sm)];exact VG fun y hy=>h y (by simp [hy])
end Go.Proofs.YtaiffmebphhdaaaGreat
