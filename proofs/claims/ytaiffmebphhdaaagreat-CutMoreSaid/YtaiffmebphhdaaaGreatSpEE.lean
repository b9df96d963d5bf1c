/- Package simplex's Do. What simplex.Do tells, plain. Of small rows it is always told; with fewer rows, and with a row's contrary: plain. A point and multipliers, as the laws ask for them: plain. -/
import Derived.Test.YtaiffmebphhdaaaGreatTbX
import Derived.Test.YtaiffmebphhdaaaGreatTbOO
import Derived.Test.YtaiffmebphhdaaaGreatTbL
import Derived.Test.YtaiffmebphhdaaaGreatTbY
import Derived.Test.YtaiffmebphhdaaaGreatRowAA
import Derived.Test.YtaiffmebphhdaaaGreatFkAA
namespace Go.Proofs.YtaiffmebphhdaaaGreat
set_option linter.unusedSimpArgs false
set_option linter.unusedVariables false
open Go.ChangeShapes Go.WideShapes Go.RowKit Go.Maps
theorem oO {l:List Rw}{n:Int}(h:(jW l n).1=0):jW l n=(0,0)∧0≤n∧n≤12∧l.length≤40∧∀r∈l,gN r n:=by
 unfold jW at h ⊢
 by_cases h1:n<0∨12<n
 ·rw [if_pos h1]at h;simp at h
 ·rw [if_neg h1]at h ⊢
  by_cases h2:40<l.length
  ·rw [if_pos h2]at h;simp at h
  ·rw [if_neg h2]at h ⊢
   exact⟨(tL h).1,by omega,by omega,by omega,(tL h).2⟩
theorem zaA {n:Nat}{rows:List Rw}{T:TS}(h:Inv n rows T):∀q∈T.ptK T.n,NB 1000 q:=by
 intro q hq;unfold TS.ptK at hq;obtain⟨v,hv,rfl⟩:=List.mem_map.1 hq;have hv:=List.mem_range.1 hv;have hvl:v<T.vals.length:=by rw [h.wf.vl];omega
 have hs:=NY h.wf h.nb T.vals.length (Nat.le_refl _);have ho:(T.val v).ok 100:=by rw [jY hvl];exact h.nb.v _ (List.getElem_mem hvl)
 unfold TS.ptQ;exact(ho.1.add (ho.2.mul hs)).mono (by omega)
theorem Jh {n:Nat}{rows:List Rw}{T:TS}{i:Nat}{way:Int}(h:Inv n rows T)(hi:i<rows.length)(hw:way=1∨way= -1):∀k,k≤n+rows.length→∀q∈T.refK i way k,NB 1000 q
 | 0,_,q,hq=>by
  unfold TS.refK at hq
  rcases List.mem_or_eq_of_mem_set hq with hq | rfl
  ·rw [(List.mem_replicate.1 hq).2];exact mM.mono (by omega)
  ·exact (jy (x:= -way) (by omega)).mono (by omega)
 | k+1,hk,q,hq=>by
  unfold TS.refK at hq
  split at hq
  ·exact Jh h hi hw k (by omega) q hq
  ·rcases List.mem_or_eq_of_mem_set hq with hq | rfl
   ·exact Jh h hi hw k (by omega) q hq
   ·have hic:i<T.cells.length:=by rw [h.wf.cl,h.hr];exact hi
    have hkc:k<T.cells[i].length:=by rw [h.wf.cr _ (List.getElem_mem hic),h.hn,h.hr];omega
    have hc:NB 100 (T.cell i k):=by rw [mK hic hkc];exact h.nb.c _ (List.getElem_mem hic) _ (List.getElem_mem hkc)
    exact((hc.mul (jy (x:= -way) (by omega))).neg).mono (by omega)
theorem dO.other2 {α:Type}{T:TypeId}{K:Nat}{c:α→List Value}{w:World}{base b:Nat}{v:Value}{l:List α}(h:dO T K c w base v l)(hb:b<base)(x y:Value):dO T K c ((w.setCell ⟨b,0,none⟩ x).setCell ⟨b,1,none⟩ y) base v l:=
 iW h fun k hk=>by have:=h.block k hk;have hne:k≠b:=(by omega);rw [heap_setCell_other _ _ _ _ hne,heap_setCell_other _ _ _ _ hne]
open Go.ChangeShapes Go.WideShapes Go.RowKit
def xg (l:List Fq)(i:Nat):Rat:=(l.getD i ⟨0,0⟩).q
structure SK (rows:List Rw)(N:Nat)(pt:List Fq):Prop where
 len:pt.length=N
 ok:∀g∈pt,fG g.N g.D
 holds:∀i,i<rows.length→
  ((rows.getD i bJ).kind=1→(sQ N fun j=>(iO rows i j:Rat)*xg pt j)≤((rows.getD i bJ).to:Rat))∧
  ((rows.getD i bJ).kind=2→(sQ N fun j=>(iO rows i j:Rat)*xg pt j)<((rows.getD i bJ).to:Rat))∧
  ((rows.getD i bJ).kind=3→(sQ N fun j=>(iO rows i j:Rat)*xg pt j)=((rows.getD i bJ).to:Rat))
theorem Dg {l:List Rat}(h:allFit l l.length=true):∀q∈l,Fits q:=by
 unfold allFit at h;rw [List.take_length,List.all_eq_true]at h;exact fun q hq=>of_decide_eq_true (h q hq)
theorem NA {l:List Rat}(h:allFit l l.length=true):∀g∈l.map dQ,fG g.N g.D:=by
 intro g hg;obtain⟨q,hq,rfl⟩:=List.mem_map.1 hg;unfold dQ;rw [if_pos (Dg h q hq)];exact OV (Dg h q hq)
theorem Xg {q:Rat}(h:Fits q):(dQ q).q=q:=by
 unfold dQ;rw [if_pos h];exact Rat.num_divInt_den _
theorem Ux {l:List Rat}(h:allFit l l.length=true){i:Nat}(hi:i<l.length):xg (l.map dQ) i=l[i]:=by
 unfold xg;rw [eG,List.getElem?_map,iw hi];exact Xg (Dg h _ (List.getElem_mem hi))
theorem Eo {l:List Rat}(h:∀q∈l,Fits q):allFit l l.length=true:=by
 unfold allFit;rw [List.take_length,List.all_eq_true];exact fun q hq=>decide_eq_true (h q hq)
theorem Uc {q:Rat}(h:Fits q):Fits (-q):=by
 unfold Fits at *;rw [Rat.neg_num,Rat.neg_den,Int.natAbs_neg];exact h
theorem xJ {n:Nat}{rows:List Rw}{T:TS}{i:Nat}{way:Int}(h:Inv n rows T)(hs:Il rows)(hn:n≤3)(hi:i<rows.length)(hw:way=1∨way= -1):∀k,k≤n+rows.length→∀q∈T.refK i way k,Fits q
 | 0,_,q,hq=>by
  unfold TS.refK at hq
  rcases List.mem_or_eq_of_mem_set hq with hq | rfl
  ·rw [(List.mem_replicate.1 hq).2];unfold Fits;decide
  ·rcases hw with rfl | rfl<;>(unfold Fits;decide)
 | k+1,hk,q,hq=>by
  unfold TS.refK at hq
  split at hq
  ·exact xJ h hs hn hi hw k (by omega) q hq
  ·rcases List.mem_or_eq_of_mem_set hq with hq | rfl
   ·exact xJ h hs hn hi hw k (by omega) q hq
   ·have hc:=h.small_cell hs hn hi (show k<n+rows.length by omega)
    rcases hw with rfl | rfl
    ·have e: -(T.cell i k*((-1:Int):Rat))=T.cell i k:=by rw [show((-1:Int):Rat)= -1 from rfl];grind
     rw [e];exact hc
    ·have e: -(T.cell i k*((-(-1):Int):Rat))= -T.cell i k:=by rw [show((-(-1):Int):Rat)=1 from rfl];grind
     rw [e];exact Uc hc
def om (r:Rw)(N:Nat)(x:Nat→Rat):Prop:=
 (r.kind=1→(sQ N fun j=>(r.of.getD j 0:Rat)*x j)≤(r.to:Rat))∧(r.kind=2→(sQ N fun j=>(r.of.getD j 0:Rat)*x j)<(r.to:Rat))∧(r.kind=3→(sQ N fun j=>(r.of.getD j 0:Rat)*x j)=(r.to:Rat))
theorem za9 {rows:List Rw}{i:Nat}(hi:i<rows.length):rows.getD i bJ=rows[i]:=by rw [eG,iw hi];rfl
theorem OM {f:Nat→Nat→Rat}{m:Nat}:∀n,sQ n (fun i=>sQ m (fun j=>f i j))=sQ m (fun j=>sQ n (fun i=>f i j))
 | 0=>by simp only [sQ];exact(jR m fun _ _=>rfl).symm
 | n+1=>by simp only [sQ];rw [OM n,←oZ]
theorem Ud {f g:Nat→Rat}:∀n,(∀j,j<n→f j≤g j)→sQ n f≤sQ n g
 | 0,_=>Rat.le_refl
 | n+1,h=>by
  have ih:=Ud n fun j hj=>h j (by omega)
  have:=h n (by omega)
  simp only [sQ]
  grind
theorem YF {f g:Nat→Rat}{p:Nat}:∀n,p<n→(∀j,j<n→f j≤g j)→f p<g p→sQ n f<sQ n g
 | 0,h,_,_=>absurd h (by omega)
 | n+1,hp,h,hs=>by
  simp only [sQ]
  by_cases e:p=n
  ·subst e
   have:=Ud p fun j hj=>h j (by omega)
   grind
  ·have:=YF n (by omega) (fun j hj=>h j (by omega)) hs
   have:=h n (by omega)
   grind
theorem Ii {of:List Int}{nums:List Fq}:∀k,yA of nums k=sQ k fun j=>(of.getD j 0:Rat)*xg nums j
 | 0=>rfl
 | k+1=>by simp only [yA,sQ];rw [Ii k];rfl
theorem SI {rows:List Rw}{i:Nat}(hi:i<rows.length):rows.getD i bJ=rows[i]:=by rw [eG,iw hi];rfl
theorem ML {rows:List Rw}{N:Nat}{pt:List Fq}(hok:∀r∈rows,gN r N)(h:SK rows N pt):∀r∈rows,oV r pt=true:=by
 intro r hr;obtain⟨i,hi,rfl⟩:=List.getElem_of_mem hr;have hk:=hok _ hr;obtain⟨h1,h2,h3⟩:=h.holds i hi;have e:yA rows[i].of pt rows[i].of.length=sQ N fun j=>(iO rows i j:Rat)*xg pt j:=by
  rw [Ii];have hl:=hk.len;obtain⟨d,hd⟩:∃d,N=rows[i].of.length+d:=⟨N-rows[i].of.length,by omega⟩
  subst hd;have e1:∀j,(iO rows i j:Rat)*xg pt j=(rows[i].of.getD j 0:Rat)*xg pt j:=fun j=>by unfold iO;rw [SI hi]
  rw [dD _ fun j _=>e1 j,Cv d fun j hj _=> ?_]
  rw [eG,List.getElem?_eq_none (by omega)]
  show((0:Int):Rat)*_=0;rw [show((0:Int):Rat)=0 from rfl,Rat.zero_mul]
 unfold oV jZ;rw [SI hi]at h1 h2 h3;rw [e];generalize (sQ N fun j=>(iO rows i j:Rat)*xg pt j)=s at*
 generalize ((rows[i].to:Int):Rat)=t at *;have s1:=yB (q:=s-t);have s2:=nT (q:=s-t)
 rcases hk.kind with hc | hc | hc
 ·have:=h1 hc
  rw [if_pos hc];refine decide_eq_true ?_;have:¬0<(s-t).num.sign:=fun hx=>by have:=s2.1 hx;grind
  omega
 ·have:=h2 hc
  rw [if_neg (by omega),if_pos hc]
  exact decide_eq_true (s1.2 (by grind))
 ·have:=h3 hc
  rw [if_neg (by omega),if_neg (by omega)]
  refine decide_eq_true ?_;have a1:¬0<(s-t).num.sign:=fun hx=>by have:=s2.1 hx;grind
  have a2:¬(s-t).num.sign<0:=fun hx=>by have:=s1.1 hx;grind
  omega
theorem JL:∀ {l:List Int} {i:Nat},(∀x∈l,dA x)→bF l i=(0,0)
 | [],_,_=>rfl
 | x::l,i,h=>by unfold bF;rw [if_pos (h x (by simp))];exact JL fun y hy=>h y (by simp [hy])
theorem Zo {r:Rw}{n:Int}(h:gN r n):fM r n=(0,0):=by
 have h0:=h.n0;have h1:=h.n12;have h2:=h.len;unfold fM;rw [if_neg (by omega),if_neg (not_not_intro h.kind),if_neg (by omega)]
 apply JL
 intro x hx
 rcases List.mem_append.1 hx with hx | hx
 ·exact h.fit x hx
 ·rw [List.mem_singleton]at hx;subst hx;exact h.fto
theorem SQ:∀ {l:List Fq} {i:Nat},(∀g∈l,fG g.N g.D)→gQ l i=(0,0)
 | [],_,_=>rfl
 | g::l,i,h=>by unfold gQ;rw [if_pos (h g (by simp))];exact SQ fun y hy=>h y (by simp [hy])
end Go.Proofs.YtaiffmebphhdaaaGreat
