/- The tableau, plain: what every tableau that is reached is like; moves and pivots. -/
import Derived.Test.YtaiffmebphhdaaaGreatTbR
import Derived.Test.YtaiffmebphhdaaaGreatTbS
namespace Go.Proofs.YtaiffmebphhdaaaGreat
set_option linter.unusedSimpArgs false
set_option linter.unusedVariables false
open Go.ChangeShapes Go.WideShapes Go.RowKit
def TS.bs (S:TS)(i:Nat):Nat:=S.basic.getD i 0
def iO (rows:List Rw)(i j:Nat):Int:=(rows.getD i bJ).of.getD j 0
structure Inv (n:Nat)(rows:List Rw)(S:TS):Prop where
 wf:S.wf
 hn:S.n=n
 hr:S.rows=rows
 sat:∀x,Sat (n+rows.length) rows.length S.cell S.bs x↔Sys n rows.length (iO rows) x
 zc:ZC rows.length S.cell S.bs
 vn:Sat (n+rows.length) rows.length S.cell S.bs fun k=>(S.val k).n
 vs:Sat (n+rows.length) rows.length S.cell S.bs fun k=>(S.val k).s
 up:∀k,k<n+rows.length→k∉S.basic→S.val k=fF n rows k
theorem qz {S:TS}{i:Nat}(h:i<S.basic.length):S.bs i=S.basic[i]:=mg h
theorem vF {S:TS}{i:Nat}(h:i<S.basic.length):S.bs i∈S.basic:=by rw [qz h];exact List.getElem_mem h
theorem DX {S:TS}{b:Nat}(h:b∈S.basic):∃i,i<S.basic.length∧S.bs i=b:=by
 obtain⟨i,hi,rfl⟩:=List.getElem_of_mem h;exact⟨i,hi,qz hi⟩
theorem TS.wf.lt {S:TS}(h:S.wf){i:Nat}(hi:i<S.rows.length):S.bs i<S.n+S.rows.length:=h.bb _ (vF (by rw [h.bl];exact hi))
theorem TS.wf.inj {S:TS}(h:S.wf){i j:Nat}(hi:i<S.rows.length)(hj:j<S.rows.length)(e:S.bs i=S.bs j):i=j:=by
 have hi':i<S.basic.length:=by rw [h.bl];exact hi
 have hj':j<S.basic.length:=by rw [h.bl];exact hj
 rw [qz hi',qz hj']at e;exact(List.getElem_inj h.nd).1 e
theorem FE {n:Nat}{rows:List Rw}{i:Nat}(hi:i<rows.length):(TS.start n rows).bs i=n+i:=by
 show((List.range rows.length).map fun i=>n+i).getD i 0=n+i
 rw [eG,iw (by simpa using hi)]
 simp
theorem FH {n:Nat}{rows:List Rw}{i k:Nat}(hi:i<rows.length)(hk:k<n+rows.length):(TS.start n rows).cell i k=(iO rows i k:Rat):=by
 show((rows.map fun r=>(List.range (n+rows.length)).map fun k=>((r.of.getD k 0:Int):Rat)).getD i []).getD k 0=_
 have e:(rows.map fun r=>(List.range (n+rows.length)).map fun k=>((r.of.getD k 0:Int):Rat)).getD i []=(List.range (n+rows.length)).map fun k=>((rows[i].of.getD k 0:Int):Rat):=by
  rw [eG,iw (by simpa using hi)]
  simp
 rw [e,eG,iw (by simpa using hk)]
 unfold iO;have e2:rows.getD i bJ=rows[i]:=by rw [eG,iw hi];rfl
 rw [e2];simp
theorem Mt {n:Nat}{rows:List Rw}(hr:∀r∈rows,gN r n){i j:Nat}(hi:i<rows.length)(hj:n≤j):iO rows i j=0:=by
 unfold iO;have e2:rows.getD i bJ=rows[i]:=by rw [eG,iw hi];rfl
 rw [e2];have h:=(hr _ (List.getElem_mem hi)).len;rw [eG,List.getElem?_eq_none (by omega)]
 rfl
theorem Ma {n:Nat}{rows:List Rw}(hr:∀r∈rows,gN r n){i j:Nat}(hi:i<rows.length):dA (iO rows i j):=by
 unfold iO;have e2:rows.getD i bJ=rows[i]:=by rw [eG,iw hi];rfl
 rw [e2]
 by_cases hj:j<rows[i].of.length
 ·rw [eG,iw hj]
  exact(hr _ (List.getElem_mem hi)).fit _ (List.getElem_mem hj)
 ·rw [eG,List.getElem?_eq_none (by omega)]
  show dA 0;unfold dA;omega
theorem rR {n:Nat}{rows:List Rw}(k:Nat):(TS.start n rows).val k=pr0:=by
 show(List.replicate (n+rows.length) pr0).getD k pr0=pr0;rw [eG,List.getElem?_replicate]
 split<;>rfl
theorem vW {n:Nat}{rows:List Rw}(hn:n≤12)(h40:rows.length≤64)(hr:∀r∈rows,gN r n):Inv n rows (TS.start n rows)where
 wf:=TT hn h40 hr
 hn:=rfl
 hr:=rfl
 sat:=by
  intro x;have e:∀i,i<rows.length→(sQ (n+rows.length) fun k=>(TS.start n rows).cell i k*x k)=sQ n fun j=>(iO rows i j:Rat)*x j:=by
   intro i hi;rw [dD (n+rows.length) fun k hk=>by rw [FH hi hk]]
   refine Cv rows.length fun j hj _=> ?_
   rw [Mt hr hi hj];show((0:Int):Rat)*x j=0;rw [show((0:Int):Rat)=0 from rfl,Rat.zero_mul]
  constructor
  ·intro h i hi
   have:=h i hi;rw [FE hi,e i hi]at this;exact this
  ·intro h i hi
   rw [FE hi,e i hi];exact h i hi
 zc:=by
  intro i j hi hj;rw [FE hj,FH hi (by omega),Mt hr hi (by omega)]
  rfl
 vn:=by
  intro i hi;show((TS.start n rows).val _).n=_;rw [rR];refine(jR _ fun k _=> ?_).symm
  show _*((TS.start n rows).val k).n=0;rw [rR];show _*(0:Rat)=0;rw [Rat.mul_zero]
 vs:=by
  intro i hi;show((TS.start n rows).val _).s=_;rw [rR];refine(jR _ fun k _=> ?_).symm
  show _*((TS.start n rows).val k).s=0;rw [rR];show _*(0:Rat)=0;rw [Rat.mul_zero]
 up:=by
  intro k hk hb;rw [rR];have:k<n:=by
   refine Classical.byContradiction fun h=>hb ?_
   exact List.mem_map.2 ⟨k-n,List.mem_range.2 (by omega),by omega⟩
  unfold fF;rw [if_pos this]
theorem VX {l:List Nat}(h:l.Nodup){i:Nat}(hi:i<l.length):l.idxOf l[i]=i:=(List.getElem_inj h).1 (List.getElem_idxOf (List.idxOf_lt_length_of_mem (List.getElem_mem hi)))
theorem Uj {z:Int}:z.sign<0↔z<0:=by
 rcases Int.lt_trichotomy z 0 with h | h | h
 ·rw [Int.sign_eq_neg_one_of_neg h];omega
 ·subst h;simp
 ·rw [Int.sign_eq_one_of_pos h];omega
theorem Ui {z:Int}:0<z.sign↔0<z:=by
 rcases Int.lt_trichotomy z 0 with h | h | h
 ·rw [Int.sign_eq_neg_one_of_neg h];omega
 ·subst h;simp
 ·rw [Int.sign_eq_one_of_pos h];omega
theorem iL {α:Type}{l:List α}{i j:Nat}{a d:α}(hi:i<l.length):(l.set i a).getD j d=if i=j then a else l.getD j d:=by
 rw [eG,List.getElem?_set]
 split
 ·rename_i e;subst e;first | rfl | (rw [if_pos hi];rfl)
 ·rw [← eG]
theorem Dx {S:TS}(h:S.wf){v:Nat}{d:Pr}(hv:v<S.n+S.rows.length)(hvb:v∉S.basic):∀k,k≤S.basic.length→∀p,
  (S.mvK v d k).getD p pr0=if p=v then(S.val v).add d else if ∃i,i<k∧S.bs i=p then(S.val p).add (d.mul (S.cell (S.basic.idxOf p) v))else S.val p
 | 0,_,p=>by
  unfold TS.mvK;rw [iL (by rw [h.vl];exact hv)]
  by_cases e:v=p
  ·rw [if_pos e,if_pos e.symm]
  ·rw [if_neg e,if_neg (Ne.symm e),if_neg (by rintro⟨i,hi,_⟩;omega)]
   rfl
 | k+1,hk,p=>by
  have ih:=Dx h (d:=d) hv hvb k (by omega)
  have hkl:k<S.basic.length:=by omega
  have hbk:S.basic.getD k 0=S.bs k:=rfl;have hlt:S.bs k<S.n+S.rows.length:=h.bb _ (vF hkl);have hne:S.bs k≠v:=fun e=>hvb (e ▸ vF hkl)
  unfold TS.mvK;rw [hbk,iL (by rw [yV,h.vl];exact hlt),ih (S.bs k),ih p]
  by_cases e:S.bs k=p
  ·subst e
   rw [if_pos rfl,if_neg hne,if_neg hne,if_neg,if_pos ⟨k,by omega,rfl⟩]
   ·congr 2
    rw [qz hkl,VX h.nd]
   ·rintro ⟨i,hi,e⟩
    rw [qz hkl,qz (by omega)]at e
    have:=(List.getElem_inj h.nd).1 e;omega
  ·rw [if_neg e]
   by_cases ev:p=v
   ·rw [if_pos ev,if_pos ev]
   ·rw [if_neg ev,if_neg ev]
    by_cases hx:∃i,i<k∧S.bs i=p
    ·rw [if_pos hx,if_pos (by obtain⟨i,hi,e⟩:=hx;exact⟨i,by omega,e⟩)]
    ·rw [if_neg hx,if_neg]
     rintro⟨i,hi,e'⟩
     by_cases ei:i=k
     ·subst ei;exact e e'
     ·exact hx ⟨i,by omega,e'⟩
theorem Pg {S:TS}(h:S.wf){v:Nat}{d:Pr}(hv:v<S.n+S.rows.length)(hvb:v∉S.basic):(S.move v d).val v=(S.val v).add d:=by
 have:=Dx h (d:=d) hv hvb S.basic.length (Nat.le_refl _) v;rw [if_pos rfl]at this;exact this
theorem Jo {S:TS}(h:S.wf){v:Nat}{d:Pr}(hv:v<S.n+S.rows.length)(hvb:v∉S.basic){i:Nat}(hi:i<S.rows.length):(S.move v d).val (S.bs i)=(S.val (S.bs i)).add (d.mul (S.cell i v)):=by
 have hil:i<S.basic.length:=by rw [h.bl];exact hi
 have:=Dx h (d:=d) hv hvb S.basic.length (Nat.le_refl _) (S.bs i);rw [if_neg (fun e:S.bs i=v=>hvb (e ▸ vF hil)),if_pos ⟨i,hil,rfl⟩,qz hil,VX h.nd,←qz hil]at this
 exact this
theorem LZ {S:TS}(h:S.wf){v:Nat}{d:Pr}(hv:v<S.n+S.rows.length)(hvb:v∉S.basic){p:Nat}(hp:p≠v)(hpb:p∉S.basic):(S.move v d).val p=S.val p:=by
 have:=Dx h (d:=d) hv hvb S.basic.length (Nat.le_refl _) p;rw [if_neg hp,if_neg (by rintro⟨i,hi,rfl⟩;exact hpb (vF hi))]at this
 exact this
theorem Jy {S:TS}{i v:Nat}{j:Nat}(hj:j<S.cells.length)(hji:j≠i):∀k,k≤S.cells.length→j<k→(S.pivC i v k).getD j []=yx (S.cells.getD j []) v (S.pivRow i v)
 | 0,_,h=>absurd h (by omega)
 | k+1,hk,h=>by
  unfold TS.pivC
  by_cases e:j=k
  ·subst e
   rw [if_neg hji,iL (by rw [fZ];exact hj),if_pos rfl]
  ·split
   ·exact Jy hj hji k (by omega) (by omega)
   ·rw [iL (by rw [fZ];omega),if_neg (by omega)]
    exact Jy hj hji k (by omega) (by omega)
theorem zaG {S:TS}(h:S.wf){i v:Nat}(hi:i<S.rows.length)(hv:v<S.n+S.rows.length)(hvb:v∉S.basic)(ha:S.cell i v≠0):
  XC (S.n+S.rows.length) S.rows.length S.cell (S.pivot i v).cell S.bs (S.pivot i v).bs i v:=by
 have hic:i<S.cells.length:=by rw [h.cl];exact hi
 have hib:i<S.basic.length:=by rw [h.bl];exact hi
 have hbl:S.bs i<S.n+S.rows.length:=h.lt hi;have hrl:(S.cells.getD i []).length=S.n+S.rows.length:=by
  rw [eG,iw hic];exact h.cr _ (List.getElem_mem hic)
 have hci:∀k,k<S.n+S.rows.length→(S.pivot i v).cell i k=if k=S.bs i then 1/S.cell i v else if k=v then 0 else -(S.cell i k/S.cell i v):=by
  intro k hk;have e:(S.pivot i v).cells.getD i []=S.pivRow i v:=by
   show((S.pivC i v S.cells.length).set i (S.pivRow i v)).getD i []=_;rw [iL (by rw [fZ];exact hic),if_pos rfl]
  show((S.pivot i v).cells.getD i []).getD k 0=_;rw [e];unfold TS.pivRow;have hbe:S.basic.getD i 0=S.bs i:=rfl;rw [hbe,iL (by rw [List.length_set,qY,hrl];exact hbl),iL (by rw [qY,hrl];exact hv)]
  by_cases e1:k=S.bs i
  ·rw [if_pos e1.symm,if_pos e1]
  ·rw [if_neg (Ne.symm e1),if_neg e1]
   by_cases e2:k=v
   ·rw [if_pos e2.symm,if_pos e2]
   ·rw [if_neg (Ne.symm e2),if_neg e2]
    unfold qX;rw [eG,iw (by simp only [List.length_map,List.length_range];omega)]
    simp only [List.getElem_map,List.getElem_range,Option.getD_some];rw [if_pos (by omega)]
    rfl
 refine⟨hi,hv,ha,fun j hj=>h.lt hj,fun j hj e=>hvb (e ▸ vF (by rw [h.bl];exact hj)),fun j hj hne e=>hne (h.inj hj hi e),hci,?_,?_,?_⟩
 ·intro j hj hji k hk
  have hjc:j<S.cells.length:=by rw [h.cl];exact hj
  have e:(S.pivot i v).cells.getD j []=yx (S.cells.getD j []) v (S.pivRow i v):=by
   show((S.pivC i v S.cells.length).set i (S.pivRow i v)).getD j []=_;rw [iL (by rw [fZ];exact hic),if_neg (Ne.symm hji)]
   exact Jy hjc hji _ (Nat.le_refl _) hjc
  have er:(S.pivRow i v).getD k 0=(S.pivot i v).cell i k:=by
   show _=((S.pivot i v).cells.getD i []).getD k 0;have e:(S.pivot i v).cells.getD i []=S.pivRow i v:=by
    show((S.pivC i v S.cells.length).set i (S.pivRow i v)).getD i []=_;rw [iL (by rw [fZ];exact hic),if_pos rfl]
   rw [e]
  have hjl:(S.cells.getD j []).length=S.n+S.rows.length:=by
   rw [eG,iw hjc];exact h.cr _ (List.getElem_mem hjc)
  show((S.pivot i v).cells.getD j []).getD k 0=_;rw [e,←er];unfold yx;rw [eG,iw (by simp only [List.length_map,List.length_range];omega)]
  simp only [List.getElem_map,List.getElem_range,Option.getD_some];rfl
 ·show (S.basic.set i v).getD i 0=v
  rw [iL hib,if_pos rfl]
 ·intro j hj hji
  show(S.basic.set i v).getD j 0=S.basic.getD j 0;rw [iL hib,if_neg (Ne.symm hji)]
theorem ze {a b:Rat}:qM a b<0↔a<b:=by
 unfold qM;rw [Uj,Rat.lt_iff];omega
theorem Jz {a b:Rat}:0<qM a b↔b<a:=by
 unfold qM;rw [Ui,Rat.lt_iff];omega
theorem Pp {a b:Rat}:qM a b=0↔a=b:=by
 have h1:=ze (a:=a) (b:=b);have h2:=Jz (a:=a) (b:=b)
 constructor
 ·intro h
  have:¬a<b:=fun x=>by have:=h1.2 x;omega
  have:¬b<a:=fun x=>by have:=h2.2 x;omega
  grind
 ·rintro rfl
  have:¬qM a a<0:=fun x=>by have:=h1.1 x;grind
  have:¬0<qM a a:=fun x=>by have:=h2.1 x;grind
  omega
theorem uY {a b:Pr}:a.cmp b<0↔a.n<b.n∨a.n=b.n∧a.s<b.s:=by
 unfold Pr.cmp;have h1:=ze (a:=a.n) (b:=b.n);have h2:=Pp (a:=a.n) (b:=b.n);have h3:=ze (a:=a.s) (b:=b.s)
 split
 ·rename_i h
  rw [h1]
  constructor
  ·exact fun h=> .inl h
  ·rintro (h' | ⟨h',_⟩)
   ·exact h'
   ·exact absurd (h2.2 h') h
 ·rename_i h
  have h:qM a.n b.n=0:=by omega
  have h':=h2.1 h;rw [h3]
  constructor
  ·exact fun hs=> .inr ⟨h',hs⟩
  ·rintro (hs | ⟨_,hs⟩)
   ·grind
   ·exact hs
theorem rG {a b:Pr}:0<a.cmp b↔b.n<a.n∨a.n=b.n∧b.s<a.s:=by
 unfold Pr.cmp;have h1:=Jz (a:=a.n) (b:=b.n);have h2:=Pp (a:=a.n) (b:=b.n);have h3:=Jz (a:=a.s) (b:=b.s)
 split
 ·rename_i h
  rw [h1]
  constructor
  ·exact fun h=> .inl h
  ·rintro (h' | ⟨h',_⟩)
   ·exact h'
   ·exact absurd (h2.2 h') h
 ·rename_i h
  have h:qM a.n b.n=0:=by omega
  have h':=h2.1 h;rw [h3]
  constructor
  ·exact fun hs=> .inr ⟨h',hs⟩
  ·rintro (hs | ⟨_,hs⟩)
   ·grind
   ·exact hs
end Go.Proofs.YtaiffmebphhdaaaGreat
