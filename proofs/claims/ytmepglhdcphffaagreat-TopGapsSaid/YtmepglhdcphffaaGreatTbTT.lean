/- The tableau, plain: what every tableau that is reached is like; moves and pivots. The tableau, plain: a step of the search keeps what is known; the bounds of all numbers. The tableau, plain: the point that is told holds; the multipliers that are told refute. The tableau, plain: with the least variables the search ends (Bland). The tableau, plain: of small rows all numbers that are told fit. -/
import Derived.Test.YtmepglhdcphffaaGreatTbMM
import Derived.Test.YtmepglhdcphffaaGreatTbEE
import Derived.Test.YtmepglhdcphffaaGreatTbJJ
namespace Go.Proofs.YtmepglhdcphffaaGreat
set_option linter.unusedSimpArgs false
set_option linter.unusedVariables false
open Go.ChangeShapes Go.WideShapes Go.RowKit
def TS.bs (S:TS)(i:Nat):Nat:=S.basic.getD i 0
def lQ (rows:List Rw)(i j:Nat):Int:=(rows.getD i bZ).of.getD j 0
structure Inv (n:Nat)(rows:List Rw)(S:TS):Prop where
 wf:S.wf
 hn:S.n=n
 hr:S.rows=rows
 sat:∀x,Sat (n+rows.length) rows.length S.cell S.bs x↔Sys n rows.length (lQ rows) x
 zc:ZC rows.length S.cell S.bs
 vn:Sat (n+rows.length) rows.length S.cell S.bs fun k=>(S.val k).n
 vs:Sat (n+rows.length) rows.length S.cell S.bs fun k=>(S.val k).s
 up:∀k,k<n+rows.length→k∉S.basic→S.val k=jC n rows k
theorem qg {S:TS}{i:Nat}(h:i<S.basic.length):S.bs i=S.basic[i]:=kN h
theorem xP {S:TS}{i:Nat}(h:i<S.basic.length):S.bs i∈S.basic:=by rw [qg h];exact List.getElem_mem h
theorem Pj {S:TS}{b:Nat}(h:b∈S.basic):∃i,i<S.basic.length∧S.bs i=b:=by
 obtain⟨i,hi,rfl⟩:=List.getElem_of_mem h;exact⟨i,hi,qg hi⟩
theorem TS.wf.lt {S:TS}(h:S.wf){i:Nat}(hi:i<S.rows.length):S.bs i<S.n+S.rows.length:=h.bb _ (xP (by rw [h.bl];exact hi))
theorem TS.wf.inj {S:TS}(h:S.wf){i j:Nat}(hi:i<S.rows.length)(hj:j<S.rows.length)(e:S.bs i=S.bs j):i=j:=by
 have hi':i<S.basic.length:=by rw [h.bl];exact hi
 have hj':j<S.basic.length:=by rw [h.bl];exact hj
 rw [qg hi',qg hj']at e;exact(List.getElem_inj h.nd).1 e
theorem Ep {n:Nat}{rows:List Rw}{i:Nat}(hi:i<rows.length):(TS.start n rows).bs i=n+i:=by
 show((List.range rows.length).map fun i=>n+i).getD i 0=n+i;rw [dV,eD (by simpa using hi)];simp
theorem Er {n:Nat}{rows:List Rw}{i k:Nat}(hi:i<rows.length)(hk:k<n+rows.length):(TS.start n rows).cell i k=(lQ rows i k:Rat):=by
 show((rows.map fun r=>(List.range (n+rows.length)).map fun k=>((r.of.getD k 0:Int):Rat)).getD i []).getD k 0=_;have e:(rows.map fun r=>(List.range (n+rows.length)).map fun k=>((r.of.getD k 0:Int):Rat)).getD i []=(List.range (n+rows.length)).map fun k=>((rows[i].of.getD k 0:Int):Rat):=by
  rw [dV,eD (by simpa using hi)];simp
 rw [e,dV,eD (by simpa using hk)];unfold lQ;have e2:rows.getD i bZ=rows[i]:=by rw [dV,eD hi];rfl
 rw [e2];simp
theorem Mq {n:Nat}{rows:List Rw}(hr:∀r∈rows,iA r n){i j:Nat}(hi:i<rows.length)(hj:n≤j):lQ rows i j=0:=by
 unfold lQ;have e2:rows.getD i bZ=rows[i]:=by rw [dV,eD hi];rfl
 rw [e2];have h:=(hr _ (List.getElem_mem hi)).len;rw [dV,List.getElem?_eq_none om];rfl
theorem Mr {n:Nat}{rows:List Rw}(hr:∀r∈rows,iA r n){i j:Nat}(hi:i<rows.length):fO (lQ rows i j):=by
 unfold lQ;have e2:rows.getD i bZ=rows[i]:=by rw [dV,eD hi];rfl
 rw [e2];by_cases hj:j<rows[i].of.length
 ·rw [dV,eD hj];exact(hr _ (List.getElem_mem hi)).fit _ (List.getElem_mem hj)
 rw [dV,List.getElem?_eq_none om];show fO 0;unfold fO;omega
theorem rC {n:Nat}{rows:List Rw}(k:Nat):(TS.start n rows).val k=pr0:=by
 show(List.replicate (n+rows.length) pr0).getD k pr0=pr0;rw [dV,List.getElem?_replicate];split<;>rfl
theorem zM {n:Nat}{rows:List Rw}(hn:n≤12)(h40:rows.length≤64)(hr:∀r∈rows,iA r n):Inv n rows (TS.start n rows)where
 wf:=Xh hn h40 hr
 hn:=rfl
 hr:=rfl
 sat:=by
  intro x;have e:∀i,i<rows.length→(sQ (n+rows.length) fun k=>(TS.start n rows).cell i k*x k)=sQ n fun j=>(lQ rows i j:Rat)*x j:=by
   intro i hi;rw [eG (n+rows.length) fun k hk=>by rw [Er hi hk]];refine QO rows.length fun j hj _=> ?_;rw [Mq hr hi hj];show((0:Int):Rat)*x j=0;rw [show((0:Int):Rat)=0 from rfl,Rat.zero_mul]
  constructor
  ·intro h i hi;have:=h i hi;rw [Ep hi,e i hi]at this;exact this
  intro h i hi;rw [Ep hi,e i hi];exact h i hi
 zc:=by
  intro i j hi hj;rw [Ep hj,Er hi om,Mq hr hi om];rfl
 vn:=by
  intro i hi;show((TS.start n rows).val _).n=_;rw [rC];refine(jR _ fun k _=> ?_).symm;show _*((TS.start n rows).val k).n=0;rw [rC];show _*(0:Rat)=0;rw [Rat.mul_zero]
 vs:=by
  intro i hi;show((TS.start n rows).val _).s=_;rw [rC];refine(jR _ fun k _=> ?_).symm;show _*((TS.start n rows).val k).s=0;rw [rC];show _*(0:Rat)=0;rw [Rat.mul_zero]
 up:=by
  intro k hk hb;rw [rC];have:k<n:=by
   refine Classical.byContradiction fun h=>hb ?_;exact List.mem_map.2 ⟨k-n,List.mem_range.2 om,om⟩
  unfold jC;rw [if_pos this]
theorem OJ {l:List Nat}(h:l.Nodup){i:Nat}(hi:i<l.length):l.idxOf l[i]=i:=(List.getElem_inj h).1 (List.getElem_idxOf (List.idxOf_lt_length_of_mem (List.getElem_mem hi)))
theorem Yf {z:Int}:z.sign<0↔z<0:=by
 rcases Int.lt_trichotomy z 0 with h | h | h
 ·rw [Int.sign_eq_neg_one_of_neg h];omega
 ·subst h;simp
 rw [Int.sign_eq_one_of_pos h];omega
theorem Yg {z:Int}:0<z.sign↔0<z:=by
 rcases Int.lt_trichotomy z 0 with h | h | h
 ·rw [Int.sign_eq_neg_one_of_neg h];omega
 ·subst h;simp
 rw [Int.sign_eq_one_of_pos h];omega
theorem gM {α:Type}{l:List α}{i j:Nat}{a d:α}(hi:i<l.length):(l.set i a).getD j d=if i=j then a else l.getD j d:=by
 rw [dV,List.getElem?_set];split
 ·rename_i e;subst e;first | rfl | (rw [if_pos hi];rfl)
 rw [← dV]
theorem BK {S:TS}(h:S.wf){v:Nat}{d:Pr}(hv:v<S.n+S.rows.length)(hvb:v∉S.basic):∀k,k≤S.basic.length→∀p,
  (S.mvK v d k).getD p pr0=if p=v then(S.val v).add d else if ∃i,i<k∧S.bs i=p then(S.val p).add (d.mul (S.cell (S.basic.idxOf p) v))else S.val p
 | 0,_,p=>by
  unfold TS.mvK;rw [gM (by rw [h.vl];exact hv)];by_cases e:v=p
  ·rw [if_pos e,if_pos e.symm]
  rw [if_neg e,if_neg (Ne.symm e),if_neg (by rintro⟨i,hi,_⟩;omega)];rfl
 | k+1,hk,p=>by
  have ih:=BK h (d:=d) hv hvb k om;have hkl:k<S.basic.length:=om;have hbk:S.basic.getD k 0=S.bs k:=rfl;have hlt:S.bs k<S.n+S.rows.length:=h.bb _ (xP hkl);have hne:S.bs k≠v:=fun e=>hvb (e ▸ xP hkl);unfold TS.mvK;rw [hbk,gM (by rw [yQ,h.vl];exact hlt),ih (S.bs k),ih p];by_cases e:S.bs k=p
  ·subst e;rw [if_pos rfl,if_neg hne,if_neg hne,if_neg,if_pos ⟨k,om,rfl⟩]
   ·congr 2;rw [qg hkl,OJ h.nd]
   rintro⟨i,hi,e⟩;rw [qg hkl,qg om]at e;have:=(List.getElem_inj h.nd).1 e;omega
  rw [if_neg e];by_cases ev:p=v
  ·rw [if_pos ev,if_pos ev]
  rw [if_neg ev,if_neg ev];by_cases hx:∃i,i<k∧S.bs i=p
  ·rw [if_pos hx,if_pos (by obtain⟨i,hi,e⟩:=hx;exact⟨i,om,e⟩)]
  rw [if_neg hx,if_neg];rintro⟨i,hi,e'⟩;by_cases ei:i=k
  ·subst ei;exact e e'
  exact hx ⟨i,om,e'⟩
theorem QT {S:TS}(h:S.wf){v:Nat}{d:Pr}(hv:v<S.n+S.rows.length)(hvb:v∉S.basic):(S.move v d).val v=(S.val v).add d:=by
 have:=BK h (d:=d) hv hvb S.basic.length (Nat.le_refl _) v;rw [if_pos rfl]at this;exact this
theorem Ji {S:TS}(h:S.wf){v:Nat}{d:Pr}(hv:v<S.n+S.rows.length)(hvb:v∉S.basic){i:Nat}(hi:i<S.rows.length):(S.move v d).val (S.bs i)=(S.val (S.bs i)).add (d.mul (S.cell i v)):=by
 have hil:i<S.basic.length:=by rw [h.bl];exact hi
 have:=BK h (d:=d) hv hvb S.basic.length (Nat.le_refl _) (S.bs i);rw [if_neg (fun e:S.bs i=v=>hvb (e ▸ xP hil)),if_pos ⟨i,hil,rfl⟩,qg hil,OJ h.nd,←qg hil]at this;exact this
theorem Ms {S:TS}(h:S.wf){v:Nat}{d:Pr}(hv:v<S.n+S.rows.length)(hvb:v∉S.basic){p:Nat}(hp:p≠v)(hpb:p∉S.basic):(S.move v d).val p=S.val p:=by
 have:=BK h (d:=d) hv hvb S.basic.length (Nat.le_refl _) p;rw [if_neg hp,if_neg (by rintro⟨i,hi,rfl⟩;exact hpb (xP hi))]at this;exact this
theorem Jj {S:TS}{i v:Nat}{j:Nat}(hj:j<S.cells.length)(hji:j≠i):∀k,k≤S.cells.length→j<k→(S.pivC i v k).getD j []=yT (S.cells.getD j []) v (S.pivRow i v)
 | 0,_,h=>absurd h om
 | k+1,hk,h=>by
  unfold TS.pivC;by_cases e:j=k
  ·subst e;rw [if_neg hji,gM (by rw [eY];exact hj),if_pos rfl]
  split
  ·exact Jj hj hji k om om
  rw [gM (by rw [eY];omega),if_neg om];exact Jj hj hji k om om
theorem zcs {S:TS}(h:S.wf){i v:Nat}(hi:i<S.rows.length)(hv:v<S.n+S.rows.length)(hvb:v∉S.basic)(ha:S.cell i v≠0):
  Piv (S.n+S.rows.length) S.rows.length S.cell (S.pivot i v).cell S.bs (S.pivot i v).bs i v:=by
 have hic:i<S.cells.length:=by rw [h.cl];exact hi
 have hib:i<S.basic.length:=by rw [h.bl];exact hi
 have hbl:S.bs i<S.n+S.rows.length:=h.lt hi;have hrl:(S.cells.getD i []).length=S.n+S.rows.length:=by
  rw [dV,eD hic];exact h.cr _ (List.getElem_mem hic)
 have hci:∀k,k<S.n+S.rows.length→(S.pivot i v).cell i k=if k=S.bs i then 1/S.cell i v else if k=v then 0 else -(S.cell i k/S.cell i v):=by
  intro k hk;have e:(S.pivot i v).cells.getD i []=S.pivRow i v:=by
   show((S.pivC i v S.cells.length).set i (S.pivRow i v)).getD i []=_;rw [gM (by rw [eY];exact hic),if_pos rfl]
  show((S.pivot i v).cells.getD i []).getD k 0=_;rw [e];unfold TS.pivRow;have hbe:S.basic.getD i 0=S.bs i:=rfl;rw [hbe,gM (by rw [List.length_set,qW,hrl];exact hbl),gM (by rw [qW,hrl];exact hv)];by_cases e1:k=S.bs i
  ·rw [if_pos e1.symm,if_pos e1]
  rw [if_neg (Ne.symm e1),if_neg e1];by_cases e2:k=v
  ·rw [if_pos e2.symm,if_pos e2]
  rw [if_neg (Ne.symm e2),if_neg e2];unfold qV;rw [dV,eD (by simp only [List.length_map,List.length_range];omega)];simp only [List.getElem_map,List.getElem_range,Option.getD_some];rw [if_pos om];rfl
 refine⟨hi,hv,ha,fun j hj=>h.lt hj,fun j hj e=>hvb (e ▸ xP (by rw [h.bl];exact hj)),fun j hj hne e=>hne (h.inj hj hi e),hci,?_,?_,?_⟩
 ·intro j hj hji k hk;have hjc:j<S.cells.length:=by rw [h.cl];exact hj
  have e:(S.pivot i v).cells.getD j []=yT (S.cells.getD j []) v (S.pivRow i v):=by
   show((S.pivC i v S.cells.length).set i (S.pivRow i v)).getD j []=_;rw [gM (by rw [eY];exact hic),if_neg (Ne.symm hji)];exact Jj hjc hji _ (Nat.le_refl _) hjc
  have er:(S.pivRow i v).getD k 0=(S.pivot i v).cell i k:=by
   show _=((S.pivot i v).cells.getD i []).getD k 0;have e:(S.pivot i v).cells.getD i []=S.pivRow i v:=by
    show((S.pivC i v S.cells.length).set i (S.pivRow i v)).getD i []=_;rw [gM (by rw [eY];exact hic),if_pos rfl]
   rw [e]
  have hjl:(S.cells.getD j []).length=S.n+S.rows.length:=by
   rw [dV,eD hjc];exact h.cr _ (List.getElem_mem hjc)
  show((S.pivot i v).cells.getD j []).getD k 0=_;rw [e,←er];unfold yT;rw [dV,eD (by simp only [List.length_map,List.length_range];omega)];simp only [List.getElem_map,List.getElem_range,Option.getD_some];rfl
 ·show (S.basic.set i v).getD i 0=v;rw [gM hib,if_pos rfl]
 intro j hj hji;show(S.basic.set i v).getD j 0=S.basic.getD j 0;rw [gM hib,if_neg (Ne.symm hji)]
theorem zu {a b:Rat}:qP a b<0↔a<b:=by
 unfold qP;rw [Yf,Rat.lt_iff];omega
theorem Jk {a b:Rat}:0<qP a b↔b<a:=by
 unfold qP;rw [Yg,Rat.lt_iff];omega
theorem QU {a b:Rat}:qP a b=0↔a=b:=by
 have h1:=zu (a:=a) (b:=b);have h2:=Jk (a:=a) (b:=b);constructor
 ·intro h;have:¬a<b:=fun x=>by have:=h1.2 x;omega
  have:¬b<a:=fun x=>by have:=h2.2 x;omega
  grind
 rintro rfl;have:¬qP a a<0:=fun x=>by have:=h1.1 x;grind
 have:¬0<qP a a:=fun x=>by have:=h2.1 x;grind
 omega
theorem Es {a b:Pr}:a.cmp b<0↔a.n<b.n∨a.n=b.n∧a.s<b.s:=by
 unfold Pr.cmp;have h1:=zu (a:=a.n) (b:=b.n);have h2:=QU (a:=a.n) (b:=b.n);have h3:=zu (a:=a.s) (b:=b.s);split
 ·rename_i h;rw [h1];constructor
  ·exact fun h=> .inl h
  rintro(h' | ⟨h',_⟩)
  ·exact h'
  exact absurd (h2.2 h') h
 rename_i h;have h:qP a.n b.n=0:=om;have h':=h2.1 h;rw [h3];constructor
 ·exact fun hs=> .inr ⟨h',hs⟩
 rintro(hs | ⟨_,hs⟩)
 ·grind
 exact hs
theorem Et {a b:Pr}:0<a.cmp b↔b.n<a.n∨a.n=b.n∧b.s<a.s:=by
 unfold Pr.cmp;have h1:=Jk (a:=a.n) (b:=b.n);have h2:=QU (a:=a.n) (b:=b.n);have h3:=Jk (a:=a.s) (b:=b.s);split
 ·rename_i h;rw [h1];constructor
  ·exact fun h=> .inl h
  rintro(h' | ⟨h',_⟩)
  ·exact h'
  exact absurd (h2.2 h') h
 rename_i h;have h:qP a.n b.n=0:=om;have h':=h2.1 h;rw [h3];constructor
 ·exact fun hs=> .inr ⟨h',hs⟩
 rintro(hs | ⟨_,hs⟩)
 ·grind
 exact hs
theorem Yh {k:Nat}{x:Int}(hk:0<k)(h:x.natAbs<4294967296^k):NB k (x:Rat):=⟨by rw [Rat.num_intCast];exact jY h,by
 rw [Rat.den_intCast];refine jY (bJ (show((1:Nat):Int).natAbs<4294967296^1 from dc) (Nat.pow_le_pow_right dc hk))⟩
def TS.lowB (S:TS)(b:Nat):Prop:=hasLo S.n S.rows b=true∧(S.val b).cmp (Fa S.n S.rows b)<0
def TS.upB (S:TS)(b:Nat):Prop:=jd S.n b=true∧0<(S.val b).cmp (jC S.n S.rows b)
def TS.brkQ (S:TS)(l:List Nat)(st:Int × Int):Prop:=
 (st=(-1,0)∧∀b∈l,¬S.lowB b∧¬S.upB b)∨
 ∃b∈l,((st=((b:Int),1)∧S.lowB b)∨(st=((b:Int),-1)∧¬S.lowB b∧S.upB b))∧∀b'∈l,S.lowB b'∨S.upB b'→b≤b'
theorem Ua {S:TS}{l:List Nat}{st:Int × Int}(h:S.brkQ l st)(c:Nat):S.brkQ (l++ [c]) (S.brkStep st c):=by
 unfold TS.brkStep;by_cases h1:0≤st.1∧st.1<(c:Int)
 ·rw [if_pos h1];rcases h with⟨rfl,_⟩ | ⟨b,hb,hs,hm⟩
  ·exact absurd h1.1 dc
  refine .inr ⟨b,List.mem_append_left _ hb,hs,fun b' hb' hx=> ?_⟩;rcases List.mem_append.1 hb' with h' | h'
  ·exact hm b' h' hx
  rw [List.mem_singleton.1 h'];rcases hs with⟨rfl,_⟩ | ⟨rfl,_⟩<;>(have:=h1.2;simp only at this;omega)
 rw [if_neg h1];by_cases h2:hasLo S.n S.rows c=true∧(S.val c).cmp (Fa S.n S.rows c)<0
 ·rw [if_pos h2];refine .inr ⟨c,sm,.inl ⟨rfl,h2⟩,fun b' hb' hx=> ?_⟩;rcases List.mem_append.1 hb' with h' | h'
  ·rcases h with⟨rfl,hn⟩ | ⟨b,hb,hs,hm⟩
   ·exact absurd hx (by have:=hn b' h';rintro(h | h);exact this.1 h;exact this.2 h)
   have:=hm b' h' hx;rcases hs with⟨rfl,_⟩ | ⟨rfl,_⟩<;>(simp only at h1;omega)
  rw [List.mem_singleton.1 h'];exact Nat.le_refl _
 rw [if_neg h2];by_cases h3:jd S.n c=true∧0<(S.val c).cmp (jC S.n S.rows c)
 ·rw [if_pos h3];refine .inr ⟨c,sm,.inr ⟨rfl,h2,h3⟩,fun b' hb' hx=> ?_⟩;rcases List.mem_append.1 hb' with h' | h'
  ·rcases h with⟨rfl,hn⟩ | ⟨b,hb,hs,hm⟩
   ·exact absurd hx (by have:=hn b' h';rintro(h | h);exact this.1 h;exact this.2 h)
   have:=hm b' h' hx;rcases hs with⟨rfl,_⟩ | ⟨rfl,_⟩<;>(simp only at h1;omega)
  rw [List.mem_singleton.1 h'];exact Nat.le_refl _
 rw [if_neg h3];rcases h with⟨rfl,hn⟩ | ⟨b,hb,hs,hm⟩
 ·refine .inl ⟨rfl,fun b hb=> ?_⟩;rcases List.mem_append.1 hb with h' | h'
  ·exact hn b h'
  rw [List.mem_singleton.1 h'];exact⟨h2,h3⟩
 refine .inr ⟨b,List.mem_append_left _ hb,hs,fun b' hb' hx=> ?_⟩;rcases List.mem_append.1 hb' with h' | h'
 ·exact hm b' h' hx
 rw [List.mem_singleton.1 h']at hx;rcases hx with h | h
 ·exact absurd h h2
 exact absurd h h3
theorem Gw {S:TS}:∀(l pre:List Nat) (st:Int × Int),S.brkQ pre st→S.brkQ (pre++l) (l.foldl S.brkStep st)
 | [],pre,st,h=>by rw [List.append_nil];exact h
 | c::l,pre,st,h=>by
  have:=Gw l (pre++ [c]) _ (Ua h c);rw [List.append_assoc]at this;exact this
theorem Mt (S:TS):S.brkQ S.basic S.broken:=by
 have:=Gw (S:=S) S.basic [] (-1,0) (.inl ⟨rfl,fun b hb=>absurd hb sm⟩);exact this
structure QV (S:TS)(b:Nat)(way:Int):Prop where
 mem:b∈S.basic
 eq:S.broken=((b:Int),way)
 out:way=1∧S.lowB b∨way= -1∧¬S.lowB b∧S.upB b
 least:∀b'∈S.basic,S.lowB b'∨S.upB b'→b≤b'
theorem vT (S:TS):(S.broken.1<0∧∀b∈S.basic,¬S.lowB b∧¬S.upB b)∨∃b way,QV S b way:=by
 rcases Mt S with⟨h,h'⟩ | ⟨b,hb,hs,hm⟩
 ·exact .inl ⟨by rw [h];decide,h'⟩
 rcases hs with⟨h1,h2⟩ | ⟨h1,h2⟩
 ·exact .inr ⟨b,1,hb,h1,.inl ⟨rfl,h2⟩,hm⟩
 exact .inr ⟨b,-1,hb,h1,.inr ⟨rfl,h2⟩,hm⟩
theorem QV.nonneg {S:TS}{b:Nat}{way:Int}(h:QV S b way):¬S.broken.1<0:=by rw [h.eq];simp only;omega
theorem QV.way {S:TS}{b:Nat}{way:Int}(h:QV S b way):way=1∨way= -1:=by
 rcases h.out with⟨h,_⟩ | ⟨h,_⟩
 ·exact .inl h
 exact .inr h
theorem QV.n_le {S:TS}{b:Nat}{way:Int}(h:QV S b way):S.n≤b:=by
 rcases h.out with⟨_,h⟩ | ⟨_,_,h⟩
 ·have:=h.1;unfold hasLo at this;exact(of_decide_eq_true this).1
 have:=h.1;unfold jd at this;exact of_decide_eq_true this
theorem qK {S:TS}{b:Nat}(h:b∈S.basic):S.lineOf (b:Int)<S.basic.length∧S.bs (S.lineOf (b:Int))=b:=by
 have hlt:S.lineOf (b:Int)<S.basic.length:=by
  unfold TS.lineOf;exact List.findIdx_lt_length_of_exists ⟨b,h,sm⟩
 refine⟨hlt,?_⟩;rw [qg hlt];have h1:=List.findIdx_getElem (p:=fun(x:Nat)=>decide ((x:Int)=(b:Int))) (xs:=S.basic) (w:=hlt);have h2:((S.basic[S.lineOf (b:Int)]:Nat):Int)=(b:Int):=of_decide_eq_true h1;omega
def TS.okE (S:TS)(i:Nat)(way:Int)(v:Nat):Prop:=S.cell i v≠0∧S.canB v (way*(S.cell i v).num.sign)=true
theorem Eu {S:TS}{i e:Nat}{way:Int}(h:S.enter i way=some e):e<S.n+S.rows.length∧S.okE i way e∧∀v,v<e→¬S.okE i way v:=by
 unfold TS.enter at h;rw [List.find?_range_eq_some]at h;simp only [Bool.and_eq_true,decide_eq_true_eq]at h;obtain⟨h1,h2,h3⟩:=h;refine⟨List.mem_range.1 h2,h1,fun v hv hx=> ?_⟩;have:=h3 v hv;simp only [Bool.not_eq_true',Bool.and_eq_false_iff,decide_eq_false_iff_not]at this;rcases this with h | h
 ·exact h hx.1
 rw [hx.2]at h;exact absurd h dc
theorem Ev {S:TS}{i:Nat}{way:Int}(h:S.enter i way=none){v:Nat}(hv:v<S.n+S.rows.length):¬S.okE i way v:=by
 unfold TS.enter at h;rw [List.find?_eq_none]at h;intro hx;exact h v (List.mem_range.2 hv) (by simp only [Bool.and_eq_true,decide_eq_true_eq];exact hx)
theorem uY {n v:Nat}{rows:List Rw}(h:hasLo n rows v=true):Fa n rows v=jC n rows v:=by
 unfold hasLo at h;have h:=of_decide_eq_true h;unfold Fa jC;rw [if_neg (by rintro(h' | h')<;>omega),if_neg om,if_neg om]
theorem QV.to_up {S:TS}{b:Nat}{way:Int}(h:QV S b way):(if 0<way then Fa S.n S.rows b else jC S.n S.rows b)=jC S.n S.rows b:=by
 rcases h.out with⟨e,h⟩ | ⟨e,_⟩
 ·rw [if_pos om,uY h.1]
 rw [if_neg om]
theorem Inv.not_basic {n:Nat}{rows:List Rw}{S:TS}(h:Inv n rows S){i v:Nat}(hi:i<rows.length)(hv:S.cell i v≠0):v∉S.basic:=by
 intro hm;obtain⟨j,hj,rfl⟩:=Pj hm;have e:=h.hr;have hbl:=h.wf.bl;rw [h.hr]at hbl;exact hv (h.zc i j hi om)
theorem zaV {l:List Nat}{i v k:Nat}(hi:i<l.length)(h:k∉l.set i v):k≠v∧∀j (hj:j<l.length),j≠i→l[j]≠k:=by
 constructor
 ·rintro rfl;exact h (List.mem_set hi k)
 rintro j hj hne rfl;refine h ?_;have e:(l.set i v)[j]'(by simpa using hj)=l[j]:=by rw [List.getElem_set,if_neg (Ne.symm hne)]
 rw [← e];exact List.getElem_mem _
theorem Eo {n:Nat}{rows:List Rw}{S:TS}(h:Inv n rows S){b e:Nat}{way:Int}(hb:QV S b way)(he:S.enter (S.lineOf b) way=some e):Inv n rows (S.next b way e):=by
 obtain⟨hi,hib⟩:=qK hb.mem;have hw:=h.wf;have hn:=h.hn;have hr:=h.hr;rw [hw.bl]at hi;obtain⟨i,hii⟩:∃i,i=S.lineOf (b:Int):=⟨_,rfl⟩;rw [← hii]at hi hib he;obtain⟨hek,⟨hc,_⟩,_⟩:=Eu he;have Ub:e∉S.basic:=h.not_basic (i:=i) (by rw [← hr];exact hi) hc;obtain⟨d,hd⟩:∃d,d=S.by b i e way:=⟨_,rfl⟩
 have hnx:S.next b way e=(S.move e d).pivot i e:=by
  unfold TS.next;rw [← hii,←hd]
 rw [hnx];have hw1:=za9 hw e d;have hp:=zcs (S:=S.move e d) hw1 hi hek Ub hc;have hcell:(S.move e d).cell=S.cell:=rfl;have hbs:(S.move e d).bs=S.bs:=rfl;have hK:(S.move e d).n+(S.move e d).rows.length=n+rows.length:=by show S.n+S.rows.length=_;rw [hn,hr]
 have hm:(S.move e d).rows.length=rows.length:=by show S.rows.length=_;rw [hr]
 rw [hK,hm,hcell,hbs]at hp;have hil:i<S.basic.length:=by rw [hw.bl];exact hi
 have zct:∀x,Sat (n+rows.length) rows.length ((S.move e d).pivot i e).cell ((S.move e d).pivot i e).bs x↔Sat (n+rows.length) rows.length S.cell S.bs x:=fun x=>hp.sat h.zc x;have zd7:∀j,j<rows.length→S.bs j<n+rows.length:=fun j hj=>by have:=hw.lt (i:=j) (by rw [hr];exact hj);rw [hn,hr]at this;exact this
 have zd8:∀j,j<rows.length→S.bs j≠e:=fun j hj hx=>Ub (hx ▸ xP (by rw [hw.bl,hr];exact hj));have zd9:e<n+rows.length:=by rw [hn,hr]at hek;exact hek
 have hnot:∀k,k<n+rows.length→k≠e→(∀j,j<rows.length→S.bs j≠k)→(S.move e d).val k=S.val k:=by
  intro k _ hk hkb;refine Ms hw hek Ub hk fun hm=> ?_;obtain⟨j,hj,hjk⟩:=Pj hm;exact hkb j (by rw [← hr,←hw.bl];exact hj) hjk
 refine⟨Xi hw1 hi hek Ub,hn,hr,fun x=>(zct x).trans (h.sat x),hp.zc h.zc,?_,?_,?_⟩
 ·refine (zct _).2 (Mv h.zc (x:=fun k=>(S.val k).n) (v:=e) (d:=d.n) zd9 h.vn zd7 zd8 ?_ ?_ ?_)
  ·show ((S.move e d).val e).n=_;rw [QT hw hek Ub];rfl
  ·intro j hj;show((S.move e d).val (S.bs j)).n=_;rw [Ji hw hek Ub (by rw [hr];exact hj)];rfl
  intro k hk hke hkb;show((S.move e d).val k).n=_;rw [hnot k hk hke hkb]
 ·refine (zct _).2 (Mv h.zc (x:=fun k=>(S.val k).s) (v:=e) (d:=d.s) zd9 h.vs zd7 zd8 ?_ ?_ ?_)
  ·show ((S.move e d).val e).s=_;rw [QT hw hek Ub];rfl
  ·intro j hj;show((S.move e d).val (S.bs j)).s=_;rw [Ji hw hek Ub (by rw [hr];exact hj)];rfl
  intro k hk hke hkb;show((S.move e d).val k).s=_;rw [hnot k hk hke hkb]
 intro k hk hkb;have hkb:k∉S.basic.set i e:=hkb;obtain⟨hke,hkj⟩:=zaV hil hkb;show(S.move e d).val k=_;by_cases hm:k∈S.basic
 ·obtain ⟨j,hj,rfl⟩:=List.getElem_of_mem hm;have hji:j=i:=Classical.byContradiction fun hne=>hkj j hj hne rfl;subst hji;rw [← qg hj,Ji hw hek Ub hi,hd];unfold TS.by
  rw [hib,hb.to_up,hn,hr];generalize jC n rows b=u;generalize S.val b=x;obtain⟨u1,u2⟩:=u;obtain⟨x1,x2⟩:=x;unfold Pr.add Pr.mul Pr.sub;simp only [Pr.mk.injEq];constructor<;>grind
 rw [Ms hw hek Ub hke hm];exact h.up k hk hm
theorem vV {f:Nat}{S:TS}{b:Nat}{way:Int}(hb:QV S b way):TS.feas (f+1) S=match S.enter (S.lineOf b) way with
  | none=> .no (S.refK (S.lineOf b) way (S.n+S.rows.length))
  | some e=>TS.feas f (S.next b way e):=by
 rw [TS.feas,if_neg hb.nonneg,hb.eq];simp only [Int.toNat_natCast];cases S.enter (S.lineOf (b:Int)) way<;>rfl
theorem Cu {n:Nat}{rows:List Rw}:∀(f:Nat) (S T:TS),Inv n rows S→TS.feas f S= .yes T→Inv n rows T∧∀b∈T.basic,¬T.lowB b∧¬T.upB b
 | 0,S,T,h,hf=>by
  unfold TS.feas at hf;split at hf
  ·cases hf;rename_i hb;rcases vT S with⟨_,h'⟩ | ⟨b,way,hb'⟩
   ·exact ⟨h,h'⟩
   exact absurd hb hb'.nonneg
  cases hf
 | f+1,S,T,h,hf=>by
  rcases vT S with⟨hb,h'⟩ | ⟨b,way,hb'⟩
  ·unfold TS.feas at hf;rw [if_pos hb]at hf;cases hf;exact⟨h,h'⟩
  rw [vV hb']at hf;split at hf
  ·cases hf
  rename_i e he;exact Cu f _ T (Eo h hb' he) hf
theorem Hu {n:Nat}{rows:List Rw}:∀(f:Nat) (S:TS) (l:List Rat),Inv n rows S→TS.feas f S= .no l→∃T b way,Inv n rows T∧QV T b way∧T.enter (T.lineOf b) way=none∧l=T.refK (T.lineOf b) way (T.n+T.rows.length)
 | 0,S,l,h,hf=>by
  unfold TS.feas at hf;split at hf<;>cases hf
 | f+1,S,l,h,hf=>by
  rcases vT S with⟨hb,h'⟩ | ⟨b,way,hb'⟩
  ·unfold TS.feas at hf;rw [if_pos hb]at hf;cases hf
  rw [vV hb']at hf;split at hf
  ·rename_i he;cases hf;exact⟨S,b,way,h,hb',he,rfl⟩
  rename_i e he;exact Hu f _ l (Eo h hb' he) hf
theorem Yi {k:Nat}{q:Rat}{B:Nat}(hk:0<k)(h:QB B q)(hB:B<4294967296^k):NB (k+k) q:=by
 obtain⟨a,b,h1,h2,h3,h4⟩:=h;have hb:(b:Rat)≠0:=by exact_mod_cast h1
 have e:q=(a:Rat)/(b:Rat):=by grind
 rw [e];exact NB.div (Yh hk (Nat.lt_of_le_of_lt h3 hB)) (Yh hk (Nat.lt_of_le_of_lt h4 hB)) hb
theorem Uc {n:Nat}(hn:n≤12):(n+1)*(1000000*((n+1)*1000000)^n)<4294967296^12:=by
 have h1:(n+1)*(1000000*((n+1)*1000000)^n)≤13*(1000000*(13*1000000)^12):=by
  refine Nat.mul_le_mul om (Nat.mul_le_mul (Nat.le_refl _) ?_);exact Nat.le_trans (Nat.pow_le_pow_left (Nat.mul_le_mul om (Nat.le_refl _)) _) (Nat.pow_le_pow_right dc hn)
 exact Nat.lt_of_le_of_lt h1 dc
theorem Inv.rows_ok {n:Nat}{rows:List Rw}{S:TS}(h:Inv n rows S):∀r∈rows,iA r n:=by
 have:=h.wf.rok;rw [h.hr,h.hn]at this;exact this
theorem Inv.cellQ {n:Nat}{rows:List Rw}{S:TS}(h:Inv n rows S){i v:Nat}(hi:i<rows.length)(hv:v<n+rows.length):QB ((n+1)*(1000000*((n+1)*1000000)^n)) (S.cell i v):=by
 refine Pk (A:=lQ rows) dc (fun i j hi _=> ?_) (fun x hx=>(h.sat x).2 hx) h.zc (fun j hj=> ?_) (fun i j hi hj e=> ?_) hi hv
 ·have:=Mr h.rows_ok (j:=j) hi;unfold fO at this;omega
 ·have:=h.wf.lt (i:=j) (by rw [h.hr];exact hj);rw [h.hn,h.hr]at this;exact this
 exact h.wf.inj (by rw [h.hr];exact hi) (by rw [h.hr];exact hj) e
theorem Inv.valQ {n:Nat}{rows:List Rw}{S:TS}(h:Inv n rows S){v:Nat}(hv:v<n+rows.length):QB ((n+1)*(1000000*((n+1)*1000000)^n)) (S.val v).n∧QB ((n+1)*(1000000*((n+1)*1000000)^n)) (S.val v).s:=by
 have hA:∀i j,i<rows.length→j<n→(lQ rows i j).natAbs≤1000000:=by
  intro i j hi _;have:=Mr h.rows_ok (j:=j) hi;unfold fO at this;omega
 have hlt:∀j,j<rows.length→S.bs j<n+rows.length:=by
  intro j hj;have:=h.wf.lt (i:=j) (by rw [h.hr];exact hj);rw [h.hn,h.hr]at this;exact this
 have hinj:∀i j,i<rows.length→j<rows.length→S.bs i=S.bs j→i=j:=fun i j hi hj e=>h.wf.inj (by rw [h.hr];exact hi) (by rw [h.hr];exact hj) e;have hup:∀k,k<n+rows.length→(∀j,j<rows.length→S.bs j≠k)→S.val k=jC n rows k:=by
  intro k hk hkb;refine h.up k hk fun hm=> ?_;obtain⟨j,hj,hjk⟩:=Pj hm;exact hkb j (by rw [← h.hr,←h.wf.bl];exact hj) hjk
 constructor
 ·refine Bb (A:=lQ rows) (M:=1000000) dc hA (fun x hx=>(h.sat x).2 hx) h.zc hlt hinj h.vn (fun k=>if k<n then 0 else(rows.getD (k-n) bZ).to) (fun k hk hkb=> ?_) hv;rw [hup k hk hkb];unfold jC;split
  ·exact ⟨rfl,sm⟩
  refine⟨rfl,?_⟩;have e2:rows.getD (k-n) bZ=rows[k-n]:=by rw [dV,eD om];rfl
  rw [e2];have:=(h.rows_ok _ (List.getElem_mem (show k-n<rows.length from om))).fto;unfold fO at this;omega
 refine Bb (A:=lQ rows) (M:=1000000) dc hA (fun x hx=>(h.sat x).2 hx) h.zc hlt hinj h.vs (fun k=>if k<n then 0 else if(rows.getD (k-n) bZ).kind=2 then -1 else 0) (fun k hk hkb=> ?_) hv;rw [hup k hk hkb];unfold jC;split
 ·exact ⟨rfl,sm⟩
 split
 ·exact ⟨rfl,sm⟩
 exact⟨rfl,sm⟩
theorem Inv.nb {n:Nat}{rows:List Rw}{S:TS}(h:Inv n rows S):S.nb 100:=by
 have hn:n≤12:=by have:=h.wf.n12;rw [h.hn]at this;exact this
 have hB:=Uc hn;refine⟨fun p hp=> ?_,fun l hl q hq=> ?_⟩
 ·obtain ⟨v,hv,rfl⟩:=List.getElem_of_mem hp;have e:S.val v=S.vals[v]:=by unfold TS.val;rw [dV,eD hv];rfl
  rw [← e];have hv':v<n+rows.length:=by rw [h.wf.vl,h.hn,h.hr]at hv;exact hv
  have:=h.valQ hv';exact⟨(Yi dc this.1 hB).mono om,(Yi dc this.2 hB).mono om⟩
 obtain⟨i,hi,rfl⟩:=List.getElem_of_mem hl;obtain⟨v,hv,rfl⟩:=List.getElem_of_mem hq;rw [← pR hi hv];have hv':v<n+rows.length:=by rw [h.wf.cr _ (List.getElem_mem hi),h.hn,h.hr]at hv;exact hv
 exact(Yi dc (h.cellQ (by rw [h.wf.cl,h.hr]at hi;exact hi) hv') hB).mono om
theorem Mw {f:Nat→Rat}{n:Nat}:∀m,sQ (n+m) f=sQ n f+sQ m fun p=>f (n+p)
 | 0=>by simp only [sQ,Nat.add_zero];grind
 | m+1=>by
  rw [show n+(m+1)=n+m+1 from rfl];simp only [sQ];rw [Mw m];grind
theorem zy {n:Nat}{rows:List Rw}{i:Nat}:jC n rows (n+i)=⟨((rows.getD i bZ).to:Rat),if(rows.getD i bZ).kind=2 then -1 else 0⟩:=by
 unfold jC;rw [if_neg om,show n+i-n=i from om]
theorem Gx {n i:Nat}:jd n (n+i)=true:=by unfold jd;exact decide_eq_true om
theorem Ap {n:Nat}{rows:List Rw}{i:Nat}:hasLo n rows (n+i)=true↔(rows.getD i bZ).kind=3:=by
 unfold hasLo;rw [decide_eq_true_eq,show n+i-n=i from om];exact⟨fun h=>h.2,fun h=>⟨om,h⟩⟩
theorem Inv.inside {n:Nat}{rows:List Rw}{T:TS}(h:Inv n rows T)(hb:∀b∈T.basic,¬T.lowB b∧¬T.upB b){i:Nat}(hi:i<rows.length):
  ((T.val (n+i)).n<(jC n rows (n+i)).n∨(T.val (n+i)).n=(jC n rows (n+i)).n∧(T.val (n+i)).s≤(jC n rows (n+i)).s)∧((rows.getD i bZ).kind=3→T.val (n+i)=jC n rows (n+i)):=by
 by_cases hm:n+i∈T.basic
 ·obtain ⟨h1,h2⟩:=hb _ hm;unfold TS.upB at h2;unfold TS.lowB at h1;rw [h.hn,h.hr,Et]at h2;rw [h.hn,h.hr,Es]at h1;have h3:¬((jC n rows (n+i)).n<(T.val (n+i)).n∨(T.val (n+i)).n=(jC n rows (n+i)).n∧(jC n rows (n+i)).s<(T.val (n+i)).s):=fun hx=>h2 ⟨Gx,hx⟩;constructor
  ·grind
  intro hk;have hlo:=Ap (n:=n).2 hk;have h4:¬_:=fun hx=>h1 ⟨hlo,hx⟩;rw [uY hlo]at h4;generalize jC n rows (n+i)=u at h3 h4;generalize T.val (n+i)=x at h3 h4;obtain⟨u1,u2⟩:=u;obtain⟨x1,x2⟩:=x;simp only at h3 h4;rw [Pr.mk.injEq];constructor<;>grind
 have:=h.up (n+i) om hm;rw [this];exact⟨.inr ⟨rfl,by grind⟩,fun _=>rfl⟩
theorem BL {q:Rat}:0<q.num.sign↔0<q:=by
 rw [Yg,Rat.lt_iff];simp
theorem zaW {q:Rat}:q.num.sign<0↔q<0:=by
 rw [Yf,Rat.lt_iff];simp
theorem Mx {S:TS}:∀k,0<S.smK k∧∀v,v<k→jd S.n v=true→0<S.kK v→0<S.dK v→S.smK k*S.kK v≤S.dK v
 | 0=>⟨by unfold TS.smK;grind,fun v hv=>absurd hv om⟩
 | k+1=>by
  obtain⟨h1,h2⟩:=Mx (S:=S) k;by_cases hc:jd S.n k=true∧0<(S.kK k).num.sign∧0<(S.dK k).num.sign∧qP (S.dK k/S.kK k) (S.smK k)<0
  ·have e:S.smK (k+1)=S.dK k/S.kK k:=by
    rw [TS.smK,if_pos hc]
   obtain⟨c1,c2,c3,c4⟩:=hc;rw [BL]at c2 c3;rw [zu]at c4;have h0:S.kK k≠0:=by grind
   have hq:0<S.dK k/S.kK k:=by
    rw [Rat.div_def];exact Rat.mul_pos c3 (Rat.inv_pos.2 c2)
   rw [e];refine⟨hq,fun v hv hu hk hd=> ?_⟩;by_cases ev:v=k
   ·subst ev;have:S.dK v/S.kK v*S.kK v=S.dK v:=by grind
    rw [this];grind
   have h3:=h2 v om hu hk hd;have h4:S.dK k/S.kK k*S.kK v≤S.smK k*S.kK v:=Rat.mul_le_mul_of_nonneg_right (by grind) (by grind);grind
  have e:S.smK (k+1)=S.smK k:=by rw [TS.smK,if_neg hc]
  rw [e];refine⟨h1,fun v hv hu hk hd=> ?_⟩;by_cases ev:v=k
  ·subst ev;have h5:¬qP (S.dK v/S.kK v) (S.smK v)<0:=fun hx=>hc ⟨hu,BL.2 hk,BL.2 hd,hx⟩;rw [zu]at h5;have h0:S.kK v≠0:=by grind
   have h6:S.dK v/S.kK v*S.kK v=S.dK v:=by grind
   have h7:S.smK v*S.kK v≤S.dK v/S.kK v*S.kK v:=Rat.mul_le_mul_of_nonneg_right (by grind) (by grind);grind
  exact h2 v om hu hk hd
theorem Inv.sum {n:Nat}{rows:List Rw}{T:TS}(h:Inv n rows T){i:Nat}(hi:i<rows.length):(sQ n fun j=>(lQ rows i j:Rat)*T.ptQ j)=(T.val (n+i)).n+(T.val (n+i)).s*T.smK T.vals.length:=by
 have h1:=(h.sat _).1 h.vn i hi;have h2:=(h.sat _).1 h.vs i hi;rw [h1,h2,←QW,←qG];refine eG n fun j _=> ?_;unfold TS.ptQ;grind
theorem R5 {n:Nat}{rows:List Rw}{T:TS}(h:Inv n rows T)(hb:∀b∈T.basic,¬T.lowB b∧¬T.upB b){i:Nat}(hi:i<rows.length):
  ((rows.getD i bZ).kind=1→(sQ n fun j=>(lQ rows i j:Rat)*T.ptQ j)≤((rows.getD i bZ).to:Rat))∧
  ((rows.getD i bZ).kind=2→(sQ n fun j=>(lQ rows i j:Rat)*T.ptQ j)<((rows.getD i bZ).to:Rat))∧
  ((rows.getD i bZ).kind=3→(sQ n fun j=>(lQ rows i j:Rat)*T.ptQ j)=((rows.getD i bZ).to:Rat)):=by
 rw [h.sum hi];obtain⟨h1,h2⟩:=h.inside hb hi;obtain⟨he,hs⟩:=Mx (S:=T) T.vals.length;have hs:=hs (n+i) (by rw [h.wf.vl,h.hn,h.hr];omega) (by rw [h.hn];exact Gx);unfold TS.kK TS.dK at hs;rw [h.hn,h.hr]at hs;generalize T.smK T.vals.length=ε at *;rw [zy]at h1 h2 hs;simp only at h1 h2 hs;generalize (T.val (n+i))=x at *;obtain⟨a,b⟩:=x;simp only at h1 h2 hs ⊢;generalize (rows.getD i bZ).kind=kd at *;generalize (((rows.getD i bZ).to:Int):Rat)=t at *;have main:a+b*ε≤t+(if kd=2 then -1 else 0)*ε:=by
  generalize (if kd=2 then(-1:Rat)else 0)=u at*;by_cases hk:0<b-u
  ·have hd:0<t-a:=by grind
   have:=hs hk hd;grind
  have hd:0≤t-a:=by grind
  have:ε*(b-u)≤ε*0:=Rat.mul_le_mul_of_nonneg_left (by grind) (by grind);grind
 refine⟨fun e=> ?_,fun e=> ?_,fun e=> ?_⟩
 ·subst e;rw [if_neg dc]at main;grind
 ·subst e;rw [if_pos rfl]at main;grind
 have:=h2 e;subst e;rw [if_neg dc]at this;injection this with h3 h4;subst h3 h4;grind
theorem Inv.free {n:Nat}{rows:List Rw}{T:TS}(h:Inv n rows T){i:Nat}{way:Int}(he:T.enter i way=none){v:Nat}(hv:v<n):T.cell i v=0:=by
 refine Classical.byContradiction fun hc=> ?_;refine Ev he (v:=v) (by rw [h.hn];omega) ⟨hc,?_⟩;have h1:jd T.n v=false:=by unfold jd;rw [h.hn];exact decide_eq_false om
 have h2:hasLo T.n T.rows v=false:=by unfold hasLo;rw [h.hn];exact decide_eq_false om
 unfold TS.canB;rw [h1,h2];split<;>rfl
theorem MB {S:TS}{i:Nat}{way:Int}{b p:Nat}(hb:S.basic.getD i 0=b)(hnb:S.n≤b)(hbl:b<S.n+S.rows.length)(hcb:S.cell i b=0)(hz:∀v,v<S.n→S.cell i v=0)(hp:p<S.rows.length):∀k,k≤S.n+S.rows.length→
  (S.refK i way k).getD p 0=if S.n+p=b then((-way:Int):Rat)else if S.n+p<k then S.cell i (S.n+p)*(way:Rat)else 0
 | 0,_=>by
  unfold TS.refK;rw [hb,gM (by rw [List.length_replicate];omega)];by_cases e:S.n+p=b
  ·rw [if_pos om,if_pos e]
  rw [if_neg om,if_neg e,if_neg om,dV,List.getElem?_replicate,if_pos hp];rfl
 | k+1,hk=>by
  have ih:=MB (way:=way) hb hnb hbl hcb hz hp k om;unfold TS.refK;split
  ·rename_i h0;rw [ih];by_cases e:S.n+p=b
   ·rw [if_pos e,if_pos e]
   rw [if_neg e,if_neg e];by_cases e2:S.n+p<k
   ·rw [if_pos e2,if_pos om]
   rw [if_neg e2];by_cases e3:S.n+p=k
   ·rw [if_pos om,e3,h0,Rat.zero_mul]
   rw [if_neg om]
  rename_i h0;have hkn:S.n≤k:=Classical.byContradiction fun hx=>h0 (hz k om);have hkb:k≠b:=fun e=>h0 (e ▸ hcb);rw [gM (by rw [nM];omega),ih];by_cases e3:k-S.n=p
  ·have e4:S.n+p=k:=om;rw [if_pos e3,if_neg om,if_pos om,e4];rw [show((-way:Int):Rat)= -(way:Rat)from Rat.intCast_neg _];grind
  rw [if_neg e3];by_cases e:S.n+p=b
  ·rw [if_pos e,if_pos e]
  rw [if_neg e,if_neg e];by_cases e2:S.n+p<k
  ·rw [if_pos e2,if_pos om]
  rw [if_neg e2,if_neg om]
theorem Oq {n:Nat}{rows:List Rw}{T:TS}{b:Nat}{way:Int}(h:Inv n rows T)(hb:QV T b way)(he:T.enter (T.lineOf b) way=none)(t:Nat→Rat)
  (ht:∀p,p<rows.length→t p=(T.refK (T.lineOf b) way (T.n+T.rows.length)).getD p 0):
  (∀p,p<rows.length→(rows.getD p bZ).kind≠3→0≤t p)∧(∀k,k<n→(sQ rows.length fun p=>t p*(lQ rows p k:Rat))=0)∧
  ((sQ rows.length fun p=>t p*((rows.getD p bZ).to:Rat))<0∨(sQ rows.length fun p=>t p*((rows.getD p bZ).to:Rat))=0∧∃p,p<rows.length∧(rows.getD p bZ).kind=2∧t p≠0):=by
 obtain⟨hi,hib⟩:=qK hb.mem;obtain⟨i,hii⟩:∃i,i=T.lineOf (b:Int):=⟨_,rfl⟩;rw [← hii]at hi hib he ht;have hbl:=h.wf.bl;rw [h.hr]at hbl;rw [hbl]at hi;have hbK:b<n+rows.length:=by have:=h.wf.bb _ hb.mem;rw [h.hn,h.hr]at this;exact this
 have hnb:n≤b:=by have:=hb.n_le;rw [h.hn]at this;exact this
 have hcb:T.cell i b=0:=by rw [← hib];exact h.zc i i hi hi
 have hz:∀v,v<n→T.cell i v=0:=fun v hv=>h.free he hv;have ht:∀p,p<rows.length→t p=if n+p=b then -(way:Rat)else T.cell i (n+p)*(way:Rat):=by
  intro p hp;rw [ht p hp,MB (b:=b) hib (by rw [h.hn];exact hnb) (by rw [h.hn,h.hr];exact hbK) hcb (by rw [h.hn];exact hz) (by rw [h.hr];exact hp) _ (Nat.le_refl _),h.hn,h.hr,if_pos (show n+p<n+rows.length from om)];rw [Rat.intCast_neg]
 have comb:∀x,Sat (n+rows.length) rows.length T.cell T.bs x→(sQ rows.length fun p=>t p*x (n+p))=0:=by
  intro x hx;have h1:=hx i hi;rw [hib,Mw,jR n fun v hv=>by rw [hz v hv,Rat.zero_mul]]at h1;have e:∀p,p<rows.length→t p*x (n+p)=(way:Rat)*(T.cell i (n+p)*x (n+p))+(if p=b-n then -(way:Rat)*x b else 0):=by
   intro p hp;rw [ht p hp];by_cases e:n+p=b
   ·rw [if_pos e,if_pos om,e,hcb];grind
   rw [if_neg e,if_neg om];grind
  rw [eG _ e,qG,xJ,sP rows.length om];grind
 have hval:∀p,p<rows.length→n+p≠b→t p≠0→T.val (n+p)=jC n rows (n+p):=by
  intro p hp hpb h0;rw [ht p hp,if_neg hpb]at h0;refine h.up _ om (h.not_basic (i:=i) hi fun hc=>h0 ?_);rw [hc,Rat.zero_mul]
 obtain⟨pb,hpb⟩:∃pb,n+pb=b:=⟨b-n,om⟩;have hpl:pb<rows.length:=om;have htb:t pb= -(way:Rat):=by rw [ht pb hpl,if_pos hpb]
 have S1:(sQ rows.length fun p=>t p*((rows.getD p bZ).to:Rat))= -(way:Rat)*((jC n rows b).n-(T.val b).n):=by
  have e0:=comb _ h.vn;have e1:∀p,p<rows.length→t p*((rows.getD p bZ).to:Rat)=t p*(T.val (n+p)).n+(if p=pb then -(way:Rat)*((jC n rows b).n-(T.val b).n)else 0):=by
   intro p hp;by_cases e:p=pb
   ·subst e;rw [if_pos rfl,htb,hpb];rw [← hpb,zy];grind
   rw [if_neg e];by_cases h0:t p=0
   ·rw [h0];grind
   rw [hval p hp om h0,zy];grind
  rw [eG _ e1,qG,e0,sP rows.length hpl];grind
 have S2:(sQ rows.length fun p=>t p*(if(rows.getD p bZ).kind=2 then -1 else 0))= -(way:Rat)*((jC n rows b).s-(T.val b).s):=by
  have e0:=comb _ h.vs;have e1:∀p,p<rows.length→t p*(if(rows.getD p bZ).kind=2 then -1 else 0)=t p*(T.val (n+p)).s+(if p=pb then -(way:Rat)*((jC n rows b).s-(T.val b).s)else 0):=by
   intro p hp;by_cases e:p=pb
   ·subst e;rw [if_pos rfl,htb,hpb];rw [← hpb,zy];simp only;grind
   rw [if_neg e];by_cases h0:t p=0
   ·rw [h0];grind
   rw [hval p hp om h0,zy];grind
  rw [eG _ e1,qG,e0,sP rows.length hpl];grind
 refine⟨fun p hp hk=> ?_,fun k hk=> ?_,?_⟩
 ·by_cases e:n+p=b
  ·rcases hb.out with⟨e1,h1⟩ | ⟨e1,_⟩
   ·have:=h1.1;rw [h.hn,h.hr,←e,Ap]at this;exact absurd this hk
   rw [ht p hp,if_pos e,e1];decide
  by_cases hc:T.cell i (n+p)=0
  ·rw [ht p hp,if_neg e,hc,Rat.zero_mul];exact Rat.le_refl
  have:=Ev he (v:=n+p) (by rw [h.hn,h.hr];omega);have hcan:¬T.canB (n+p) (way*(T.cell i (n+p)).num.sign)=true:=fun hx=>this ⟨hc,hx⟩;unfold TS.canB at hcan;split at hcan
  ·rename_i hpos;rw [ht p hp,if_neg e];have hs:∀q:Rat,0<(q.num.sign)→0<q:=fun q=>BL.1;have hs':∀q:Rat,q.num.sign<0→q<0:=fun q=>zaW.1;rcases hb.way with e1 | e1
   ·subst e1;rw [Int.one_mul]at hpos;have:=hs _ hpos;rw [show((1:Int):Rat)=1 from rfl];grind
   subst e1;have:=hs' _ (show(T.cell i (n+p)).num.sign<0 from om);rw [show((-1:Int):Rat)= -1 from rfl];grind
  have hlo:¬hasLo T.n T.rows (n+p)=true:=by
   rw [h.hn,h.hr,Ap];exact hk
  rw [Bool.not_eq_true]at hlo;rw [hlo]at hcan;simp at hcan
 ·have hx:Sys n rows.length (lQ rows) fun v=>if v<n then(if v=k then 1 else 0)else(lQ rows (v-n) k:Rat):=by
   intro j hj;simp only;rw [if_neg om,show n+j-n=j from om,BO (v:=k) n hk,if_pos hk,if_pos rfl]
   ·grind
   intro v hv hvk;rw [if_pos hv,if_neg hvk,Rat.mul_zero]
  have:=comb _ ((h.sat _).2 hx);rw [← this];refine eG _ fun p _=> ?_;rw [if_neg om,show n+p-n=p from om]
 rw [S1];have hneg:(jC n rows b).n-(T.val b).n=0∧ -(way:Rat)*((jC n rows b).s-(T.val b).s)<0∨ -(way:Rat)*((jC n rows b).n-(T.val b).n)<0:=by
  rcases hb.out with⟨e1,h1⟩ | ⟨e1,_,h1⟩
  ·have h2:=h1.2;have h3:=h1.1;rw [h.hn,h.hr]at h2 h3;rw [uY h3,Es]at h2;subst e1;rw [show((1:Int):Rat)=1 from rfl];grind
  have h2:=h1.2;rw [h.hn,h.hr,Et]at h2;subst e1;rw [show((-1:Int):Rat)= -1 from rfl];grind
 rcases hneg with⟨h1,h2⟩ | h1
 ·refine .inr ⟨by rw [h1,Rat.mul_zero],?_⟩;rw [← S2]at h2;refine Classical.byContradiction fun hno=> ?_;have:(sQ rows.length fun p=>t p*(if(rows.getD p bZ).kind=2 then -1 else 0))=0:=by
   refine jR _ fun p hp=> ?_;by_cases hk:(rows.getD p bZ).kind=2
   ·by_cases h0:t p=0
    ·rw [h0,Rat.zero_mul]
    exact absurd ⟨p,hp,hk,h0⟩ hno
   rw [if_neg hk,Rat.mul_zero]
  rw [this]at h2;exact absurd h2 (by grind)
 exact .inl h1
def uZ (a b:Rat):Prop:=a<0∨a=0∧b<0
def Ew (a b:Rat):Prop:=a<0∨a=0∧b≤0
theorem uZ.le {a b:Rat}(h:uZ a b):Ew a b:=by
 unfold uZ at h;unfold Ew;grind
theorem Ew.zero:Ew 0 0:= .inr ⟨rfl,Rat.le_refl⟩
theorem Ew.add {a b c d:Rat}(h:Ew a b)(k:Ew c d):Ew (a+c) (b+d):=by
 unfold Ew at*;grind
theorem uZ.addL {a b c d:Rat}(h:uZ a b)(k:Ew c d):uZ (a+c) (b+d):=by
 unfold uZ Ew at*;grind
theorem uZ.addR {a b c d:Rat}(h:Ew a b)(k:uZ c d):uZ (a+c) (b+d):=by
 unfold uZ Ew at*;grind
theorem Ew.sum {f g:Nat→Rat}:∀n,(∀j,j<n→Ew (f j) (g j))→Ew (sQ n f) (sQ n g)
 | 0,_=>Ew.zero
 | n+1,h=>(Ew.sum n fun j hj=>h j om).add (h n om)
theorem uZ.sum {f g:Nat→Rat}{r:Nat}:∀n,r<n→(∀j,j<n→Ew (f j) (g j))→uZ (f r) (g r)→uZ (sQ n f) (sQ n g)
 | 0,h,_,_=>absurd h om
 | n+1,h,hl,hr=>by
  by_cases e:r=n
  ·subst e;exact uZ.addR (Ew.sum r fun j hj=>hl j om) hr
  exact uZ.addL (uZ.sum n om (fun j hj=>hl j om) hr) (hl n om)
structure Stp (S S':TS)(b:Nat)(way:Int)(e:Nat):Prop where
 brk:QV S b way
 ent:S.enter (S.lineOf b) way=some e
 nxt:S'=S.next b way e
theorem Stp.basic {n:Nat}{rows:List Rw}{S S':TS}{b e:Nat}{way:Int}(h:Stp S S' b way e)(hI:Inv n rows S):
  e∉S.basic∧b∈S.basic∧b≠e∧∀v,v∈S'.basic↔v=e∨v∈S.basic∧v≠b:=by
 obtain⟨hi,hib⟩:=qK h.brk.mem;obtain⟨hek,⟨hc,_⟩,_⟩:=Eu h.ent;have hbl:=hI.wf.bl;rw [hI.hr]at hbl;have Ub:e∉S.basic:=hI.not_basic (i:=S.lineOf b) om hc;refine⟨Ub,h.brk.mem,fun hx=>Ub (hx ▸ h.brk.mem),fun v=> ?_⟩;rw [h.nxt];show v∈S.basic.set (S.lineOf b) e↔_;constructor
 ·intro hv;rcases List.mem_or_eq_of_mem_set hv with hv' | rfl
  ·by_cases hvb:v=b
   ·subst hvb;by_cases hve:v=e
    ·exact .inl hve
    exfalso;obtain⟨j,hj,hjv⟩:=List.getElem_of_mem hv;rw [List.getElem_set]at hjv;split at hjv
    ·exact hve hjv.symm
    rename_i hne;have hj':j<S.basic.length:=by simpa using hj
    rw [qg hi]at hib;have:=(List.getElem_inj hI.wf.nd).1 (hib.trans hjv.symm);exact hne this
   exact .inr ⟨hv',hvb⟩
  exact .inl rfl
 rintro(rfl | ⟨hv,hvb⟩)
 ·exact List.mem_set hi v
 obtain⟨j,hj,rfl⟩:=List.getElem_of_mem hv;have hne:S.lineOf b≠j:=fun e'=>by
  subst e';rw [qg hi]at hib;exact hvb hib
 have e':(S.basic.set (S.lineOf b) e)[j]'(by simpa using hj)=S.basic[j]:=by rw [List.getElem_set,if_neg hne]
 rw [← e'];exact List.getElem_mem _
structure Way (n:Nat)(rows:List Rw)(f:Nat)(s:Nat→TS)(bv ev:Nat→Nat)(wy:Nat→Int):Prop where
 inv:∀t,t≤f→Inv n rows (s t)
 stp:∀t,t<f→Stp (s t) (s (t+1)) (bv t) (wy t) (ev t)
theorem Way.left {n:Nat}{rows:List Rw}{f:Nat}{s:Nat→TS}{bv ev:Nat→Nat}{wy:Nat→Int}(h:Way n rows f s bv ev wy){i v:Nat}:∀d,i+d≤f→v∈(s i).basic→v∉(s (i+d)).basic→∃t,i≤t∧t<i+d∧bv t=v
 | 0,_,h1,h2=>absurd h1 h2
 | d+1,hd,h1,h2=>by
  by_cases hm:v∈(s (i+d)).basic
  ·refine ⟨i+d,om,om,Classical.byContradiction fun hne=>h2 ?_⟩;exact(((h.stp (i+d) om).basic (h.inv _ om)).2.2.2 v).2 (.inr ⟨hm,fun e=>hne e.symm⟩)
  obtain⟨t,h3,h4,h5⟩:=h.left d om h1 hm;exact⟨t,h3,om,h5⟩
theorem great (g:Nat→Nat):∀k,0<k→∃t,t<k∧∀u,u<k→g u≤g t
 | 0,h=>absurd h om
 | 1,_=>⟨0,om,fun u hu=>by rw [show u=0 from om];exact Nat.le_refl _⟩
 | k+2,_=>by
  obtain⟨t,h1,h2⟩:=great g (k+1) om;by_cases hx:g t≤g (k+1)
  ·refine ⟨k+1,om,fun u hu=> ?_⟩;by_cases e:u=k+1
   ·rw [e];exact Nat.le_refl _
   exact Nat.le_trans (h2 u om) hx
  refine⟨t,om,fun u hu=> ?_⟩;by_cases e:u=k+1
  ·rw [e];omega
  exact h2 u om
theorem Inv.kept {n:Nat}{rows:List Rw}{S:TS}(h:Inv n rows S){v:Nat}(hv:v<n+rows.length)(hb:v∈S.basic→¬S.lowB v∧¬S.upB v):
  (jd n v=true→Ew ((S.val v).n-(jC n rows v).n) ((S.val v).s-(jC n rows v).s))∧(hasLo n rows v=true→S.val v=jC n rows v):=by
 by_cases hm:v∈S.basic
 ·obtain ⟨h1,h2⟩:=hb hm;unfold TS.upB at h2;unfold TS.lowB at h1;rw [h.hn,h.hr,Et]at h2;rw [h.hn,h.hr,Es]at h1;constructor
  ·intro hu;have h3:¬_:=fun hx=>h2 ⟨hu,hx⟩;unfold Ew;grind
  intro hlo;have hu:jd n v=true:=by
   unfold hasLo at hlo;unfold jd;exact decide_eq_true (of_decide_eq_true hlo).1
  have h3:¬((jC n rows v).n<(S.val v).n∨(S.val v).n=(jC n rows v).n∧(jC n rows v).s<(S.val v).s):=fun hx=>h2 ⟨hu,hx⟩;have h4:¬((S.val v).n<(Fa n rows v).n∨(S.val v).n=(Fa n rows v).n∧(S.val v).s<(Fa n rows v).s):=fun hx=>h1 ⟨hlo,hx⟩;rw [uY hlo]at h4;generalize jC n rows v=u at h3 h4;generalize S.val v=x at h3 h4;obtain⟨u1,u2⟩:=u;obtain⟨x1,x2⟩:=x;simp only at h3 h4;rw [Pr.mk.injEq];constructor<;>grind
 have:=h.up v hv hm;rw [this];exact⟨fun _=>by unfold Ew;right;constructor<;>grind,fun _=>rfl⟩
def zcu (rows:List Rw):Prop:=∀r∈rows,(∀x∈r.of,x.natAbs≤9)∧r.to.natAbs≤9
section
variable {n:Nat} {rows:List Rw} {S:TS} (h:Inv n rows S) (hsm:zcu rows) (hn:n≤3)
include h hsm hn
end
end Go.Proofs.YtmepglhdcphffaaGreat
