/- The tableau, plain: a step of the search keeps what is known; the bounds of all numbers. -/
import Derived.Test.YtaiffmebphhdaaaGreatTbT
namespace Go.Proofs.YtaiffmebphhdaaaGreat
set_option linter.unusedSimpArgs false
set_option linter.unusedVariables false
open Go.ChangeShapes Go.WideShapes Go.RowKit
theorem VG {k:Nat}{x:Int}(hk:0<k)(h:x.natAbs<4294967296^k):NB k (x:Rat):=⟨by rw [Rat.num_intCast];exact rF h,by
 rw [Rat.den_intCast];refine rF (dY (show((1:Nat):Int).natAbs<4294967296^1 by decide) (Nat.pow_le_pow_right (by decide) hk))⟩
def TS.lowB (S:TS)(b:Nat):Prop:=hasLo S.n S.rows b=true∧(S.val b).cmp (qZ S.n S.rows b)<0
def TS.upB (S:TS)(b:Nat):Prop:=gK S.n b=true∧0<(S.val b).cmp (fF S.n S.rows b)
def TS.brkQ (S:TS)(l:List Nat)(st:Int × Int):Prop:=
 (st=(-1,0)∧∀b∈l,¬S.lowB b∧¬S.upB b)∨
 ∃b∈l,((st=((b:Int),1)∧S.lowB b)∨(st=((b:Int),-1)∧¬S.lowB b∧S.upB b))∧∀b'∈l,S.lowB b'∨S.upB b'→b≤b'
theorem RD {S:TS}{l:List Nat}{st:Int × Int}(h:S.brkQ l st)(c:Nat):S.brkQ (l++ [c]) (S.brkStep st c):=by
 unfold TS.brkStep
 by_cases h1:0≤st.1∧st.1<(c:Int)
 ·rw [if_pos h1]
  rcases h with⟨rfl,_⟩ | ⟨b,hb,hs,hm⟩
  ·exact absurd h1.1 (by decide)
  ·refine .inr ⟨b,List.mem_append_left _ hb,hs,fun b' hb' hx=> ?_⟩
   rcases List.mem_append.1 hb' with h' | h'
   ·exact hm b' h' hx
   ·rw [List.mem_singleton.1 h']
    rcases hs with⟨rfl,_⟩ | ⟨rfl,_⟩<;>(have:=h1.2;simp only at this;omega)
 rw [if_neg h1]
 by_cases h2:hasLo S.n S.rows c=true∧(S.val c).cmp (qZ S.n S.rows c)<0
 ·rw [if_pos h2]
  refine .inr ⟨c,by simp,.inl ⟨rfl,h2⟩,fun b' hb' hx=> ?_⟩
  rcases List.mem_append.1 hb' with h' | h'
  ·rcases h with⟨rfl,hn⟩ | ⟨b,hb,hs,hm⟩
   ·exact absurd hx (by have:=hn b' h';rintro(h | h);exact this.1 h;exact this.2 h)
   ·have:=hm b' h' hx
    rcases hs with⟨rfl,_⟩ | ⟨rfl,_⟩<;>(simp only at h1;omega)
  ·rw [List.mem_singleton.1 h'];exact Nat.le_refl _
 rw [if_neg h2]
 by_cases h3:gK S.n c=true∧0<(S.val c).cmp (fF S.n S.rows c)
 ·rw [if_pos h3]
  refine .inr ⟨c,by simp,.inr ⟨rfl,h2,h3⟩,fun b' hb' hx=> ?_⟩
  rcases List.mem_append.1 hb' with h' | h'
  ·rcases h with⟨rfl,hn⟩ | ⟨b,hb,hs,hm⟩
   ·exact absurd hx (by have:=hn b' h';rintro(h | h);exact this.1 h;exact this.2 h)
   ·have:=hm b' h' hx
    rcases hs with⟨rfl,_⟩ | ⟨rfl,_⟩<;>(simp only at h1;omega)
  ·rw [List.mem_singleton.1 h'];exact Nat.le_refl _
 rw [if_neg h3]
 rcases h with⟨rfl,hn⟩ | ⟨b,hb,hs,hm⟩
 ·refine .inl ⟨rfl,fun b hb=> ?_⟩
  rcases List.mem_append.1 hb with h' | h'
  ·exact hn b h'
  ·rw [List.mem_singleton.1 h'];exact⟨h2,h3⟩
 ·refine .inr ⟨b,List.mem_append_left _ hb,hs,fun b' hb' hx=> ?_⟩
  rcases List.mem_append.1 hb' with h' | h'
  ·exact hm b' h' hx
  ·rw [List.mem_singleton.1 h']at hx
   rcases hx with h | h
   ·exact absurd h h2
   ·exact absurd h h3
theorem Hf {S:TS}:∀(l pre:List Nat) (st:Int × Int),S.brkQ pre st→S.brkQ (pre++l) (l.foldl S.brkStep st)
 | [],pre,st,h=>by rw [List.append_nil];exact h
 | c::l,pre,st,h=>by
  have:=Hf l (pre++ [c]) _ (RD h c);rw [List.append_assoc]at this;exact this
theorem LV (S:TS):S.brkQ S.basic S.broken:=by
 have:=Hf (S:=S) S.basic [] (-1,0) (.inl ⟨rfl,fun b hb=>absurd hb (by simp)⟩)
 exact this
structure OP (S:TS)(b:Nat)(way:Int):Prop where
 mem:b∈S.basic
 eq:S.broken=((b:Int),way)
 out:way=1∧S.lowB b∨way= -1∧¬S.lowB b∧S.upB b
 least:∀b'∈S.basic,S.lowB b'∨S.upB b'→b≤b'
theorem qW (S:TS):(S.broken.1<0∧∀b∈S.basic,¬S.lowB b∧¬S.upB b)∨∃b way,OP S b way:=by
 rcases LV S with⟨h,h'⟩ | ⟨b,hb,hs,hm⟩
 ·exact .inl ⟨by rw [h];decide,h'⟩
 ·rcases hs with⟨h1,h2⟩ | ⟨h1,h2⟩
  ·exact .inr ⟨b,1,hb,h1,.inl ⟨rfl,h2⟩,hm⟩
  ·exact .inr ⟨b,-1,hb,h1,.inr ⟨rfl,h2⟩,hm⟩
theorem OP.nonneg {S:TS}{b:Nat}{way:Int}(h:OP S b way):¬S.broken.1<0:=by rw [h.eq];simp only;omega
theorem OP.way {S:TS}{b:Nat}{way:Int}(h:OP S b way):way=1∨way= -1:=by
 rcases h.out with⟨h,_⟩ | ⟨h,_⟩
 ·exact .inl h
 ·exact .inr h
theorem OP.n_le {S:TS}{b:Nat}{way:Int}(h:OP S b way):S.n≤b:=by
 rcases h.out with⟨_,h⟩ | ⟨_,_,h⟩
 ·have:=h.1
  unfold hasLo at this;exact(of_decide_eq_true this).1
 ·have:=h.1
  unfold gK at this;exact of_decide_eq_true this
theorem lW {S:TS}{b:Nat}(h:b∈S.basic):S.lineOf (b:Int)<S.basic.length∧S.bs (S.lineOf (b:Int))=b:=by
 have hlt:S.lineOf (b:Int)<S.basic.length:=by
  unfold TS.lineOf;exact List.findIdx_lt_length_of_exists ⟨b,h,by simp⟩
 refine⟨hlt,?_⟩;rw [qz hlt];have h1:=List.findIdx_getElem (p:=fun(x:Nat)=>decide ((x:Int)=(b:Int))) (xs:=S.basic) (w:=hlt)
 have h2:((S.basic[S.lineOf (b:Int)]:Nat):Int)=(b:Int):=of_decide_eq_true h1;omega
def TS.okE (S:TS)(i:Nat)(way:Int)(v:Nat):Prop:=S.cell i v≠0∧S.canB v (way*(S.cell i v).num.sign)=true
theorem xQ {S:TS}{i e:Nat}{way:Int}(h:S.enter i way=some e):e<S.n+S.rows.length∧S.okE i way e∧∀v,v<e→¬S.okE i way v:=by
 unfold TS.enter at h;rw [List.find?_range_eq_some]at h;simp only [Bool.and_eq_true,decide_eq_true_eq]at h;obtain⟨h1,h2,h3⟩:=h;refine⟨List.mem_range.1 h2,h1,fun v hv hx=> ?_⟩
 have:=h3 v hv;simp only [Bool.not_eq_true',Bool.and_eq_false_iff,decide_eq_false_iff_not]at this
 rcases this with h | h
 ·exact h hx.1
 ·rw [hx.2]at h;exact absurd h (by decide)
theorem Et {S:TS}{i:Nat}{way:Int}(h:S.enter i way=none){v:Nat}(hv:v<S.n+S.rows.length):¬S.okE i way v:=by
 unfold TS.enter at h;rw [List.find?_eq_none]at h;intro hx;exact h v (List.mem_range.2 hv) (by simp only [Bool.and_eq_true,decide_eq_true_eq];exact hx)
theorem oP {n v:Nat}{rows:List Rw}(h:hasLo n rows v=true):qZ n rows v=fF n rows v:=by
 unfold hasLo at h;have h:=of_decide_eq_true h;unfold qZ fF;rw [if_neg (by rintro(h' | h')<;>omega),if_neg (by omega),if_neg (by omega)]
theorem OP.to_up {S:TS}{b:Nat}{way:Int}(h:OP S b way):(if 0<way then qZ S.n S.rows b else fF S.n S.rows b)=fF S.n S.rows b:=by
 rcases h.out with⟨e,h⟩ | ⟨e,_⟩
 ·rw [if_pos (by omega),oP h.1]
 ·rw [if_neg (by omega)]
theorem Inv.not_basic {n:Nat}{rows:List Rw}{S:TS}(h:Inv n rows S){i v:Nat}(hi:i<rows.length)(hv:S.cell i v≠0):v∉S.basic:=by
 intro hm;obtain⟨j,hj,rfl⟩:=DX hm;have e:=h.hr;have hbl:=h.wf.bl;rw [h.hr]at hbl;exact hv (h.zc i j hi (by omega))
theorem X8 {l:List Nat}{i v k:Nat}(hi:i<l.length)(h:k∉l.set i v):k≠v∧∀j (hj:j<l.length),j≠i→l[j]≠k:=by
 constructor
 ·rintro rfl
  exact h (List.mem_set hi k)
 ·rintro j hj hne rfl
  refine h ?_;have e:(l.set i v)[j]'(by simpa using hj)=l[j]:=by rw [List.getElem_set,if_neg (Ne.symm hne)]
  rw [← e];exact List.getElem_mem _
theorem uE {n:Nat}{rows:List Rw}{S:TS}(h:Inv n rows S){b e:Nat}{way:Int}(hb:OP S b way)(he:S.enter (S.lineOf b) way=some e):Inv n rows (S.next b way e):=by
 obtain⟨hi,hib⟩:=lW hb.mem;have hw:=h.wf;have hn:=h.hn;have hr:=h.hr;rw [hw.bl]at hi;obtain⟨i,hii⟩:∃i,i=S.lineOf (b:Int):=⟨_,rfl⟩;rw [← hii]at hi hib he;obtain⟨hek,⟨hc,_⟩,_⟩:=xQ he;have QW:e∉S.basic:=h.not_basic (i:=i) (by rw [← hr];exact hi) hc
 obtain⟨d,hd⟩:∃d,d=S.by b i e way:=⟨_,rfl⟩
 have hnx:S.next b way e=(S.move e d).pivot i e:=by
  unfold TS.next;rw [← hii,←hd]
 rw [hnx];have hw1:=Sz hw e d;have hp:=zaG (S:=S.move e d) hw1 hi hek QW hc;have hcell:(S.move e d).cell=S.cell:=rfl;have hbs:(S.move e d).bs=S.bs:=rfl;have hK:(S.move e d).n+(S.move e d).rows.length=n+rows.length:=by show S.n+S.rows.length=_;rw [hn,hr]
 have hm:(S.move e d).rows.length=rows.length:=by show S.rows.length=_;rw [hr]
 rw [hK,hm,hcell,hbs]at hp;have hil:i<S.basic.length:=by rw [hw.bl];exact hi
 have zaH:∀x,Sat (n+rows.length) rows.length ((S.move e d).pivot i e).cell ((S.move e d).pivot i e).bs x↔Sat (n+rows.length) rows.length S.cell S.bs x:=fun x=>hp.sat h.zc x
 have zbZ:∀j,j<rows.length→S.bs j<n+rows.length:=fun j hj=>by have:=hw.lt (i:=j) (by rw [hr];exact hj);rw [hn,hr]at this;exact this
 have zb0:∀j,j<rows.length→S.bs j≠e:=fun j hj hx=>QW (hx ▸ vF (by rw [hw.bl,hr];exact hj))
 have zb1:e<n+rows.length:=by rw [hn,hr]at hek;exact hek
 have hnot:∀k,k<n+rows.length→k≠e→(∀j,j<rows.length→S.bs j≠k)→(S.move e d).val k=S.val k:=by
  intro k _ hk hkb;refine LZ hw hek QW hk fun hm=> ?_
  obtain⟨j,hj,hjk⟩:=DX hm;exact hkb j (by rw [← hr,←hw.bl];exact hj) hjk
 refine⟨TU hw1 hi hek QW,hn,hr,fun x=>(zaH x).trans (h.sat x),hp.zc h.zc,?_,?_,?_⟩
 ·refine (zaH _).2 (Lj h.zc (x:=fun k=>(S.val k).n) (v:=e) (d:=d.n) zb1 h.vn zbZ zb0 ?_ ?_ ?_)
  ·show ((S.move e d).val e).n=_
   rw [Pg hw hek QW];rfl
  ·intro j hj
   show((S.move e d).val (S.bs j)).n=_;rw [Jo hw hek QW (by rw [hr];exact hj)];rfl
  ·intro k hk hke hkb
   show((S.move e d).val k).n=_;rw [hnot k hk hke hkb]
 ·refine (zaH _).2 (Lj h.zc (x:=fun k=>(S.val k).s) (v:=e) (d:=d.s) zb1 h.vs zbZ zb0 ?_ ?_ ?_)
  ·show ((S.move e d).val e).s=_
   rw [Pg hw hek QW];rfl
  ·intro j hj
   show((S.move e d).val (S.bs j)).s=_;rw [Jo hw hek QW (by rw [hr];exact hj)];rfl
  ·intro k hk hke hkb
   show((S.move e d).val k).s=_;rw [hnot k hk hke hkb]
 ·intro k hk hkb
  have hkb:k∉S.basic.set i e:=hkb;obtain⟨hke,hkj⟩:=X8 hil hkb;show(S.move e d).val k=_
  by_cases hm:k∈S.basic
  ·obtain ⟨j,hj,rfl⟩:=List.getElem_of_mem hm
   have hji:j=i:=Classical.byContradiction fun hne=>hkj j hj hne rfl
   subst hji;rw [← qz hj,Jo hw hek QW hi,hd];unfold TS.by
   rw [hib,hb.to_up,hn,hr];generalize fF n rows b=u;generalize S.val b=x;obtain⟨u1,u2⟩:=u;obtain⟨x1,x2⟩:=x;unfold Pr.add Pr.mul Pr.sub;simp only [Pr.mk.injEq]
   constructor<;>grind
  ·rw [LZ hw hek QW hke hm]
   exact h.up k hk hm
theorem oI {f:Nat}{S:TS}{b:Nat}{way:Int}(hb:OP S b way):TS.feas (f+1) S=match S.enter (S.lineOf b) way with
  | none=> .no (S.refK (S.lineOf b) way (S.n+S.rows.length))
  | some e=>TS.feas f (S.next b way e):=by
 rw [TS.feas,if_neg hb.nonneg,hb.eq];simp only [Int.toNat_natCast]
 cases S.enter (S.lineOf (b:Int)) way<;>rfl
theorem zn {n:Nat}{rows:List Rw}:∀(f:Nat) (S T:TS),Inv n rows S→TS.feas f S= .yes T→Inv n rows T∧∀b∈T.basic,¬T.lowB b∧¬T.upB b
 | 0,S,T,h,hf=>by
  unfold TS.feas at hf
  split at hf
  ·cases hf
   rename_i hb
   rcases qW S with⟨_,h'⟩ | ⟨b,way,hb'⟩
   ·exact ⟨h,h'⟩
   ·exact absurd hb hb'.nonneg
  ·cases hf
 | f+1,S,T,h,hf=>by
  rcases qW S with⟨hb,h'⟩ | ⟨b,way,hb'⟩
  ·unfold TS.feas at hf
   rw [if_pos hb]at hf
   cases hf
   exact⟨h,h'⟩
  ·rw [oI hb']at hf
   split at hf
   ·cases hf
   ·rename_i e he
    exact zn f _ T (uE h hb' he) hf
theorem Di {n:Nat}{rows:List Rw}:∀(f:Nat) (S:TS) (l:List Rat),Inv n rows S→TS.feas f S= .no l→∃T b way,Inv n rows T∧OP T b way∧T.enter (T.lineOf b) way=none∧l=T.refK (T.lineOf b) way (T.n+T.rows.length)
 | 0,S,l,h,hf=>by
  unfold TS.feas at hf
  split at hf<;>cases hf
 | f+1,S,l,h,hf=>by
  rcases qW S with⟨hb,h'⟩ | ⟨b,way,hb'⟩
  ·unfold TS.feas at hf
   rw [if_pos hb]at hf
   cases hf
  ·rw [oI hb']at hf
   split at hf
   ·rename_i he
    cases hf
    exact⟨S,b,way,h,hb',he,rfl⟩
   ·rename_i e he
    exact Di f _ l (uE h hb' he) hf
theorem VH {k:Nat}{q:Rat}{B:Nat}(hk:0<k)(h:QB B q)(hB:B<4294967296^k):NB (k+k) q:=by
 obtain⟨a,b,h1,h2,h3,h4⟩:=h;have hb:(b:Rat)≠0:=by exact_mod_cast h1
 have e:q=(a:Rat)/(b:Rat):=by grind
 rw [e];exact NB.div (VG hk (Nat.lt_of_le_of_lt h3 hB)) (VG hk (Nat.lt_of_le_of_lt h4 hB)) hb
theorem RF {n:Nat}(hn:n≤12):(n+1)*(1000000*((n+1)*1000000)^n)<4294967296^12:=by
 have h1:(n+1)*(1000000*((n+1)*1000000)^n)≤13*(1000000*(13*1000000)^12):=by
  refine Nat.mul_le_mul (by omega) (Nat.mul_le_mul (Nat.le_refl _) ?_)
  exact Nat.le_trans (Nat.pow_le_pow_left (Nat.mul_le_mul (by omega) (Nat.le_refl _)) _) (Nat.pow_le_pow_right (by decide) hn)
 exact Nat.lt_of_le_of_lt h1 (by decide)
theorem Inv.rows_ok {n:Nat}{rows:List Rw}{S:TS}(h:Inv n rows S):∀r∈rows,gN r n:=by
 have:=h.wf.rok;rw [h.hr,h.hn]at this;exact this
theorem Inv.cellQ {n:Nat}{rows:List Rw}{S:TS}(h:Inv n rows S){i v:Nat}(hi:i<rows.length)(hv:v<n+rows.length):QB ((n+1)*(1000000*((n+1)*1000000)^n)) (S.cell i v):=by
 refine DW (A:=iO rows) (by decide) (fun i j hi _=> ?_) (fun x hx=>(h.sat x).2 hx) h.zc (fun j hj=> ?_) (fun i j hi hj e=> ?_) hi hv
 ·have:=Ma h.rows_ok (j:=j) hi
  unfold dA at this;omega
 ·have:=h.wf.lt (i:=j) (by rw [h.hr];exact hj)
  rw [h.hn,h.hr]at this;exact this
 ·exact h.wf.inj (by rw [h.hr];exact hi) (by rw [h.hr];exact hj) e
theorem Inv.valQ {n:Nat}{rows:List Rw}{S:TS}(h:Inv n rows S){v:Nat}(hv:v<n+rows.length):QB ((n+1)*(1000000*((n+1)*1000000)^n)) (S.val v).n∧QB ((n+1)*(1000000*((n+1)*1000000)^n)) (S.val v).s:=by
 have hA:∀i j,i<rows.length→j<n→(iO rows i j).natAbs≤1000000:=by
  intro i j hi _;have:=Ma h.rows_ok (j:=j) hi;unfold dA at this;omega
 have hlt:∀j,j<rows.length→S.bs j<n+rows.length:=by
  intro j hj;have:=h.wf.lt (i:=j) (by rw [h.hr];exact hj)
  rw [h.hn,h.hr]at this;exact this
 have hinj:∀i j,i<rows.length→j<rows.length→S.bs i=S.bs j→i=j:=fun i j hi hj e=>h.wf.inj (by rw [h.hr];exact hi) (by rw [h.hr];exact hj) e
 have hup:∀k,k<n+rows.length→(∀j,j<rows.length→S.bs j≠k)→S.val k=fF n rows k:=by
  intro k hk hkb;refine h.up k hk fun hm=> ?_
  obtain⟨j,hj,hjk⟩:=DX hm;exact hkb j (by rw [← h.hr,←h.wf.bl];exact hj) hjk
 constructor
 ·refine uF (A:=iO rows) (M:=1000000) (by decide) hA (fun x hx=>(h.sat x).2 hx) h.zc hlt hinj h.vn (fun k=>if k<n then 0 else(rows.getD (k-n) bJ).to) (fun k hk hkb=> ?_) hv
  rw [hup k hk hkb];unfold fF
  split
  ·exact ⟨rfl,by simp⟩
  ·refine ⟨rfl,?_⟩
   have e2:rows.getD (k-n) bJ=rows[k-n]:=by rw [eG,iw (by omega)];rfl
   rw [e2];have:=(h.rows_ok _ (List.getElem_mem (show k-n<rows.length by omega))).fto
   unfold dA at this;omega
 ·refine uF (A:=iO rows) (M:=1000000) (by decide) hA (fun x hx=>(h.sat x).2 hx) h.zc hlt hinj h.vs (fun k=>if k<n then 0 else if(rows.getD (k-n) bJ).kind=2 then -1 else 0) (fun k hk hkb=> ?_) hv
  rw [hup k hk hkb];unfold fF
  split
  ·exact ⟨rfl,by simp⟩
  ·split
   ·exact ⟨rfl,by simp⟩
   ·exact ⟨rfl,by simp⟩
theorem Inv.nb {n:Nat}{rows:List Rw}{S:TS}(h:Inv n rows S):S.nb 100:=by
 have hn:n≤12:=by have:=h.wf.n12;rw [h.hn]at this;exact this
 have hB:=RF hn;refine⟨fun p hp=> ?_,fun l hl q hq=> ?_⟩
 ·obtain ⟨v,hv,rfl⟩:=List.getElem_of_mem hp
  have e:S.val v=S.vals[v]:=by unfold TS.val;rw [eG,iw hv];rfl
  rw [← e];have hv':v<n+rows.length:=by rw [h.wf.vl,h.hn,h.hr]at hv;exact hv
  have:=h.valQ hv';exact⟨(VH (by decide) this.1 hB).mono (by omega),(VH (by decide) this.2 hB).mono (by omega)⟩
 ·obtain ⟨i,hi,rfl⟩:=List.getElem_of_mem hl
  obtain⟨v,hv,rfl⟩:=List.getElem_of_mem hq;rw [← mK hi hv];have hv':v<n+rows.length:=by rw [h.wf.cr _ (List.getElem_mem hi),h.hn,h.hr]at hv;exact hv
  exact(VH (by decide) (h.cellQ (by rw [h.wf.cl,h.hr]at hi;exact hi) hv') hB).mono (by omega)
end Go.Proofs.YtaiffmebphhdaaaGreat
