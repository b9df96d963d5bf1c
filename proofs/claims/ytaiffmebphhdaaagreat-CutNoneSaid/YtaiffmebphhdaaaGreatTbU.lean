/- The tableau, plain: a step of the search keeps what is known; the bounds of all numbers. -/
import Derived.Test.YtaiffmebphhdaaaGreatTbT
namespace Go.Proofs.YtaiffmebphhdaaaGreat
set_option linter.unusedSimpArgs false
set_option linter.unusedVariables false
open Go.ChangeShapes Go.WideShapes Go.RowKit
theorem nb_big {k:Nat}{x:Int}(hk:0<k)(h:x.natAbs<4294967296^k):NB k (x:Rat):=⟨by rw [Rat.num_intCast];exact dl_le h,by
 rw [Rat.den_intCast];refine dl_le (Nat.lt_of_lt_of_le (show((1:Nat):Int).natAbs<4294967296^1 by decide) (Nat.pow_le_pow_right (by decide) hk))⟩
def TS.lowB (S:TS)(b:Nat):Prop:=hasLo S.n S.rows b=true∧(S.val b).cmp (loP S.n S.rows b)<0
def TS.upB (S:TS)(b:Nat):Prop:=hasUp S.n b=true∧0<(S.val b).cmp (upP S.n S.rows b)
def TS.brkQ (S:TS)(l:List Nat)(st:Int × Int):Prop:=
 (st=(-1,0)∧∀b∈l,¬S.lowB b∧¬S.upB b)∨
 ∃b∈l,((st=((b:Int),1)∧S.lowB b)∨(st=((b:Int),-1)∧¬S.lowB b∧S.upB b))∧∀b'∈l,S.lowB b'∨S.upB b'→b≤b'
theorem brkQ_step {S:TS}{l:List Nat}{st:Int × Int}(h:S.brkQ l st)(c:Nat):S.brkQ (l++ [c]) (S.brkStep st c):=by
 unfold TS.brkStep
 by_cases h1:0≤st.1∧st.1<(c:Int)
 ·rw [if_pos h1]
  rcases h with⟨rfl,_⟩ | ⟨b,hb,hs,hm⟩
  ·exact absurd h1.1 (by decide)
  ·refine .inr ⟨b,List.mem_append_left _ hb,hs,fun b' hb' hx=> ?_⟩
   rcases List.mem_append.1 hb' with h' | h'
   ·exact hm b' h' hx
   ·rw [List.mem_singleton.1 h']
    rcases hs with⟨rfl,_⟩ | ⟨rfl,_⟩<;>(have:=h1.2;simp only at this;omega)
 rw [if_neg h1]
 by_cases h2:hasLo S.n S.rows c=true∧(S.val c).cmp (loP S.n S.rows c)<0
 ·rw [if_pos h2]
  refine .inr ⟨c,by simp,.inl ⟨rfl,h2⟩,fun b' hb' hx=> ?_⟩
  rcases List.mem_append.1 hb' with h' | h'
  ·rcases h with⟨rfl,hn⟩ | ⟨b,hb,hs,hm⟩
   ·exact absurd hx (by have:=hn b' h';rintro(h | h);exact this.1 h;exact this.2 h)
   ·have:=hm b' h' hx
    rcases hs with⟨rfl,_⟩ | ⟨rfl,_⟩<;>(simp only at h1;omega)
  ·rw [List.mem_singleton.1 h'];exact Nat.le_refl _
 rw [if_neg h2]
 by_cases h3:hasUp S.n c=true∧0<(S.val c).cmp (upP S.n S.rows c)
 ·rw [if_pos h3]
  refine .inr ⟨c,by simp,.inr ⟨rfl,h2,h3⟩,fun b' hb' hx=> ?_⟩
  rcases List.mem_append.1 hb' with h' | h'
  ·rcases h with⟨rfl,hn⟩ | ⟨b,hb,hs,hm⟩
   ·exact absurd hx (by have:=hn b' h';rintro(h | h);exact this.1 h;exact this.2 h)
   ·have:=hm b' h' hx
    rcases hs with⟨rfl,_⟩ | ⟨rfl,_⟩<;>(simp only at h1;omega)
  ·rw [List.mem_singleton.1 h'];exact Nat.le_refl _
 rw [if_neg h3]
 rcases h with⟨rfl,hn⟩ | ⟨b,hb,hs,hm⟩
 ·refine .inl ⟨rfl,fun b hb=> ?_⟩
  rcases List.mem_append.1 hb with h' | h'
  ·exact hn b h'
  ·rw [List.mem_singleton.1 h'];exact⟨h2,h3⟩
 ·refine .inr ⟨b,List.mem_append_left _ hb,hs,fun b' hb' hx=> ?_⟩
  rcases List.mem_append.1 hb' with h' | h'
  ·exact hm b' h' hx
  ·rw [List.mem_singleton.1 h']at hx
   rcases hx with h | h
   ·exact absurd h h2
   ·exact absurd h h3
theorem brkQ_fold {S:TS}:∀(l pre:List Nat) (st:Int × Int),S.brkQ pre st→S.brkQ (pre++l) (l.foldl S.brkStep st)
 | [],pre,st,h=>by rw [List.append_nil];exact h
 | c::l,pre,st,h=>by
  have:=brkQ_fold l (pre++ [c]) _ (brkQ_step h c);rw [List.append_assoc]at this;exact this
theorem broken_spec (S:TS):S.brkQ S.basic S.broken:=by
 have:=brkQ_fold (S:=S) S.basic [] (-1,0) (.inl ⟨rfl,fun b hb=>absurd hb (by simp)⟩)
 exact this
structure Brk (S:TS)(b:Nat)(way:Int):Prop where
 mem:b∈S.basic
 eq:S.broken=((b:Int),way)
 out:way=1∧S.lowB b∨way= -1∧¬S.lowB b∧S.upB b
 least:∀b'∈S.basic,S.lowB b'∨S.upB b'→b≤b'
theorem broken_or (S:TS):(S.broken.1<0∧∀b∈S.basic,¬S.lowB b∧¬S.upB b)∨∃b way,Brk S b way:=by
 rcases broken_spec S with⟨h,h'⟩ | ⟨b,hb,hs,hm⟩
 ·exact .inl ⟨by rw [h];decide,h'⟩
 ·rcases hs with⟨h1,h2⟩ | ⟨h1,h2⟩
  ·exact .inr ⟨b,1,hb,h1,.inl ⟨rfl,h2⟩,hm⟩
  ·exact .inr ⟨b,-1,hb,h1,.inr ⟨rfl,h2⟩,hm⟩
theorem Brk.nonneg {S:TS}{b:Nat}{way:Int}(h:Brk S b way):¬S.broken.1<0:=by rw [h.eq];simp only;omega
theorem Brk.way {S:TS}{b:Nat}{way:Int}(h:Brk S b way):way=1∨way= -1:=by
 rcases h.out with⟨h,_⟩ | ⟨h,_⟩
 ·exact .inl h
 ·exact .inr h
theorem Brk.n_le {S:TS}{b:Nat}{way:Int}(h:Brk S b way):S.n≤b:=by
 rcases h.out with⟨_,h⟩ | ⟨_,_,h⟩
 ·have:=h.1
  unfold hasLo at this;exact(of_decide_eq_true this).1
 ·have:=h.1
  unfold hasUp at this;exact of_decide_eq_true this
theorem line_spec {S:TS}{b:Nat}(h:b∈S.basic):S.lineOf (b:Int)<S.basic.length∧S.bs (S.lineOf (b:Int))=b:=by
 have hlt:S.lineOf (b:Int)<S.basic.length:=by
  unfold TS.lineOf;exact List.findIdx_lt_length_of_exists ⟨b,h,by simp⟩
 refine⟨hlt,?_⟩;rw [bs_at hlt];have h1:=List.findIdx_getElem (p:=fun(x:Nat)=>decide ((x:Int)=(b:Int))) (xs:=S.basic) (w:=hlt)
 have h2:((S.basic[S.lineOf (b:Int)]:Nat):Int)=(b:Int):=of_decide_eq_true h1;omega
def TS.okE (S:TS)(i:Nat)(way:Int)(v:Nat):Prop:=S.cell i v≠0∧S.canB v (way*(S.cell i v).num.sign)=true
theorem enter_some {S:TS}{i e:Nat}{way:Int}(h:S.enter i way=some e):e<S.n+S.rows.length∧S.okE i way e∧∀v,v<e→¬S.okE i way v:=by
 unfold TS.enter at h;rw [List.find?_range_eq_some]at h;simp only [Bool.and_eq_true,decide_eq_true_eq]at h;obtain⟨h1,h2,h3⟩:=h;refine⟨List.mem_range.1 h2,h1,fun v hv hx=> ?_⟩
 have:=h3 v hv;simp only [Bool.not_eq_true',Bool.and_eq_false_iff,decide_eq_false_iff_not]at this
 rcases this with h | h
 ·exact h hx.1
 ·rw [hx.2]at h;exact absurd h (by decide)
theorem enter_none {S:TS}{i:Nat}{way:Int}(h:S.enter i way=none){v:Nat}(hv:v<S.n+S.rows.length):¬S.okE i way v:=by
 unfold TS.enter at h;rw [List.find?_eq_none]at h;intro hx;exact h v (List.mem_range.2 hv) (by simp only [Bool.and_eq_true,decide_eq_true_eq];exact hx)
theorem lo_is_up {n v:Nat}{rows:List Rw}(h:hasLo n rows v=true):loP n rows v=upP n rows v:=by
 unfold hasLo at h;have h:=of_decide_eq_true h;unfold loP upP;rw [if_neg (by rintro(h' | h')<;>omega),if_neg (by omega),if_neg (by omega)]
theorem Brk.to_up {S:TS}{b:Nat}{way:Int}(h:Brk S b way):(if 0<way then loP S.n S.rows b else upP S.n S.rows b)=upP S.n S.rows b:=by
 rcases h.out with⟨e,h⟩ | ⟨e,_⟩
 ·rw [if_pos (by omega),lo_is_up h.1]
 ·rw [if_neg (by omega)]
theorem Inv.not_basic {n:Nat}{rows:List Rw}{S:TS}(h:Inv n rows S){i v:Nat}(hi:i<rows.length)(hv:S.cell i v≠0):v∉S.basic:=by
 intro hm;obtain⟨j,hj,rfl⟩:=mem_bs hm;have e:=h.hr;have hbl:=h.wf.bl;rw [h.hr]at hbl;exact hv (h.zc i j hi (by omega))
theorem set_mem {l:List Nat}{i v k:Nat}(hi:i<l.length)(h:k∉l.set i v):k≠v∧∀j (hj:j<l.length),j≠i→l[j]≠k:=by
 constructor
 ·rintro rfl
  exact h (List.mem_set hi k)
 ·rintro j hj hne rfl
  refine h ?_;have e:(l.set i v)[j]'(by simpa using hj)=l[j]:=by rw [List.getElem_set,if_neg (Ne.symm hne)]
  rw [← e];exact List.getElem_mem _
theorem next_inv {n:Nat}{rows:List Rw}{S:TS}(h:Inv n rows S){b e:Nat}{way:Int}(hb:Brk S b way)(he:S.enter (S.lineOf b) way=some e):Inv n rows (S.next b way e):=by
 obtain⟨hi,hib⟩:=line_spec hb.mem;have hw:=h.wf;have hn:=h.hn;have hr:=h.hr;rw [hw.bl]at hi;obtain⟨i,hii⟩:∃i,i=S.lineOf (b:Int):=⟨_,rfl⟩;rw [← hii]at hi hib he;obtain⟨hek,⟨hc,_⟩,_⟩:=enter_some he;have heb:e∉S.basic:=h.not_basic (i:=i) (by rw [← hr];exact hi) hc
 obtain⟨d,hd⟩:∃d,d=S.by b i e way:=⟨_,rfl⟩
 have hnx:S.next b way e=(S.move e d).pivot i e:=by
  unfold TS.next;rw [← hii,←hd]
 rw [hnx];have hw1:=mv_wf hw e d;have hp:=piv_of (S:=S.move e d) hw1 hi hek heb hc;have hcell:(S.move e d).cell=S.cell:=rfl;have hbs:(S.move e d).bs=S.bs:=rfl;have hK:(S.move e d).n+(S.move e d).rows.length=n+rows.length:=by show S.n+S.rows.length=_;rw [hn,hr]
 have hm:(S.move e d).rows.length=rows.length:=by show S.rows.length=_;rw [hr]
 rw [hK,hm,hcell,hbs]at hp;have hil:i<S.basic.length:=by rw [hw.bl];exact hi
 have hsat:∀x,Sat (n+rows.length) rows.length ((S.move e d).pivot i e).cell ((S.move e d).pivot i e).bs x↔Sat (n+rows.length) rows.length S.cell S.bs x:=fun x=>hp.sat h.zc x
 have hbsn:∀j,j<rows.length→S.bs j<n+rows.length:=fun j hj=>by have:=hw.lt (i:=j) (by rw [hr];exact hj);rw [hn,hr]at this;exact this
 have hbsv:∀j,j<rows.length→S.bs j≠e:=fun j hj hx=>heb (hx ▸ bs_mem (by rw [hw.bl,hr];exact hj))
 have hek':e<n+rows.length:=by rw [hn,hr]at hek;exact hek
 have hnot:∀k,k<n+rows.length→k≠e→(∀j,j<rows.length→S.bs j≠k)→(S.move e d).val k=S.val k:=by
  intro k _ hk hkb;refine move_not hw hek heb hk fun hm=> ?_
  obtain⟨j,hj,hjk⟩:=mem_bs hm;exact hkb j (by rw [← hr,←hw.bl];exact hj) hjk
 refine⟨pivot_wf hw1 hi hek heb,hn,hr,fun x=>(hsat x).trans (h.sat x),hp.zc h.zc,?_,?_,?_⟩
 ·refine (hsat _).2 (sat_move h.zc (x:=fun k=>(S.val k).n) (v:=e) (d:=d.n) hek' h.vn hbsn hbsv ?_ ?_ ?_)
  ·show ((S.move e d).val e).n=_
   rw [move_at hw hek heb];rfl
  ·intro j hj
   show((S.move e d).val (S.bs j)).n=_;rw [move_bs hw hek heb (by rw [hr];exact hj)];rfl
  ·intro k hk hke hkb
   show((S.move e d).val k).n=_;rw [hnot k hk hke hkb]
 ·refine (hsat _).2 (sat_move h.zc (x:=fun k=>(S.val k).s) (v:=e) (d:=d.s) hek' h.vs hbsn hbsv ?_ ?_ ?_)
  ·show ((S.move e d).val e).s=_
   rw [move_at hw hek heb];rfl
  ·intro j hj
   show((S.move e d).val (S.bs j)).s=_;rw [move_bs hw hek heb (by rw [hr];exact hj)];rfl
  ·intro k hk hke hkb
   show((S.move e d).val k).s=_;rw [hnot k hk hke hkb]
 ·intro k hk hkb
  have hkb:k∉S.basic.set i e:=hkb;obtain⟨hke,hkj⟩:=set_mem hil hkb;show(S.move e d).val k=_
  by_cases hm:k∈S.basic
  ·obtain ⟨j,hj,rfl⟩:=List.getElem_of_mem hm
   have hji:j=i:=Classical.byContradiction fun hne=>hkj j hj hne rfl
   subst hji;rw [← bs_at hj,move_bs hw hek heb hi,hd];unfold TS.by
   rw [hib,hb.to_up,hn,hr];generalize upP n rows b=u;generalize S.val b=x;obtain⟨u1,u2⟩:=u;obtain⟨x1,x2⟩:=x;unfold Pr.add Pr.mul Pr.sub;simp only [Pr.mk.injEq]
   constructor<;>grind
  ·rw [move_not hw hek heb hke hm]
   exact h.up k hk hm
theorem feas_succ {f:Nat}{S:TS}{b:Nat}{way:Int}(hb:Brk S b way):TS.feas (f+1) S=match S.enter (S.lineOf b) way with
  | none=> .no (S.refK (S.lineOf b) way (S.n+S.rows.length))
  | some e=>TS.feas f (S.next b way e):=by
 rw [TS.feas,if_neg hb.nonneg,hb.eq];simp only [Int.toNat_natCast]
 cases S.enter (S.lineOf (b:Int)) way<;>rfl
theorem feas_yes {n:Nat}{rows:List Rw}:∀(f:Nat) (S T:TS),Inv n rows S→TS.feas f S= .yes T→Inv n rows T∧∀b∈T.basic,¬T.lowB b∧¬T.upB b
 | 0,S,T,h,hf=>by
  unfold TS.feas at hf
  split at hf
  ·cases hf
   rename_i hb
   rcases broken_or S with⟨_,h'⟩ | ⟨b,way,hb'⟩
   ·exact ⟨h,h'⟩
   ·exact absurd hb hb'.nonneg
  ·cases hf
 | f+1,S,T,h,hf=>by
  rcases broken_or S with⟨hb,h'⟩ | ⟨b,way,hb'⟩
  ·unfold TS.feas at hf
   rw [if_pos hb]at hf
   cases hf
   exact⟨h,h'⟩
  ·rw [feas_succ hb']at hf
   split at hf
   ·cases hf
   ·rename_i e he
    exact feas_yes f _ T (next_inv h hb' he) hf
theorem feas_no {n:Nat}{rows:List Rw}:∀(f:Nat) (S:TS) (l:List Rat),Inv n rows S→TS.feas f S= .no l→∃T b way,Inv n rows T∧Brk T b way∧T.enter (T.lineOf b) way=none∧l=T.refK (T.lineOf b) way (T.n+T.rows.length)
 | 0,S,l,h,hf=>by
  unfold TS.feas at hf
  split at hf<;>cases hf
 | f+1,S,l,h,hf=>by
  rcases broken_or S with⟨hb,h'⟩ | ⟨b,way,hb'⟩
  ·unfold TS.feas at hf
   rw [if_pos hb]at hf
   cases hf
  ·rw [feas_succ hb']at hf
   split at hf
   ·rename_i he
    cases hf
    exact⟨S,b,way,h,hb',he,rfl⟩
   ·rename_i e he
    exact feas_no f _ l (next_inv h hb' he) hf
theorem nb_of {k:Nat}{q:Rat}{B:Nat}(hk:0<k)(h:QB B q)(hB:B<4294967296^k):NB (k+k) q:=by
 obtain⟨a,b,h1,h2,h3,h4⟩:=h;have hb:(b:Rat)≠0:=by exact_mod_cast h1
 have e:q=(a:Rat)/(b:Rat):=by grind
 rw [e];exact NB.div (nb_big hk (Nat.lt_of_le_of_lt h3 hB)) (nb_big hk (Nat.lt_of_le_of_lt h4 hB)) hb
theorem bound_big {n:Nat}(hn:n≤12):(n+1)*(1000000*((n+1)*1000000)^n)<4294967296^12:=by
 have h1:(n+1)*(1000000*((n+1)*1000000)^n)≤13*(1000000*(13*1000000)^12):=by
  refine Nat.mul_le_mul (by omega) (Nat.mul_le_mul (Nat.le_refl _) ?_)
  exact Nat.le_trans (Nat.pow_le_pow_left (Nat.mul_le_mul (by omega) (Nat.le_refl _)) _) (Nat.pow_le_pow_right (by decide) hn)
 exact Nat.lt_of_le_of_lt h1 (by decide)
theorem Inv.rows_ok {n:Nat}{rows:List Rw}{S:TS}(h:Inv n rows S):∀r∈rows,RowOK r n:=by
 have:=h.wf.rok;rw [h.hr,h.hn]at this;exact this
theorem Inv.cellQ {n:Nat}{rows:List Rw}{S:TS}(h:Inv n rows S){i v:Nat}(hi:i<rows.length)(hv:v<n+rows.length):QB ((n+1)*(1000000*((n+1)*1000000)^n)) (S.cell i v):=by
 refine cell_bound (A:=rowA rows) (by decide) (fun i j hi _=> ?_) (fun x hx=>(h.sat x).2 hx) h.zc (fun j hj=> ?_) (fun i j hi hj e=> ?_) hi hv
 ·have:=rowA_fit h.rows_ok (j:=j) hi
  unfold fitI at this;omega
 ·have:=h.wf.lt (i:=j) (by rw [h.hr];exact hj)
  rw [h.hn,h.hr]at this;exact this
 ·exact h.wf.inj (by rw [h.hr];exact hi) (by rw [h.hr];exact hj) e
theorem Inv.valQ {n:Nat}{rows:List Rw}{S:TS}(h:Inv n rows S){v:Nat}(hv:v<n+rows.length):QB ((n+1)*(1000000*((n+1)*1000000)^n)) (S.val v).n∧QB ((n+1)*(1000000*((n+1)*1000000)^n)) (S.val v).s:=by
 have hA:∀i j,i<rows.length→j<n→(rowA rows i j).natAbs≤1000000:=by
  intro i j hi _;have:=rowA_fit h.rows_ok (j:=j) hi;unfold fitI at this;omega
 have hlt:∀j,j<rows.length→S.bs j<n+rows.length:=by
  intro j hj;have:=h.wf.lt (i:=j) (by rw [h.hr];exact hj)
  rw [h.hn,h.hr]at this;exact this
 have hinj:∀i j,i<rows.length→j<rows.length→S.bs i=S.bs j→i=j:=fun i j hi hj e=>h.wf.inj (by rw [h.hr];exact hi) (by rw [h.hr];exact hj) e
 have hup:∀k,k<n+rows.length→(∀j,j<rows.length→S.bs j≠k)→S.val k=upP n rows k:=by
  intro k hk hkb;refine h.up k hk fun hm=> ?_
  obtain⟨j,hj,hjk⟩:=mem_bs hm;exact hkb j (by rw [← h.hr,←h.wf.bl];exact hj) hjk
 constructor
 ·refine value_bound (A:=rowA rows) (M:=1000000) (by decide) hA (fun x hx=>(h.sat x).2 hx) h.zc hlt hinj h.vn (fun k=>if k<n then 0 else(rows.getD (k-n) nilRw).to) (fun k hk hkb=> ?_) hv
  rw [hup k hk hkb];unfold upP
  split
  ·exact ⟨rfl,by simp⟩
  ·refine ⟨rfl,?_⟩
   have e2:rows.getD (k-n) nilRw=rows[k-n]:=by rw [List.getD_eq_getElem?_getD,List.getElem?_eq_getElem (by omega)];rfl
   rw [e2];have:=(h.rows_ok _ (List.getElem_mem (show k-n<rows.length by omega))).fto
   unfold fitI at this;omega
 ·refine value_bound (A:=rowA rows) (M:=1000000) (by decide) hA (fun x hx=>(h.sat x).2 hx) h.zc hlt hinj h.vs (fun k=>if k<n then 0 else if(rows.getD (k-n) nilRw).kind=2 then -1 else 0) (fun k hk hkb=> ?_) hv
  rw [hup k hk hkb];unfold upP
  split
  ·exact ⟨rfl,by simp⟩
  ·split
   ·exact ⟨rfl,by simp⟩
   ·exact ⟨rfl,by simp⟩
theorem Inv.nb {n:Nat}{rows:List Rw}{S:TS}(h:Inv n rows S):S.nb 100:=by
 have hn:n≤12:=by have:=h.wf.n12;rw [h.hn]at this;exact this
 have hB:=bound_big hn;refine⟨fun p hp=> ?_,fun l hl q hq=> ?_⟩
 ·obtain ⟨v,hv,rfl⟩:=List.getElem_of_mem hp
  have e:S.val v=S.vals[v]:=by unfold TS.val;rw [List.getD_eq_getElem?_getD,List.getElem?_eq_getElem hv];rfl
  rw [← e];have hv':v<n+rows.length:=by rw [h.wf.vl,h.hn,h.hr]at hv;exact hv
  have:=h.valQ hv';exact⟨(nb_of (by decide) this.1 hB).mono (by omega),(nb_of (by decide) this.2 hB).mono (by omega)⟩
 ·obtain ⟨i,hi,rfl⟩:=List.getElem_of_mem hl
  obtain⟨v,hv,rfl⟩:=List.getElem_of_mem hq;rw [← cell_at hi hv];have hv':v<n+rows.length:=by rw [h.wf.cr _ (List.getElem_mem hi),h.hn,h.hr]at hv;exact hv
  exact(nb_of (by decide) (h.cellQ (by rw [h.wf.cl,h.hr]at hi;exact hi) hv') hB).mono (by omega)
end Go.Proofs.YtaiffmebphhdaaaGreat
