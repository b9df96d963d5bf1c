/- The reference's SomePoint: plain parts. -/
import Derived.Test.YtamjmcdlddocgaaGreatFmF
namespace Go.Proofs.YtamjmcdlddocgaaGreat
set_option linter.unusedSimpArgs false
set_option linter.unusedVariables false
open Go.ChangeShapes Go.WideShapes Go.RowKit
def fmI (n k:Nat)(l:List WR)(i:Nat):List WR:=(l.take i).flatMap fun a=>if a.c k=0 then [a]else if 0<a.c k then(l.filter fun b=>decide (b.c k<0)).map (joinW n k a)else []
def fmO (k:Nat)(a:WR):List WR:=if a.c k=0 then [a]else []
def fmJ (n k:Nat)(l:List WR)(a:WR)(j:Nat):List WR:=if 0<a.c k then((l.take j).filter fun b=>decide (b.c k<0)).map (joinW n k a)else []
section
variable {n k:Nat} {l:List WR} {a:WR}
theorem fmI_all:fmI n k l l.length=fmK n k l:=by unfold fmI fmK;rw [List.take_length]
theorem fmJ_zero:fmJ n k l a 0= []:=by unfold fmJ;split<;>simp
theorem fmJ_not (h:¬0<a.c k)(j:Nat):fmJ n k l a j= []:=by unfold fmJ;rw [if_neg h]
theorem fmJ_succ (h:0<a.c k){j:Nat}(hj:j<l.length):fmJ n k l a (j+1)=fmJ n k l a j++(if l[j].c k<0 then [joinW n k a l[j]]else []):=by
 unfold fmJ;rw [if_pos h,if_pos h,List.take_succ_eq_append_getElem hj,List.filter_append,List.map_append]
 congr 1
 by_cases hc:l[j].c k<0
 ·rw [if_pos hc];simp [hc]
 ·rw [if_neg hc];simp [hc]
theorem fmI_succ {i:Nat}(hi:i<l.length):fmI n k l (i+1)=fmI n k l i++fmO k l[i]++fmJ n k l l[i] l.length:=by
 unfold fmI fmO fmJ;rw [List.take_succ_eq_append_getElem hi,List.flatMap_append,List.append_assoc,List.flatMap_singleton,List.take_length]
 congr 1
 by_cases h0:l[i].c k=0
 ·rw [if_pos h0,if_pos h0,if_neg (by grind)];rfl
 ·rw [if_neg h0,if_neg h0];rfl
theorem fmJ_len (j:Nat):(fmJ n k l a j).length≤j:=by
 unfold fmJ
 split
 ·rw [List.length_map]
  exact Nat.le_trans (List.length_filter_le _ _) (by rw [List.length_take];omega)
 ·simp
theorem fmO_len:(fmO k a).length≤1:=by unfold fmO;split<;>simp
theorem fmO_J (h:0<l.length):(fmO k a).length+(fmJ n k l a l.length).length≤l.length:=by
 have:=fmJ_len (n:=n) (k:=k) (l:=l) (a:=a) l.length;unfold fmO
 by_cases h0:a.c k=0
 ·rw [if_pos h0,fmJ_not (by grind)];simp only [List.length_singleton,List.length_nil];omega
 ·rw [if_neg h0];simp only [List.length_nil];omega
theorem fmI_len:∀i,i≤l.length→(fmI n k l i).length≤i*l.length
 | 0,_=>by simp [fmI]
 | i+1,h=>by
  have ih:=fmI_len i (by omega)
  have h2:=fmO_J (n:=n) (k:=k) (a:=l[i]) (show 0<l.length by omega)
  rw [fmI_succ (by omega),List.length_append,List.length_append,Nat.add_mul,Nat.one_mul]
  omega
theorem fmK_len:(fmK n k l).length≤l.length*l.length:=by rw [← fmI_all];exact fmI_len _ (Nat.le_refl _)
def WR.nb (m:Nat)(r:WR):Prop:=(∀j,NB m (r.c j))∧NB m r.tt
theorem nb_zeroW (m:Nat)(h:1≤m):NB m 0:=by
 have h1:NB 1 ((0:Int):Rat):=nb_int (by omega)
 exact(show NB 1 (0:Rat)from h1).mono h
theorem joinW_nb {m:Nat}{b:WR}(ha:a.nb m)(hb:b.nb m):(joinW n k a b).nb (4*m+1):=by
 refine⟨fun j=> ?_,?_⟩
 ·by_cases hj:j<n
  ·rw [joinW_c hj]
   exact(((hb.1 k).neg.mul (ha.1 j)).add ((ha.1 k).mul (hb.1 j))).mono (by omega)
  ·have:(joinW n k a b).c j=0:=by
    unfold WR.c joinW;rw [List.getD_eq_getElem?_getD,List.getElem?_eq_none (by simp;omega)]
    rfl
   rw [this];exact nb_zeroW _ (by omega)
 ·show NB _ (-b.c k*a.tt+a.c k*b.tt)
  exact(((hb.1 k).neg.mul ha.2).add ((ha.1 k).mul hb.2)).mono (by omega)
theorem fmK_nb {m:Nat}(h:∀r∈l,r.nb m):∀r∈fmK n k l,r.nb (4*m+1):=by
 intro r hr;obtain⟨a,ha,hr⟩:=List.mem_flatMap.1 hr
 split at hr
 ·rw [List.mem_singleton.1 hr]
  exact⟨fun j=>((h a ha).1 j).mono (by omega),(h a ha).2.mono (by omega)⟩
 ·split at hr
  ·obtain ⟨b,hb,rfl⟩:=List.mem_map.1 hr
   exact joinW_nb (h a ha) (h b (List.mem_filter.1 hb).1)
  ·cases hr
end
theorem WR.nb.mono {m m':Nat}{r:WR}(h:r.nb m)(hm:m≤m'):r.nb m':=⟨fun j=>(h.1 j).mono hm,h.2.mono hm⟩
theorem sq_le {x y:Nat}(h:x≤y):x*x≤y*y:=Nat.mul_le_mul h h
theorem fm_way {n:Nat}{l:List WR}(hl:l.length≤16)(hn:∀r∈l,r.nb 1):∀k,k≤3→((fmAll n k l).length≤4294967296∧(k≤2→(fmAll n k l).length≤65536))∧∀r∈fmAll n k l,r.nb 85:=by
 have h0:(fmAll n 0 l).length≤16:=hl;have h1:(fmAll n 1 l).length≤256:=Nat.le_trans fmK_len (sq_le h0);have h2:(fmAll n 2 l).length≤65536:=Nat.le_trans fmK_len (sq_le h1);have h3:(fmAll n 3 l).length≤4294967296:=Nat.le_trans fmK_len (sq_le h2);have g0:∀r∈fmAll n 0 l,r.nb 1:=hn;have g1:∀r∈fmAll n 1 l,r.nb 5:=fmK_nb g0;have g2:∀r∈fmAll n 2 l,r.nb 21:=fmK_nb g1;have g3:∀r∈fmAll n 3 l,r.nb 85:=fmK_nb g2;intro k hk;obtain rfl | rfl | rfl | rfl:k=0∨k=1∨k=2∨k=3:=by omega
 ·exact ⟨⟨by omega,fun _=>by omega⟩,fun r hr=>(g0 r hr).mono (by omega)⟩
 ·exact ⟨⟨by omega,fun _=>by omega⟩,fun r hr=>(g1 r hr).mono (by omega)⟩
 ·exact ⟨⟨by omega,fun _=>by omega⟩,fun r hr=>(g2 r hr).mono (by omega)⟩
 ·exact ⟨⟨by omega,fun h=>by omega⟩,g3⟩
theorem rowsW_len {n:Nat}:∀rows:List Rw,(rowsW n rows).length≤2*rows.length
 | []=>by simp [rowsW]
 | r::l=>by
  have:=rowsW_len (n:=n) l;unfold rowsW at *;rw [List.flatMap_cons,List.length_append,List.length_cons]
  split
  ·simp only [List.length_cons,List.length_nil];omega
  ·simp only [List.length_cons,List.length_nil];omega
theorem zq_getD {f:Nat→Int}{n j:Nat}:(zq f n).getD j 0=if j<n then((f j:Int):Rat)else 0:=by
 unfold zq;rw [List.getD_eq_getElem?_getD,List.getElem?_map]
 split
 ·rename_i h;rw [List.getElem?_range h];rfl
 ·rename_i h;rw [List.getElem?_eq_none (by simp;omega)];rfl
theorem nb_fitW {x:Int}(h:fitI x):NB 1 (x:Rat):=nb_int (by unfold fitI at h;omega)
theorem rowsW_nb {n:Nat}{rows:List Rw}(hok:∀r∈rows,RowOK r (n:Int)):∀r∈rowsW n rows,r.nb 1:=by
 intro x hx;obtain⟨r,hr,hx⟩:=List.mem_flatMap.1 hx;have h:=hok r hr;have hc:∀j,fitI (r.of.getD j 0):=fun j=>by
  rw [List.getD_eq_getElem?_getD]
  rcases hg:r.of[j]? with _ | y
  ·unfold fitI;simp
  ·exact h.fit _ (List.mem_of_getElem? hg)
 have hng:∀ {y:Int},fitI y→fitI (-y):=fun {y} hy=>by unfold fitI at *;omega
 have hz:∀ {f:Nat→Int},(∀j,fitI (f j))→∀j,NB 1 ((zq f n).getD j 0):=fun {f} hf j=>by
  rw [zq_getD]
  split
  ·exact nb_fitW (hf j)
  ·exact nb_zeroW 1 (Nat.le_refl _)
 have h1:(wrX n r).nb 1:=⟨hz hc,nb_fitW h.fto⟩;have h2:(wrY n r).nb 1:=⟨hz fun j=>hng (hc j),nb_fitW (hng h.fto)⟩
 split at hx
 ·rcases List.mem_cons.1 hx with rfl | hx
  ·exact h1
  ·rw [List.mem_singleton.1 hx];exact h2
 ·rw [List.mem_singleton.1 hx];exact h1
theorem signZ (q:Rat):(q=0∧q.num.sign=0)∨(0<q∧q.num.sign=1)∨(q<0∧q.num.sign= -1):=by
 rcases Int.lt_trichotomy q.num 0 with h | h | h
 ·have:q<0:=by rw [← Rat.not_le,←Rat.num_nonneg];omega
  exact .inr (.inr ⟨this,Int.sign_eq_neg_one_of_neg h⟩)
 ·exact .inl ⟨Rat.num_eq_zero.1 h,by rw [h];rfl⟩
 ·have h1:0≤q:=Rat.num_nonneg.1 (by omega)
  have h2:q≠0:=fun e=>by rw [e]at h;exact absurd h (by decide)
  exact .inr (.inl ⟨by grind,Int.sign_eq_one_of_pos h⟩)
theorem OwnWR.get {w:World}{base n m cap:Nat}{oa:Option Addr}{L:List WR}(h:OwnWR w base n (.slice oa m cap) L)(hn:0<n){i:Nat}(hi:i<L.length):
  ∃g g2 o2 cs bt,oa=some ⟨g,0,none⟩∧g<w.heap.size∧g2<w.heap.size∧n≤cs∧cs≤maxLen∧w.cell? ⟨g,i*3,none⟩=some (.slice (some ⟨g2,o2,none⟩) n cs)∧w.cell? ⟨g,i*3+1,none⟩=some (.pointer (some ⟨bt,0,none⟩))∧w.cell? ⟨g,i*3+2,none⟩=some (.bool L[i].less)∧
   IsWR w n (.agg #[.slice (some ⟨g2,o2,none⟩) n cs,.pointer (some ⟨bt,0,none⟩),.bool L[i].less]) L[i]∧IsRat w bt 0 L[i].tt∧∀j,j<n→∃b,w.cell? ⟨g2,o2+j,none⟩=some (.pointer (some ⟨b,0,none⟩))∧IsRat w b 0 (L[i].c j):=by
 obtain⟨g,sv,b,e,hg,c0,c1,c2,hp,hl,ht⟩:=h.at hi;obtain⟨os,cs,e2,h1,h2⟩:=hp.len;rw [hl]at e2 h1;subst e2;obtain⟨g2,o2,e3,hg2,hall⟩:=hp.all hl hn;subst e3;exact⟨g,g2,o2,cs,b,e,hg,hg2,h1,h2,c0,c1,c2,⟨_,b,rfl,hp,hl,ht⟩,ht,hall⟩
end Go.Proofs.YtamjmcdlddocgaaGreat
