/- Package tableau's T: what a pivot leaves. -/
import Derived.Test.YtaiffmebphhdaaaGreatTbG
namespace Go.Proofs.YtaiffmebphhdaaaGreat
set_option linter.unusedSimpArgs false
set_option linter.unusedVariables false
open Go.ChangeShapes Go.WideShapes Go.RowKit Go.Maps
theorem LT.setRow {w0 w w':World}{bT nm:Nat}{S:TS}{L:Lay}(h:LT w0 w bT nm S L){i:Nat}(hi:i<S.cells.length){q':List Rat}(hl:q'.length=S.cells[i].length)(hk:Keep au w0 w')(ho:∀b,b<w.heap.size→b≠L.gs i→w'.heap[b]? =w.heap[b]?)(hq:aY w' (L.gs i) q'):
  LT w0 w' bT nm {S with cells:=S.cells.set i q'} L where
 k:=hk
 t:=by
  have:=aL.same h.t (ho bT (aL.lt h.t) (h.ap.st i hi).symm);simp only [List.length_set];exact this
 rows:=h.rows
 b:=fun hb=>⟨(h.b hb).1,(h.b hb).2.same (ho _ (h.b hb).2.lt (h.ap.sb i hi).symm)⟩
 c:=fun hc=>by
  have hc':S.cells≠ []:=by intro h0;rw [h0]at hi;simp at hi
  obtain⟨h1,A,hA,hA'⟩:=h.c hc';refine⟨h1,A,hA.same (ho _ hA.lt (h.ap.sc i hi).symm),fun j hj=> ?_⟩
  have hj':j<S.cells.length:=by simpa using hj
  rw [hA' j hj']
  by_cases e:i=j
  ·subst e;simp [hl]
  ·simp [List.getElem_set,e]
 r:=fun j hj=>by
  have hj':j<S.cells.length:=by simpa using hj
  by_cases e:i=j
  ·subst e
   simp only [List.getElem_set_self];exact⟨hq,by rw [hl];exact(h.r i hi).2.1,(h.r i hi).2.2⟩
  ·simp only [List.getElem_set,e,if_false]
   exact⟨(h.r j hj').1.same (ho _ (h.r j hj').1.lt (h.ap.ss j i hj' hi (Ne.symm e))),(h.r j hj').2⟩
 v:=h.v.same (ho _ h.v.lt (h.ap.sv i hi).symm)
 cb:=h.cb
 cc:=by simp only [List.length_set];exact h.cc
 cv:=h.cv
 mp:=h.mp.same (ho _ h.mp.lt (h.ap.sm i hi).symm)
 own:=by
  obtain⟨o1,o2,o3,o4,o5,o6⟩:=h.own;exact⟨o1,o2,o3,o4,o5,fun j hj=>o6 j (by simpa using hj)⟩
 ap:=by simp only [List.length_set];exact h.ap
theorem LT.pivotEnd {w0 w w':World}{bT nm nm':Nat}{S:TS}{L:Lay}(h:LT w0 w bT nm S L){i:Nat}(hi:i<S.cells.length)(hib:i<S.basic.length){row:List Rat}{gr cr v:Nat}(hl:row.length=S.cells[i].length)(hk:Keep au w0 w')
  (ho:∀b,b<w.heap.size→b≠L.gc→b≠L.gb→b≠L.gm→w'.heap[b]? =w.heap[b]?)
  (hgc:∀A,aL w L.gc A→aL w' L.gc (A.setIfInBounds i (.slice (some ⟨gr,0,none⟩) row.length cr))) (hgb:∀A,aL w L.gb A→aL w' L.gb (A.setIfInBounds i (.int .i64 (v:Int))))
  (hgm:Ae w' L.gm nm' (S.basic.set i v)) (hr:aY w' gr row) (hcr:row.length≤cr∧cr≤maxLen) (hg0:w0.heap.size≤gr) (g1:gr≠bT) (g2:gr≠L.gb) (g3:gr≠L.gc) (g4:gr≠L.gv) (g5:gr≠L.gm) (g6:∀j,j<S.cells.length→gr≠L.gs j):
  Dz w0 w' bT nm' {S with cells:=S.cells.set i row,basic:=S.basic.set i v}:=by
 have hc':S.cells≠ []:=by intro h0;rw [h0]at hi;simp at hi
 have hb':S.basic≠ []:=by intro h0;rw [h0]at hib;simp at hib
 have hsm:∀ {b},b<w.heap.size→b≠L.gc→b≠L.gb→b≠L.gm→w'.heap[b]? =w.heap[b]? :=fun h1 h2 h3 h4=>ho _ h1 h2 h3 h4
 refine⟨{L with gs:=fun j=>if j=i then gr else L.gs j,cs:=fun j=>if j=i then cr else L.cs j},?_⟩
 constructor
 ·exact hk
 ·have:=aL.same h.t (hsm (aL.lt h.t) h.ap.tc h.ap.tb h.ap.tm)
  simp only [List.length_set];exact this
 ·exact h.rows
 ·intro _
  obtain⟨h1,A,hA,hA'⟩:=h.b hb';refine⟨h1,_,hgb A hA,fun j hj=> ?_⟩
  have hj':j<S.basic.length:=by simpa using hj
  have hja:=(Array.getElem?_eq_some_iff.1 (hA' j hj')).1;rw [Array.getElem?_setIfInBounds]
  by_cases e:i=j
  ·subst e;simp [hja]
  ·simp only [e,if_false]
   rw [hA' j hj'];simp [List.getElem_set,e]
 ·intro _
  obtain⟨h1,A,hA,hA'⟩:=h.c hc';refine⟨h1,_,hgc A hA,fun j hj=> ?_⟩
  have hj':j<S.cells.length:=by simpa using hj
  have hja:=(Array.getElem?_eq_some_iff.1 (hA' j hj')).1;rw [Array.getElem?_setIfInBounds]
  by_cases e:i=j
  ·subst e;simp [hja]
  ·have e':¬j=i:=fun h=>e h.symm
   simp only [e,if_false];rw [hA' j hj'];simp [List.getElem_set,e,e']
 ·intro j hj
  have hj':j<S.cells.length:=by simpa using hj
  by_cases e:i=j
  ·subst e
   simp only [List.getElem_set_self,if_true];exact⟨hr,hcr⟩
  ·have e':¬j=i:=fun h=>e h.symm
   simp only [List.getElem_set,e,e',if_false];exact⟨(h.r j hj').1.same (hsm (h.r j hj').1.lt (h.ap.sc j hj') (h.ap.sb j hj') (h.ap.sm j hj')),(h.r j hj').2⟩
 ·exact h.v.same (hsm h.v.lt h.ap.cv.symm h.ap.bv.symm h.ap.vm)
 ·simp only [List.length_set];exact h.cb
 ·simp only [List.length_set];exact h.cc
 ·exact h.cv
 ·exact hgm
 ·obtain ⟨o1,o2,o3,o4,o5,o6⟩:=h.own
  refine⟨o1,o2,o3,o4,o5,fun j hj=> ?_⟩
  simp only
  split
  ·exact hg0
  ·exact o6 j (by simpa using hj)
 ·have ap:=h.ap
  simp only [List.length_set];refine⟨ap.tb,ap.tc,ap.tv,ap.tm,ap.bc,ap.bv,ap.bm,ap.cv,ap.cm,ap.vm,fun j hj=> ?_,fun j hj=> ?_,fun j hj=> ?_,fun j hj=> ?_,fun j hj=> ?_,fun j k hj hk hjk=> ?_⟩
  ·simp only;split
   ·exact g1
   ·exact ap.st j hj
  ·simp only;split
   ·exact g2
   ·exact ap.sb j hj
  ·simp only;split
   ·exact g3
   ·exact ap.sc j hj
  ·simp only;split
   ·exact g4
   ·exact ap.sv j hj
  ·simp only;split
   ·exact g5
   ·exact ap.sm j hj
  ·simp only
   split
   ·rename_i e1
    split
    ·rename_i e2;exact absurd (e1.trans e2.symm) hjk
    ·exact g6 k hk
   ·split
    ·exact (g6 j hj).symm
    ·exact ap.ss j k hj hk hjk
def qX (q:List Rat)(a:Rat)(k:Nat):List Rat:=(List.range q.length).map fun j=>if j<k then -(q.getD j 0/a)else 0
def TS.pivRow (S:TS)(i v:Nat):List Rat:=((qX (S.cells.getD i []) (S.cell i v) (S.cells.getD i []).length).set v 0).set (S.basic.getD i 0) (1/S.cell i v)
def TS.pivC (S:TS)(i v:Nat):Nat→List (List Rat)
 | 0=>S.cells
 | k+1=>if k=i then S.pivC i v k else(S.pivC i v k).set k (yx (S.cells.getD k []) v (S.pivRow i v))
def TS.pivot (S:TS)(i v:Nat):TS:= {S with cells:=(S.pivC i v S.cells.length).set i (S.pivRow i v),basic:=S.basic.set i v}
theorem qY {q:List Rat}{a:Rat}{k:Nat}:(qX q a k).length=q.length:=by simp [qX]
theorem Pz {q:List Rat}{a:Rat}:qX q a 0=List.replicate q.length 0:=by
 apply List.ext_getElem
 ·simp [qX]
 ·intro i h1 h2;simp [qX]
theorem PD {q:List Rat}{a:Rat}{k:Nat}(hk:k<q.length):(qX q a k).set k (-(q.getD k 0/a))=qX q a (k+1):=by
 apply List.ext_getElem
 ·simp [qX]
 ·intro i h1 h2
  have hi:i<q.length:=by simpa [qX]using h2
  rw [List.getElem_set];simp only [qX,List.getElem_map,List.getElem_range]
  by_cases e:k=i
  ·subst e;rw [if_pos rfl,if_pos (Nat.lt_succ_self k)]
  ·rw [if_neg e]
   by_cases h1:i<k
   ·rw [if_pos h1,if_pos (by omega)]
   ·rw [if_neg h1,if_neg (by omega)]
theorem fZ {S:TS}{i v:Nat}:∀k,(S.pivC i v k).length=S.cells.length
 | 0=>rfl
 | k+1=>by
  unfold TS.pivC
  split
  ·exact fZ k
  ·rw [List.length_set];exact fZ k
theorem DT {S:TS}{i v:Nat}{j:Nat}(hj:j<S.cells.length):∀k,k≤j→(S.pivC i v k)[j]'(by rw [fZ];exact hj)=S.cells[j]
 | 0,_=>rfl
 | k+1,hk=>by
  unfold TS.pivC
  split
  ·exact DT hj k (by omega)
  ·rw [List.getElem_set,if_neg (by omega)];exact DT hj k (by omega)
theorem Af {S:TS}{i v:Nat}(hi:i<S.cells.length):∀k,(S.pivC i v k)[i]'(by rw [fZ];exact hi)=S.cells[i]
 | 0=>rfl
 | k+1=>by
  unfold TS.pivC
  split
  ·exact Af hi k
  ·rename_i h;rw [List.getElem_set,if_neg h];exact Af hi k
end Go.Proofs.YtaiffmebphhdaaaGreat
