/- Package tableau's T: what a store leaves. -/
import Derived.Test.YtaiffmebphhdaaaGreatTbE
namespace Go.Proofs.YtaiffmebphhdaaaGreat
set_option linter.unusedSimpArgs false
set_option linter.unusedVariables false
open Go.ChangeShapes Go.WideShapes Go.RowKit Go.Maps
theorem Blk.same {w w':World}{b:Nat}{A:Array Value}(h:Blk w b A)(e:w'.heap[b]? =w.heap[b]?):Blk w' b A:=by
 obtain⟨t,h⟩:=h;exact⟨t,e.trans h⟩
theorem IBlk.same {w w':World}{b:Nat}{l:List Nat}(h:IBlk w b l)(e:w'.heap[b]? =w.heap[b]?):IBlk w' b l:=by
 obtain⟨A,h,h'⟩:=h;exact⟨A,h.same e,h'⟩
theorem CBlk.same {w w':World}{b:Nat}{l:List (List Rat)}{gs cs:Nat→Nat}(h:CBlk w b l gs cs)(e:w'.heap[b]? =w.heap[b]?):CBlk w' b l gs cs:=by
 obtain⟨A,h,h'⟩:=h;exact⟨A,h.same e,h'⟩
theorem NumBlk.same {w w':World}{b:Nat}{l:List Rat}(h:NumBlk w b l)(e:w'.heap[b]? =w.heap[b]?):NumBlk w' b l:=by
 obtain⟨A,l',h,h'⟩:=h;exact⟨A,l',h.same e,h'⟩
theorem MBlk.same {w w':World}{b n:Nat}{l:List Nat}(h:MBlk w b n l)(e:w'.heap[b]? =w.heap[b]?):MBlk w' b n l:=by
 obtain⟨D,⟨es,clock,hb,F,hs,hD⟩,h'⟩:=h;exact⟨D,⟨es,clock,e.trans hb,F,hs,hD⟩,h'⟩
def w8 (w:World)(g o:Nat)(p:PV):World:=(((((((w.setCell ⟨g,o,none⟩ (.bool p.x.nb)).setCell ⟨g,o+1,none⟩ (.string p.x.nS)).setCell ⟨g,o+2,none⟩ (.bool p.x.db)).setCell ⟨g,o+3,none⟩ (.string p.x.dS)).setCell ⟨g,o+4,none⟩ (.bool p.y.nb)).setCell ⟨g,o+5,none⟩ (.string p.y.nS)).setCell ⟨g,o+6,none⟩ (.bool p.y.db)).setCell ⟨g,o+7,none⟩ (.string p.y.dS)
theorem w8_other {w:World}{g o:Nat}{p:PV}{b:Nat}(h:b≠g):(w8 w g o p).heap[b]? =w.heap[b]? :=by
 unfold w8;rw [heap_setCell_other _ _ _ _ h,heap_setCell_other _ _ _ _ h,heap_setCell_other _ _ _ _ h,heap_setCell_other _ _ _ _ h,heap_setCell_other _ _ _ _ h,heap_setCell_other _ _ _ _ h,heap_setCell_other _ _ _ _ h,heap_setCell_other _ _ _ _ h]
theorem w8_keep {w0 w:World}{g o:Nat}{p:PV}(h:Keep NoS w0 w)(hg:w0.heap.size≤g):Keep NoS w0 (w8 w g o p):=by
 unfold w8;exact(((((((h.setCell _ fun hh=>absurd hh (by omega)).setCell _ fun hh=>absurd hh (by omega)).setCell _ fun hh=>absurd hh (by omega)).setCell _ fun hh=>absurd hh (by omega)).setCell _ fun hh=>absurd hh (by omega)).setCell _ fun hh=>absurd hh (by omega)).setCell _ fun hh=>absurd hh (by omega)).setCell _ fun hh=>absurd hh (by omega)
theorem PairSet {w:World}{g:Nat}{l:List Pr}(h:NumBlk w g (flatP l)){v:Nat}{p:PV}{a:Pr}(hp:p.is a):NumBlk (w8 w g (v*8) p) g (flatP (l.set v a)):=by
 rw [flatP_set];have h1:=(h.set (k:=2*v) (q:=a.n) hp.1).set (k:=2*v+1) (q:=a.s) hp.2;rw [show 2*v*4=v*8 by omega,show(2*v+1)*4=v*8+4 by omega]at h1
 exact h1
theorem PairFree {w:World}{g:Nat}{qs:List Rat}(h:NumBlk w g qs)(o:Nat):w.frozen? ⟨g,o,none⟩=false:=by
 obtain⟨A,l,h,_⟩:=h;exact h.free _
theorem LT.setVals {w0 w w':World}{bT nm:Nat}{S:TS}{L:Lay}(h:LT w0 w bT nm S L){vals':List Pr}(hl:vals'.length=S.vals.length)(hk:Keep NoS w0 w')(ho:∀b,b≠L.gv→w'.heap[b]? =w.heap[b]?)(hv:NumBlk w' L.gv (flatP vals')):
  LT w0 w' bT nm {S with vals:=vals'} L where
 k:=hk
 t:=by
  have:=Blk.same h.t (ho bT h.ap.tv);simp only [hl];exact this
 rows:=h.rows
 b:=fun hb=>⟨(h.b hb).1,(h.b hb).2.same (ho _ h.ap.bv)⟩
 c:=fun hc=>⟨(h.c hc).1,(h.c hc).2.same (ho _ h.ap.cv)⟩
 r:=fun i hi=>⟨(h.r i hi).1.same (ho _ (h.ap.sv i hi)),(h.r i hi).2⟩
 v:=hv
 cb:=h.cb
 cc:=h.cc
 cv:=by simp only [hl];exact h.cv
 mp:=h.mp.same (ho _ h.ap.vm.symm)
 own:=h.own
 ap:=h.ap
def TS.mvK (S:TS)(v:Nat)(d:Pr):Nat→List Pr
 | 0=>S.vals.set v ((S.val v).add d)
 | k+1=>(S.mvK v d k).set (S.basic.getD k 0) (((S.mvK v d k).getD (S.basic.getD k 0) pr0).add (d.mul (S.cell k v)))
def TS.move (S:TS)(v:Nat)(d:Pr):TS:= {S with vals:=S.mvK v d S.basic.length}
theorem mvK_len {S:TS}{v:Nat}{d:Pr}:∀k,(S.mvK v d k).length=S.vals.length
 | 0=>by simp [TS.mvK]
 | k+1=>by simp [TS.mvK,mvK_len k]
theorem basic_getD {S:TS}{i:Nat}(h:i<S.basic.length):S.basic.getD i 0=S.basic[i]:=by
 rw [List.getD_eq_getElem?_getD,List.getElem?_eq_getElem h];rfl
theorem mvK_get {S:TS}{v:Nat}{d:Pr}(hnd:S.basic.Nodup){i:Nat}(hi:i<S.basic.length)(hv:S.basic[i]≠v):∀k,k≤i→(S.mvK v d k).getD S.basic[i] pr0=S.val S.basic[i]
 | 0,_=>by
  unfold TS.mvK TS.val;rw [List.getD_eq_getElem?_getD,List.getElem?_set,if_neg (Ne.symm hv),←List.getD_eq_getElem?_getD]
 | k+1,hk=>by
  have hk':k<S.basic.length:=by omega
  have hne:S.basic[k]≠S.basic[i]:=fun e=>by have:=(List.getElem_inj hnd).1 e;omega
  simp only [TS.mvK];rw [basic_getD hk',List.getD_eq_getElem?_getD,List.getElem?_set,if_neg hne,←List.getD_eq_getElem?_getD];exact mvK_get hnd hi hv k (by omega)
theorem cell_at {S:TS}{i v:Nat}(hi:i<S.cells.length)(hv:v<S.cells[i].length):S.cell i v=S.cells[i][v]:=by
 unfold TS.cell;have e:S.cells.getD i []=S.cells[i]:=by rw [List.getD_eq_getElem?_getD,List.getElem?_eq_getElem hi];rfl
 rw [e,List.getD_eq_getElem?_getD,List.getElem?_eq_getElem hv];rfl
end Go.Proofs.YtaiffmebphhdaaaGreat
