/- Package tableau's T: what a store leaves. -/
import Derived.Test.YtaiffmebphhdaaaGreatTbE
namespace Go.Proofs.YtaiffmebphhdaaaGreat
set_option linter.unusedSimpArgs false
set_option linter.unusedVariables false
open Go.ChangeShapes Go.WideShapes Go.RowKit Go.Maps
theorem aL.same {w w':World}{b:Nat}{A:Array Value}(h:aL w b A)(e:w'.heap[b]? =w.heap[b]?):aL w' b A:=by
 obtain⟨t,h⟩:=h;exact⟨t,e.trans h⟩
theorem Ah.same {w w':World}{b:Nat}{l:List Nat}(h:Ah w b l)(e:w'.heap[b]? =w.heap[b]?):Ah w' b l:=by
 obtain⟨A,h,h'⟩:=h;exact⟨A,h.same e,h'⟩
theorem Ai.same {w w':World}{b:Nat}{l:List (List Rat)}{gs cs:Nat→Nat}(h:Ai w b l gs cs)(e:w'.heap[b]? =w.heap[b]?):Ai w' b l gs cs:=by
 obtain⟨A,h,h'⟩:=h;exact⟨A,h.same e,h'⟩
theorem aY.same {w w':World}{b:Nat}{l:List Rat}(h:aY w b l)(e:w'.heap[b]? =w.heap[b]?):aY w' b l:=by
 obtain⟨A,l',h,h'⟩:=h;exact⟨A,l',h.same e,h'⟩
theorem Ae.same {w w':World}{b n:Nat}{l:List Nat}(h:Ae w b n l)(e:w'.heap[b]? =w.heap[b]?):Ae w' b n l:=by
 obtain⟨D,⟨es,clock,hb,F,hs,hD⟩,h'⟩:=h;exact⟨D,⟨es,clock,e.trans hb,F,hs,hD⟩,h'⟩
def w8 (w:World)(g o:Nat)(p:PV):World:=(((((((w.setCell ⟨g,o,none⟩ (.bool p.x.nb)).setCell ⟨g,o+1,none⟩ (.string p.x.nS)).setCell ⟨g,o+2,none⟩ (.bool p.x.db)).setCell ⟨g,o+3,none⟩ (.string p.x.dS)).setCell ⟨g,o+4,none⟩ (.bool p.y.nb)).setCell ⟨g,o+5,none⟩ (.string p.y.nS)).setCell ⟨g,o+6,none⟩ (.bool p.y.db)).setCell ⟨g,o+7,none⟩ (.string p.y.dS)
theorem zF {w:World}{g o:Nat}{p:PV}{b:Nat}(h:b≠g):(w8 w g o p).heap[b]? =w.heap[b]? :=by
 unfold w8;rw [heap_setCell_other _ _ _ _ h,heap_setCell_other _ _ _ _ h,heap_setCell_other _ _ _ _ h,heap_setCell_other _ _ _ _ h,heap_setCell_other _ _ _ _ h,heap_setCell_other _ _ _ _ h,heap_setCell_other _ _ _ _ h,heap_setCell_other _ _ _ _ h]
theorem O4 {w0 w:World}{g o:Nat}{p:PV}(h:Keep au w0 w)(hg:w0.heap.size≤g):Keep au w0 (w8 w g o p):=by
 unfold w8;exact(((((((h.setCell _ fun hh=>absurd hh (by omega)).setCell _ fun hh=>absurd hh (by omega)).setCell _ fun hh=>absurd hh (by omega)).setCell _ fun hh=>absurd hh (by omega)).setCell _ fun hh=>absurd hh (by omega)).setCell _ fun hh=>absurd hh (by omega)).setCell _ fun hh=>absurd hh (by omega)).setCell _ fun hh=>absurd hh (by omega)
theorem O5 {w:World}{g:Nat}{l:List Pr}(h:aY w g (iJ l)){v:Nat}{p:PV}{a:Pr}(hp:p.is a):aY (w8 w g (v*8) p) g (iJ (l.set v a)):=by
 rw [Gi];have h1:=(h.set (k:=2*v) (q:=a.n) hp.1).set (k:=2*v+1) (q:=a.s) hp.2;rw [show 2*v*4=v*8 by omega,show(2*v+1)*4=v*8+4 by omega]at h1
 exact h1
theorem Lm {w:World}{g:Nat}{qs:List Rat}(h:aY w g qs)(o:Nat):w.frozen? ⟨g,o,none⟩=false:=by
 obtain⟨A,l,h,_⟩:=h;exact h.free _
theorem LT.setVals {w0 w w':World}{bT nm:Nat}{S:TS}{L:Lay}(h:LT w0 w bT nm S L){vals':List Pr}(hl:vals'.length=S.vals.length)(hk:Keep au w0 w')(ho:∀b,b≠L.gv→w'.heap[b]? =w.heap[b]?)(hv:aY w' L.gv (iJ vals')):
  LT w0 w' bT nm {S with vals:=vals'} L where
 k:=hk
 t:=by
  have:=aL.same h.t (ho bT h.ap.tv);simp only [hl];exact this
 rows:=h.rows
 b:=fun hb=>⟨(h.b hb).1,(h.b hb).2.same (ho _ h.ap.bv)⟩
 c:=fun hc=>⟨(h.c hc).1,(h.c hc).2.same (ho _ h.ap.cv)⟩
 r:=fun i hi=>⟨(h.r i hi).1.same (ho _ (h.ap.sv i hi)),(h.r i hi).2⟩
 v:=hv
 cb:=h.cb
 cc:=h.cc
 cv:=by simp only [hl];exact h.cv
 mp:=h.mp.same (ho _ h.ap.vm.symm)
 own:=h.own
 ap:=h.ap
def TS.mvK (S:TS)(v:Nat)(d:Pr):Nat→List Pr
 | 0=>S.vals.set v ((S.val v).add d)
 | k+1=>(S.mvK v d k).set (S.basic.getD k 0) (((S.mvK v d k).getD (S.basic.getD k 0) pr0).add (d.mul (S.cell k v)))
def TS.move (S:TS)(v:Nat)(d:Pr):TS:= {S with vals:=S.mvK v d S.basic.length}
theorem yV {S:TS}{v:Nat}{d:Pr}:∀k,(S.mvK v d k).length=S.vals.length
 | 0=>by simp [TS.mvK]
 | k+1=>by simp [TS.mvK,yV k]
theorem mg {S:TS}{i:Nat}(h:i<S.basic.length):S.basic.getD i 0=S.basic[i]:=by
 rw [eG,iw h];rfl
theorem O6 {S:TS}{v:Nat}{d:Pr}(hnd:S.basic.Nodup){i:Nat}(hi:i<S.basic.length)(hv:S.basic[i]≠v):∀k,k≤i→(S.mvK v d k).getD S.basic[i] pr0=S.val S.basic[i]
 | 0,_=>by
  unfold TS.mvK TS.val;rw [eG,List.getElem?_set,if_neg (Ne.symm hv),←eG]
 | k+1,hk=>by
  have hk':k<S.basic.length:=by omega
  have hne:S.basic[k]≠S.basic[i]:=fun e=>by have:=(List.getElem_inj hnd).1 e;omega
  simp only [TS.mvK];rw [mg hk',eG,List.getElem?_set,if_neg hne,←eG];exact O6 hnd hi hv k (by omega)
theorem mK {S:TS}{i v:Nat}(hi:i<S.cells.length)(hv:v<S.cells[i].length):S.cell i v=S.cells[i][v]:=by
 unfold TS.cell;have e:S.cells.getD i []=S.cells[i]:=by rw [eG,iw hi];rfl
 rw [e,eG,iw hv];rfl
end Go.Proofs.YtaiffmebphhdaaaGreat
