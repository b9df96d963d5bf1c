/- What the walks are told of arguments that are slices of fractions. What the walks are told of arguments that are lists of rows, tables of fractions. Package row's check of a row and a point. Package row's sum of a row at a point. The reference's sum of a row at a point. Package row's Value and Holds. Package row's Holds. The reference's RowPoint and RowHolds. -/
import Derived.Test.YtaiffmebphhdaaaGreatBaseB
import Derived.Test.YtaiffmebphhdaaaGreatBaseA
import Derived.Test.YtaiffmebphhdaaaGreatRowAA
import Derived.Test.YtaiffmebphhdaaaGreatExAA
namespace Go.Proofs.YtaiffmebphhdaaaGreat
set_option maxRecDepth 100000
set_option linter.unusedSimpArgs false
set_option linter.unusedVariables false
open Go.ChangeShapes Go.WideShapes Go.ChangeAt Go.RowKit Go.Joins Go.Deep
structure Fq where
 N:Int
 D:Int
instance :Inhabited Fq:=⟨⟨0,0⟩⟩
def IsFracs (w:World)(v:Value)(l:List Fq):Prop:=
 ∃oa cap,v= .slice oa l.length cap∧l.length≤cap∧cap≤maxLen∧(∀g∈l,I64 g.N∧I64 g.D)∧(l≠ []→∃b o,oa=some ⟨b,o,none⟩∧b<w.heap.size∧
  ∀i g,l[i]? =some g→w.cell? ⟨b,o+i*2,none⟩=some (.int .i64 g.N)∧w.cell? ⟨b,o+i*2+1,none⟩=some (.int .i64 g.D))
theorem IsFracs.keep {w w':World}{v:Value}{l:List Fq}(h:IsFracs w v l)(k:Keep NoS w w'):IsFracs w' v l:=by
 obtain⟨oa,cap,h1,h2,h2',h3,h4⟩:=h;refine⟨oa,cap,h1,h2,h2',h3,fun hne=> ?_⟩
 obtain⟨b,o,e,hb,hc⟩:=h4 hne;exact⟨b,o,e,Nat.lt_of_lt_of_le hb k.size,fun i g hg=>by simp only [k.cell hb];exact hc i g hg⟩
theorem IsFracs.len {w:World}{v:Value}{l:List Fq}(h:IsFracs w v l):∃oa cap,v= .slice oa l.length cap∧l.length≤cap∧cap≤maxLen:=by
 obtain⟨oa,cap,h1,h2,h2',_⟩:=h;exact⟨oa,cap,h1,h2,h2'⟩
theorem IsFracs.all {w:World}{v:Value}{l:List Fq}(h:IsFracs w v l):∀g∈l,I64 g.N∧I64 g.D:=by obtain⟨_,_,_,_,_,h,_⟩:=h;exact h
theorem IsFracs.at {w:World}{oa:Option Addr}{n cap:Nat}{l:List Fq}(h:IsFracs w (.slice oa n cap) l){k:Nat}(hk:k<l.length):
  ∃b o,oa=some ⟨b,o,none⟩∧b<w.heap.size∧w.cell? ⟨b,o+k*2,none⟩=some (.int .i64 l[k].N)∧w.cell? ⟨b,o+k*2+1,none⟩=some (.int .i64 l[k].D):=by
 obtain⟨oa',cap',hv,_,_,_,h4⟩:=h
 cases hv
 obtain⟨b,o,e,hb,hc⟩:=h4 (by rintro rfl;simp at hk)
 obtain⟨h1,h2⟩:=hc k l[k] (by simp [hk])
 exact⟨b,o,e,hb,h1,h2⟩
section
variable {H:Type} {enc:TypeId × Value→H} {W:World} {base:Nat} {d:DataW H} {p:List MemPlace} {v:Value}
end
instance :Inhabited Rw:=⟨⟨[],0,0⟩⟩
def RowAt (w:World)(b o:Nat)(r:Rw):Prop:=∃sv,w.cell? ⟨b,o,none⟩=some sv∧w.cell? ⟨b,o+1,none⟩=some (.int .i64 r.kind)∧w.cell? ⟨b,o+2,none⟩=some (.int .i64 r.to)∧IsInts w sv r.of∧I64 r.kind∧I64 r.to∧CapOK sv
def IsRows (w:World)(v:Value)(l:List Rw):Prop:=
 ∃oa cap,v= .slice oa l.length cap∧l.length≤cap∧cap≤maxLen∧(l≠ []→∃b o,oa=some ⟨b,o,none⟩∧b<w.heap.size∧∀i r,l[i]? =some r→RowAt w b (o+i*3) r)
def IsTab (w:World)(v:Value)(l:List (List Fq)):Prop:=
 ∃oa cap,v= .slice oa l.length cap∧l.length≤cap∧cap≤maxLen∧(l≠ []→∃b o,oa=some ⟨b,o,none⟩∧b<w.heap.size∧∀i r,l[i]? =some r→∃sv,w.cell? ⟨b,o+i,none⟩=some sv∧IsFracs w sv r)
theorem IsRows.keep {w w':World}{v:Value}{l:List Rw}(h:IsRows w v l)(k:Keep NoS w w'):IsRows w' v l:=by
 obtain⟨oa,cap,h1,h2,h3,h4⟩:=h;refine⟨oa,cap,h1,h2,h3,fun hne=> ?_⟩
 obtain⟨b,o,e,hb,hc⟩:=h4 hne;refine⟨b,o,e,Nat.lt_of_lt_of_le hb k.size,fun i r hr=> ?_⟩
 obtain⟨sv,c0,c1,c2,hi,h5⟩:=hc i r hr;exact⟨sv,by rw [k.cell hb];exact c0,by rw [k.cell hb];exact c1,by rw [k.cell hb];exact c2,hi.keep k,h5⟩
theorem IsTab.keep {w w':World}{v:Value}{l:List (List Fq)}(h:IsTab w v l)(k:Keep NoS w w'):IsTab w' v l:=by
 obtain⟨oa,cap,h1,h2,h3,h4⟩:=h;refine⟨oa,cap,h1,h2,h3,fun hne=> ?_⟩
 obtain⟨b,o,e,hb,hc⟩:=h4 hne;refine⟨b,o,e,Nat.lt_of_lt_of_le hb k.size,fun i r hr=> ?_⟩
 obtain⟨sv,c0,hi⟩:=hc i r hr;exact⟨sv,by rw [k.cell hb];exact c0,hi.keep k⟩
theorem IsRows.len {w:World}{v:Value}{l:List Rw}(h:IsRows w v l):∃oa cap,v= .slice oa l.length cap∧l.length≤cap∧cap≤maxLen:=by
 obtain⟨oa,cap,h1,h2,h3,_⟩:=h;exact⟨oa,cap,h1,h2,h3⟩
theorem IsTab.len {w:World}{v:Value}{l:List (List Fq)}(h:IsTab w v l):∃oa cap,v= .slice oa l.length cap∧l.length≤cap∧cap≤maxLen:=by
 obtain⟨oa,cap,h1,h2,h3,_⟩:=h;exact⟨oa,cap,h1,h2,h3⟩
theorem IsRows.at {w:World}{oa:Option Addr}{n cap:Nat}{l:List Rw}(h:IsRows w (.slice oa n cap) l){k:Nat}(hk:k<l.length):
  ∃b o,oa=some ⟨b,o,none⟩∧b<w.heap.size∧RowAt w b (o+k*3) l[k]:=by
 obtain⟨oa',cap',hv,_,_,h4⟩:=h
 cases hv
 obtain⟨b,o,e,hb,hc⟩:=h4 (by rintro rfl;simp at hk)
 exact⟨b,o,e,hb,hc k l[k] (by simp [hk])⟩
theorem IsTab.at {w:World}{oa:Option Addr}{n cap:Nat}{l:List (List Fq)}(h:IsTab w (.slice oa n cap) l){k:Nat}(hk:k<l.length):
  ∃b o sv,oa=some ⟨b,o,none⟩∧b<w.heap.size∧w.cell? ⟨b,o+k,none⟩=some sv∧IsFracs w sv l[k]:=by
 obtain⟨oa',cap',hv,_,_,h4⟩:=h
 cases hv
 obtain⟨b,o,e,hb,hc⟩:=h4 (by rintro rfl;simp at hk)
 obtain⟨sv,h1,h2⟩:=hc k l[k] (by simp [hk])
 exact⟨b,o,sv,e,hb,h1,h2⟩
theorem RowAt.row {w:World}{b o:Nat}{r:Rw}(h:RowAt w b o r):∃os cs,w.cell? ⟨b,o,none⟩=some (.slice os r.of.length cs)∧w.cell? ⟨b,o+1,none⟩=some (.int .i64 r.kind)∧w.cell? ⟨b,o+2,none⟩=some (.int .i64 r.to)∧IsRow w (.agg #[.slice os r.of.length cs,.int .i64 r.kind,.int .i64 r.to]) r:=by
 obtain⟨sv,c0,c1,c2,hi,h5⟩:=h;obtain⟨os,cs,rfl,_⟩:=hi.len;exact⟨os,cs,c0,c1,c2,_,rfl,hi,h5⟩
section
variable {H:Type} {enc:TypeId × Value→H} {W:World} {base:Nat} {d:DataW H} {p:List MemPlace} {v:Value}
theorem row_trod1 {n:Nat}{cs:List Value}{y:DataW H × List MemPlace}(h:DataW.trod enc Tryz.prog W 0 (fun _=>true) true n 40 cs=some y):
  ∃(r:Rw) (sv:Value),cs= [sv,.int .i64 r.kind,.int .i64 r.to]∧IsInts W sv r.of∧I64 r.kind∧I64 r.to∧CapOK sv:=by
 obtain⟨xs,n',_,_,hlen,hxl,hf⟩:=DataW.trod_struct Tryz.underlying40 h;have hc:Tryz.prog.cellsOf 40=3:=by kernel_rfl
 have hi:Tryz.prog.cellsOf 3=1:=by kernel_rfl
 have hs:Tryz.prog.cellsOf 38=1:=by kernel_rfl
 rw [hc]at hlen
 match cs,hlen,xs,hxl with
 | [c0,c1,c2],_,[x0,x1,x2],_=>
  have h0:=hf 0 _ rfl;have h1:=hf 1 _ rfl;have h2:=hf 2 _ rfl;simp [hi,hs]at h0 h1 h2;obtain⟨a,e1,_,wa⟩:=DataW.trod_int Tryz.underlying3 h1;obtain⟨b,e2,_,wb⟩:=DataW.trod_int Tryz.underlying3 h2;simp at e1 e2;subst e1 e2;obtain⟨l,hl,hcap⟩:=ints_trod h0;exact⟨⟨l,a,b⟩,c0,rfl,hl,i64_of_wf wa,i64_of_wf wb,hcap⟩
theorem in_rows (hv:Value.okWide Tryz.prog W .any base 22 v)(h:DataW.Trod enc Tryz.prog W 0 (fun _=>true) true 22 v d p):∃l,IsRows W v l:=by
 obtain⟨a0,len,cap,rfl⟩:=okWide_slice Tryz.underlying22 hv;obtain⟨fuel,hf⟩:=h;have hc:Tryz.prog.cellsOf 40=3:=by kernel_rfl
 rcases open_slice Tryz.underlying22 hf with⟨hcs,_⟩ | ⟨a,len',cap',m,n,D,Pl,hcs,_,hl,hm,hmm,_,hi⟩
 ·simp [Value.cells]at hcs
  obtain⟨rfl,rfl,rfl⟩:=hcs;exact⟨[],none,0,rfl,by simp,by simp,fun h=>absurd rfl h⟩
 ·simp [Value.cells]at hcs
  obtain⟨rfl,rfl,rfl⟩:=hcs;have hmm':m=cap:=by simp at hmm;exact hmm
  subst hmm';have hq:∀i,i<len→∃r:Rw,∃sv,W.cell? (a.add (i*3))=some sv∧W.cell? ((a.add (i*3)).add 1)=some (.int .i64 r.kind)∧W.cell? ((a.add (i*3)).add 2)=some (.int .i64 r.to)∧IsInts W sv r.of∧I64 r.kind∧I64 r.to∧CapOK sv:=by
   intro i hil;obtain⟨cs',h1,h2⟩:=hi i (by omega)
   obtain⟨r,sv,rfl,hr⟩:=row_trod1 h2;rw [hc]at h1;obtain⟨_,_,hat⟩:=World.cells?_some h1;exact⟨r,sv,by simpa [Addr.add]using hat 0 (by omega),hat 1 (by omega),hat 2 (by omega),hr⟩
  obtain⟨f,hf⟩:=choose_lt hq;refine⟨(List.range len).map f,some a,m,by simp,by simp;omega,by omega,fun hne=> ?_⟩
  have hp:0<len:=by
   rcases len with _ | n
   ·simp at hne
   ·omega
  obtain⟨b,off,spot⟩:=a;obtain⟨sv0,h0,_⟩:=hf 0 hp;have hspot:spot=none:=by simpa [Addr.add]using World.cell?_spot h0
  subst hspot;refine⟨b,off,rfl,cell_lt (s:=none) (by simpa [Addr.add]using h0),fun i g hg=> ?_⟩
  obtain⟨hi,rfl⟩:=List.getElem?_eq_some_iff.1 hg;simp at hi;obtain⟨sv,c0,c1,c2,hh⟩:=hf i hi;simp only [add_add,add_plain]at c0 c1 c2;refine⟨sv,by simpa using c0,by simpa using c1,by simpa using c2,by simpa using hh⟩
end
open Go.ChangeShapes Go.WideShapes Go.RowKit
theorem Blk.set4 {w:World}{b:Nat}{x y z u:Value}(h:Blk w b #[x,y,z,u])(p q r s:Value):Blk ((((w.setCell ⟨b,0,none⟩ p).setCell ⟨b,1,none⟩ q).setCell ⟨b,2,none⟩ r).setCell ⟨b,3,none⟩ s) b #[p,q,r,s]:=by
 obtain⟨t,h⟩:=h;exact⟨t,heap_setCell_same 3 s (heap_setCell_same 2 r (heap_setCell_same 1 q (heap_setCell_same 0 p h)))⟩
theorem Blk.other4 {w:World}{b b':Nat}{A:Array Value}(h:Blk w b A)(hne:b≠b')(p q r s:Value):Blk ((((w.setCell ⟨b',0,none⟩ p).setCell ⟨b',1,none⟩ q).setCell ⟨b',2,none⟩ r).setCell ⟨b',3,none⟩ s) b A:=by
 obtain⟨t,h⟩:=h;exact⟨t,by rw [heap_setCell_other _ _ _ _ hne,heap_setCell_other _ _ _ _ hne,heap_setCell_other _ _ _ _ hne,heap_setCell_other _ _ _ _ hne];exact h⟩
theorem numV_00:numV 0 0= .agg #[.bool false,.string ⟨#[]⟩,.bool false,.string ⟨#[]⟩]:=by
 unfold numV;rw [show digN (0:Int).natAbs= []from digN_zero]
 rfl
def Fq.q (g:Fq):Rat:=Rat.divInt g.N g.D
theorem firstOut_all:∀ {l:List Int} {i:Nat},(firstOut l i).1=0→firstOut l i=(0,0)∧∀x∈l,fitI x
 | [],_,_=>⟨rfl,fun _ h=>by cases h⟩
 | x::l,i,h=>by
  unfold firstOut at h ⊢
  by_cases hx:fitI x
  ·rw [if_pos hx]at h ⊢
   obtain⟨h1,h2⟩:=firstOut_all h;refine⟨h1,fun y hy=> ?_⟩
   rcases List.mem_cons.1 hy with rfl | hy
   ·exact hx
   ·exact h2 y hy
  ·rw [if_neg hx]at h;simp at h
structure RowOK (r:Rw)(n:Int):Prop where
 n0:0≤n
 n12:n≤12
 kind:r.kind=1∨r.kind=2∨r.kind=3
 len:(r.of.length:Int)≤n
 fit:∀x∈r.of,fitI x
 fto:fitI r.to
theorem chkRow_ok {r:Rw}{n:Int}(h:(chkRow r n).1=0):chkRow r n=(0,0)∧RowOK r n:=by
 unfold chkRow at h ⊢
 by_cases h1:n<0∨12<n
 ·rw [if_pos h1]at h;simp at h
 rw [if_neg h1]at h ⊢
 by_cases h2:r.kind=1∨r.kind=2∨r.kind=3
 ·rw [if_neg (not_not_intro h2)]at h ⊢
  by_cases h3:n<r.of.length
  ·rw [if_pos h3]at h;simp at h
  ·rw [if_neg h3]at h ⊢
   obtain⟨h4,h5⟩:=firstOut_all h;exact⟨h4,by omega,by omega,h2,by omega,fun x hx=>h5 x (by simp [hx]),h5 _ (by simp)⟩
 ·rw [if_pos h2]at h;simp at h
end Go.Proofs.YtaiffmebphhdaaaGreat
