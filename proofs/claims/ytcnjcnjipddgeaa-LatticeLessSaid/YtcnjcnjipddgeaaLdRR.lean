/- Package lattice's Do: for all rows. The laws of lattice.Do, plain: with a row less. -/
import Derived.Test.YtcnjcnjipddgeaaLdY
import Derived.Test.YtcnjcnjipddgeaaLdT
import Derived.Test.YtcnjcnjipddgeaaLtB
namespace Go.Proofs.Ytcnjcnjipddgeaa
set_option linter.unusedSimpArgs false
set_option linter.unusedVariables false
open Go.ChangeShapes Go.WideShapes Go.RowKit
def ltR (rows:List Rw)(n:Int):DoRes:=if(eqF rows n).1≠0 then⟨false,[],[],[],false⟩else(doR rows n.toNat bigF).getD muchR
def ltE (rows:List Rw)(n:Int):Int × Int:=if(eqF rows n).1≠0 then eqF rows n else(mcode (ltR rows n).much,0)
theorem ltR_cases (rows:List Rw)(n:Int):((eqF rows n).1≠0∧ltE rows n=eqF rows n∧ltR rows n=⟨false,[],[],[],false⟩)∨
  (eqF rows n=(0,0)∧∃N:Nat,n=(N:Int)∧N≤12∧rows.length≤40∧(∀r∈rows,RowOK r N)∧(∀r∈rows,r.kind=3)∧doR rows N bigF=some (ltR rows n)∧ltE rows n=(mcode (ltR rows n).much,0)∧
   ((∃w,ltR rows n=noR w∧NoW N rows.length (azR rows) (toR rows) w)∨∃S,ltR rows n=yesR S N rows.length∧LI N rows.length (fun r j=>(azR rows r j:Rat)) (toR rows) (startL rows N).cols rows.length S)):=by
 by_cases h:(eqF rows n).1≠0
 ·exact .inl ⟨h,if_pos h,if_pos h⟩
 ·obtain ⟨h0,h1,h2,h3,h4,h5⟩:=eqF_ok (Classical.not_not.1 h)
  obtain⟨N,rfl⟩:∃N:Nat,n=(N:Int):=⟨n.toNat,by omega⟩
  have e:ltR rows (N:Int)=(doR rows N bigF).getD muchR:=by
   unfold ltR;rw [if_neg h,Int.toNat_natCast]
  refine .inr ⟨h0,N,rfl,by omega,h3,h4,h5,?_,if_neg h,?_⟩
  ·rw [e]
   rcases do_total (n:=N) (by omega) h4 with⟨w,hw,_⟩ | ⟨S,hS,_⟩
   ·rw [hw];rfl
   ·rw [hS];rfl
  ·rw [e]
   rcases do_total (n:=N) (by omega) h4 with⟨w,hw,g⟩ | ⟨S,hS,g⟩
   ·rw [hw];exact .inl ⟨w,rfl,g⟩
   ·rw [hS];exact .inr ⟨S,rfl,g⟩
theorem ltDo_all (w:World)(vr:Value)(rows:List Rw)(n:Int)(hr:IsRows w vr rows)(hn:I64 n):
  Calls Try.prog 5 #[vr,.int .i64 n] w fun e w'=>∃va vw vy,e= .returned (.tuple #[.bool (ltR rows n).yes,va,vw,vy,fV (ltE rows n)])∧OwnI w' w.heap.size va (ltR rows n).at_∧OwnW w' w.heap.size vw (ltR rows n).ways∧OwnF w' w.heap.size vy (ltR rows n).why∧Keep NoS w w':=by
 rcases ltR_cases rows n with⟨h1,h2,h3⟩ | ⟨h1,N,rfl,h2,h3,h4,h5,h6,h7,_⟩
 ·rw [h2,h3]
  refine(ltDo_bad w vr rows n hr hn h1).mono ?_;rintro e w' ⟨rfl,hk⟩;exact⟨_,_,_,rfl,OwnI.nil _ _,OwnW.nil _ _,OwnG.nil _ _,hk⟩
 ·rw [h7]
  unfold fV
  by_cases h0:0<N
  ·exact ltDo_any w vr rows N bigF _ hr h1 h4 h0 h2 h3 h6
  ·exact ltDo_zero w vr rows N bigF _ hr h1 h4 (by omega) h3 h6
theorem yesR_yes {S:LQ}{n m:Nat}(h:(yesR S n m).yes=true):(ptLL S n m S.part.length).all okI=true∧(waysQ S m).all (·.all okI)=true∧yesR S n m=⟨true,(ptLL S n m S.part.length).map Rat.num,(waysQ S m).map (·.map Rat.num),[],false⟩:=by
 unfold yesR at h ⊢
 by_cases h1:(ptLL S n m S.part.length).all okI=true
 ·rw [if_pos h1]at h ⊢
  by_cases h2:(waysQ S m).all (·.all okI)=true
  ·rw [if_pos h2]
   exact⟨h1,h2,rfl⟩
  ·rw [if_neg h2]at h
   cases h
 ·rw [if_neg h1]at h
  cases h
theorem noR_yes {w:List Rat}:(noR w).yes=false:=by unfold noR;split<;>rfl
theorem yesR_much {S:LQ}{n m:Nat}:(yesR S n m).much= !(yesR S n m).yes:=by
 unfold yesR
 split
 ·split<;>rfl
 ·rfl
theorem mcode_zero {b:Bool}:mcode b=0↔b=false:=by unfold mcode;cases b<;>simp
theorem lt_yes {rows:List Rw}{n:Int}(h:(ltR rows n).yes=true):(ltE rows n).1=0∧∃N:Nat,n=(N:Int)∧N≤12∧rows.length≤40∧(∀r∈rows,RowOK r N)∧(∀r∈rows,r.kind=3)∧∃S,ltR rows n=yesR S N rows.length∧LI N rows.length (fun r j=>(azR rows r j:Rat)) (toR rows) (startL rows N).cols rows.length S:=by
 rcases ltR_cases rows n with⟨h1,h2,h3⟩ | ⟨h1,N,rfl,h2,h3,h4,h5,_,h7,⟨w,hw,_⟩ | ⟨S,hS,hI⟩⟩
 ·rw [h3]at h;cases h
 ·rw [hw,noR_yes]at h;cases h
 ·refine ⟨?_,N,rfl,h2,h3,h4,h5,S,hS,hI⟩
  rw [h7];show mcode _=0;rw [hS]at h ⊢;rw [mcode_zero,yesR_much,h];rfl
theorem ways_len {S:LQ}{n m:Nat}{A:Nat→Nat→Rat}{b:Nat→Rat}{c0:List (List Rat)}{i:Nat}(h:LI n m A b c0 i S):(waysQ S m).length=n-S.piv.length:=by
 unfold waysQ;rw [List.length_map,List.length_drop,h.cols.l]
def lessW (rows:List Rw)(k:Nat):List Rw:=rows.take k++rows.drop (k+1)
theorem lessW_get {rows:List Rw}{k r:Nat}(hk:k<rows.length):(lessW rows k).getD r ⟨[],0,0⟩=rows.getD (if r<k then r else r+1) ⟨[],0,0⟩:=by
 unfold lessW;rw [List.getD_eq_getElem?_getD,List.getD_eq_getElem?_getD]
 congr 1
 by_cases h:r<k
 ·rw [if_pos h,List.getElem?_append_left (by rw [List.length_take];omega),List.getElem?_take,if_pos h]
 ·rw [if_neg h,List.getElem?_append_right (by rw [List.length_take];omega),List.getElem?_drop,List.length_take]
  congr 1
  omega
theorem lessW_len {rows:List Rw}{k:Nat}(hk:k<rows.length):(lessW rows k).length+1=rows.length:=by
 unfold lessW;rw [List.length_append,List.length_take,List.length_drop];omega
theorem less_lattice {rows:List Rw}{n:Int}{k:Nat}(hk:k<rows.length)(hy:(ltR rows n).yes=true)(h0:(ltE (lessW rows k) n).1=0):(ltR (lessW rows k) n).yes=true∧(ltR rows n).ways.length≤(ltR (lessW rows k) n).ways.length:=by
 obtain⟨_,N,rfl,h2,h3,h4,h5,S,hS,hI⟩:=lt_yes hy;have hlen:=lessW_len hk;have hA:∀r j,azR (lessW rows k) r j=azR rows (if r<k then r else r+1) j:=fun r j=>by unfold azR;rw [lessW_get hk]
 have hT:∀r,toR (lessW rows k) r=toR rows (if r<k then r else r+1):=fun r=>by unfold toR;rw [lessW_get hk]
 have hsol:=pt_solves hI
 rcases ltR_cases (lessW rows k) (N:Int)with⟨h1,h2',h3'⟩ | ⟨_,N',e,g2,g3,g4,_,_,g7,⟨w,hw,hN⟩ | ⟨S',hS',hI'⟩⟩
 ·rw [h2']at h0;exact absurd h0 h1
 ·obtain rfl:N=N':=by omega
  exfalso
  refine no_solves hN (x:=ptQ S rows.length) (fun j=>pt_z hI j) fun r hr=> ?_
  rw [hT r,←hsol (if r<k then r else r+1) (by split<;>omega)]
  exact sQ_congr N fun j _=>by first | rw [hA] | (simp only;rw [hA])
 ·obtain rfl:N=N':=by omega
  have hm:(ltR (lessW rows k) (N:Int)).much=false:=by
   rw [g7]at h0;exact mcode_zero.1 h0
  have hy':(yesR S' N (lessW rows k).length).yes=true:=by
   rw [hS',yesR_much]at hm
   simpa using hm
  refine⟨by rw [hS'];exact hy',?_⟩
  rw [hS]at hy ⊢;rw [hS'];obtain⟨_,_,e1⟩:=yesR_yes hy;obtain⟨_,_,e2⟩:=yesR_yes hy';rw [e1,e2];simp only [List.length_map];rw [ways_len hI,ways_len hI'];have:=rank_le hI (start_given (rowsFit h2 g4)) hI' (fun x hx r hr=>by
   rw [← hx (if r<k then r else r+1) (by split<;>omega)]
   exact sQ_congr N fun j _=>by rw [hA])
  omega
end Go.Proofs.Ytcnjcnjipddgeaa
