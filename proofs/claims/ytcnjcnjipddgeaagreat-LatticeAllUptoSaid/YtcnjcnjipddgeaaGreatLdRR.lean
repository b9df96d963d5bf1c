/- Package lattice's Do: for all rows. The laws of lattice.Do, plain: with a row less. -/
import Derived.Test.YtcnjcnjipddgeaaGreatLdY
import Derived.Test.YtcnjcnjipddgeaaGreatLdT
import Derived.Test.YtcnjcnjipddgeaaGreatLtB
namespace Go.Proofs.YtcnjcnjipddgeaaGreat
set_option linter.unusedSimpArgs false
set_option linter.unusedVariables false
open Go.ChangeShapes Go.WideShapes Go.RowKit
def ltR (rows:List Rw)(n:Int):DoRes:=if(eqF rows n).1≠0 then⟨false,[],[],[],false⟩else(doR rows n.toNat bigF).getD muchR
def ltE (rows:List Rw)(n:Int):Int × Int:=if(eqF rows n).1≠0 then eqF rows n else(mcode (ltR rows n).much,0)
theorem ltR_cases (rows:List Rw)(n:Int):((eqF rows n).1≠0∧ltE rows n=eqF rows n∧ltR rows n=⟨false,[],[],[],false⟩)∨
  (eqF rows n=(0,0)∧∃N:Nat,n=(N:Int)∧N≤12∧rows.length≤40∧(∀r∈rows,RowOK r N)∧(∀r∈rows,r.kind=3)∧doR rows N bigF=some (ltR rows n)∧ltE rows n=(mcode (ltR rows n).much,0)∧
   ((∃w,ltR rows n=noR w∧NoW N rows.length (azR rows) (toR rows) w)∨∃S,ltR rows n=yesR S N rows.length∧LI N rows.length (fun r j=>(azR rows r j:Rat)) (toR rows) (startL rows N).cols rows.length S)):=by
 by_cases h:(eqF rows n).1≠0
 ·exact .inl ⟨h,if_pos h,if_pos h⟩
 ·obtain ⟨h0,h1,h2,h3,h4,h5⟩:=eqF_ok (Classical.not_not.1 h)
  obtain⟨N,rfl⟩:∃N:Nat,n=(N:Int):=⟨n.toNat,by omega⟩
  have e:ltR rows (N:Int)=(doR rows N bigF).getD muchR:=by
   unfold ltR;rw [if_neg h,Int.toNat_natCast]
  refine .inr ⟨h0,N,rfl,by omega,h3,h4,h5,?_,if_neg h,?_⟩
  ·rw [e]
   rcases do_total (n:=N) (by omega) h4 with⟨w,hw,_⟩ | ⟨S,hS,_⟩
   ·rw [hw];rfl
   ·rw [hS];rfl
  ·rw [e]
   rcases do_total (n:=N) (by omega) h4 with⟨w,hw,g⟩ | ⟨S,hS,g⟩
   ·rw [hw];exact .inl ⟨w,rfl,g⟩
   ·rw [hS];exact .inr ⟨S,rfl,g⟩
theorem ltDo_all (w:World)(vr:Value)(rows:List Rw)(n:Int)(hr:IsRows w vr rows)(hn:I64 n):
  Calls Tryz.prog 6 #[vr,.int .i64 n] w fun e w'=>∃va vw vy,e= .returned (.tuple #[.bool (ltR rows n).yes,va,vw,vy,fV (ltE rows n)])∧OwnI w' w.heap.size va (ltR rows n).at_∧OwnW w' w.heap.size vw (ltR rows n).ways∧OwnF w' w.heap.size vy (ltR rows n).why∧Keep NoS w w':=by
 rcases ltR_cases rows n with⟨h1,h2,h3⟩ | ⟨h1,N,rfl,h2,h3,h4,h5,h6,h7,_⟩
 ·rw [h2,h3]
  refine(ltDo_bad w vr rows n hr hn h1).mono ?_;rintro e w' ⟨rfl,hk⟩;exact⟨_,_,_,rfl,OwnI.nil _ _,OwnW.nil _ _,OwnG.nil _ _,hk⟩
 ·rw [h7]
  unfold fV
  by_cases h0:0<N
  ·exact ltDo_any w vr rows N bigF _ hr h1 h4 h0 h2 h3 h6
  ·exact ltDo_zero w vr rows N bigF _ hr h1 h4 (by omega) h3 h6
theorem yesR_yes {S:LQ}{n m:Nat}(h:(yesR S n m).yes=true):(ptLL S n m S.part.length).all okI=true∧(waysQ S m).all (·.all okI)=true∧yesR S n m=⟨true,(ptLL S n m S.part.length).map Rat.num,(waysQ S m).map (·.map Rat.num),[],false⟩:=by
 unfold yesR at h ⊢
 by_cases h1:(ptLL S n m S.part.length).all okI=true
 ·rw [if_pos h1]at h ⊢
  by_cases h2:(waysQ S m).all (·.all okI)=true
  ·rw [if_pos h2]
   exact⟨h1,h2,rfl⟩
  ·rw [if_neg h2]at h
   cases h
 ·rw [if_neg h1]at h
  cases h
theorem noR_yes {w:List Rat}:(noR w).yes=false:=by unfold noR;split<;>rfl
theorem yesR_much {S:LQ}{n m:Nat}:(yesR S n m).much= !(yesR S n m).yes:=by
 unfold yesR
 split
 ·split<;>rfl
 ·rfl
theorem mcode_zero {b:Bool}:mcode b=0↔b=false:=by unfold mcode;cases b<;>simp
theorem lt_yes {rows:List Rw}{n:Int}(h:(ltR rows n).yes=true):(ltE rows n).1=0∧∃N:Nat,n=(N:Int)∧N≤12∧rows.length≤40∧(∀r∈rows,RowOK r N)∧(∀r∈rows,r.kind=3)∧∃S,ltR rows n=yesR S N rows.length∧LI N rows.length (fun r j=>(azR rows r j:Rat)) (toR rows) (startL rows N).cols rows.length S:=by
 rcases ltR_cases rows n with⟨h1,h2,h3⟩ | ⟨h1,N,rfl,h2,h3,h4,h5,_,h7,⟨w,hw,_⟩ | ⟨S,hS,hI⟩⟩
 ·rw [h3]at h;cases h
 ·rw [hw,noR_yes]at h;cases h
 ·refine ⟨?_,N,rfl,h2,h3,h4,h5,S,hS,hI⟩
  rw [h7];show mcode _=0;rw [hS]at h ⊢;rw [mcode_zero,yesR_much,h];rfl
theorem ways_len {S:LQ}{n m:Nat}{A:Nat→Nat→Rat}{b:Nat→Rat}{c0:List (List Rat)}{i:Nat}(h:LI n m A b c0 i S):(waysQ S m).length=n-S.piv.length:=by
 unfold waysQ;rw [List.length_map,List.length_drop,h.cols.l]
end Go.Proofs.YtcnjcnjipddgeaaGreat
