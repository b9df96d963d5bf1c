/- What is asked of lists of exact numbers: package lattice: is one of the numbers not whole? -/
import Derived.Test.YtcnjcnjipddgeaaGreatFkAA
namespace Go.Proofs.YtcnjcnjipddgeaaGreat
set_option maxRecDepth 100000
set_option maxHeartbeats 8000000
set_option linter.unusedSimpArgs false
set_option linter.unusedVariables false
open Go.ChangeShapes Go.WideShapes Go.RowKit
def frP (q:Rat):Bool:= !decide (q.den=1)
theorem frClo_any (w:World)(nb:Bool)(nS:ByteArray)(db:Bool)(dS:ByteArray)(q:Rat)(h:IsNum (.agg #[.bool nb,.string nS,.bool db,.string dS]) q)(hn:NB 1000 q):Calls Tryz.prog 29 #[.agg #[.bool nb,.string nS,.bool db,.string dS]] w fun e w'=>e= .returned (.bool (frP q))∧Keep NoS w w':=by
 have CC:=fun w=>zh (exWhole_any w _ q h hn)
 clear h;unfold frP;generalize decide (q.den=1)=b at *;go_enter Tryz.func29,Tryz.ntmps29;go_wp2_with fail;refine(CC _).out.mono ?_;rintro e w1 ⟨rfl,hk1⟩;go_wp2;go_ret;exact⟨rfl,Keep.both kp hk1⟩
theorem frIndex_any (w:World)(v:Value)(l:List Rat)(h:IsNums w v l)(hnb:∀q∈l,NB 1000 q):
  Calls Tryz.prog 58 #[v,.func (.func 29) #[] #[]] w fun e w'=>e= .returned (.int .i64 (idxP frP l 0))∧Keep NoS w w':=by
 have HN:=zh h;have HNB:=zh hnb;clear hnb;obtain⟨oa,ca,rfl,hca,hma⟩:=h.len;unfold maxLen at hma;clear h;go_enter Tryz.func58,Tryz.ntmps58;go_wp2;go_loopw [8] (fun s wr=>∃k:Nat,k≤l.length∧s= .int .i64 k∧idxP frP l 0=idxP frP (l.drop k) k∧Keep NoS w wr) (fun s _=>(l.length-intOf s).toNat)
 case atStart=>exact⟨0,by omega,rfl,rfl,Keep.refl _ _⟩
 case round=>
  obtain⟨k,hk,rfl,hf,hkr⟩:=hrel;have HF:=zh hf;have HKR:=zh hkr;clear hf hkr
  by_cases hkl:k<l.length
  ·have hlt:(k:Int)<(l.length:Int):=by omega
   obtain⟨b,o,rfl,hbl,nb,nS,db,dS,p0,p1,p2,p3,hnum⟩:=(HN.out.keep HKR.out).at hkl;have hIN:=fun h=>idxP_in (p:=frP) (i:=k) hkl h
   have hOUT:=fun h=>idxP_out (p:=frP) (i:=k) hkl h
   have CC:=fun w=>zh (frClo_any w _ _ _ _ _ hnum (HNB.out _ (List.getElem_mem hkl)))
   clear hnum;generalize frP l[k]=bq at*
   cases bq
   ·have HNX:=zh (HF.out.trans (hIN rfl))
    clear hIN hOUT HF;go_wp2_with fail;refine(CC _).out.mono ?_;rintro e w4 ⟨rfl,hk4⟩;have K4:=zh (HKR.out.both hk4);clear hk4 p0 p1 p2 p3;go_wp2;go_roundw
    case rel=>exact⟨k+1,by omega,by go_num,HNX.out,K4.out⟩
    case measure=>simp [intOf];omega
   ·have HNX:=zh (HF.out.trans (hOUT rfl))
    clear hIN hOUT HF;go_wp2_with fail;refine(CC _).out.mono ?_;rintro e w4 ⟨rfl,hk4⟩;have K4:=zh (HKR.out.both hk4);clear hk4 p0 p1 p2 p3;go_wp2;go_ret;exact⟨by rw [HNX.out];rfl,K4.out⟩
  ·have hlt:¬(k:Int)<(l.length:Int):=by omega
   have HNX:=zh (HF.out.trans (idxP_end (i:=k) (by omega)))
   clear HF;go_wp2;go_ret;exact⟨by rw [HNX.out];rfl,HKR.out⟩
theorem frAny_any (w:World)(v:Value)(l:List Rat)(h:IsNums w v l)(hnb:∀q∈l,NB 1000 q):
  Calls Tryz.prog 31 #[v,.func (.func 29) #[] #[]] w fun e w'=>e= .returned (.bool (l.any frP))∧Keep NoS w w':=by
 have CC:=fun w' (k:Keep NoS w w')=>zh (frIndex_any w' v l (h.keep k) hnb)
 rw [← idxP_any (p:=frP) (l:=l) (i:=0)];obtain⟨oa,ca,rfl,hca,hma⟩:=h.len;generalize idxP frP l 0=z at *;clear h;go_enter Tryz.func31,Tryz.ntmps31;go_wp2_with fail;refine(CC _ kp).out.mono ?_;rintro e w1 ⟨rfl,hk1⟩;have K1:=Keep.both kp hk1;go_wp2;go_ret;exact⟨rfl,K1⟩
end Go.Proofs.YtcnjcnjipddgeaaGreat
