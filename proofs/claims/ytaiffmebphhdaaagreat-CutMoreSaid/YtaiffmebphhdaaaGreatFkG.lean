/- The law package's fracs, the reference's AllHold; rows and fractions that lie in blocks of the call's own; farkasTold. -/
import Derived.Test.YtaiffmebphhdaaaGreatFkAA
import Derived.Test.YtaiffmebphhdaaaGreatOwnG
import Derived.Test.YtaiffmebphhdaaaGreatPtAA
namespace Go.Proofs.YtaiffmebphhdaaaGreat
set_option maxRecDepth 100000
set_option maxHeartbeats 8000000
set_option linter.unusedSimpArgs false
set_option linter.unusedVariables false
open Go.ChangeShapes Go.WideShapes Go.RowKit
theorem Ua {α:Type}{l:List α}{p:α→Bool}{k:Nat}(hk:k<l.length):(l.drop k).all p=(p l[k]&&(l.drop (k+1)).all p):=by
 rw [List.drop_eq_getElem_cons hk,List.all_cons]
def En (nums:List Fq)(r:Rw):Bool:=decide ((OL r nums).1=0)&&oV r nums
def kY (rows:List Rw)(nums:List Fq):Bool:=rows.all (En nums)
theorem Ub {rows:List Rw}{nums:List Fq}(h:kY rows nums=true):∀r∈rows,(OL r nums).1=0∧oV r nums=true:=by
 intro r hr;have:=List.all_eq_true.1 h r hr;unfold En at this
 simpa using this
theorem BH (w:World)(v:Value)(rows:List Rw)(vn:Value)(nums:List Fq)(h:bW w v rows)(hn:eT w vn nums):
  Calls Tryz.prog 12 #[v,vn] w fun e w'=>e= .returned (.bool (kY rows nums))∧Keep au w w':=by
 have HR:=zh h;have HN:=zh hn;obtain⟨oa,ca,rfl,hca,hma⟩:=h.len;unfold maxLen at hma;obtain⟨ot,ct,rfl,_,_⟩:=hn.len;clear h hn;go_enter Tryz.func12,Tryz.ntmps12;go_wp2;go_loopw [5] (fun s wr=>∃k:Nat,k≤rows.length∧s= .int .i64 k∧kY rows nums=(rows.drop k).all (En nums)∧Keep au w wr) (fun s _=>(rows.length-intOf s).toNat)
 case atStart=>exact⟨0,by omega,rfl,rfl,Keep.refl _ _⟩
 case round=>
  obtain⟨k,hk,rfl,hf,hkr⟩:=hrel;have HF:=zh hf;have dP:=zh hkr;clear hf hkr
  by_cases hkl:k<rows.length
  case pos=>
   have hlt:(k:Int)<(rows.length:Int):=by omega
   have HA:=zh (Ua (p:=En nums) hkl);obtain⟨b,o,rfl,hbl,hrow⟩:=(HR.out.keep dP.out).at hkl;generalize rows[k]=r at *;obtain⟨os,cs,p0,p1,p2,hrow⟩:=hrow.row;have ZU:=zh hrow;have CP:=fun w' (k:Keep au wr w')=>zh (IJ w' _ r _ nums (ZU.out.keep k) (HN.out.keep (dP.out.both k)))
   have CH:=fun w' (k:Keep au wr w') hok hq=>zh (IK w' _ r _ nums (ZU.out.keep k) (HN.out.keep (dP.out.both k)) hok hq)
   have Qs:=zh (fun h=>ZV (r:=r) (nums:=nums) h)
   have HRB:=zh (show En nums r=(decide ((OL r nums).1=0)&&oV r nums)from rfl)
   generalize En nums r=rb at *;generalize OL r nums=c at *;obtain⟨c1,c2⟩:=c;unfold fV at CP;simp only at CP HRB Qs;clear hrow ZU
   by_cases hc:c1=0
   case pos=>
    obtain⟨_,hok,hq⟩:=Qs.out hc;have CH:=fun w' (k:Keep au wr w')=>CH w' k hok hq
    subst hc;have hrb:rb=oV r nums:=HRB.out.trans (by simp)
    generalize oV r nums=hb at *;clear Qs hok hq HRB;subst hrb;go_wp2_with fail;refine(CP _ (Keep.refl _ _)).out.mono ?_;rintro e w4 ⟨rfl,hk4⟩;have p0:=(hk4.cell hbl).trans p0;have p1:=(hk4.cell hbl).trans p1;have p2:=(hk4.cell hbl).trans p2;have hbl:=dY hbl hk4.size;have CH:=CH w4 hk4;have K4:=zh (dP.out.both hk4);clear CP hk4;go_wp2_with fail;refine CH.out.mono ?_;rintro e w5 ⟨rfl,hk5⟩;have K5:=zh (K4.out.both hk5);clear hk5 CH p0 p1 p2
    cases rb
    ·have kJ:Hid (kY rows nums=false):=zh (HF.out.trans (HA.out.trans (by rw [Bool.false_and])))
     clear HA HF;go_wp2;go_ret;exact⟨by rw [kJ.out];rfl,K5.out⟩
    ·have kJ:=zh (HF.out.trans (HA.out.trans (by rw [Bool.true_and])))
     clear HA HF;go_wp2;go_roundw
     case rel=>exact⟨k+1,by omega,by go_num,kJ.out,K5.out⟩
     case measure=>simp [intOf];omega
   case neg=>
    have e1:(c1 != 0)=true:=by rw [bne_iff_ne];exact hc
    have hrb:rb=false:=HRB.out.trans (by simp [hc])
    subst hrb;have kJ:Hid (kY rows nums=false):=zh (HF.out.trans (HA.out.trans (by rw [Bool.false_and])))
    clear HA HF HRB Qs CH;go_wp2_with fail;refine(CP _ (Keep.refl _ _)).out.mono ?_;rintro e w4 ⟨rfl,hk4⟩;have K4:=zh (dP.out.both hk4);clear hk4 p0 p1 p2 CP;go_wp2;go_ret;exact⟨by rw [kJ.out];rfl,K4.out⟩
  case neg=>
   have hlt:¬(k:Int)<(rows.length:Int):=by omega
   have kJ:Hid (kY rows nums=true):=zh (HF.out.trans (by rw [List.drop_eq_nil_of_le (by omega)];rfl))
   clear HF;go_wp2;go_ret;exact⟨by rw [kJ.out];rfl,dP.out⟩
end Go.Proofs.YtaiffmebphhdaaaGreat
