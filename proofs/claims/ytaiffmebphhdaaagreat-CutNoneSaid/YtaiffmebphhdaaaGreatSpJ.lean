/- The reference's SmallRows. -/
import Derived.Test.YtaiffmebphhdaaaGreatTbY
import Derived.Test.YtaiffmebphhdaaaGreatFkAA
namespace Go.Proofs.YtaiffmebphhdaaaGreat
set_option maxRecDepth 100000
set_option maxHeartbeats 16000000
set_option linter.unusedSimpArgs false
set_option linter.unusedVariables false
open Go.ChangeShapes Go.WideShapes Go.RowKit
def SmallPost (rows:List Rw)(n:Int)(w:World)(e:Ending)(w':World):Prop:=∃b,e= .returned (.bool b)∧(b=true→n≤3∧rows.length≤8∧SmallR rows)∧Keep NoS w w'
theorem refSmall_any (w:World)(v:Value)(rows:List Rw)(n:Int)(h:IsRows w v rows):
  Calls Tryz.prog 17 #[v,.int .i64 n,.int .i64 3,.int .i64 8,.int .i64 9] w fun e w'=>SmallPost rows n w e w':=by
 have HR:=zh h;obtain⟨oa,ca,rfl,_,_⟩:=h.len;clear h
 by_cases hn:3<n
 case pos=>
  go_enter Tryz.func17,Tryz.ntmps17;go_wp2;refine bodyPost_ret (by simp [results,Tryz.results17,go_sem];rfl) rfl ?_
  exact⟨false,rfl,(fun h=>by cases h),Keep.refl _ _⟩
 case neg=>
  by_cases hm:8<(rows.length:Int)
  case pos=>
   go_enter Tryz.func17,Tryz.ntmps17;go_wp2;refine bodyPost_ret (by simp [results,Tryz.results17,go_sem];rfl) rfl ?_
   exact⟨false,rfl,(fun h=>by cases h),Keep.refl _ _⟩
  case neg=>
   go_enter Tryz.func17,Tryz.ntmps17;go_wp2;go_loopw [11] (fun s wr=>∃i:Nat,i≤rows.length∧s= .int .i64 i∧SmallR (rows.take i)∧Keep NoS w wr) (fun s _=>(rows.length-intOf s).toNat)
   case atStart=>exact⟨0,by omega,rfl,fun r hr=>by simp at hr,Keep.refl _ _⟩
   case round=>
    obtain⟨i,hi,rfl,hs,hk⟩:=hrel;have HS:=zh hs;have HK:=zh hk;clear hs hk
    by_cases hil:i<rows.length
    case neg=>
     have hlt:¬(i:Int)<(rows.length:Int):=by omega
     obtain rfl:i=rows.length:=by omega
     have HB:Hid (n≤3∧rows.length≤8∧SmallR rows):=zh ⟨by omega,by omega,by have:=HS.out;rwa [List.take_length]at this⟩
     go_wp2;refine bodyPost_ret (by simp [results,Tryz.results17,go_sem];rfl) rfl ?_
     exact⟨true,rfl,fun _=>HB.out,HK.out⟩
    case pos=>
     have hlt:(i:Int)<(rows.length:Int):=by omega
     obtain⟨b,o,rfl,hbl,hrow⟩:=HR.out.at hil;obtain⟨os,cs,p0,p1,p2,hrow⟩:=hrow.row;have HIN:Hid (IsInts w (.slice os (rows[i]).of.length cs) (rows[i]).of):=zh (by obtain⟨sv,hsv,h,_⟩:=hrow;cases hsv;exact h)
     have HT:Hid (I64 (rows[i]).to):=zh (by obtain⟨sv,hsv,_,_,h,_⟩:=hrow;exact h)
     have HTK:Hid (rows.take (i+1)=rows.take i++ [rows[i]]):=zh (List.take_succ_eq_append_getElem hil);clear hrow;generalize rows[i]=r at *;have hmx:r.of.length≤9223372036854775807:=by obtain⟨_,_,_,h⟩:=HIN.out.len;unfold maxLen at h;exact h
     have P0:=zh p0;have P2:=zh p2;clear p0 p1 p2;go_wp2;go_loopw [12] (fun s wr=>∃k:Nat,k≤r.of.length∧s= .int .i64 k∧(∀x∈r.of.take k,x.natAbs≤9)∧Keep NoS w wr) (fun s _=>(r.of.length-intOf s).toNat)
     case atStart=>exact⟨0,by omega,rfl,fun x hx=>by simp at hx,HK.out⟩
     case round=>
      obtain⟨k,hk,rfl,hx9,hkr⟩:=hrel;have HX:=zh hx9;have HKR:=zh hkr;clear hx9 hkr;have p0:=(HKR.out.cell hbl).trans P0.out;have hbr:=Nat.lt_of_lt_of_le hbl HKR.out.size
      by_cases hkl:k<r.of.length
      case neg=>
       have hltk:¬(k:Int)<(r.of.length:Int):=by omega
       obtain rfl:k=r.of.length:=by omega
       have p2:=(HKR.out.cell hbl).trans P2.out
       by_cases hb:(r.to).natAbs≤9
       case pos=>
        have t1:¬9<r.to:=by omega
        have t2:¬r.to< -9:=by omega
        have HS2:Hid (SmallR (rows.take (i+1))):=zh (by
         rw [HTK.out];intro y hy
         rcases List.mem_append.1 hy with hy | hy
         ·exact HS.out y hy
         ·rw [List.mem_singleton.1 hy]
          refine⟨?_,hb⟩;have:=HX.out
          rwa [List.take_length]at this)
        clear hb;go_wp2;go_roundw
        case rel=>exact⟨i+1,by omega,by go_num,HS2.out,HKR.out⟩
        case measure=>simp [intOf];omega
       case neg=>
        by_cases t1:9<r.to
        case pos=>
         go_wp2;refine bodyPost_ret (by simp [results,Tryz.results17,go_sem];rfl) rfl ?_
         exact⟨false,rfl,(fun h=>by cases h),HKR.out⟩
        case neg=>
         have t2:r.to< -9:=by omega
         clear hb;go_wp2;refine bodyPost_ret (by simp [results,Tryz.results17,go_sem];rfl) rfl ?_
         exact⟨false,rfl,(fun h=>by cases h),HKR.out⟩
      case pos=>
       have hltk:(k:Int)<(r.of.length:Int):=by omega
       obtain⟨bi,oi,ci,hsl,hbi,hc⟩:=HIN.out.at hkl
       injection hsl with e1 e2 e3
       subst e1;have q0:=(HKR.out.cell hbi).trans hc;have hbir:=Nat.lt_of_lt_of_le hbi HKR.out.size;have HTK2:Hid (r.of.take (k+1)=r.of.take k++ [r.of[k]]):=zh (List.take_succ_eq_append_getElem hkl);clear hc;generalize r.of[k]=x at*
       by_cases hb:x.natAbs≤9
       case pos=>
        have t1:¬9<x:=by omega
        have t2:¬x< -9:=by omega
        have HX2:Hid (∀y∈r.of.take (k+1),y.natAbs≤9):=zh (by
         rw [HTK2.out];intro y hy
         rcases List.mem_append.1 hy with hy | hy
         ·exact HX.out y hy
         ·rw [List.mem_singleton.1 hy];exact hb)
        clear hb;go_wp2;go_roundw
        case rel=>exact⟨k+1,by omega,by go_num,HX2.out,HKR.out⟩
        case measure=>simp [intOf];omega
       case neg=>
        by_cases t1:9<x
        case pos=>
         go_wp2;refine bodyPost_ret (by simp [results,Tryz.results17,go_sem];rfl) rfl ?_
         exact⟨false,rfl,(fun h=>by cases h),HKR.out⟩
        case neg=>
         have t2:x< -9:=by omega
         clear hb;go_wp2;refine bodyPost_ret (by simp [results,Tryz.results17,go_sem];rfl) rfl ?_
         exact⟨false,rfl,(fun h=>by cases h),HKR.out⟩
end Go.Proofs.YtaiffmebphhdaaaGreat
