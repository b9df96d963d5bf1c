/- The law LatticeLess: its walk. -/
import Derived.Test.YtcnjcnjipddgeaaLcK
import Derived.Test.YtcnjcnjipddgeaaLdRR
import Derived.Test.YtcnjcnjipddgeaaSpK
import Derived.Test.YtcnjcnjipddgeaaRegVV
namespace Go.Proofs.Ytcnjcnjipddgeaa
set_option maxRecDepth 100000
set_option maxHeartbeats 32000000
set_option linter.unusedSimpArgs false
set_option linter.unusedVariables false
open Go.ChangeShapes Go.WideShapes Go.RowKit
theorem less_told (rows:List Rw)(n:Int)(k:Nat)(hk:k<rows.length):(ltR rows n).yes=true→(ltE rows n).1=0∧((ltE (lessW rows k) n).1=0→(ltR (lessW rows k) n).yes=true∧(ltR rows n).ways.length≤(ltR (lessW rows k) n).ways.length):=fun hy=>
 ⟨(lt_yes hy).1,fun h0=>less_lattice hk hy h0⟩
theorem latticeLess_walk (w:World)(v:Value)(rows:List Rw)(n k:Int)(h:IsRows w v rows)(hn:I64 n)(hk:I64 k)(hsz:rows.length*40≤140737488355328):
  Calls Try.prog 3 #[v,.int .i64 n,.int .i64 k] w fun e w'=>e= .returned (.bool true)∧Below w.heap.size w w':=by
 suffices hk:Calls Try.prog 3 #[v,.int .i64 n,.int .i64 k] w fun e w'=>e= .returned (.bool true)∧Keep NoS w w' from hk.mono fun e w' ⟨h1,h2⟩=>⟨h1,h2.below (Nat.le_refl _) fun _ _ h=>h.elim⟩
 have HR:=zh h;obtain⟨oa,ca,rfl,hca1,hca2⟩:=h.len;obtain⟨m,hm⟩:∃m,rows.length=m:=⟨_,rfl⟩;have HM:=zh hm;have HLT:=zh fun(kn:Nat) (hkn:kn<rows.length)=>less_told rows n kn hkn
 have HLL:=zh fun(kn:Nat) (hkn:kn<rows.length)=>lessW_len hkn
 rw [hm]at HR hca1 hsz ⊢;have HSZ:=zh hsz;clear hsz;have hcaM:=hca2;unfold maxLen at hca2;unfold I64 at hk
 by_cases hk0:k<0
 case pos=>
  go_enter Try.func3,Try.ntmps3;go_wp2_with fail;refine(latticeFact_any _).mono ?_;rintro e w1 ⟨rfl,hk1⟩;go_wp2;go_ret;exact⟨rfl,hk1⟩
 case neg=>
  by_cases hkm:(m:Int)≤k
  case pos=>
   go_enter Try.func3,Try.ntmps3;go_wp2_with fail;refine(latticeFact_any _).mono ?_;rintro e w1 ⟨rfl,hk1⟩;go_wp2;go_ret;exact⟨rfl,hk1⟩
  case neg=>
   obtain⟨kn,rfl⟩:∃kn:Nat,k=(kn:Int):=⟨k.toNat,by omega⟩
   have hknm:kn<m:=by omega
   have hkr:kn<rows.length:=by omega
   have HLT:=zh (HLT.out kn hkr);have HLL:=zh (HLL.out kn hkr);obtain⟨b,o,rfl⟩:∃b o,oa=some ⟨b,o,none⟩:=by
    obtain⟨_,_,e,_,_,h4⟩:=HR.out;obtain⟨b,o,e2,_⟩:=h4 (by rintro rfl;simp at hkr)
    cases e
    exact⟨b,o,e2⟩
   have CD:=fun w' (k:Keep NoS w w')=>zh (ltDo_all w' _ rows n (HR.out.keep k) hn)
   have CL:=fun w' v' (h:IsRows w' v' (lessW rows kn))=>zh (ltDo_all w' v' (lessW rows kn) n h hn)
   generalize ltR rows n=R1 at *;generalize ltE rows n=c at *;generalize ltR (lessW rows kn) n=R2 at *;generalize ltE (lessW rows kn) n=d at *;obtain⟨c1,c2⟩:=c;obtain⟨d1,d2⟩:=d;obtain⟨y,at1,ways1,why1,m1⟩:=R1;obtain⟨z,at2,ways2,why2,m2⟩:=R2;unfold fV at CD CL;simp only at CD CL HLT;go_enter Try.func3,Try.ntmps3;go_wp2_with fail;refine(latticeFact_any _).mono ?_;rintro e w1 ⟨rfl,hk1⟩;have K1:=zh hk1;clear hk1;go_wp2_with fail;refine(CD _ K1.out).out.mono ?_;rintro e w3 ⟨va,vw,vy,rfl,_,hw,_,hk3⟩;obtain⟨ow,cw,rfl,_,_⟩:=hw.len;clear hw;have K3:=zh (K1.out.both hk3);have ka:Keep NoS w3 (w3.alloc (.cells #[.int .i64 c1,.int .i64 c2] 28)):=(Keep.refl _ _).alloc _;have HB11:Hid (Blk (w3.alloc (.cells #[.int .i64 c1,.int .i64 c2] 28)) w3.heap.size #[.int .i64 c1,.int .i64 c2]):=zh (blk_at _ _ rfl);have K4:=zh (K3.out.both ka);go_upto_region 7 with fail
   clear hk3 ka CD K3;generalize w3.alloc (.cells #[.int .i64 c1,.int .i64 c2] 28)=w4 at *;generalize w3.heap.size=b11 at *;have s1:(kn:Int)≤(ca:Int):=by omega
   have s2:kn≤ca:=by omega
   have s3:(kn:Int)+1≤(m:Int):=by omega
   have s4:kn+1≤m:=by omega
   have s5:(m:Int)≤(ca:Int):=by omega
   refine wp_region_by (fun w'=>Keep NoS w4 w') [8,9] [([0,1,2,4,5,6,7],3),([],8)] [9] (by kernel_rfl) (by kernel_rfl) kp ?_
   intro X W hne hF hcls;have HCL:=zh hcls;clear hF hcls;have HR4:=zh (HR.out.keep K4.out);have HH:=zh (rows_head (k:=kn) HR4.out (by omega) ca ⟨s2,hcaM⟩)
   have HTL:Hid (IsRows w4 (.slice (if ca=kn+1 then some ⟨b,o,none⟩else some ⟨b,o+(kn+1)*3,none⟩) (m-(kn+1)) (ca-(kn+1))) (rows.drop (kn+1))):=zh (by
    split
    ·have e0:rows.drop (kn+1)= []:=List.drop_eq_nil_of_le (by omega)
     rw [e0];exact⟨_,_,by rw [show m-(kn+1)=0 by omega];rfl,by simp,Nat.le_trans (Nat.sub_le _ _) hcaM,fun h=>absurd rfl h⟩
    ·have:=rows_tail (k:=kn+1) HR4.out (by omega) (ca-(kn+1)) ⟨by omega,Nat.le_trans (Nat.sub_le _ _) hcaM⟩
     rw [hm]at this;exact this)
   obtain⟨v1,wA,hr1,ho1,hg1⟩:=app_rows (w0:=w4) (w:=w4.drew) (base:=w4.heap.size) (OwnR.nil w4 w4.drew _) HH.out (Keep.refl _ _).drew (by have:=HSZ.out;rw [List.length_nil,List.length_take];omega) (Nat.le_refl _)
   rw [List.nil_append]at ho1;have k1:Keep NoS w4 wA:=(Keep.refl NoS w4).drew.grown hg1 (fun k hk=>by cases hk)
   obtain⟨v2,wB,hr2,ho2,hg2⟩:=app_rows ho1 HTL.out k1 (by have:=HSZ.out;rw [List.length_take,List.length_drop];omega) k1.size
   have k2:Keep NoS w4 wB:=k1.grown hg2 (fun k hk=>ho1.block k hk)
   have HO2:Hid (OwnR w4 wB w4.heap.size v2 (lessW rows kn)):=zh ho2;have K2':=zh k2;obtain⟨o1,l1,c1',rfl⟩:∃o l c,v1= .slice o l c:=by obtain⟨o,c,h,_⟩:=ho1.len;exact⟨o,_,c,h⟩
   obtain⟨o2,l2,c2',rfl⟩:∃o l c,v2= .slice o l c:=by obtain⟨o,c,h,_⟩:=ho2.len;exact⟨o,_,c,h⟩
   have HK1:=zh k1;clear ho1 ho2 hg1 hg2 k1 k2;simp only [wpPlan,pickOps,zl0,zl1,zl2,clsOf,Bool.false_eq_true,if_false]
   (repeat(go_big_quiet_step (fail)));refine wpQuiet_nil ?_
   refine wpAt rfl rfl fun K hK=> ?_
   refine wp_app_run _ _ 22 _ _ rfl rfl rfl hr1 ?_;refine hK _ _ ⟨fun _=>HCL.out _ HK1.out,?_⟩
   clear hK hr1;simp only [Act.put,List.setIfInBounds_toArray,List.set_cons_zero,List.set_cons_succ]
   (repeat(go_big_quiet_step (fail)));refine wpQuiet_nil ?_
   refine wpAt rfl rfl fun K hK=> ?_
   refine wp_app_run _ _ 22 _ _ rfl rfl rfl hr2 ?_;refine hK _ _ ⟨fun h=>(by simp at h),?_⟩
   clear hK hr2;simp only [Act.put,List.setIfInBounds_toArray,List.set_cons_zero,List.set_cons_succ]
   (repeat(go_big_quiet_step (fail)));refine wpQuiet_nil ?_
   refine NoPanic.normal ?_;generalize (if ca=kn+1 then some (⟨b,o,none⟩:Addr)else some ⟨b,o+(kn+1)*3,none⟩)=ax at*
   have KB:=zh (K4.out.both K2'.out);have HB11:=zh (HB11.out.keep K2'.out);have CLB:=CL wB _ (HO2.out.rows K2'.out);clear CL HH HTL HR4 HK1 HCL s1 s2 s3 s4 s5 HO2 K2' K4 HSZ HLL;go_wp2_with fail;refine CLB.out.mono ?_;rintro e w5 ⟨va2,vw2,vy2,rfl,_,hw2,_,hk5⟩;obtain⟨ow2,cw2,rfl,_,_⟩:=hw2.len;clear hw2;have ka:Keep NoS w5 (w5.alloc (.cells #[.int .i64 d1,.int .i64 d2] 28)):=(Keep.refl _ _).alloc _;have HB16:Hid (Blk (w5.alloc (.cells #[.int .i64 d1,.int .i64 d2] 28)) w5.heap.size #[.int .i64 d1,.int .i64 d2]):=zh (blk_at _ _ rfl);have HB11:=zh ((HB11.out.keep hk5).keep ka);have K6:=zh ((KB.out.both hk5).both ka);go_upto_region 9 with fail
   clear hk5 ka CLB KB;generalize w5.alloc (.cells #[.int .i64 d1,.int .i64 d2] 28)=w6 at *;generalize w5.heap.size=b16 at *;obtain⟨p0,p1,_,_,pl⟩:=HB11.out.two;obtain⟨q0,q1,_,_,ql⟩:=HB16.out.two;clear hknm hkr hk0 hkm hk hca1 hca2 hcaM
   cases y with
   | false=>
    clear HLT
    by_cases hc:c1=0
    case neg=>
     have e1:(c1 != 0)=true:=by rw [bne_iff_ne];exact hc
     have e2:(c1==0)=false:=by rw [beq_eq_false_iff_ne];exact hc
     clear hc;go_wp2;go_ret;exact⟨rfl,K6.out⟩
    case pos=>
     subst hc
     by_cases hd:d1=0
     case neg=>
      have e1:(d1 != 0)=true:=by rw [bne_iff_ne];exact hd
      clear hd;go_wp2;go_ret;exact⟨rfl,K6.out⟩
     case pos=>
      subst hd;go_wp2;go_ret;exact⟨rfl,K6.out⟩
   | true=>
    obtain⟨rfl,hl⟩:=HLT.out rfl
    by_cases hd:d1=0
    case neg=>
     have e1:(d1 != 0)=true:=by rw [bne_iff_ne];exact hd
     clear hd HLT hl;go_wp2;go_ret;exact⟨rfl,K6.out⟩
    case pos=>
     obtain⟨rfl,hl⟩:=hl hd;subst hd;have e3:(ways1.length:Int)≤(ways2.length:Int):=by omega
     clear HLT;go_wp2;go_ret;exact⟨rfl,K6.out⟩
end Go.Proofs.Ytcnjcnjipddgeaa
