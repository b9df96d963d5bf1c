/- The lattice laws' shapes: lists that are as long as they should be, and small. -/
import Derived.Test.YtcnjcnjipddgeaaGreatLdV
import Derived.Test.YtcnjcnjipddgeaaGreatRefFits
namespace Go.Proofs.YtcnjcnjipddgeaaGreat
set_option maxRecDepth 100000
set_option maxHeartbeats 16000000
set_option linter.unusedSimpArgs false
set_option linter.unusedVariables false
open Go.ChangeShapes Go.WideShapes Go.RowKit
theorem shapes_yes (w:World)(N:Nat)(va vw:Value)(a:List Int)(ways:List (List Int))(ha:IsInts w va a)(hw:IsWays w vw ways)(hN:N≤12)(hal:a.length=N)(hwl:ways.length≤N)(haf:∀x∈a,fitI x)(hww:∀u∈ways,u.length=N∧∀x∈u,fitI x):
  Calls Tryz.prog 11 #[.int .i64 (N:Int),va,vw] w fun e w'=>e= .returned (.bool true)∧Keep NoS w w':=by
 have HA:=zh ha;have HW:=zh hw;have HAF:=zh haf;have HWW:=zh hww;obtain⟨oa,ca,rfl,_⟩:=ha.len;obtain⟨ow,cw,rfl,_,_⟩:=hw.len;obtain⟨M,hM⟩:∃M,ways.length=M:=⟨_,rfl⟩;have HM:=zh hM;have HAL:=zh hal;rw [hM]at hwl HW;rw [hal]at HA;rw [hal,hM];clear ha hw haf hww hM hal;have e1:¬(N:Int)<(M:Int):=by omega
 have CF:=fun x w=>zh (refFit_any w x)
 go_enter Tryz.func11,Tryz.ntmps11;go_wp2;go_loopw [7] (fun s wr=>∃k:Nat,k≤M∧s= .int .i64 k∧Keep NoS w wr) (fun s _=>(M-intOf s).toNat)
 case atStart=>exact⟨0,by omega,rfl,Keep.refl _ _⟩
 case round=>
  obtain⟨k,hk,rfl,hkr⟩:=hrel;have HKR:=zh hkr;clear hkr
  by_cases hkl:k<M
  case neg=>
   have hlt:¬(k:Int)<(M:Int):=by omega
   obtain⟨wk,hwk⟩:∃W:World,W=wr:=⟨_,rfl⟩;subst hwk;clear HW HWW e1;go_wp2;have HK0:=HKR;go_loopw [9] (fun s wr=>∃j:Nat,j≤N∧s= .int .i64 j∧Keep NoS w wr) (fun s _=>(N-intOf s).toNat)
   case atStart=>exact⟨0,by omega,rfl,HK0.out⟩
   case round=>
    obtain⟨j,hj,rfl,hkr⟩:=hrel;have HKX:=zh hkr;clear hkr HK0 HKR
    by_cases hjl:j<N
    case neg=>
     have hltj:¬(j:Int)<(N:Int):=by omega
     go_wp2;go_ret;exact⟨rfl,HKX.out⟩
    case pos=>
     have hltj:(j:Int)<(N:Int):=by omega
     have hja:j<a.length:=by rw [HAL.out];exact hjl
     obtain⟨b,o,cap,hv,hbl,p0⟩:=HA.out.at hja
     cases hv
     have p0:=(HKX.out.cell hbl).trans p0;have hbr:=Nat.lt_of_lt_of_le hbl HKX.out.size;have hfx:=HAF.out _ (List.getElem_mem hja);have CX:=CF a[j];rw [decide_eq_true hfx]at CX;generalize a[j]=x at *;clear hfx hja hbl;go_wp2_with fail;refine(CX _).out.mono ?_;rintro e w4 ⟨rfl,hk4⟩;have K4:Hid (Keep NoS w w4):=zh (HKX.out.both (Keep.trans kp hk4 fun _ _ _ h=>h))
     clear hk4 p0 hbr CX;go_wp2;go_roundw
     case rel=>exact⟨j+1,by omega,by go_num,K4.out⟩
     case measure=>simp [intOf];omega
  case pos=>
   have hlt:(k:Int)<(M:Int):=by omega
   have hkw:k<ways.length:=by rw [HM.out];exact hkl
   obtain⟨b,o,cap,sv,hv,hbl,p0,hsv⟩:=HW.out.at hkw
   cases hv
   obtain⟨hul,huf⟩:=HWW.out _ (List.getElem_mem hkw);generalize ways[k]=u at *;obtain⟨ou,cu,rfl,_⟩:=hsv.len;have HU:=zh hsv;have HUF:=zh huf;have HUL:=zh hul;rw [hul]at p0 HU;have P0:=zh p0;have HBL:=zh hbl;clear huf hul hsv p0 hbl hkw;have p0:=(HKR.out.cell HBL.out).trans P0.out;have hbr:=Nat.lt_of_lt_of_le HBL.out HKR.out.size;obtain⟨wk,hwk⟩:∃W:World,W=wr:=⟨_,rfl⟩;subst hwk;go_wp2;clear p0 hbr;have HK0:=HKR;go_loopw [8] (fun s wr=>∃j:Nat,j≤N∧s= .int .i64 j∧Keep NoS w wr) (fun s _=>(N-intOf s).toNat)
   case atStart=>exact⟨0,by omega,rfl,HK0.out⟩
   case round=>
    obtain⟨j,hj,rfl,hkr⟩:=hrel;have HKX:=zh hkr;clear hkr HK0 HKR
    by_cases hjl:j<N
    case neg=>
     have hltj:¬(j:Int)<(N:Int):=by omega
     go_wp2;go_roundw
     case rel=>exact⟨k+1,by omega,by go_num,HKX.out⟩
     case measure=>simp [intOf];omega
    case pos=>
     have hltj:(j:Int)<(N:Int):=by omega
     have hju:j<u.length:=by rw [HUL.out];exact hjl
     obtain⟨bu,oo,cap',hv,hbu,q0⟩:=HU.out.at hju
     cases hv
     have p0:=(HKX.out.cell HBL.out).trans P0.out;have hbr:=Nat.lt_of_lt_of_le HBL.out HKX.out.size;have q0:=(HKX.out.cell hbu).trans q0;have hbq:=Nat.lt_of_lt_of_le hbu HKX.out.size;have hfx:=HUF.out _ (List.getElem_mem hju);have CX:=CF u[j];rw [decide_eq_true hfx]at CX;generalize u[j]=x at *;clear hfx hju hbu;go_wp2_with fail;refine(CX _).out.mono ?_;rintro e w4 ⟨rfl,hk4⟩;have K4:Hid (Keep NoS w w4):=zh (HKX.out.both (Keep.trans kp hk4 fun _ _ _ h=>h))
     clear hk4 p0 hbr q0 hbq CX;go_wp2;go_roundw
     case rel=>exact⟨j+1,by omega,by go_num,K4.out⟩
     case measure=>simp [intOf];omega
end Go.Proofs.YtcnjcnjipddgeaaGreat
