/- The reference's LatticeTakes. -/
import Derived.Test.YtcnjcnjipddgeaaGreatRfAA
import Derived.Test.YtcnjcnjipddgeaaGreatLtB
namespace Go.Proofs.YtcnjcnjipddgeaaGreat
set_option maxRecDepth 100000
set_option maxHeartbeats 16000000
set_option linter.unusedSimpArgs false
set_option linter.unusedVariables false
open Go.ChangeShapes Go.WideShapes Go.RowKit
theorem den_sign {q:Rat}:(q.den=1∧((q.den:Int)-1).sign=0)∨(q.den≠1∧((q.den:Int)-1).sign=1):=by
 have:=q.den_pos
 by_cases h:q.den=1
 ·left;rw [h];exact⟨rfl,rfl⟩
 ·right;exact⟨h,Int.sign_eq_one_of_pos (by omega)⟩
theorem lt1_any {rows:List Rw}{ts:List Rat}{N k:Nat}(hk:k<N)(h:(colK rows ts k rows.length).den≠1):lt1 rows ts N=false:=by
 unfold lt1;have:(colL rows ts N rows.length).any frP=true:=List.any_eq_true.2 ⟨_,List.mem_map.2 ⟨k,List.mem_range.2 hk,rfl⟩,by unfold frP;simp [h]⟩
 rw [this];rfl
theorem lt1_all {rows:List Rw}{ts:List Rat}{N:Nat}(h:∀k,k<N→(colK rows ts k rows.length).den=1):lt1 rows ts N=frP (toK rows ts rows.length):=by
 unfold lt1;have:(colL rows ts N rows.length).any frP=false:=by
  rw [List.any_eq_false];intro q hq;obtain⟨m,hm,rfl⟩:=List.mem_map.1 hq;unfold frP;simp [h m (List.mem_range.1 hm)]
 rw [this];rfl
theorem refLT_any (w:World)(v:Value)(rows:List Rw)(N:Nat)(vt:Value)(times:List Fq)(h:IsRows w v rows)(ht:IsFracs w vt times)(hok:∀r∈rows,RowOK r N)(h40:rows.length≤40)(hN:N≤12)(hlen:times.length=rows.length)(hfr:∀g∈times,FracOK g.N g.D):
  Calls Tryz.prog 10 #[v,.int .i64 (N:Int),vt] w fun e w'=>e= .returned (.bool (lt1 rows (times.map Fq.q) N))∧Keep NoS w w':=by
 have hnt:∀q∈times.map Fq.q,NB 1 q:=by
  intro q hq;obtain⟨g,hg,rfl⟩:=List.mem_map.1 hq;exact nb_frac (hfr g hg)
 have CC0:=fun w' (k:Keep NoS w w') j=>refCol_any w' v rows N j vt times (h.keep k) (ht.keep k) hok h40 hlen hfr
 have CC0:=zh CC0;have HDN:=zh (fun j=>((nb_refCol (N:=N) (k:=j) hok hnt rows.length).rb (by omega)).2)
 have HLA:=zh (fun k hk h=>lt1_any (rows:=rows) (ts:=times.map Fq.q) (N:=N) (k:=k) hk h)
 have HLB:=zh (fun h=>lt1_all (rows:=rows) (ts:=times.map Fq.q) (N:=N) h)
 have HRC:=zh (fun k (hk:k<N)=>show refCol rows (times.map Fq.q) N k rows.length=colK rows (times.map Fq.q) k rows.length from by unfold refCol;rw [if_pos hk])
 have HRT:=zh (show refCol rows (times.map Fq.q) N N rows.length=toK rows (times.map Fq.q) rows.length from by unfold refCol;rw [if_neg (by omega)])
 generalize lt1 rows (times.map Fq.q) N=tb at *;obtain⟨oa,ca,rfl,_,hma⟩:=h.len;obtain⟨ot,ct,rfl,_,hmt⟩:=ht.len;clear h ht hok hfr hlen hnt hma hmt;go_enter Tryz.func10,Tryz.ntmps10;go_wp2_with fail;refine(newInt_any _ 1 (by omega) (by omega)).mono ?_
 rintro e w1 ⟨b1,hb1,rfl,hk1,hi1⟩;have HK1:=zh hk1;have HONE0:=zh hi1;clear hk1 hi1 hb1;go_wp2;go_loopw [8] (fun s wr=>∃k:Nat,k≤N∧s= .int .i64 k∧Keep NoS w1 wr∧∀j,j<k→(colK rows (times.map Fq.q) j rows.length).den=1) (fun s _=>(N-intOf s).toNat)
 case atStart=>exact⟨0,by omega,rfl,Keep.refl _ _,fun j hj=>by omega⟩
 case round=>
  obtain⟨k,hk,rfl,hkr,hall⟩:=hrel;have KW:=zh hkr;have HKR:=zh (HK1.out.both hkr);have HALL:=zh hall;clear hkr hall
  by_cases hkn:k<N
  case pos=>
   have hlt:(k:Int)<(N:Int):=by omega
   have CC:=fun w' (k':Keep NoS wr w')=>zh (CC0.out w' (HKR.out.both k') k)
   have HDB:=zh (HDN.out k);have HEQ:=HRC.out k hkn;rw [HEQ]at CC HDB
   rcases den_sign (q:=colK rows (times.map Fq.q) k rows.length)with⟨hd,hsg⟩ | ⟨hd,hsg⟩
   ·have HSG:=zh hsg
    have HALL2:Hid (∀j,j<k+1→(colK rows (times.map Fq.q) j rows.length).den=1):=zh fun j hj=>by
     by_cases hjk:j=k
     ·subst hjk;exact hd
     ·exact HALL.out j (by omega)
    generalize colK rows (times.map Fq.q) k rows.length=q at CC HDB HSG;clear hd hsg HEQ;go_wp2_with fail;refine(CC _ (Keep.refl _ _)).out.mono ?_;rintro e w3 ⟨b3,hb3,rfl,hk3,hi3⟩;have K3:=zh (HKR.out.both hk3);have W3:=zh (KW.out.both hk3);have HI3:=zh hi3;clear hk3 hi3 hb3 CC;go_wp2_with fail;refine(denom_any w3 b3 0 _ HI3.out HDB.out).mono ?_;rintro e w4 ⟨b4,hb4,rfl,hk4,hi4⟩;have K4:=zh (K3.out.both hk4);have HI4:=zh hi4;have W4:=zh (W3.out.both hk4);have HONE:=zh (HONE0.out.ofNewer W4.out);clear hk4 hi4 hb4 HI3;go_wp2_with fail;refine(intCmp_any w4 b4 0 b1 0 _ 1 HI4.out HONE.out).mono ?_;rintro e w5 ⟨rfl,nn,rfl⟩;rw [HSG.out];have K5:Hid (Keep NoS w (w4.drewN nn)):=zh ((K4.out).drewN nn);have K5W:Hid (Keep NoS w1 (w4.drewN nn)):=zh ((W4.out).drewN nn);clear HI4 HONE;generalize w4.drewN nn=w5 at *;have HW5:Hid (Keep NoS w1 w5):=K5W;clear K5W;go_wp2;go_roundw
    case rel=>exact⟨k+1,by omega,by go_num,HW5.out,HALL2.out⟩
    case measure=>simp [intOf];omega
   ·have HSG:=zh hsg
    obtain rfl:tb=false:=HLA.out k hkn hd;generalize colK rows (times.map Fq.q) k rows.length=q at CC HDB HSG;clear hd hsg HEQ;go_wp2_with fail;refine(CC _ (Keep.refl _ _)).out.mono ?_;rintro e w3 ⟨b3,hb3,rfl,hk3,hi3⟩;have K3:=zh (HKR.out.both hk3);have W3:=zh (KW.out.both hk3);have HI3:=zh hi3;clear hk3 hi3 hb3 CC;go_wp2_with fail;refine(denom_any w3 b3 0 _ HI3.out HDB.out).mono ?_;rintro e w4 ⟨b4,hb4,rfl,hk4,hi4⟩;have K4:=zh (K3.out.both hk4);have HI4:=zh hi4;have W4:=zh (W3.out.both hk4);have HONE:=zh (HONE0.out.ofNewer W4.out);clear hk4 hi4 hb4 HI3;go_wp2_with fail;refine(intCmp_any w4 b4 0 b1 0 _ 1 HI4.out HONE.out).mono ?_;rintro e w5 ⟨rfl,nn,rfl⟩;rw [HSG.out];have K5:Hid (Keep NoS w (w4.drewN nn)):=zh ((K4.out).drewN nn);have K5W:Hid (Keep NoS w1 (w4.drewN nn)):=zh ((W4.out).drewN nn);clear HI4 HONE;generalize w4.drewN nn=w5 at *;clear K5W;go_wp2;go_ret;exact⟨rfl,K5.out⟩
  case neg=>
   have hlt:¬(k:Int)<(N:Int):=by omega
   obtain rfl:k=N:=by omega
   have hlb:=HLB.out HALL.out;have CC:=fun w' (k':Keep NoS wr w')=>zh (CC0.out w' (HKR.out.both k') k)
   have HDB:=zh (HDN.out k);have HEQ:=HRT.out;rw [HEQ]at CC HDB
   rcases den_sign (q:=toK rows (times.map Fq.q) rows.length)with⟨hd,hsg⟩ | ⟨hd,hsg⟩
   ·have HSG:=zh hsg
    obtain rfl:tb=false:=by rw [hlb];unfold frP;simp [hd]
    generalize toK rows (times.map Fq.q) rows.length=q at CC HDB HSG;clear hd hsg HEQ hlb;go_wp2_with fail;refine(CC _ (Keep.refl _ _)).out.mono ?_;rintro e w3 ⟨b3,hb3,rfl,hk3,hi3⟩;have K3:=zh (HKR.out.both hk3);have W3:=zh (KW.out.both hk3);have HI3:=zh hi3;clear hk3 hi3 hb3 CC;go_wp2_with fail;refine(denom_any w3 b3 0 _ HI3.out HDB.out).mono ?_;rintro e w4 ⟨b4,hb4,rfl,hk4,hi4⟩;have K4:=zh (K3.out.both hk4);have HI4:=zh hi4;have W4:=zh (W3.out.both hk4);have HONE:=zh (HONE0.out.ofNewer W4.out);clear hk4 hi4 hb4 HI3;go_wp2_with fail;refine(intCmp_any w4 b4 0 b1 0 _ 1 HI4.out HONE.out).mono ?_;rintro e w5 ⟨rfl,nn,rfl⟩;rw [HSG.out];have K5:Hid (Keep NoS w (w4.drewN nn)):=zh ((K4.out).drewN nn);have K5W:Hid (Keep NoS w1 (w4.drewN nn)):=zh ((W4.out).drewN nn);clear HI4 HONE;generalize w4.drewN nn=w5 at *;clear K5W;go_wp2;go_ret;exact⟨rfl,K5.out⟩
   ·have HSG:=zh hsg
    obtain rfl:tb=true:=by rw [hlb];unfold frP;simp [hd]
    generalize toK rows (times.map Fq.q) rows.length=q at CC HDB HSG;clear hd hsg HEQ hlb;go_wp2_with fail;refine(CC _ (Keep.refl _ _)).out.mono ?_;rintro e w3 ⟨b3,hb3,rfl,hk3,hi3⟩;have K3:=zh (HKR.out.both hk3);have W3:=zh (KW.out.both hk3);have HI3:=zh hi3;clear hk3 hi3 hb3 CC;go_wp2_with fail;refine(denom_any w3 b3 0 _ HI3.out HDB.out).mono ?_;rintro e w4 ⟨b4,hb4,rfl,hk4,hi4⟩;have K4:=zh (K3.out.both hk4);have HI4:=zh hi4;have W4:=zh (W3.out.both hk4);have HONE:=zh (HONE0.out.ofNewer W4.out);clear hk4 hi4 hb4 HI3;go_wp2_with fail;refine(intCmp_any w4 b4 0 b1 0 _ 1 HI4.out HONE.out).mono ?_;rintro e w5 ⟨rfl,nn,rfl⟩;rw [HSG.out];have K5:Hid (Keep NoS w (w4.drewN nn)):=zh ((K4.out).drewN nn);have K5W:Hid (Keep NoS w1 (w4.drewN nn)):=zh ((W4.out).drewN nn);clear HI4 HONE;generalize w4.drewN nn=w5 at *;clear K5W;go_wp2;go_ret;exact⟨rfl,K5.out⟩
end Go.Proofs.YtcnjcnjipddgeaaGreat
