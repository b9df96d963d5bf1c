/- The reference's Equations. -/
import Derived.Test.YtcnjcnjipddgeaaGreatFkAA
import Derived.Test.YtcnjcnjipddgeaaGreatLtA
import Derived.Test.YtcnjcnjipddgeaaGreatPtAA
namespace Go.Proofs.YtcnjcnjipddgeaaGreat
set_option maxRecDepth 100000
set_option maxHeartbeats 8000000
set_option linter.unusedSimpArgs false
set_option linter.unusedVariables false
open Go.ChangeShapes Go.WideShapes Go.RowKit
theorem listF_zero {rows:List Rw}{n:Int}(h0:(listF rows n).1=0):listF rows n=(0,0):=by
 unfold listF at h0 ⊢
 by_cases h1:n<0∨12<n
 ·rw [if_pos h1]at h0;simp at h0
 ·rw [if_neg h1]at h0 ⊢
  by_cases h2:40<rows.length
  ·rw [if_pos h2]at h0;simp at h0
  ·rw [if_neg h2]at h0 ⊢
   exact(firstRow_all h0).1
theorem refEq_any (w:World)(v:Value)(rows:List Rw)(n:Int)(h:IsRows w v rows)(hn:I64 n):
  Calls Tryz.prog 7 #[v,.int .i64 n] w fun e w'=>e= .returned (fV (eqF rows n))∧Keep NoS w w':=by
 have CH:=fun w' (k:Keep NoS w w')=>zh (refRows_any w' v rows n (h.keep k) hn)
 have HN:=zh h;have HP:Hid (eqF rows n=if(listF rows n).1≠0 then listF rows n else firstK rows 0):=zh rfl
 have HLO:Hid ((listF rows n).1=0→listF rows n=(0,0)):=zh listF_zero;generalize eqF rows n=pf at *;generalize listF rows n=c at *;obtain⟨c1,c2⟩:=c;obtain⟨oa,ca,rfl,_,hma⟩:=h.len;unfold maxLen at hma;unfold fV at CH ⊢;simp only at CH HP HLO;clear h;go_enter Tryz.func7,Tryz.ntmps7;go_wp2_with fail;refine(CH _ kp).out.mono ?_;rintro e w1 ⟨rfl,hk1⟩;have B4:Blk w1 w.heap.size #[.int .i64 0,.int .i64 0]:=Blk.keep kb hk1;have K1:Hid (Keep NoS w w1):=zh (Keep.both kp hk1);have h45:w.heap.size≠w1.heap.size:=by have:=B4.lt;omega
 have HB4:=zh (B4.old (.cells #[.int .i64 c1,.int .i64 c2] 28));have HB5:Hid (Blk (w1.alloc (.cells #[.int .i64 c1,.int .i64 c2] 28)) w1.heap.size #[.int .i64 c1,.int .i64 c2]):=zh (blk_at _ _ rfl);have HK0:Hid (Keep NoS w (w1.alloc (.cells #[.int .i64 c1,.int .i64 c2] 28))):=zh (K1.out.alloc _);have HS5:Hid (w.heap.size≤w1.heap.size):=zh K1.out.size;clear hk1 CH B4 K1
 by_cases hc:c1=0
 case neg=>
  have hpf:=HP.out;rw [if_pos hc]at hpf;have HPS:Hid (c1≠0∧pf=(c1,c2)):=zh ⟨hc,hpf⟩;clear hpf HP hc HLO;go_wp2_with fail;generalize w1.alloc (.cells #[.int .i64 c1,.int .i64 c2] 28)=w2 at *;generalize w1.heap.size=b5 at *;generalize hb4:w.heap.size=b4 at HB4 h45 ⊢;have HS4:Hid (w.heap.size≤b4):=zh (by omega)
  clear hb4;go_loopw [6] (fun s wr=>∃k:Nat,∃f1 f2:Int,k≤rows.length∧s= .int .i64 k∧Keep NoS w wr∧Blk wr b4 #[.int .i64 0,.int .i64 0]∧Blk wr b5 #[.int .i64 f1,.int .i64 f2]∧(f1≠0∧pf=(f1,f2)∨(f1,f2)=(0,0)∧pf=firstK (rows.drop k) k)) (fun s _=>(rows.length-intOf s).toNat)
  case atStart=>exact⟨0,c1,c2,by omega,rfl,HK0.out,HB4.out,HB5.out,.inl HPS.out⟩
  case round=>
   obtain⟨k,f1,f2,hk,rfl,hkr,hb4,hb5,hp⟩:=hrel;have HKR:=zh hkr;have HB4:=zh hb4;have HB5:=zh hb5;clear hkr hb4 hb5 HK0
   by_cases hend:k<rows.length∧f1=0
   ·obtain ⟨hkl,rfl⟩:=hend
    rcases hp with⟨h0,_⟩ | ⟨hf,hp⟩
    ·exact absurd rfl h0
    have HPK:=zh hp;obtain rfl:f2=0:=congrArg Prod.snd hf;clear hf hp;have hlt:(k:Int)<(rows.length:Int):=by omega
    obtain⟨b,o,rfl,hbl,hrow⟩:=(HN.out.keep HKR.out).at hkl;obtain⟨os,cs,p0,p1,p2,_⟩:=hrow.row;obtain⟨s0,s1,t0,t1,sl⟩:=HB5.out.two;have HIN:=zh (fun h=>firstK_in (i:=k) hkl h)
    have HOUT:=zh (fun h=>firstK_out (i:=k) hkl h)
    generalize rows[k]=r at *;obtain⟨rof,rkd,rto⟩:=r;simp only at p0 p1 p2 HIN HOUT;clear hrow
    by_cases hx:rkd=3
    ·have HNX:=zh (HPK.out.trans (HIN.out hx))
     have e9:(rkd != 3)=false:=by rw [bne_eq_false_iff_eq];exact hx
     clear hx HIN HOUT HPK;go_wp2;go_roundw
     case rel=>exact⟨k+1,0,0,by omega,by go_num,HKR.out,HB4.out,HB5.out,.inr ⟨rfl,HNX.out⟩⟩
     case measure=>simp [intOf];omega
    ·have HNX:=zh (HPK.out.trans (HOUT.out hx))
     have e9:(rkd != 3)=true:=by rw [bne_iff_ne];exact hx
     clear hx HIN HOUT HPK;go_wp2_with fail;refine(fault_any 4 k _).mono ?_;rintro e w5 ⟨rfl,hk5⟩;have HB4:=zh (HB4.out.keep hk5);have HB5:=zh (HB5.out.keep hk5);have K5:=zh (HKR.out.both hk5);clear hk5 s0 s1 t0 t1 sl;obtain⟨s0,s1,t0,t1,sl⟩:=HB5.out.two;unfold fV;go_wp2;go_roundw
     case rel=>exact⟨k+1,4,k,by omega,by go_num,keep_set2 K5.out HS5.out _ _,HB4.out.other2 h45 _ _,HB5.out.set2 _ _,.inl ⟨by omega,HNX.out⟩⟩
     case measure=>simp [intOf];omega
   ·have hpf2:pf=(f1,f2):=by
     rcases hp with⟨_,h⟩ | ⟨hf,h⟩
     ·exact h
     ·have h1:f1=0:=congrArg Prod.fst hf
      rw [h,hf];exact firstK_end (by omega)
    have HPE:=zh hpf2;clear hp hpf2;obtain⟨s0,s1,t0,t1,sl⟩:=HB5.out.two;obtain⟨r0,r1,q0,q1,rl⟩:=HB4.out.two
    by_cases hkl:k<rows.length
    ·have hlt:(k:Int)<(rows.length:Int):=by omega
     have e1:(f1==0)=false:=by rw [beq_eq_false_iff_ne];intro h;exact hend ⟨hkl,h⟩
     go_wp2;refine bodyPost_ret (by simp [results,Tryz.results7,go_sem,r0,r1,rl];rfl) rfl ?_
     exact⟨by rw [HPE.out],keep_set2 HKR.out HS4.out _ _⟩
    ·have hlt:¬(k:Int)<(rows.length:Int):=by omega
     go_wp2;refine bodyPost_ret (by simp [results,Tryz.results7,go_sem,r0,r1,rl];rfl) rfl ?_
     exact⟨by rw [HPE.out],keep_set2 HKR.out HS4.out _ _⟩
 case pos=>
  subst hc;have hcc:=HLO.out rfl;obtain rfl:c2=0:=congrArg Prod.snd hcc;have hpf:=HP.out;rw [if_neg (by simp)]at hpf
  have HPS:Hid (pf=firstK (rows.drop 0) 0):=zh hpf;clear hpf HP hcc HLO;go_wp2_with fail;generalize w1.alloc (.cells #[.int .i64 0,.int .i64 0] 28)=w2 at *;generalize w1.heap.size=b5 at *;generalize hb4:w.heap.size=b4 at HB4 h45 ⊢;have HS4:Hid (w.heap.size≤b4):=zh (by omega)
  clear hb4;go_loopw [6] (fun s wr=>∃k:Nat,∃f1 f2:Int,k≤rows.length∧s= .int .i64 k∧Keep NoS w wr∧Blk wr b4 #[.int .i64 0,.int .i64 0]∧Blk wr b5 #[.int .i64 f1,.int .i64 f2]∧(f1≠0∧pf=(f1,f2)∨(f1,f2)=(0,0)∧pf=firstK (rows.drop k) k)) (fun s _=>(rows.length-intOf s).toNat)
  case atStart=>exact⟨0,0,0,by omega,rfl,HK0.out,HB4.out,HB5.out,.inr ⟨rfl,HPS.out⟩⟩
  case round=>
   obtain⟨k,f1,f2,hk,rfl,hkr,hb4,hb5,hp⟩:=hrel;have HKR:=zh hkr;have HB4:=zh hb4;have HB5:=zh hb5;clear hkr hb4 hb5 HK0
   by_cases hend:k<rows.length∧f1=0
   ·obtain ⟨hkl,rfl⟩:=hend
    rcases hp with⟨h0,_⟩ | ⟨hf,hp⟩
    ·exact absurd rfl h0
    have HPK:=zh hp;obtain rfl:f2=0:=congrArg Prod.snd hf;clear hf hp;have hlt:(k:Int)<(rows.length:Int):=by omega
    obtain⟨b,o,rfl,hbl,hrow⟩:=(HN.out.keep HKR.out).at hkl;obtain⟨os,cs,p0,p1,p2,_⟩:=hrow.row;obtain⟨s0,s1,t0,t1,sl⟩:=HB5.out.two;have HIN:=zh (fun h=>firstK_in (i:=k) hkl h)
    have HOUT:=zh (fun h=>firstK_out (i:=k) hkl h)
    generalize rows[k]=r at *;obtain⟨rof,rkd,rto⟩:=r;simp only at p0 p1 p2 HIN HOUT;clear hrow
    by_cases hx:rkd=3
    ·have HNX:=zh (HPK.out.trans (HIN.out hx))
     have e9:(rkd != 3)=false:=by rw [bne_eq_false_iff_eq];exact hx
     clear hx HIN HOUT HPK;go_wp2;go_roundw
     case rel=>exact⟨k+1,0,0,by omega,by go_num,HKR.out,HB4.out,HB5.out,.inr ⟨rfl,HNX.out⟩⟩
     case measure=>simp [intOf];omega
    ·have HNX:=zh (HPK.out.trans (HOUT.out hx))
     have e9:(rkd != 3)=true:=by rw [bne_iff_ne];exact hx
     clear hx HIN HOUT HPK;go_wp2_with fail;refine(fault_any 4 k _).mono ?_;rintro e w5 ⟨rfl,hk5⟩;have HB4:=zh (HB4.out.keep hk5);have HB5:=zh (HB5.out.keep hk5);have K5:=zh (HKR.out.both hk5);clear hk5 s0 s1 t0 t1 sl;obtain⟨s0,s1,t0,t1,sl⟩:=HB5.out.two;unfold fV;go_wp2;go_roundw
     case rel=>exact⟨k+1,4,k,by omega,by go_num,keep_set2 K5.out HS5.out _ _,HB4.out.other2 h45 _ _,HB5.out.set2 _ _,.inl ⟨by omega,HNX.out⟩⟩
     case measure=>simp [intOf];omega
   ·have hpf2:pf=(f1,f2):=by
     rcases hp with⟨_,h⟩ | ⟨hf,h⟩
     ·exact h
     ·have h1:f1=0:=congrArg Prod.fst hf
      rw [h,hf];exact firstK_end (by omega)
    have HPE:=zh hpf2;clear hp hpf2;obtain⟨s0,s1,t0,t1,sl⟩:=HB5.out.two;obtain⟨r0,r1,q0,q1,rl⟩:=HB4.out.two
    by_cases hkl:k<rows.length
    ·have hlt:(k:Int)<(rows.length:Int):=by omega
     have e1:(f1==0)=false:=by rw [beq_eq_false_iff_ne];intro h;exact hend ⟨hkl,h⟩
     go_wp2;refine bodyPost_ret (by simp [results,Tryz.results7,go_sem,r0,r1,rl];rfl) rfl ?_
     exact⟨by rw [HPE.out],keep_set2 HKR.out HS4.out _ _⟩
    ·have hlt:¬(k:Int)<(rows.length:Int):=by omega
     go_wp2;refine bodyPost_ret (by simp [results,Tryz.results7,go_sem,r0,r1,rl];rfl) rfl ?_
     exact⟨by rw [HPE.out],keep_set2 HKR.out HS4.out _ _⟩
end Go.Proofs.YtcnjcnjipddgeaaGreat
