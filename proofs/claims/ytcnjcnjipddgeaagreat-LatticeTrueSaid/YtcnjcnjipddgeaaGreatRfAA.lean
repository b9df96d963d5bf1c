/- The reference's Column. The reference's Strict. The reference's ToNone. -/
import Derived.Test.YtcnjcnjipddgeaaGreatFkAA
import Derived.Test.YtcnjcnjipddgeaaGreatPtAA
import Derived.Test.YtcnjcnjipddgeaaGreatExAA
namespace Go.Proofs.YtcnjcnjipddgeaaGreat
set_option maxRecDepth 100000
set_option maxHeartbeats 16000000
set_option linter.unusedSimpArgs false
set_option linter.unusedVariables false
open Go.ChangeShapes Go.WideShapes Go.RowKit
def cellZ (r:Rw)(N k:Nat):Int:=if k<N then r.of.getD k 0 else r.to
def refCol (rows:List Rw)(ts:List Rat)(N k i:Nat):Rat:=if k<N then colK rows ts k i else toK rows ts i
theorem refCol_zero {rows:List Rw}{ts:List Rat}{N k:Nat}:refCol rows ts N k 0=0:=by unfold refCol;split<;>rfl
theorem refCol_succ {rows:List Rw}{ts:List Rat}{N k i:Nat}:refCol rows ts N k (i+1)=refCol rows ts N k i+ts.getD i 0*(cellZ (rows.getD i nilRw) N k:Rat):=by
 unfold refCol cellZ
 split
 ·simp only [colK];rw [Rat.mul_comm]
 ·simp only [toK];rw [Rat.mul_comm]
theorem nb_refCol {rows:List Rw}{ts:List Rat}{N k:Nat}{n:Int}(hr:∀r∈rows,RowOK r n)(ht:∀q∈ts,NB 1 q)(i:Nat):NB (3*i+1) (refCol rows ts N k i):=by
 unfold refCol
 split
 ·exact nb_col hr ht k i
 ·exact nb_to hr ht i
theorem refCol_any (w:World)(v:Value)(rows:List Rw)(N k:Nat)(vt:Value)(times:List Fq)(h:IsRows w v rows)(ht:IsFracs w vt times)(hok:∀r∈rows,RowOK r N)(h40:rows.length≤40)(hlen:times.length=rows.length)(hfr:∀g∈times,FracOK g.N g.D):
  Calls Tryz.prog 33 #[v,.int .i64 (N:Int),vt,.int .i64 (k:Int)] w (NewR (refCol rows (times.map Fq.q) N k rows.length) w):=by
 have HR:=zh h;have HT:=zh ht;have HOK:=zh hok;have HFR:=zh hfr;have HLEN:=zh hlen;have hnt:∀q∈times.map Fq.q,NB 1 q:=by
  intro q hq;obtain⟨g,hg,rfl⟩:=List.mem_map.1 hq;exact nb_frac (hfr g hg)
 have HNTS:=zh hnt;obtain⟨oa,ca,rfl,_,hma⟩:=h.len;obtain⟨ot,ct,rfl,_,hmt⟩:=ht.len;unfold maxLen at hma hmt;clear h ht hok hfr hlen hnt;go_enter Tryz.func33,Tryz.ntmps33;go_wp2_with fail;refine(newRat_any _ 0 1 (by omega) (by omega) (by omega) (by omega) (by omega)).mono ?_
 rintro e w1 ⟨b1,hb1,rfl,hk1,hi1⟩;have HK1:=zh hk1;have HI1:Hid (IsRat w1 b1 0 (refCol rows (times.map Fq.q) N k 0)):=zh (by rw [refCol_zero];rw [divInt_one]at hi1;exact hi1)
 have HB1:=zh hb1;clear hk1 hi1 hb1;go_wp2;go_loopw [9,10] (fun s t wr=>∃i b:Nat,i≤rows.length∧t= .int .i64 i∧s= .pointer (some ⟨b,0,none⟩)∧w.heap.size≤b∧Keep NoS w wr∧IsRat wr b 0 (refCol rows (times.map Fq.q) N k i)) (fun _ t _=>(rows.length-intOf t).toNat)
 case atStart=>exact⟨0,b1,by omega,rfl,rfl,HB1.out,HK1.out,HI1.out⟩
 case round=>
  obtain⟨i,b,hi,rfl,rfl,hb,hkr,hsum⟩:=hrel;have HKR:=zh hkr;have HSU:=zh hsum;have HB:=zh hb;clear hkr hsum hb HK1 HI1 HB1
  by_cases hil:i<rows.length
  case neg=>
   have hlt:¬(i:Int)<(rows.length:Int):=by omega
   obtain rfl:i=rows.length:=by omega
   go_wp2;go_ret;exact⟨b,HB.out,rfl,HKR.out,HSU.out⟩
  case pos=>
   have hlt:(i:Int)<(rows.length:Int):=by omega
   have hit:i<times.length:=by have:=HLEN.out;omega
   have hltt:(i:Int)<(times.length:Int):=by omega
   obtain⟨br,o,rfl,hbl,hrow⟩:=HR.out.at hil;obtain⟨os,cs,r0,r1,r2,hrow⟩:=hrow.row;obtain⟨bt,ot',rfl,hbt,p0,p1⟩:=HT.out.at hit;have r0:=(HKR.out.cell hbl).trans r0;have r2:=(HKR.out.cell hbl).trans r2;have p0:=(HKR.out.cell hbt).trans p0;have p1:=(HKR.out.cell hbt).trans p1;have hblr:=Nat.lt_of_lt_of_le hbl HKR.out.size;have hbtr:=Nat.lt_of_lt_of_le hbt HKR.out.size;have hokr:=HOK.out _ (List.getElem_mem hil);have hfk:=HFR.out _ (List.getElem_mem hit);have HSTEP:Hid (refCol rows (times.map Fq.q) N k i+(times[i]).q*(cellZ rows[i] N k:Rat)=refCol rows (times.map Fq.q) N k (i+1)):=zh (by rw [refCol_succ,row_getD hil,map_getD hit])
   have HNS:=zh ((nb_refCol (N:=N) (k:=k) HOK.out HNTS.out i).mono (k:=2000) (by omega))
   have hfc:fitI (cellZ rows[i] N k):=by
    unfold cellZ
    split
    ·have:=(row_fit HOK.out i k).1;rwa [row_getD hil]at this
    ·exact hokr.fto
   have HNT:=zh ((nb_frac hfk).mono (k:=2000) (by omega))
   have HNC:=zh ((nb_fitI hfc).mono (k:=2000) (by omega))
   have HNP:=zh (((nb_frac hfk).mul (nb_fitI hfc)).mono (k:=2000) (by omega))
   have hcz:cellZ rows[i] N k=if k<N then(rows[i]).of.getD k 0 else(rows[i]).to:=rfl
   generalize rows[i]=r at *;obtain⟨sv,hsv,hint,_⟩:=hrow
   cases hsv
   have HIN:=zh hint;generalize cellZ r N k=c at *;unfold fitI at hfc;obtain⟨d1,d2,d3,d4,_⟩:=hfk;have HTQ:Hid ((times[i]).q=Rat.divInt times[i].N times[i].D):=zh rfl;rw [HTQ.out]at HSTEP HNT HNP;generalize times[i].N=gn at *;generalize times[i].D=gd at *;clear hint hokr HTQ
   by_cases hkn:k<N
   case neg=>
    have e1:¬(k:Int)<(N:Int):=by omega
    rw [if_neg hkn]at hcz;rw [← hcz]at r2;clear hcz hkn;go_wp2_with fail;have ka:Keep NoS wr (wr.alloc (.cells ratCells 107)):=(Keep.refl _ _).alloc _;have kb:Keep NoS (wr.alloc (.cells ratCells 107)) ((wr.alloc (.cells ratCells 107)).alloc (.cells ratCells 107)):=(Keep.refl _ _).alloc _;refine(refRat_any gn gd _ (by omega) (by omega) (by omega) (by omega) (by omega)).mono ?_
    rintro e w3 ⟨b1,hb1,rfl,hk3,hi1⟩;have ka3:=zh (kb.both hk3);have HH5:=zh ((rhdr_new (wr.alloc (.cells ratCells 107))).ofNewer hk3);rw [show(wr.alloc (.cells ratCells 107)).heap.size=wr.heap.size+1 from by simp]at HH5
    have HI1:=zh hi1;clear kb hk3 hi1 p0 p1 r0 r1 r2;go_wp2_with fail;refine(newRat_any _ c 1 (by omega) (by omega) (by omega) (by omega) (by omega)).mono ?_
    rintro e w4 ⟨b2,hb2,rfl,hk4,hi2⟩;have ka4:=zh (ka3.out.both hk4);have HH5:=zh (HH5.out.ofNewer hk4);have HI1:=zh (HI1.out.ofNewer hk4);have HI2:=zh hi2;rw [divInt_one]at HI2;clear hk4 hi2 ka3;go_wp2_with fail;refine(wMul_any w4 (wr.heap.size+1) 0 b1 0 b2 0 _ _ HH5.out HI1.out HI2.out HNT.out HNC.out).mono ?_;rintro e w5 ⟨rfl,hk5,hi5⟩;have ka5:=zh (ka4.out.newerR hk5 (by simp))
    have K5:=zh (ka.both ka5.out);have HH3:=zh ((rhdr_new wr).ofNewer ka5.out);have HI5:=zh hi5;clear hk5 hi5 ka4 HH5 HI1 HI2;go_wp2_with fail;refine(wAdd_any w5 wr.heap.size 0 b 0 (wr.heap.size+1) 0 _ _ HH3.out (HSU.out.ofNewer K5.out) HI5.out HNS.out HNP.out).mono ?_;rintro e w6 ⟨rfl,hk6,hi6⟩;have K6:=zh (K5.out.newerR hk6 (Nat.le_refl _));rw [HSTEP.out]at hi6;have HI6:=zh hi6;clear hk6 hi6 HH3 HI5;go_wp2;go_roundw
    case rel=>exact⟨i+1,_,by omega,by go_num,rfl,HKR.out.size,HKR.out.both K6.out,HI6.out⟩
    case measure=>simp [intOf];omega
   case pos=>
    have e1:(k:Int)<(N:Int):=by omega
    rw [if_pos hkn]at hcz
    by_cases hkl:k<r.of.length
    case neg=>
     have e2:¬(k:Int)<(r.of.length:Int):=by omega
     rw [getD_out (by omega)]at hcz
     subst hcz;go_wp2_with fail;have ka:Keep NoS wr (wr.alloc (.cells ratCells 107)):=(Keep.refl _ _).alloc _;have kb:Keep NoS (wr.alloc (.cells ratCells 107)) ((wr.alloc (.cells ratCells 107)).alloc (.cells ratCells 107)):=(Keep.refl _ _).alloc _;refine(refRat_any gn gd _ (by omega) (by omega) (by omega) (by omega) (by omega)).mono ?_
     rintro e w3 ⟨b1,hb1,rfl,hk3,hi1⟩;have ka3:=zh (kb.both hk3);have HH5:=zh ((rhdr_new (wr.alloc (.cells ratCells 107))).ofNewer hk3);rw [show(wr.alloc (.cells ratCells 107)).heap.size=wr.heap.size+1 from by simp]at HH5
     have HI1:=zh hi1;clear kb hk3 hi1 p0 p1 r0 r1 r2;go_wp2_with fail;refine(newRat_any _ 0 1 (by omega) (by omega) (by omega) (by omega) (by omega)).mono ?_
     rintro e w4 ⟨b2,hb2,rfl,hk4,hi2⟩;have ka4:=zh (ka3.out.both hk4);have HH5:=zh (HH5.out.ofNewer hk4);have HI1:=zh (HI1.out.ofNewer hk4);have HI2:=zh hi2;rw [divInt_one]at HI2;clear hk4 hi2 ka3;go_wp2_with fail;refine(wMul_any w4 (wr.heap.size+1) 0 b1 0 b2 0 _ _ HH5.out HI1.out HI2.out HNT.out HNC.out).mono ?_;rintro e w5 ⟨rfl,hk5,hi5⟩;have ka5:=zh (ka4.out.newerR hk5 (by simp))
     have K5:=zh (ka.both ka5.out);have HH3:=zh ((rhdr_new wr).ofNewer ka5.out);have HI5:=zh hi5;clear hk5 hi5 ka4 HH5 HI1 HI2;go_wp2_with fail;refine(wAdd_any w5 wr.heap.size 0 b 0 (wr.heap.size+1) 0 _ _ HH3.out (HSU.out.ofNewer K5.out) HI5.out HNS.out HNP.out).mono ?_;rintro e w6 ⟨rfl,hk6,hi6⟩;have K6:=zh (K5.out.newerR hk6 (Nat.le_refl _));rw [HSTEP.out]at hi6;have HI6:=zh hi6;clear hk6 hi6 HH3 HI5;go_wp2;go_roundw
     case rel=>exact⟨i+1,_,by omega,by go_num,rfl,HKR.out.size,HKR.out.both K6.out,HI6.out⟩
     case measure=>simp [intOf];omega
    case pos=>
     have e2:(k:Int)<(r.of.length:Int):=by omega
     obtain⟨bi,oi,cp,hsl,hbi,hxi0⟩:=HIN.out.at hkl;simp at hsl;obtain⟨rfl,rfl⟩:=hsl;have hxi:=(HKR.out.cell hbi).trans hxi0;clear hxi0;have hbir:=Nat.lt_of_lt_of_le hbi HKR.out.size;rw [List.getD_eq_getElem?_getD,List.getElem?_eq_getElem hkl]at hcz;have hcz':c=r.of[k]:=hcz;clear hcz;subst hcz';go_wp2_with fail;have ka:Keep NoS wr (wr.alloc (.cells ratCells 107)):=(Keep.refl _ _).alloc _;have kb:Keep NoS (wr.alloc (.cells ratCells 107)) ((wr.alloc (.cells ratCells 107)).alloc (.cells ratCells 107)):=(Keep.refl _ _).alloc _;refine(refRat_any gn gd _ (by omega) (by omega) (by omega) (by omega) (by omega)).mono ?_
     rintro e w3 ⟨b1,hb1,rfl,hk3,hi1⟩;have ka3:=zh (kb.both hk3);have HH5:=zh ((rhdr_new (wr.alloc (.cells ratCells 107))).ofNewer hk3);rw [show(wr.alloc (.cells ratCells 107)).heap.size=wr.heap.size+1 from by simp]at HH5
     have HI1:=zh hi1;clear kb hk3 hi1 p0 p1 r0 r1 r2 hxi;go_wp2_with fail;refine(newRat_any _ _ 1 (by omega) (by omega) (by omega) (by omega) (by omega)).mono ?_
     rintro e w4 ⟨b2,hb2,rfl,hk4,hi2⟩;have ka4:=zh (ka3.out.both hk4);have HH5:=zh (HH5.out.ofNewer hk4);have HI1:=zh (HI1.out.ofNewer hk4);have HI2:=zh hi2;rw [divInt_one]at HI2;clear hk4 hi2 ka3;go_wp2_with fail;refine(wMul_any w4 (wr.heap.size+1) 0 b1 0 b2 0 _ _ HH5.out HI1.out HI2.out HNT.out HNC.out).mono ?_;rintro e w5 ⟨rfl,hk5,hi5⟩;have ka5:=zh (ka4.out.newerR hk5 (by simp))
     have K5:=zh (ka.both ka5.out);have HH3:=zh ((rhdr_new wr).ofNewer ka5.out);have HI5:=zh hi5;clear hk5 hi5 ka4 HH5 HI1 HI2;go_wp2_with fail;refine(wAdd_any w5 wr.heap.size 0 b 0 (wr.heap.size+1) 0 _ _ HH3.out (HSU.out.ofNewer K5.out) HI5.out HNS.out HNP.out).mono ?_;rintro e w6 ⟨rfl,hk6,hi6⟩;have K6:=zh (K5.out.newerR hk6 (Nat.le_refl _));rw [HSTEP.out]at hi6;have HI6:=zh hi6;clear hk6 hi6 HH3 HI5;go_wp2;go_roundw
     case rel=>exact⟨i+1,_,by omega,by go_num,rfl,HKR.out.size,HKR.out.both K6.out,HI6.out⟩
     case measure=>simp [intOf];omega
end Go.Proofs.YtcnjcnjipddgeaaGreat
