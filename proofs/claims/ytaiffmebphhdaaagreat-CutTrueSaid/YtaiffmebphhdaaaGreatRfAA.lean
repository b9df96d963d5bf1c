/- The reference's Column. The reference's Strict. The reference's ToNone. -/
import Derived.Test.YtaiffmebphhdaaaGreatFkAA
import Derived.Test.YtaiffmebphhdaaaGreatPtAA
import Derived.Test.YtaiffmebphhdaaaGreatExAA
namespace Go.Proofs.YtaiffmebphhdaaaGreat
set_option maxRecDepth 100000
set_option maxHeartbeats 16000000
set_option linter.unusedSimpArgs false
set_option linter.unusedVariables false
open Go.ChangeShapes Go.WideShapes Go.RowKit
def Fu (r:Rw)(N k:Nat):Int:=if k<N then r.of.getD k 0 else r.to
def jU (rows:List Rw)(ts:List Rat)(N k i:Nat):Rat:=if k<N then Gf rows ts k i else Uk rows ts i
theorem MS {rows:List Rw}{ts:List Rat}{N k:Nat}:jU rows ts N k 0=0:=by unfold jU;split<;>rfl
theorem MU {rows:List Rw}{ts:List Rat}{N k i:Nat}:jU rows ts N k (i+1)=jU rows ts N k i+ts.getD i 0*(Fu (rows.getD i bG) N k:Rat):=by
 unfold jU Fu;split
 ·simp only [Gf];rw [Rat.mul_comm]
 simp only [Uk];rw [Rat.mul_comm]
theorem TN {rows:List Rw}{ts:List Rat}{N k:Nat}{n:Int}(hr:∀r∈rows,eD r n)(ht:∀q∈ts,NB 1 q)(i:Nat):NB (3*i+1) (jU rows ts N k i):=by
 unfold jU;split
 ·exact Xi hr ht k i
 exact zah hr ht i
theorem OY (w:World)(v:Value)(rows:List Rw)(N k:Nat)(vt:Value)(times:List Fq)(h:dD w v rows)(ht:dh w vt times)(hok:∀r∈rows,eD r N)(h40:rows.length≤64)(hlen:times.length=rows.length)(hfr:∀g∈times,dW g.N g.D):
  Calls Tryz.prog 73 #[v,.int .i64 (N:Int),vt,.int .i64 (k:Int)] w (Yh (jU rows (times.map Fq.q) N k rows.length) w):=by
 have HR:=zh h;have HT:=zh ht;have Dn:=zh hok;have HFR:=zh hfr;have HLEN:=zh hlen;have hnt:∀q∈times.map Fq.q,NB 1 q:=by
  intro q hq;obtain⟨g,hg,rfl⟩:=List.mem_map.1 hq;exact zV (hfr g hg)
 have zdn:=zh hnt;obtain⟨oa,ca,rfl,_,hma⟩:=h.len;obtain⟨ot,ct,rfl,_,hmt⟩:=ht.len;unfold maxLen at hma hmt;clear h ht hok hfr hlen hnt;go_enter Tryz.func73,Tryz.ntmps73;go_wp2_with fail;refine(iE _ 0 1 om om om om om).mono ?_;rintro e w1 ⟨b1,hb1,rfl,hk1,hi1⟩;have Nn:=zh hk1;have HI1:Hid (eZ w1 b1 0 (jU rows (times.map Fq.q) N k 0)):=zh (by rw [MS];rw [jG]at hi1;exact hi1);have HB1:=zh hb1;clear hk1 hi1 hb1;go_wp2;go_loopw [9,10] (fun s t wr=>∃i b:Nat,i≤rows.length∧t= .int .i64 i∧s= .pointer (some ⟨b,0,none⟩)∧w.heap.size≤b∧Keep au w wr∧eZ wr b 0 (jU rows (times.map Fq.q) N k i)) (fun _ t _=>(rows.length-intOf t).toNat)
 case atStart=>exact⟨0,b1,om,rfl,rfl,HB1.out,Nn.out,HI1.out⟩
 obtain⟨i,b,hi,rfl,rfl,hb,hkr,hsum⟩:=hrel;have cK:=zh hkr;have Ci:=zh hsum;have HB:=zh hb;clear hkr hsum hb Nn HI1 HB1;by_cases hil:i<rows.length
 case neg=>
  have hlt:¬(i:Int)<(rows.length:Int):=om;obtain rfl:i=rows.length:=om;go_wp2;go_ret;exact⟨b,HB.out,rfl,cK.out,Ci.out⟩
 have hlt:(i:Int)<(rows.length:Int):=om;have hit:i<times.length:=by have:=HLEN.out;omega
 have zcz:(i:Int)<(times.length:Int):=om;obtain⟨br,o,rfl,hbl,hrow⟩:=HR.out.at hil;obtain⟨os,cs,r0,r1,r2,hrow⟩:=hrow.row;obtain⟨bt,ot',rfl,hbt,p0,p1⟩:=HT.out.at hit;have r0:=(cK.out.cell hbl).trans r0;have r2:=(cK.out.cell hbl).trans r2;have p0:=(cK.out.cell hbt).trans p0;have p1:=(cK.out.cell hbt).trans p1;have NZ:=dJ hbl cK.out.size;have zdj:=dJ hbt cK.out.size;have hokr:=Dn.out _ (List.getElem_mem hil);have hfk:=HFR.out _ (List.getElem_mem hit);have BD:Hid (jU rows (times.map Fq.q) N k i+(times[i]).q*(Fu rows[i] N k:Rat)=jU rows (times.map Fq.q) N k (i+1)):=zh (by rw [MU,mV hil,Fj hit]);have uP:=zh ((TN (N:=N) (k:=k) Dn.out zdn.out i).mono (k:=2000) om);have hfc:bZ (Fu rows[i] N k):=by
  unfold Fu;split
  ·have:=(Jz Dn.out i k).1;rwa [mV hil]at this
  exact hokr.fto
 have HNT:=zh ((zV hfk).mono (k:=2000) om);have XZ:=zh ((wC hfc).mono (k:=2000) om);have Qn:=zh (((zV hfk).mul (wC hfc)).mono (k:=2000) om);have hcz:Fu rows[i] N k=if k<N then(rows[i]).of.getD k 0 else(rows[i]).to:=rfl;generalize rows[i]=r at *;obtain⟨sv,hsv,hint,_⟩:=hrow;cases hsv;have jV:=zh hint;generalize Fu r N k=c at *;unfold bZ at hfc;obtain⟨d1,d2,d3,d4,_⟩:=hfk;have HTQ:Hid ((times[i]).q=Rat.divInt times[i].N times[i].D):=zh rfl;rw [HTQ.out]at BD HNT Qn;generalize times[i].N=gn at *;generalize times[i].D=gd at *;clear hint hokr HTQ;by_cases hkn:k<N
 case neg=>
  have e1:¬(k:Int)<(N:Int):=om;rw [if_neg hkn]at hcz;rw [← hcz]at r2;clear hcz hkn;go_wp2_with fail;have ka:Keep au wr (wr.alloc (.cells bK 130)):=(Keep.refl _ _).alloc _;have kb:Keep au (wr.alloc (.cells bK 130)) ((wr.alloc (.cells bK 130)).alloc (.cells bK 130)):=(Keep.refl _ _).alloc _;refine(pJ gn gd _ om om om om om).mono ?_;rintro e w3 ⟨b1,hb1,rfl,hk3,hi1⟩;have ka3:=zh (kb.both hk3);have Ef:=zh ((gT (wr.alloc (.cells bK 130))).ofNewer hk3);rw [show(wr.alloc (.cells bK 130)).heap.size=wr.heap.size+1 from sm]at Ef;have HI1:=zh hi1;clear kb hk3 hi1 p0 p1 r0 r1 r2;go_wp2_with fail;refine(iE _ c 1 om om om om om).mono ?_;rintro e w4 ⟨b2,hb2,rfl,hk4,hi2⟩;have ka4:=zh (ka3.out.both hk4);have Ef:=zh (Ef.out.ofNewer hk4);have HI1:=zh (HI1.out.ofNewer hk4);have HI2:=zh hi2;rw [jG]at HI2;clear hk4 hi2 ka3;go_wp2_with fail;refine(rZ w4 (wr.heap.size+1) 0 b1 0 b2 0 _ _ Ef.out HI1.out HI2.out HNT.out XZ.out).mono ?_;rintro e w5 ⟨rfl,hk5,hi5⟩;have ka5:=zh (ka4.out.newerR hk5 sm);have K5:=zh (ka.both ka5.out);have HH3:=zh ((gT wr).ofNewer ka5.out);have Dk:=zh hi5;clear hk5 hi5 ka4 Ef HI1 HI2;go_wp2_with fail;refine(su w5 wr.heap.size 0 b 0 (wr.heap.size+1) 0 _ _ HH3.out (Ci.out.ofNewer K5.out) Dk.out uP.out Qn.out).mono ?_;rintro e w6 ⟨rfl,hk6,hi6⟩;have K6:=zh (K5.out.newerR hk6 (Nat.le_refl _));rw [BD.out]at hi6;have Uc:=zh hi6;clear hk6 hi6 HH3 Dk;go_wp2;go_roundw
  case rel=>exact⟨i+1,_,om,by go_num,rfl,cK.out.size,cK.out.both K6.out,Uc.out⟩
  simp [intOf];omega
 have e1:(k:Int)<(N:Int):=om;rw [if_pos hkn]at hcz;by_cases hkl:k<r.of.length
 case neg=>
  have e2:¬(k:Int)<(r.of.length:Int):=om;rw [Fh om]at hcz;subst hcz;go_wp2_with fail;have ka:Keep au wr (wr.alloc (.cells bK 130)):=(Keep.refl _ _).alloc _;have kb:Keep au (wr.alloc (.cells bK 130)) ((wr.alloc (.cells bK 130)).alloc (.cells bK 130)):=(Keep.refl _ _).alloc _;refine(pJ gn gd _ om om om om om).mono ?_;rintro e w3 ⟨b1,hb1,rfl,hk3,hi1⟩;have ka3:=zh (kb.both hk3);have Ef:=zh ((gT (wr.alloc (.cells bK 130))).ofNewer hk3);rw [show(wr.alloc (.cells bK 130)).heap.size=wr.heap.size+1 from sm]at Ef;have HI1:=zh hi1;clear kb hk3 hi1 p0 p1 r0 r1 r2;go_wp2_with fail;refine(iE _ 0 1 om om om om om).mono ?_;rintro e w4 ⟨b2,hb2,rfl,hk4,hi2⟩;have ka4:=zh (ka3.out.both hk4);have Ef:=zh (Ef.out.ofNewer hk4);have HI1:=zh (HI1.out.ofNewer hk4);have HI2:=zh hi2;rw [jG]at HI2;clear hk4 hi2 ka3;go_wp2_with fail;refine(rZ w4 (wr.heap.size+1) 0 b1 0 b2 0 _ _ Ef.out HI1.out HI2.out HNT.out XZ.out).mono ?_;rintro e w5 ⟨rfl,hk5,hi5⟩;have ka5:=zh (ka4.out.newerR hk5 sm);have K5:=zh (ka.both ka5.out);have HH3:=zh ((gT wr).ofNewer ka5.out);have Dk:=zh hi5;clear hk5 hi5 ka4 Ef HI1 HI2;go_wp2_with fail;refine(su w5 wr.heap.size 0 b 0 (wr.heap.size+1) 0 _ _ HH3.out (Ci.out.ofNewer K5.out) Dk.out uP.out Qn.out).mono ?_;rintro e w6 ⟨rfl,hk6,hi6⟩;have K6:=zh (K5.out.newerR hk6 (Nat.le_refl _));rw [BD.out]at hi6;have Uc:=zh hi6;clear hk6 hi6 HH3 Dk;go_wp2;go_roundw
  case rel=>exact⟨i+1,_,om,by go_num,rfl,cK.out.size,cK.out.both K6.out,Uc.out⟩
  simp [intOf];omega
 have e2:(k:Int)<(r.of.length:Int):=om;obtain⟨bi,oi,cp,hsl,hbi,hxi0⟩:=jV.out.at hkl;simp at hsl;obtain⟨rfl,rfl⟩:=hsl;have hxi:=(cK.out.cell hbi).trans hxi0;clear hxi0;have zbI:=dJ hbi cK.out.size;rw [dX,fG hkl]at hcz;have zdo:c=r.of[k]:=hcz;clear hcz;subst zdo;go_wp2_with fail;have ka:Keep au wr (wr.alloc (.cells bK 130)):=(Keep.refl _ _).alloc _;have kb:Keep au (wr.alloc (.cells bK 130)) ((wr.alloc (.cells bK 130)).alloc (.cells bK 130)):=(Keep.refl _ _).alloc _;refine(pJ gn gd _ om om om om om).mono ?_;rintro e w3 ⟨b1,hb1,rfl,hk3,hi1⟩;have ka3:=zh (kb.both hk3);have Ef:=zh ((gT (wr.alloc (.cells bK 130))).ofNewer hk3);rw [show(wr.alloc (.cells bK 130)).heap.size=wr.heap.size+1 from sm]at Ef;have HI1:=zh hi1;clear kb hk3 hi1 p0 p1 r0 r1 r2 hxi;go_wp2_with fail;refine(iE _ _ 1 om om om om om).mono ?_;rintro e w4 ⟨b2,hb2,rfl,hk4,hi2⟩;have ka4:=zh (ka3.out.both hk4);have Ef:=zh (Ef.out.ofNewer hk4);have HI1:=zh (HI1.out.ofNewer hk4);have HI2:=zh hi2;rw [jG]at HI2;clear hk4 hi2 ka3;go_wp2_with fail;refine(rZ w4 (wr.heap.size+1) 0 b1 0 b2 0 _ _ Ef.out HI1.out HI2.out HNT.out XZ.out).mono ?_;rintro e w5 ⟨rfl,hk5,hi5⟩;have ka5:=zh (ka4.out.newerR hk5 sm);have K5:=zh (ka.both ka5.out);have HH3:=zh ((gT wr).ofNewer ka5.out);have Dk:=zh hi5;clear hk5 hi5 ka4 Ef HI1 HI2;go_wp2_with fail;refine(su w5 wr.heap.size 0 b 0 (wr.heap.size+1) 0 _ _ HH3.out (Ci.out.ofNewer K5.out) Dk.out uP.out Qn.out).mono ?_;rintro e w6 ⟨rfl,hk6,hi6⟩;have K6:=zh (K5.out.newerR hk6 (Nat.le_refl _));rw [BD.out]at hi6;have Uc:=zh hi6;clear hk6 hi6 HH3 Dk;go_wp2;go_roundw
 case rel=>exact⟨i+1,_,om,by go_num,rfl,cK.out.size,cK.out.both K6.out,Uc.out⟩
 simp [intOf];omega
theorem Zz {g:Fq}(h:dW g.N g.D):g.q=0↔g.N=0:=by
 have hd:=h.1;show Rat.divInt g.N g.D=0↔g.N=0;constructor
 ·intro h;rw [← Rat.zero_divInt g.D,Rat.divInt_eq_divInt_iff om om,Int.zero_mul]at h;rcases Int.mul_eq_zero.1 h with h | h
  ·exact h
  omega
 intro h;rw [h,Rat.zero_divInt]
theorem Ih {rows:List Rw}{ts:List Rat}{k:Nat}(h:uO rows ts k=true):∀j,uO rows ts (k+j)=true
 | 0=>h
 | j+1=>by show uO rows ts (k+j+1)=true;simp only [uO];rw [Ih h j];rfl
theorem Gj (w:World)(v:Value)(rows:List Rw)(vt:Value)(times:List Fq)(h:dD w v rows)(ht:dh w vt times)(hlen:times.length=rows.length)(hfr:∀g∈times,dW g.N g.D):
  Calls Tryz.prog 74 #[v,vt] w fun e w'=>e= .returned (.bool (uO rows (times.map Fq.q) rows.length))∧Keep au w w':=by
 have HR:=zh h;have HT:=zh ht;have HFR:=zh hfr;have HLEN:=zh hlen;obtain⟨oa,ca,rfl,_,hma⟩:=h.len;obtain⟨ot,ct,rfl,_,hmt⟩:=ht.len;unfold maxLen at hma hmt;clear h ht hfr hlen;go_enter Tryz.func74,Tryz.ntmps74;go_wp2;go_loopw [5] (fun s wr=>∃k:Nat,k≤rows.length∧s= .int .i64 k∧uO rows (times.map Fq.q) k=false∧Keep au w wr) (fun s _=>(rows.length-intOf s).toNat)
 case atStart=>exact⟨0,om,rfl,rfl,Keep.refl _ _⟩
 obtain⟨k,hk,rfl,hs,hkr⟩:=hrel;have HS:=zh hs;have cK:=zh hkr;clear hs hkr;by_cases hkl:k<rows.length
 case neg=>
  have hlt:¬(k:Int)<(rows.length:Int):=om;obtain rfl:k=rows.length:=om;go_wp2;go_ret;exact⟨by rw [HS.out];rfl,cK.out⟩
 have hlt:(k:Int)<(rows.length:Int):=om;have hkt:k<times.length:=by have:=HLEN.out;omega
 have zcz:(k:Int)<(times.length:Int):=om;obtain⟨b,o,rfl,hbl,hrow⟩:=HR.out.at hkl;obtain⟨os,cs,p0,p1,p2,hrow⟩:=hrow.row;obtain⟨b',o',rfl,OW,c0,c1⟩:=HT.out.at hkt;have p0:=(cK.out.cell hbl).trans p0;have p1:=(cK.out.cell hbl).trans p1;have p2:=(cK.out.cell hbl).trans p2;have c0:=(cK.out.cell OW).trans c0;have c1:=(cK.out.cell OW).trans c1;have NZ:=dJ hbl cK.out.size;have zcA:=dJ OW cK.out.size;have hst:uO rows (times.map Fq.q) (k+1)=(decide (rows[k].kind=2)&&decide ((times[k]).q≠0)):=by
  simp only [uO];rw [HS.out,mV hkl,Fj hkt,Bool.false_or]
 have hqz:=Zz (HFR.out _ (List.getElem_mem hkt));simp only [ne_eq,hqz]at hst;generalize rows[k]=r at *;obtain⟨oN,Gq,QZ⟩:=r;generalize (times[k]).N=gn at *;generalize (times[k]).D=gd at *;simp only at p0 p1 p2 hst;clear hrow hqz;by_cases h2:Gq=2
 case neg=>
  have e1:(Gq==2)=false:=by rw [beq_eq_false_iff_ne];exact h2
  have HST:Hid (uO rows (times.map Fq.q) (k+1)=false):=zh (by rw [hst];simp [h2]);clear hst h2;go_wp2;go_roundw
  case rel=>exact⟨k+1,om,by go_num,HST.out,cK.out⟩
  simp [intOf];omega
 have e1:(Gq==2)=true:=by rw [beq_iff_eq];exact h2
 by_cases hg:gn=0
 case pos=>
  have e2:(gn != 0)=false:=by rw [bne_eq_false_iff_eq];exact hg
  have HST:Hid (uO rows (times.map Fq.q) (k+1)=false):=zh (by rw [hst];simp [hg]);clear hst hg h2;go_wp2;go_roundw
  case rel=>exact⟨k+1,om,by go_num,HST.out,cK.out⟩
  simp [intOf];omega
 have e2:(gn != 0)=true:=by rw [bne_iff_ne];exact hg
 have HST:Hid (uO rows (times.map Fq.q) rows.length=true):=zh (by
  have h0:uO rows (times.map Fq.q) (k+1)=true:=by rw [hst];simp [hg,h2]
  have:=Ih h0 (rows.length-(k+1));rwa [show k+1+(rows.length-(k+1))=rows.length from om]at this)
 clear hst hg h2;go_wp2;go_ret;exact⟨by rw [HST.out];rfl,cK.out⟩
theorem Fv {rows:List Rw}{ts:List Rat}{k:Nat}(h:oC rows ts k=false):∀j,oC rows ts (k+j)=false
 | 0=>h
 | j+1=>by show oC rows ts (k+j+1)=false;simp only [oC];rw [Fv h j];rfl
theorem F7 (w:World)(v:Value)(rows:List Rw)(N:Nat)(vt:Value)(times:List Fq)(h:dD w v rows)(ht:dh w vt times)(hok:∀r∈rows,eD r N)(h40:rows.length≤64)(hN:N≤12)(hlen:times.length=rows.length)(hfr:∀g∈times,dW g.N g.D):
  Calls Tryz.prog 40 #[v,.int .i64 (N:Int),vt] w fun e w'=>e= .returned (.bool (Xj rows (times.map Fq.q) N))∧Keep au w w':=by
 have CC0:=fun w' (k:Keep au w w') j=>OY w' v rows N j vt times (h.keep k) (ht.keep k) hok h40 hlen hfr;have CC0:=zh CC0;have CS:=fun w' (k:Keep au w w')=>zh (Gj w' v rows vt times (h.keep k) (ht.keep k) hlen hfr);have HR:=zh h;have HT:=zh ht;have Dn:=zh hok;have HFR:=zh hfr;have HLEN:=zh hlen;have HRC:=zh (fun k (hk:k<N)=>show jU rows (times.map Fq.q) N k rows.length=Gf rows (times.map Fq.q) k rows.length from by unfold jU;rw [if_pos hk]);have HRT:=zh (show jU rows (times.map Fq.q) N N rows.length=Uk rows (times.map Fq.q) rows.length from by unfold jU;rw [if_neg om]);have OZ:=zh (show Xj rows (times.map Fq.q) N=(wW rows (times.map Fq.q) rows.length&&(oC rows (times.map Fq.q) N&&Zm rows (times.map Fq.q)))from rfl);generalize Xj rows (times.map Fq.q) N=tb at *;obtain⟨oa,ca,rfl,_,hma⟩:=h.len;obtain⟨ot,ct,rfl,_,hmt⟩:=ht.len;unfold maxLen at hma hmt;clear h ht hok hfr hlen;go_enter Tryz.func40,Tryz.ntmps40;go_wp2;go_loopw [7] (fun s wr=>∃k:Nat,k≤rows.length∧s= .int .i64 k∧wW rows (times.map Fq.q) k=true∧Keep au w wr) (fun s _=>(rows.length-intOf s).toNat)
 case atStart=>exact⟨0,om,rfl,rfl,Keep.refl _ _⟩
 obtain⟨k,hk,rfl,hp,hkr⟩:=hrel;have HP:=zh hp;have cK:=zh hkr;clear hp hkr;by_cases hkl:k<rows.length
 case pos=>
  have hlt:(k:Int)<(rows.length:Int):=om;have hkt:k<times.length:=by have:=HLEN.out;omega
  have zcz:(k:Int)<(times.length:Int):=om;obtain⟨b,o,rfl,hbl,hrow⟩:=HR.out.at hkl;obtain⟨os,cs,p0,p1,p2,hrow⟩:=hrow.row;obtain⟨b',o',rfl,OW,c0,c1⟩:=HT.out.at hkt;have p1:=(cK.out.cell hbl).trans p1;have c0:=(cK.out.cell OW).trans c0;have NZ:=dJ hbl cK.out.size;have zcA:=dJ OW cK.out.size;have hst:wW rows (times.map Fq.q) (k+1)=(decide (rows[k].kind=3) || decide (0≤(times[k]).N)):=by
   simp only [wW];rw [HP.out,mV hkl,Fj hkt];simp only [ML (HFR.out _ (List.getElem_mem hkt)),Bool.true_and]
  generalize rows[k]=r at *;obtain⟨oN,Gq,QZ⟩:=r;generalize (times[k]).N=gn at *;generalize (times[k]).D=gd at *;simp only at p1 hst;clear hrow p0 p2;by_cases h3:Gq=3
  case pos=>
   have e1:(Gq != 3)=false:=by rw [bne_eq_false_iff_eq];exact h3
   have HST:Hid (wW rows (times.map Fq.q) (k+1)=true):=zh (by rw [hst];simp [h3]);clear hst h3;go_wp2;go_roundw
   case rel=>exact⟨k+1,om,by go_num,HST.out,cK.out⟩
   simp [intOf];omega
  have e1:(Gq != 3)=true:=by rw [bne_iff_ne];exact h3
  by_cases hg:gn<0
  ·have HST:Hid (wW rows (times.map Fq.q) rows.length=false):=zh (by
    have h0:wW rows (times.map Fq.q) (k+1)=false:=by rw [hst];simp [h3];omega
    have:=Ie h0 (rows.length-(k+1));rwa [show k+1+(rows.length-(k+1))=rows.length from om]at this)
   have hgd:decide (gn<0)=true:=bL hg;have zZ:=OZ.out;rw [HST.out,Bool.false_and]at zZ;subst zZ;clear hst OZ h3;go_wp2;go_ret;exact⟨rfl,cK.out⟩
  have HST:Hid (wW rows (times.map Fq.q) (k+1)=true):=zh (by rw [hst];simp;omega);have hgd:decide (gn<0)=false:=aZ hg;clear hst h3;go_wp2;go_roundw
  case rel=>exact⟨k+1,om,by go_num,HST.out,cK.out⟩
  simp [intOf];omega
 have hlt:¬(k:Int)<(rows.length:Int):=om;obtain rfl:k=rows.length:=om;have OZ:=zh (show tb=(oC rows (times.map Fq.q) N&&Zm rows (times.map Fq.q))from by rw [OZ.out,HP.out,Bool.true_and]);clear HP;go_wp2;have Nn:=cK;clear cK;go_loopw [8] (fun s wr=>∃k:Nat,k≤N∧s= .int .i64 k∧oC rows (times.map Fq.q) k=true∧Keep au w wr) (fun s _=>(N-intOf s).toNat)
 case atStart=>exact⟨0,om,rfl,rfl,Nn.out⟩
 obtain⟨k,hk,rfl,hz,hkr⟩:=hrel;have HZ:=zh hz;have cK:=zh hkr;clear hz hkr Nn;by_cases hkn:k<N
 case pos=>
  have hlt:(k:Int)<(N:Int):=om;have CC:=fun w' (k':Keep au _ w')=>zh (CC0.out w' (cK.out.both k') k);rw [HRC.out k hkn]at CC;have hst:oC rows (times.map Fq.q) (k+1)=decide (Gf rows (times.map Fq.q) k rows.length=0):=by simp only [oC];rw [HZ.out,Bool.true_and]
  generalize Gf rows (times.map Fq.q) k rows.length=q at CC hst;go_wp2_with fail;refine(CC _ (Keep.refl _ _)).out.mono ?_;rintro e w3 ⟨b3,hb3,rfl,hk3,hi3⟩;have K3:=zh (cK.out.both hk3);have HI3:=zh hi3;clear hk3 hi3 hb3 CC;by_cases hq:q=0
  ·have HST:Hid (oC rows (times.map Fq.q) (k+1)=true):=zh (by rw [hst];simp [hq]);have Pd:=zh (nH hq);clear hst hq;go_wp2_with fail;refine(qD w3 b3 0 q HI3.out).mono ?_;rintro e w4 ⟨rfl,rfl⟩;rw [Pd.out];clear HI3;go_wp2;go_roundw
   case rel=>exact⟨k+1,om,by go_num,HST.out,K3.out⟩
   simp [intOf];omega
  have HST:Hid (oC rows (times.map Fq.q) N=false):=zh (by
   have h0:oC rows (times.map Fq.q) (k+1)=false:=by rw [hst];simp [hq]
   have:=Fv h0 (N-(k+1));rwa [show k+1+(N-(k+1))=N from om]at this)
  have zZ:=OZ.out;rw [HST.out,Bool.false_and]at zZ;subst zZ;have hsg:(q.num.sign != 0)=true:=by rw [bne_iff_ne];exact nJ hq
  clear hst hq OZ;go_wp2_with fail;refine(qD w3 b3 0 q HI3.out).mono ?_;rintro e w4 ⟨rfl,rfl⟩;generalize q.num.sign=sg at *;clear HI3;go_wp2;go_ret;exact⟨rfl,K3.out⟩
 have hlt:¬(k:Int)<(N:Int):=om;obtain rfl:k=N:=om;have OZ:=zh (show tb=(decide (Uk rows (times.map Fq.q) rows.length<0) || (decide (Uk rows (times.map Fq.q) rows.length=0)&&uO rows (times.map Fq.q) rows.length))from by rw [OZ.out,HZ.out,Bool.true_and];rfl);have CC:=fun w' (k':Keep au _ w')=>zh (CC0.out w' (cK.out.both k') k);rw [HRT.out]at CC;generalize Uk rows (times.map Fq.q) rows.length=q at CC OZ;generalize uO rows (times.map Fq.q) rows.length=sb at CS OZ;clear HZ;go_wp2_with fail;refine(CC _ (Keep.refl _ _)).out.mono ?_;rintro e w3 ⟨b3,hb3,rfl,hk3,hi3⟩;have K3:=zh (cK.out.both hk3);have HI3:=zh hi3;clear hk3 hi3 hb3 CC;go_wp2_with fail;refine(qD w3 b3 0 q HI3.out).mono ?_;rintro e w4 ⟨rfl,rfl⟩;by_cases hs:q<0
 case pos=>
  rw [sign_neg hs];have HZ:=OZ.out;rw [decide_eq_true hs,Bool.true_or]at HZ;subst HZ;clear OZ hs HI3;go_wp2;go_ret;exact⟨rfl,K3.out⟩
 have hZ0:tb=(decide (q=0)&&sb):=by rw [OZ.out,decide_eq_false hs,Bool.false_or]
 by_cases hs0:q=0
 case pos=>
  rw [nH hs0];rw [decide_eq_true hs0,Bool.true_and]at hZ0;subst hZ0;clear OZ hs hs0 HI3;go_wp2_with fail;refine(CS _ K3.out).out.mono ?_;rintro e w5 ⟨rfl,hk5⟩;have K5:=zh (K3.out.both hk5);clear hk5 CS;go_wp2;go_ret;exact⟨rfl,K5.out⟩
 rw [Tk (q:=q) (by grind)];rw [decide_eq_false hs0,Bool.false_and]at hZ0;subst hZ0;clear OZ hs hs0 HI3;go_wp2;go_ret;exact⟨rfl,K3.out⟩
end Go.Proofs.YtaiffmebphhdaaaGreat
