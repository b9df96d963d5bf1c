/- The law CutMore, plain. The reference's SmallRows, of any size. The law CutSure, plain. The reference's CutBounded, CutSome. -/
import Derived.Test.YtaiffmebphhdaaaGreatCuDD
import Derived.Test.YtaiffmebphhdaaaGreatSpEE
import Derived.Test.YtaiffmebphhdaaaGreatFkG
import Derived.Test.YtaiffmebphhdaaaGreatOwnG
import Derived.Test.YtaiffmebphhdaaaGreatFkAA
namespace Go.Proofs.YtaiffmebphhdaaaGreat
set_option maxRecDepth 100000
set_option maxHeartbeats 16000000
set_option linter.unusedSimpArgs false
set_option linter.unusedVariables false
open Go.ChangeShapes Go.WideShapes Go.RowKit
theorem ER {rows:List Rw}{N:Nat}{pt:List Fq}(hok:∀r∈rows,gN r N)(h:SK rows N pt):kY rows pt=true:=by
 unfold kY;rw [List.all_eq_true];intro r hr;have h1:(OL r pt).1=0:=by
  unfold OL;rw [h.len,Zo (hok r hr),if_neg (by simp),SQ h.ok]
 have h2:=ML hok h r hr;unfold En;rw [h1,h2];rfl
theorem GQ {rows:List Rw}{n:Nat}{pt:List Rat}(hl:pt.length=n)(hf:allFit pt pt.length=true)(h:∀r∈rows,om r n fun j=>pt.getD j 0):SK rows n (pt.map dQ):=by
 refine⟨by simpa using hl,NA hf,fun i hi=> ?_⟩;have hr:rows.getD i bJ∈rows:=by
  rw [eG,iw hi];exact List.getElem_mem hi
 have e:(sQ n fun j=>(iO rows i j:Rat)*xg (pt.map dQ) j)=sQ n fun j=>((rows.getD i bJ).of.getD j 0:Rat)*pt.getD j 0:=dD n fun j hj=>by
  rw [Ux hf (by omega),eG (l:=pt),iw (by omega:j<pt.length)];rfl
 rw [e];exact h _ hr
theorem QX (rows:List Rw)(r:Rw)(ints:List Bool)(fuel:Int):
  ((xR rows ints fuel).f.1≠0→(xR rows ints fuel).st=0)∧((xR (rows++ [r]) ints fuel).f.1=0→(xR (rows++ [r]) ints fuel).st=1→kY rows (xR (rows++ [r]) ints fuel).pt=true∧((xR rows ints fuel).f.1=0→(xR rows ints fuel).st≠2)):=by
 refine⟨fun h0=> ?_,fun h0 h1=> ?_⟩
 ·rcases vY rows ints fuel with⟨_,h⟩ | ⟨_,_,h⟩ | ⟨_,_,h | h | ⟨pt,h,_⟩ | ⟨T,h,_⟩⟩
  all_goals rw [h]at h0 ⊢
  ·exact absurd rfl h0
  ·exact absurd rfl h0
  exact absurd rfl h0
 rcases vY (rows++ [r]) ints fuel with⟨_,h⟩ | ⟨_,_,h⟩ | ⟨hl,_,h | h | ⟨pt,h,h2,h3,h4,h5⟩ | ⟨T,h,_⟩⟩
 ·rw [h]at h1;cases h1
 ·rw [h]at h1;cases h1
 ·rw [h]at h1;cases h1
 ·rw [h]at h1;cases h1
 ·rw [h];have hok:=(oO (l:=rows++ [r]) (n:=ints.length) (by rw [hl])).2.2.2.2;have hr:∀x∈rows,om x ints.length fun j=>pt.getD j 0:=fun x hx=>h5 x (List.mem_append_left _ hx);refine⟨ER (fun x hx=>hok x (List.mem_append_left _ hx)) (GQ h2 h3 hr),fun _ hs=> ?_⟩;rcases vY rows ints fuel with⟨_,h⟩ | ⟨_,_,h⟩ | ⟨_,_,h | h | ⟨pt',h,_⟩ | ⟨T,h,_,h6⟩⟩
  ·rw [h]at hs;cases hs
  ·rw [h]at hs;cases hs
  ·rw [h]at hs;cases hs
  ·rw [h]at hs;cases hs
  ·rw [h]at hs;cases hs
  exact h6 _ (zab h4) hr
 rw [h]at h1;cases h1
def xH (bg:Nat)(rows:List Rw):Prop:=∀r∈rows,(∀x∈r.of,x.natAbs≤bg)∧r.to.natAbs≤bg
def WY (nm mm:Int)(bg:Nat)(rows:List Rw)(n:Int)(w:World)(e:Ending)(w':World):Prop:=∃b,e= .returned (.bool b)∧(b=true→n≤nm∧(rows.length:Int)≤mm∧xH bg rows)∧Keep au w w'
theorem qR (w:World)(v:Value)(rows:List Rw)(n nm mm:Int)(bg:Nat)(hbg:bg≤1000)(h:bW w v rows):
  Calls Tryz.prog 17 #[v,.int .i64 n,.int .i64 nm,.int .i64 mm,.int .i64 (bg:Int)] w fun e w'=>WY nm mm bg rows n w e w':=by
 have HR:=zh h;obtain⟨oa,ca,rfl,hlc,hcm⟩:=h.len;unfold maxLen at hcm;have hmr:rows.length≤9223372036854775807:=by omega
 clear h hlc hcm;by_cases hn:nm<n
 case pos=>
  go_enter Tryz.func17,Tryz.ntmps17;go_wp2;refine bodyPost_ret (by simp [results,Tryz.results17,go_sem];rfl) rfl ?_;exact⟨false,rfl,(fun h=>by cases h),Keep.refl _ _⟩
 by_cases hm:mm<(rows.length:Int)
 case pos=>
  go_enter Tryz.func17,Tryz.ntmps17;go_wp2;refine bodyPost_ret (by simp [results,Tryz.results17,go_sem];rfl) rfl ?_;exact⟨false,rfl,(fun h=>by cases h),Keep.refl _ _⟩
 go_enter Tryz.func17,Tryz.ntmps17;go_wp2;go_loopw [11] (fun s wr=>∃i:Nat,i≤rows.length∧s= .int .i64 i∧xH bg (rows.take i)∧Keep au w wr) (fun s _=>(rows.length-intOf s).toNat)
 case atStart=>exact⟨0,by omega,rfl,fun r hr=>by simp at hr,Keep.refl _ _⟩
 obtain⟨i,hi,rfl,hs,hk⟩:=hrel;have HS:=zh hs;have HK:=zh hk;clear hs hk;by_cases hil:i<rows.length
 case neg=>
  have hlt:¬(i:Int)<(rows.length:Int):=by omega
  obtain rfl:i=rows.length:=by omega
  have HB:Hid (n≤nm∧(rows.length:Int)≤mm∧xH bg rows):=zh ⟨by omega,by omega,by have:=HS.out;rwa [List.take_length]at this⟩;go_wp2;refine bodyPost_ret (by simp [results,Tryz.results17,go_sem];rfl) rfl ?_;exact⟨true,rfl,fun _=>HB.out,HK.out⟩
 have hlt:(i:Int)<(rows.length:Int):=by omega
 have HIL:Hid (i<rows.length):=zh hil;obtain⟨b,o,rfl,hbl,hrow⟩:=HR.out.at hil;obtain⟨os,cs,p0,p1,p2,hrow⟩:=hrow.row;have jG:Hid (bC w (.slice os (rows[i]).of.length cs) (rows[i]).of):=zh (by obtain⟨sv,hsv,h,_⟩:=hrow;cases hsv;exact h);have HT:Hid (fK (rows[i]).to):=zh (by obtain⟨sv,hsv,_,_,h,_⟩:=hrow;exact h);have Em:Hid (rows.take (i+1)=rows.take i++ [rows[i]]):=zh (List.take_succ_eq_append_getElem hil);clear hrow;generalize rows[i]=r at *;have hmx:r.of.length≤9223372036854775807:=by obtain⟨_,_,_,h⟩:=jG.out.len;unfold maxLen at h;exact h
 have P0:=zh p0;have P2:=zh p2;clear p0 p1 p2;go_wp2;go_loopw [12] (fun s wr=>∃k:Nat,k≤r.of.length∧s= .int .i64 k∧(∀x∈r.of.take k,x.natAbs≤bg)∧Keep au w wr) (fun s _=>(r.of.length-intOf s).toNat)
 case atStart=>exact⟨0,by omega,rfl,fun x hx=>by simp at hx,HK.out⟩
 obtain⟨k,hk,rfl,hx9,hkr⟩:=hrel;have HX:=zh hx9;have dP:=zh hkr;clear hx9 hkr;have p0:=(dP.out.cell hbl).trans P0.out;have hbr:=dY hbl dP.out.size;by_cases hkl:k<r.of.length
 case neg=>
  have hltk:¬(k:Int)<(r.of.length:Int):=by omega
  obtain rfl:k=r.of.length:=by omega
  have p2:=(dP.out.cell hbl).trans P2.out;by_cases hb:(r.to).natAbs≤bg
  case pos=>
   have t1:¬(bg:Int)<r.to:=by omega
   have t2:¬r.to< -(bg:Int):=by omega
   have HS2:Hid (xH bg (rows.take (i+1))):=zh (by
    rw [Em.out];intro y hy;rcases List.mem_append.1 hy with hy | hy
    ·exact HS.out y hy
    rw [List.mem_singleton.1 hy];refine⟨?_,hb⟩;have:=HX.out;rwa [List.take_length]at this)
   clear hb;go_wp2;go_roundw
   case rel=>exact⟨i+1,HIL.out,by go_num,HS2.out,dP.out⟩
   have:=HIL.out;simp [intOf];omega
  by_cases t1:(bg:Int)<r.to
  case pos=>
   go_wp2;refine bodyPost_ret (by simp [results,Tryz.results17,go_sem];rfl) rfl ?_;exact⟨false,rfl,(fun h=>by cases h),dP.out⟩
  have t2:r.to< -(bg:Int):=by omega
  clear hb;go_wp2;refine bodyPost_ret (by simp [results,Tryz.results17,go_sem];rfl) rfl ?_;exact⟨false,rfl,(fun h=>by cases h),dP.out⟩
 have hltk:(k:Int)<(r.of.length:Int):=by omega
 obtain⟨bi,oi,ci,hsl,hbi,hc⟩:=jG.out.at hkl;injection hsl with e1 e2 e3;subst e1;have q0:=(dP.out.cell hbi).trans hc;have ZT:=dY hbi dP.out.size;have zco:Hid (r.of.take (k+1)=r.of.take k++ [r.of[k]]):=zh (List.take_succ_eq_append_getElem hkl);clear hc;generalize r.of[k]=x at*;by_cases hb:x.natAbs≤bg
 case pos=>
  have t1:¬(bg:Int)<x:=by omega
  have t2:¬x< -(bg:Int):=by omega
  have HX2:Hid (∀y∈r.of.take (k+1),y.natAbs≤bg):=zh (by
   rw [zco.out];intro y hy;rcases List.mem_append.1 hy with hy | hy
   ·exact HX.out y hy
   rw [List.mem_singleton.1 hy];exact hb)
  clear hb;go_wp2;go_roundw
  case rel=>exact⟨k+1,by omega,by go_num,HX2.out,dP.out⟩
  simp [intOf];omega
 by_cases t1:(bg:Int)<x
 case pos=>
  go_wp2;refine bodyPost_ret (by simp [results,Tryz.results17,go_sem];rfl) rfl ?_;exact⟨false,rfl,(fun h=>by cases h),dP.out⟩
 have t2:x< -(bg:Int):=by omega
 clear hb;go_wp2;refine bodyPost_ret (by simp [results,Tryz.results17,go_sem];rfl) rfl ?_;exact⟨false,rfl,(fun h=>by cases h),dP.out⟩
end Go.Proofs.YtaiffmebphhdaaaGreat
