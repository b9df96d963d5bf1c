/- Long whole numbers as values: their digits and bytes. Digits in memory that may be none. Package long: the limbs of a number. Package long: making a number of a sign and limbs. Package long: numbers of 64 bits, signs. Package long: comparing. math/bits Len32 and LeadingZeros32: by their contracts. Package long: how many bits a number has; the limit. Package long: numbers of 64 bits back. Package long: sums and differences of limbs. Package long: sums of numbers. Package long: products of limbs. Package long: products of numbers. -/
import Derived.Test.YtmepglhdcphffaaGreatBaseA
import Derived.Test.YtmepglhdcphffaaGreatBaseB
import Derived.Laws.IdiomStrings
import Derived.IntWalk
import Derived.Deep.DeepCutAuto
import Derived.Lib.BufferRead
import Derived.Test.YtmepglhdcphffaaGreatProg
import Derived.Shelf.Small.Bits
namespace Go.Proofs.YtmepglhdcphffaaGreat
set_option maxRecDepth 100000
set_option maxHeartbeats 16000000
set_option linter.unusedSimpArgs false
set_option linter.unusedVariables false
open Go.ChangeShapes Go.WideShapes Go.RowKit
def bV (n:Nat):List Nat:=if h:n=0 then []else n%4294967296::bV (n/4294967296)
termination_by n
decreasing_by exact Nat.div_lt_self om om
theorem iR:bV 0= []:=by unfold bV;simp
theorem uF {n:Nat}(h:n≠0):bV n=n%4294967296::bV (n/4294967296):=by
 conv=>lhs;unfold bV
 rw [dif_neg h]
theorem dh (n:Nat):dval (bV n)=n:=by
 induction n using Nat.strongRecOn with
 | ind n ih=>
  by_cases h:n=0
  ·subst h;rw [iR];rfl
  rw [uF h,dval,ih _ (Nat.div_lt_self om om)];omega
theorem yG (n:Nat):∀d∈bV n,d<4294967296:=by
 induction n using Nat.strongRecOn with
 | ind n ih=>
  by_cases h:n=0
  ·subst h;rw [iR];simp
  rw [uF h];intro d hd;rcases List.mem_cons.1 hd with rfl | hd
  ·omega
  exact ih _ (Nat.div_lt_self om om) d hd
theorem pE {n:Nat}:bV n= []↔n=0:=by
 constructor
 ·intro h;have:=dh n;rw [h]at this;exact this.symm
 rintro rfl;exact iR
theorem NT {d:Nat}{ds:List Nat}(h:jG (d::ds)):jG ds:=by
 unfold jG at*;by_cases h0:ds= []
 ·exact .inl h0
 right;rcases h with h | h
 ·cases h
 have hl:0<ds.length:=List.length_pos_iff.2 h0;obtain⟨k,hk⟩:∃k,ds.length=k+1:=⟨ds.length-1,om⟩;rw [List.length_cons,hk]at h;rw [hk];simpa using h
theorem zP:∀ {ds:List Nat},(∀d∈ds,d<4294967296)→jG ds→bV (dval ds)=ds
 | [],_,_=>iR
 | d::ds,hd,hn=>by
  have ih:=zP (fun x hx=>hd x (List.mem_cons_of_mem _ hx)) (NT hn);have hd1:=hd d sm;have h0:dval (d::ds)≠0:=by
   have:=rW (d::ds) hn sm;have:=Nat.pow_pos (a:=4294967296) (n:=(d::ds).length-1) om;omega
  rw [uF h0];simp only [dval];rw [Nat.add_mul_mod_self_left,Nat.mod_eq_of_lt hd1,Nat.add_mul_div_left _ _ om,Nat.div_eq_of_lt hd1,Nat.zero_add,ih]
theorem dD (n:Nat):jG (bV n):=by
 induction n using Nat.strongRecOn with
 | ind n ih=>
  by_cases h:n=0
  ·subst h;rw [iR];exact .inl rfl
  rw [uF h];right;have ih':=ih _ (Nat.div_lt_self (by omega:0<n) (by omega:1<4294967296));by_cases h1:n/4294967296=0
  ·rw [h1,iR];simp;omega
  rcases ih' with h2 | h2
  ·exact absurd (pE.1 h2) h1
  have hl:0<(bV (n/4294967296)).length:=List.length_pos_iff.2 fun h=>h1 (pE.1 h);obtain⟨k,hk⟩:∃k,(bV (n/4294967296)).length=k+1:=⟨(bV (n/4294967296)).length-1,om⟩;rw [hk]at h2;rw [List.length_cons,hk];simpa using h2
theorem Ki {n k:Nat}(h:n<4294967296^k):(bV n).length≤k:=by
 by_cases h0:bV n= []
 ·rw [h0];simp
 have h1:=rW _ (dD n) h0;rw [dh]at h1;have:=(Nat.pow_lt_pow_iff_right (a:=4294967296) om).1 (Nat.lt_of_le_of_lt h1 h);omega
def fZ (d:Nat):List UInt8:= [UInt8.ofNat d,UInt8.ofNat (d/256),UInt8.ofNat (d/65536),UInt8.ofNat (d/16777216)]
def bl (ds:List Nat):List UInt8:=ds.flatMap fZ
def bytesOf (ds:List Nat):ByteArray:=⟨(bl ds).toArray⟩
theorem NU (ds:List Nat):(bl ds).length=4*ds.length:=by
 unfold bl
 induction ds with
 | nil=>rfl
 | cons d ds ih=>rw [List.flatMap_cons,List.length_append,ih,List.length_cons];simp [fZ];omega
theorem rX (ds:List Nat):(bytesOf ds).size=4*ds.length:=by
 show(bl ds).toArray.size=_;rw [List.size_toArray,NU]
def bG (z:Int):Value:= .agg #[.bool (decide (z<0)),.string (bytesOf (bV z.natAbs))]
theorem V6 {w0 w:World}(h:Keep au w0 w){b i:Nat}(v:Value)(hb:w0.heap.size≤b):Keep au w0 (w.setCell ⟨b,i,none⟩ v):=h.setCell _ fun hh=>absurd hh om
def dX (w:World)(v:Value)(ds:List Nat):Prop:=
 ∃oa cap,v= .slice oa ds.length cap∧ds.length≤cap∧cap≤maxLen∧(∀d∈ds,d<4294967296)∧
  (ds≠ []→∃g o,oa=some ⟨g,o,none⟩∧g<w.heap.size∧∀i,i<ds.length→w.cell? ⟨g,o+i,none⟩=some (.int .u32 (ds.getD i 0:Nat)))
theorem dX.keep {w w':World}{v:Value}{ds:List Nat}(h:dX w v ds)(k:Keep au w w'):dX w' v ds:=by
 obtain⟨oa,cap,h1,h2,h3,h4,h5⟩:=h;refine⟨oa,cap,h1,h2,h3,h4,fun hne=> ?_⟩;obtain⟨g,o,e,hg,hc⟩:=h5 hne;exact⟨g,o,e,bJ hg k.size,fun i hi=>by rw [k.cell hg];exact hc i hi⟩
theorem lM.dg {w:World}{v:Value}{ds:List Nat}(h:lM w v ds):dX w v ds:=by
 obtain⟨g,cap,hv,h1,h2,hg,hc,hb⟩:=h.open;have hall:=h;obtain⟨_,_,_,_,_,_,_,_,_,hall⟩:=hall;exact⟨_,cap,hv,h1,h2,hall,fun _=>⟨g,0,rfl,hg,fun i hi=>by rw [Nat.zero_add];exact hc w (Keep.refl _ _) i hi⟩⟩
theorem V7 (w:World):dX w (.slice none 0 0) []:=⟨none,0,rfl,sm,sm,sm,fun h=>absurd rfl h⟩
theorem dX.len {w:World}{v:Value}{ds:List Nat}(h:dX w v ds):∃oa cap,v= .slice oa ds.length cap∧ds.length≤cap∧cap≤maxLen:=by
 obtain⟨oa,cap,h1,h2,h3,_⟩:=h;exact⟨oa,cap,h1,h2,h3⟩
theorem dX.lt {w:World}{v:Value}{ds:List Nat}(h:dX w v ds):∀d∈ds,d<4294967296:=by
 obtain⟨_,_,_,_,_,h4,_⟩:=h;exact h4
theorem dX.at {w:World}{oa:Option Addr}{n cap:Nat}{ds:List Nat}(h:dX w (.slice oa n cap) ds)(h0:0<ds.length):∃g o,oa=some ⟨g,o,none⟩∧g<w.heap.size∧∀i,i<ds.length→w.cell? ⟨g,o+i,none⟩=some (.int .u32 (ds.getD i 0:Nat)):=by
 obtain⟨MP,cap',hv,_,_,_,h5⟩:=h;cases hv;exact h5 (by rintro rfl;simp at h0)
theorem dX.take {w:World}{oa:Option Addr}{n cap:Nat}{ds:List Nat}(h:dX w (.slice oa n cap) ds){k:Nat}(hk:k≤ds.length):dX w (.slice oa k cap) (ds.take k):=by
 obtain⟨MP,cap',hv,h2,h3,h4,h5⟩:=h;cases hv;have hl:(ds.take k).length=k:=by rw [List.length_take];omega
 refine⟨oa,cap,by rw [hl],om,h3,fun d hd=>h4 d (List.mem_of_mem_take hd),fun hne=> ?_⟩;obtain⟨g,o,e,hg,hc⟩:=h5 (by rintro rfl;simp at hne);refine⟨g,o,e,hg,fun i hi=> ?_⟩;rw [hl]at hi;rw [hc i om,dV,dV,List.getElem?_take,if_pos hi]
theorem eT {ds:List Nat}(h:∀d∈ds,d<4294967296)(i:Nat):ds.getD i 0<4294967296:=by
 rw [dV];rcases Nat.lt_or_ge i ds.length with hi | hi
 ·rw [eD hi];exact h _ (List.getElem_mem hi)
 rw [List.getElem?_eq_none hi];simp
def jH (ds:List Nat):Nat→Nat
 | 0=>0
 | n+1=>if ds.getD n 0=0 then jH ds n else n+1
def gQ (ds:List Nat):List Nat:=ds.take (jH ds ds.length)
theorem Df (ds:List Nat):∀n,jH ds n≤n
 | 0=>Nat.le_refl _
 | n+1=>by unfold jH;split;exact Nat.le_succ_of_le (Df ds n);exact Nat.le_refl _
theorem FI (ds:List Nat):∀n,n≤ds.length→dval (ds.take (jH ds n))=dval (ds.take n)
 | 0,_=>rfl
 | n+1,h=>by
  unfold jH;by_cases h0:ds.getD n 0=0
  ·rw [if_pos h0,FI ds n om,fI ds n om,h0];simp
  rw [if_neg h0]
theorem RF (ds:List Nat):dval (gQ ds)=dval ds:=by
 unfold gQ;rw [FI ds _ (Nat.le_refl _),List.take_length]
theorem FJ (ds:List Nat):∀n,jH ds n=0∨ds.getD (jH ds n-1) 0≠0
 | 0=> .inl rfl
 | n+1=>by
  unfold jH;by_cases h:ds.getD n 0=0
  ·rw [if_pos h];exact FJ ds n
  rw [if_neg h];exact .inr h
theorem zQ (ds:List Nat):(gQ ds).length=jH ds ds.length:=by
 unfold gQ;rw [List.length_take,Nat.min_eq_left (Df _ _)]
theorem V9 (ds:List Nat):(gQ ds).length≤ds.length:=by rw [zQ];exact Df _ _
theorem Kj (ds:List Nat):jG (gQ ds):=by
 by_cases h0:jH ds ds.length=0
 ·left;unfold gQ;rw [h0];simp
 right;rw [zQ];rcases FJ ds ds.length with h | h
 ·exact absurd h h0
 unfold gQ;rw [dV,List.getElem?_take,if_pos om,←dV];exact h
theorem FK {ds:List Nat}{d:Nat}(h:d∈gQ ds):d∈ds:=List.mem_of_mem_take h
theorem zR {ds:List Nat}(h:∀d∈ds,d<4294967296):gQ ds=bV (dval ds):=by
 rw [← RF ds];exact(zP (fun d hd=>h d (FK hd)) (Kj ds)).symm
theorem ZQ (ds:List Nat)(j:Nat):(bl ds).drop (4*j)=bl (ds.drop j):=by
 induction j generalizing ds with
 | zero=>simp
 | succ j ih=>
  rcases ds with _ | ⟨d,ds⟩
  ·simp [bl]
  rw [List.drop_succ_cons,←ih ds];show(fZ d++bl ds).drop (4*(j+1))=_;rw [List.drop_append,show 4*(j+1)=4*j+4 from om,List.drop_eq_nil_of_le (by simp [fZ])];simp [fZ]
theorem Il (ds:List Nat)(j:Nat):(bytesOf ds).extract (4*j) (bytesOf ds).size=bytesOf (ds.drop j):=by
 apply ByteArray.ext;show((bytesOf ds).extract (4*j) (bytesOf ds).size).data=(bl (ds.drop j)).toArray;rw [ByteArray.data_extract,←ZQ];show(bl ds).toArray.extract (4*j) (bl ds).toArray.size=_;simp;exact List.take_of_length_le sm
theorem RG (ds:List Nat):Dg (fun i=>if i<ds.length then ds.getD i 0 else 0) ds.length=ds:=by
 apply List.ext_getElem (iB _ _);intro i h1 h2;have h3:=Dh (fun i=>if i<ds.length then ds.getD i 0 else 0) (n:=ds.length) (i:=i) h2;rw [dV,eD h1]at h3;simp only [Option.getD_some,if_pos h2]at h3;rw [h3,dV,eD h2];rfl
def zcT:Value→Nat
 | .slice _ n _=>n
 | _=>0
structure Four (S:ByteArray)(d:Nat):Prop where
 size:4≤S.size
 b0:∀h,(S[0]'h).toNat=d%256
 b1:∀h,(S[1]'h).toNat=d/256%256
 b2:∀h,(S[2]'h).toNat=d/65536%256
 b3:∀h,(S[3]'h).toNat=d/16777216%256
theorem ZR (d:Nat)(ds:List Nat):Four (bytesOf (d::ds)) d:=by
 have e:∀k (h:k<(bytesOf (d::ds)).size),(bytesOf (d::ds))[k]'h=(fZ d++bl ds)[k]'(by rw [rX,List.length_cons]at h;rw [List.length_append,NU];simp [fZ];omega):=fun k h=>rfl;refine⟨by rw [rX,List.length_cons];omega,fun h=> ?_,fun h=> ?_,fun h=> ?_,fun h=> ?_⟩<;>rw [e]<;>simp [fZ]
theorem Wd {d:Nat}(h:d<4294967296):bits .or .u32 (bits .or .u32 (bits .or .u32 (IntKind.u32.wrap ((d:Int)%256)) (IntKind.u32.wrap (IntKind.u32.wrap ((d:Int)/256%256)*256)))
  (IntKind.u32.wrap (IntKind.u32.wrap ((d:Int)/65536%256)*65536))) (IntKind.u32.wrap (IntKind.u32.wrap ((d:Int)/16777216%256)*16777216))=(d:Int):=by
 have e0:IntKind.u32.wrap ((d:Int)%256)=((d%256:Nat):Int):=by rw [IntKind.wrap_u32'];omega
 have e1:IntKind.u32.wrap (IntKind.u32.wrap ((d:Int)/256%256)*256)=((d/256%256*256:Nat):Int):=by rw [IntKind.wrap_u32',IntKind.wrap_u32'];omega
 have e2:IntKind.u32.wrap (IntKind.u32.wrap ((d:Int)/65536%256)*65536)=((d/65536%256*65536:Nat):Int):=by rw [IntKind.wrap_u32',IntKind.wrap_u32'];omega
 have e3:IntKind.u32.wrap (IntKind.u32.wrap ((d:Int)/16777216%256)*16777216)=((d/16777216%256*16777216:Nat):Int):=by rw [IntKind.wrap_u32',IntKind.wrap_u32'];omega
 have h1:d%256 ||| d/256%256*256=d%65536:=by
  rw [Nat.or_comm,Nat.mul_comm _ 256,show(256:Nat)=2^8 from rfl,←Nat.two_pow_add_eq_or_of_lt om];omega
 have h2:d%65536 ||| d/65536%256*65536=d%16777216:=by
  rw [Nat.or_comm,Nat.mul_comm _ 65536,show(65536:Nat)=2^16 from rfl,←Nat.two_pow_add_eq_or_of_lt om];omega
 have h3:d%16777216 ||| d/16777216%256*16777216=d:=by
  rw [Nat.or_comm,Nat.mul_comm _ 16777216,show(16777216:Nat)=2^24 from rfl,←Nat.two_pow_add_eq_or_of_lt om];omega
 rw [e0,e1,e2,e3,u32_or_nat _ _ om om,h1,u32_or_nat _ _ om om,h2,u32_or_nat _ _ om om,h3]
theorem RH (w:World)(neg:Bool)(ds:List Nat)(hd:∀d∈ds,d<4294967296)(hl:ds.length≤10000):
  Calls Tryz.prog 153 #[.agg #[.bool neg,.string (bytesOf ds)]] w (zbE (fun es=>es=ds) w):=by
 have HD:=zh hd;have HSZ:=zh (rX ds);obtain⟨S,hS⟩:∃S,bytesOf ds=S:=⟨_,rfl⟩;rw [hS]at HSZ ⊢;have HS:=zh hS;have hsz:S.size=4*ds.length:=HSZ.out;clear hd hS;obtain⟨i0,hi0,hz0,hs0,hb0⟩:=info_parts rY;obtain⟨w2,hr2,ho2,hg2⟩:=run_make_full (P:=Tryz.prog) (w.alloc (.cells #[.bool neg,.string S] 100)) (w.heap.size+1) 233 238 i0 (.int .u32 0) 1 Tryz.underlying233 hi0 hz0 hs0 .i64 .i64 ds.length (by rw [hb0];omega) (by unfold maxLen;omega) sm;rw [show(w.alloc (.cells #[.bool neg,.string S] 100)).heap.size=w.heap.size+1 from sm]at hr2 ho2;have hdiv:((4*ds.length:Nat):Int).tdiv 4=(ds.length:Int):=by rw [show((4*ds.length:Nat):Int)=4*(ds.length:Int)from om];exact Int.mul_tdiv_cancel_left _ dc
 have hdiv2:(4*(ds.length:Int)).tdiv 4=(ds.length:Int):=Int.mul_tdiv_cancel_left _ dc;go_enter Tryz.func153,Tryz.ntmps153;have P2:iM w2 (w.heap.size+1) ds.length (fun _=>0):=kE ho2 fun i hi=>uG rfl _ i hi;have L2:Keep au (w.alloc (.cells #[.bool neg,.string S] 100)) w2:=Keep.of_below (dB hg2 (w.heap.size+1) sm sm) sm;have B2:aL w2 w.heap.size #[.bool neg,.string S]:=aL.keep kc L2;have K2:Keep au w w2:=Keep.trans kp L2 fun _ _ _ h=>h;have YD:=zh P2;have HB2:=zh B2;have Ay:=zh K2;clear ho2 hg2 P2 L2 B2 K2;go_wp2;clear hr2;go_loopw [13] (fun s wr=>∃j:Nat,j≤ds.length∧s= .int .i64 j∧Keep au w wr∧aL wr w.heap.size #[.bool neg,.string S]∧iM wr (w.heap.size+1) ds.length (fun i=>if i<j then ds.getD i 0 else 0)) (fun s _=>(ds.length-intOf s).toNat)
 case atStart=>exact⟨0,om,rfl,Ay.out,HB2.out,by simpa using YD.out⟩
 obtain⟨j,hj,rfl,hkr,hb,har⟩:=hrel;have dH:=zh hkr;have HB:=zh hb;have Kk:=zh har;obtain⟨p0,p1,_,_,pl⟩:=hb.two;by_cases hjl:j<ds.length
 ·have hlt:(j:Int)<(ds.length:Int):=om;have q1:(0:Int)≤4*(j:Int):=om;have q2:4*(j:Int)≤(S.size:Int):=om;have q3:4*(j:Int)≤4*(ds.length:Int):=om;have hgl:=har.lt;have hfr:=har.free j;have hce:=har.cell (i:=j) hjl;have HX:Hid (S.extract (4*j) S.size=bytesOf (ds.drop j)):=zh (by rw [← HS.out];exact Il ds j);obtain⟨d,hdd⟩:∃d,ds.getD j 0=d:=⟨_,rfl⟩;have hdj:d=ds[j]:=by rw [← hdd,dV,eD hjl];rfl
  have hdl:d<4294967296:=by rw [hdj];exact HD.out _ (List.getElem_mem hjl)
  have HF:Hid (Four (bytesOf (ds.drop j)) d):=zh (by rw [List.drop_eq_getElem_cons hjl,←hdj];exact ZR d _);have HDD:=zh hdd;clear hkr hb har hdd hdj;rw [hsz]at HX;go_upto_region 6 with fail;generalize S.extract (4*j) (4*ds.length)=S2 at HX ⊢;rw [← HX.out]at HF;have hs4:=HF.out.size;have b0:=HF.out.b0;have b1:=HF.out.b1;have b2:=HF.out.b2;have b3:=HF.out.b3;have i0:(0:Int)<(S2.size:Int):=om;have i1:(1:Int)<(S2.size:Int):=om;have i2:(2:Int)<(S2.size:Int):=om;have i3:(3:Int)<(S2.size:Int):=om;have n0:0<S2.size:=om;have n1:1<S2.size:=om;have n2:2<S2.size:=om;have n3:3<S2.size:=om;have HO:=zh (Wd hdl);clear HX HF q1 q2 q3;refine aD (fun _=>True) [21] [([0,1,2,3,4,5,6,7,8,9,10,11,12,13,14,15,16,17,18,19,20],21)] [] kr kr trivial ?_;intro X W hne hF hcl;clear hF hcl;simp only [aW,aJ,zl0,zl1,zl2,aX,Bool.false_eq_true,if_false]
  (repeat(quiet_step (fail)));refine wpQuiet_nil ?_
  refine ay rfl rfl fun K hK=> ?_;go_simp;rw [HO.out];refine hK _ _ ⟨fun h=>(by simp at h),?_⟩;clear hK K
  (repeat(quiet_step (fail)));refine wpQuiet_nil ?_
  refine NoPanic.normal ?_;go_wp2;go_roundw
  case rel=>
   refine⟨j+1,om,gn,(V6 dH.out _ om).drew,(HB.out.setOther _ _ om).keep (Keep.refl _ _).drew,?_⟩;refine((iM.set Kk.out j d rfl).keep (Keep.refl _ _).drew).congr fun i hi=> ?_;have hq:=HDD.out;congr 1;simp only;by_cases h1:i=j
   ·subst h1;rw [if_pos rfl,if_pos om,hq]
   rw [if_neg h1];by_cases h2:i<j
   ·rw [if_pos h2,if_pos om]
   rw [if_neg h2,if_neg om]
  simp [intOf];omega
 have hlt:¬(j:Int)<(ds.length:Int):=om;obtain rfl:j=ds.length:=om;clear hkr hb har;go_wp2;go_ret;have hdg:=kF Kk.out (Nat.le_refl _) (by unfold maxLen;omega) (fun i hi=>by simp only [if_pos hi];exact eT HD.out i);rw [RG]at hdg;exact⟨_,ds,rfl,dH.out,hdg,rfl⟩
theorem gW (w:World)(v:Value)(ds:List Nat)(h:dX w v ds)(hl:ds.length≤100000):
  Calls Tryz.prog 208 #[v] w fun e w'=>(∃v',e= .returned v'∧dX w v' (gQ ds))∧w'=w:=by
 have H:=zh h;obtain⟨oa,cap,hv,hcap,hm⟩:=h.len;subst hv;unfold maxLen at hm;have HCAP:Hid (∀k,k≤ds.length→dX w (.slice oa k cap) (ds.take k)):=zh fun k hk=>H.out.take hk;go_enter Tryz.func208,Tryz.ntmps208;go_wp2;go_loop [0] (fun s=>∃k:Nat,k≤ds.length∧s= .slice oa k cap∧jH ds k=jH ds ds.length) (fun s=>zcT s)
 case atStart=>exact⟨ds.length,Nat.le_refl _,rfl,rfl⟩
 obtain⟨k,hk,rfl,hb⟩:=hrel;have HB:=zh hb;clear hb;rcases k with _ | k
 ·have HV:Hid (gQ ds=ds.take 0):=zh (by unfold gQ;rw [← HB.out];rfl);go_wp2;go_ret;exact⟨⟨_,rfl,by rw [HV.out];exact HCAP.out 0 om⟩,rfl⟩
 obtain⟨b,o,hoa,hbl,hc⟩:=H.out.at om;subst hoa;have c0:=hc k om;have hk1:((k+1:Nat):Int)-1=(k:Int):=om;have hk2:(0:Int)<((k+1:Nat):Int):=om;have hkc:(k:Int)<((k+1:Nat):Int):=om;have hkc2:(k:Int)≤(cap:Int):=om;have hkc3:k≤cap:=om;clear hc;obtain⟨x,hx⟩:∃x,ds.getD k 0=x:=⟨_,rfl⟩;rw [hx]at c0;have HX:=zh hx;clear hx;by_cases h0:x=0
 ·subst h0;have HN:Hid (jH ds k=jH ds ds.length):=zh (by rw [← HB.out];conv=>rhs;unfold jH;rw [if_pos HX.out]);go_wp2;go_round
  case rel=>exact⟨k,om,sm,HN.out⟩
  simp [zcT]
 have e0:((x:Int)==0)=false:=by rw [beq_eq_false_iff_ne];omega
 have HV:Hid (gQ ds=ds.take (k+1)):=zh (by unfold gQ;rw [← HB.out];conv=>lhs;unfold jH;rw [if_neg (by rw [HX.out];exact h0)]);go_wp2;go_ret;exact⟨⟨_,rfl,by rw [HV.out];exact HCAP.out (k+1) om⟩,rfl⟩
abbrev TB:TypeId:=5
theorem za2:(Tryz.prog.info? 5).map (fun i=>(i.zero,i.size,i.bytes))=some (some (.int .u8 0),1,1):=kr
def bv (l:List UInt8):List Value:=l.map fun b=> .int .u8 (b.toNat:Int)
theorem zbF (l:List UInt8):∀u∈bv l,u.oneCell'=true:=by
 intro u hu;obtain⟨x,_,rfl⟩:=List.mem_map.1 hu;rfl
def yH (w:World)(base:Nat)(v:Value)(l:List UInt8):Prop:=w.ownsRow base TB 1 v l.length (bv l)
theorem yH.keep {w w':World}{base:Nat}{v:Value}{l:List UInt8}(h:yH w base v l)(k:Keep au w w'):yH w' base v l:=by
 obtain⟨hl,h | ⟨g,cap,cur,hv,hb,hg,hl',hm,hs,ht⟩⟩:=h
 ·exact ⟨hl,.inl h⟩
 exact⟨hl,.inr ⟨g,cap,cur,hv,hb,by rw [k.block g (lt_of_heap hg) fun _ h=>h];exact hg,hl',hm,hs,ht⟩⟩
theorem yH.block {w:World}{base:Nat}{v:Value}{l:List UInt8}(h:yH w base v l):∀k,v.ownBlock=some k→base≤k:=fun k hk=>(World.ownsRow.lt h k hk).1
theorem yH.len {w:World}{base:Nat}{v:Value}{l:List UInt8}(h:yH w base v l):∃oa cap,v= .slice oa l.length cap:=by
 obtain⟨hl,h | ⟨g,cap,cur,hv,hb,hg,hl',hm,hs,ht⟩⟩:=h
 ·obtain ⟨rfl,h0⟩:=h;exact⟨none,0,by rw [h0]⟩
 exact⟨_,cap,hv⟩
theorem yH.str {w:World}{base:Nat}{v:Value}{l:List UInt8}(h:yH w base v l):(convert 276 9 v).run Tryz.prog w= .ok (.string ⟨l.toArray⟩) w:=by
 obtain⟨hl,h | ⟨g,cap,cur,hv,hb,hg,hl',hm,hs,ht⟩⟩:=h
 ·obtain ⟨rfl,h0⟩:=h;obtain rfl:l= []:=List.eq_nil_of_length_eq_zero h0;exact Lib.run_convert_nil_bytes (P:=Tryz.prog) w 276 9 5 0 Tryz.underlying276 Tryz.underlying5 Tryz.underlying9
 subst hv;refine run_convert_bytes_back (P:=Tryz.prog) w 276 9 5 ⟨g,0,none⟩ cap l Tryz.underlying276 Tryz.underlying5 Tryz.underlying9 fun j hj=> ?_;rw [rZ];refine cell_of_heap hg ?_;have h1:(cur.toList.take (l.length*1))[j]? =(bv l)[j]? :=by rw [ht]
 rw [List.getElem?_take,if_pos om]at h1;simpa [bv,hj]using h1
theorem Wh {w:World}{base:Nat}{v:Value}{l:List UInt8}(hown:yH w base v l)(d:Nat){g:Nat}(h0:w.cell? ⟨g,0,none⟩=some (.int .u8 ((UInt8.ofNat d).toNat:Int)))(h1:w.cell? ⟨g,1,none⟩=some (.int .u8 ((UInt8.ofNat (d/256)).toNat:Int)))
  (h2:w.cell? ⟨g,2,none⟩=some (.int .u8 ((UInt8.ofNat (d/65536)).toNat:Int))) (h3:w.cell? ⟨g,3,none⟩=some (.int .u8 ((UInt8.ofNat (d/16777216)).toNat:Int))) (hl:l.length≤1000000) (hb:base≤w.heap.size):
  ∃v' w',(Builtin.append_ #[276,276] 276 #[v,.slice (some ⟨g,0,none⟩) 4 4]).run Tryz.prog w= .ok v' w'∧yH w' base v' (l++fZ d)∧w.grownBy w' v.ownBlock:=by
 obtain⟨i0,hi0,hz0,hz1,hz2⟩:=info_parts za2;obtain⟨v',w',hr,ho,hg⟩:=vE (P:=Tryz.prog) (w:=w) (ty:=276) Tryz.underlying276 hi0 hz0 hz1 hz2 rfl dc base v l.length (bv l) hown (some ⟨g,0,none⟩) 4 4 (bv (fZ d)) (by simp [bv,fZ])
  (fun _=>⟨_,rfl,fun j u hj=>by
   rw [rZ];rcases j with _ | _ | _ | _ | j
   ·simp [bv,fZ]at hj;rw [h0,←hj];simp
   ·simp [bv,fZ]at hj;rw [h1,←hj];simp
   ·simp [bv,fZ]at hj;rw [h2,←hj];simp
   ·simp [bv,fZ]at hj;rw [h3,←hj];simp
   simp [bv,fZ]at hj⟩) (zbF _) (by unfold maxLen;omega) om hb
 refine⟨v',w',hr,?_,hg⟩;unfold yH;rw [List.length_append,show(fZ d).length=4 from rfl,show bv (l++fZ d)=bv l++bv (fZ d)from by simp [bv]];exact ho
theorem RI (neg:Bool)(n:Nat):bG (jK neg n)= .agg #[.bool (neg&&decide (0<(bV n).length)),.string (bytesOf (bV n))]:=by
 unfold bG;rw [xE];congr 3;have h:0<(bV n).length↔n≠0:=by
  rw [List.length_pos_iff,ne_eq,pE]
 cases neg
 ·simp [jK]
 have h2:jK true n<0↔0<(bV n).length:=by rw [h];simp only [jK,if_true];omega
 rw [Bool.true_and,decide_eq_decide.2 h2]
theorem ZT {ds:List Nat}{k:Nat}(hk:k<ds.length):bl (ds.take (k+1))=bl (ds.take k)++fZ (ds.getD k 0):=by
 have e:ds.take (k+1)=ds.take k++ [ds[k]]:=List.take_succ_eq_append_getElem hk;rw [e,dV,eD hk];unfold bl;rw [List.flatMap_append];simp
theorem cO (w:World)(neg:Bool)(v:Value)(ds:List Nat)(h:dX w v ds)(hl:ds.length≤20000):
  Calls Tryz.prog 155 #[.bool neg,v] w fun e w'=>e= .returned (bG (jK neg (dval ds)))∧Keep au w w':=by
 have H:=zh h;obtain⟨oa,cap,rfl,hcap,hm⟩:=h.len;have HV:Hid (bG (jK neg (dval ds))= .agg #[.bool (neg&&decide (0<(gQ ds).length)),.string (bytesOf (gQ ds))]):=zh (by rw [RI,←zR h.lt]);have hn:=V9 ds;clear h;obtain⟨es,hes⟩:∃es,gQ ds=es:=⟨_,rfl⟩;rw [hes]at HV hn;have HES:=zh hes;rw [HV.out];clear hes;go_enter Tryz.func155,Tryz.ntmps155;go_wp2_with fail;have k0:Keep au w (w.alloc (.cells #[.bool false,.string ⟨#[]⟩] 100)):=kp;refine(gW _ _ ds (H.out.keep kp) om).mono ?_;rintro e w1 ⟨⟨v1,rfl,hd1⟩,rfl⟩;rw [HES.out]at hd1;have HD1:=zh hd1;obtain⟨ob,cb,rfl,hcb,hmb⟩:=hd1.len;have Bf:=zh k0;have HB0:Hid (aL (w.alloc (.cells #[.bool false,.string ⟨#[]⟩] 100)) w.heap.size #[.bool false,.string ⟨#[]⟩]):=zh kc;obtain⟨wa,hwa⟩:∃W,w.alloc (.cells #[.bool false,.string ⟨#[]⟩] 100)=W:=⟨_,rfl⟩;have hsa:wa.heap.size=w.heap.size+1:=by rw [← hwa];simp
 rw [hwa]at HD1 Bf HB0;rw [hwa];clear k0 hd1 hwa;obtain⟨i0,hi0,hz0,hs0,hb0⟩:=info_parts za2;obtain⟨w2,hr2,ho2,hg2⟩:=run_make_own (P:=Tryz.prog) wa wa.heap.size 276 5 i0 (.int .u8 0) 1 Tryz.underlying276 hi0 hz0 hs0 .i64 .i64 (4*es.length) (by rw [hb0];omega) (by unfold maxLen;omega) om;have L2:Keep au wa w2:=Keep.of_below (dB hg2 wa.heap.size (Nat.le_refl _) sm) (Nat.le_refl _);have Im:Hid (yH w2 wa.heap.size (.slice (some ⟨wa.heap.size,0,none⟩) 0 (4*es.length)) (bl (es.take 0))):=zh ho2;have Ay:=zh L2;have HSA:=zh hsa;have hr2':=hr2;rw [show((4*es.length:Nat):Int)=4*(es.length:Int)from om]at hr2';clear ho2 hg2 L2 hsa;unfold maxLen at hm hmb;have hle:(0:Int)≤4*(es.length:Int):=om;go_wp2;clear hr2 hr2' hle;go_loopw [16,5] (fun s t wr=>∃k:Nat,k≤es.length∧s= .int .i64 k∧Keep au wa wr∧yH wr wa.heap.size t (bl (es.take k))) (fun s _ _=>(es.length-intOf s).toNat)
 case atStart=>exact⟨0,om,rfl,Ay.out,Im.out⟩
 obtain⟨k,hk,rfl,hkr,ho⟩:=hrel;have dH:=zh hkr;have HO:=zh ho;obtain⟨ot,ct,hv5⟩:=ho.len;subst hv5;have hbl:(bl (es.take k)).length=4*k:=by rw [NU,List.length_take,Nat.min_eq_left hk]
 have hszr:=hkr.size;rw [hbl]at HO ⊢;by_cases hkl:k<es.length
 ·have hlt:(k:Int)<(es.length:Int):=om;obtain⟨gg,og,Io,hgl,hcs⟩:=(HD1.out.keep hkr).at om;subst Io;have hck:=hcs k hkl;have hdl:=eT HD1.out.lt k;have HS:=zh (ZT hkl);obtain⟨d,hd⟩:∃d,es.getD k 0=d:=⟨_,rfl⟩;rw [hd]at hck hdl HS;clear hd hcs hkr ho;have k1:Keep au wr (wr.alloc (.cells #[.int .u8 ((d:Int)%256),.int .u8 ((d:Int)/256%256),.int .u8 ((d:Int)/65536%256),.int .u8 ((d:Int)/16777216)] TB)):=kp;obtain⟨v',w',hr,ho',hg⟩:=Wh (HO.out.keep k1) d (g:=wr.heap.size) sm sm sm (by simp;omega) (by rw [hbl];omega) (by simp;omega);have NW:=zh ho';have EM:Hid (Keep au wa w'):=zh ((dH.out.both k1).grown hg fun k hk=>HO.out.block k hk);obtain⟨ot',ct',hv'⟩:=ho'.len;have hl4:(bl (es.take k)++fZ d).length=4*k+4:=by rw [List.length_append,hbl];rfl
  rw [hl4]at hv';subst hv';clear ho' hg k1;go_wp2_with (at_builtin;refine aV _ _ 276 _ _ rfl rfl rfl rfl hr ?_);go_roundw
  case rel=>exact⟨k+1,om,gn,EM.out,by rw [HS.out];exact NW.out⟩
  simp [intOf];omega
 have hlt:¬(k:Int)<(es.length:Int):=om;obtain rfl:k=es.length:=om;rw [List.take_length]at HO;have hcv:=HO.out.str;have ZU:Hid ((⟨(bl es).toArray⟩:ByteArray)=bytesOf es):=zh rfl;rw [ZU.out]at hcv;obtain⟨p0,p1,f0,f1,pl⟩:=(HB0.out.keep hkr).two;have HK:=zh (Bf.out.both hkr);clear hkr ho;cases neg
 ·go_wp2;refine bodyPost_ret (by simp [results,Tryz.results155,go_sem,p0,p1,pl];rfl) rfl ?_;exact⟨rfl,kp⟩
 go_wp2;refine bodyPost_ret (by simp [results,Tryz.results155,go_sem,p0,p1,pl];rfl) rfl ?_;exact⟨rfl,kp⟩
theorem ET (x:Int)(h1:0≤x)(h2:x≤9223372036854775807):IntKind.u64.wrap x=(x.natAbs:Nat):=by
 rw [IntKind.wrap_u64];omega
theorem P9 (w:World)(u:Nat)(hu:u<18446744073709551616):dX (w.alloc (.cells #[.int .u32 ((u:Int)%4294967296),.int .u32 ((u:Int)/4294967296)] FL)) (.slice (some ⟨w.heap.size,0,none⟩) 2 2) [u%4294967296,u/4294967296]:=by
 have h:=(ZV w [u%4294967296,u/4294967296] (by simp [maxLen]) (by
  intro d hd;simp at hd;omega)).dg
 simpa using h
theorem xF (w:World)(x:Int)(h1: -9223372036854775808≤x)(h2:x≤9223372036854775807):
  Calls Tryz.prog 90 #[.int .i64 x] w fun e w'=>e= .returned (bG x)∧Keep au w w':=by
 obtain⟨u,hu⟩:∃u,x.natAbs=u:=⟨_,rfl⟩;have hul:u<18446744073709551616:=om;have hd:∀d∈ [u%4294967296,u/4294967296],d<4294967296:=by
  intro d hd;simp at hd;omega
 have HN:Hid (dval [u%4294967296,u/4294967296]=u):=zh (by simp [dval];omega);have HS:Hid (jK (decide (x<0)) u=x):=zh (by
  by_cases h:x<0
  ·rw [decide_eq_true h];simp [jK];omega
  rw [decide_eq_false h];simp [jK];omega)
 have q1:IntKind.u32.wrap (u:Int)=((u%4294967296:Nat):Int):=by rw [IntKind.wrap_u32'];omega
 have q2:IntKind.u32.wrap ((u:Int)/4294967296)=((u/4294967296:Nat):Int):=by rw [IntKind.wrap_u32'];omega
 have HD:=zh hd;have k1:Keep au w (w.alloc (.cells #[.bool false,.string ⟨#[]⟩] 100)):=kp;have HK1:=zh k1;clear hd k1;by_cases h0:x<0
 focus
  have hw:IntKind.u64.wrap (-IntKind.u64.wrap x)=(u:Nat):=by rw [← hu];exact AB x h0 h1
  have e0:decide (x<0)=true:=cZ h0;rw [e0]at HS;have HV:Hid (bG x= .agg #[.bool true,.string (bytesOf (bV u))]):=zh (by unfold bG;rw [e0,hu]);go_enter Tryz.func90,Tryz.ntmps90;go_wp2_with fail;have kk:=(HK1.out.alloc (.cells #[.int .u32 ((u:Int)%4294967296),.int .u32 ((u:Int)/4294967296)] FL));have HB:Hid (aL ((w.alloc (.cells #[.bool false,.string ⟨#[]⟩] 100)).alloc (.cells #[.int .u32 ((u:Int)%4294967296),.int .u32 ((u:Int)/4294967296)] FL)) w.heap.size #[.bool false,.string ⟨#[]⟩]):=zh kc;have hdg:=P9 (w.alloc (.cells #[.bool false,.string ⟨#[]⟩] 100)) u hul;rw [show(w.alloc (.cells #[.bool false,.string ⟨#[]⟩] 100)).heap.size=w.heap.size+1 from sm]at hdg;refine(cO _ true _ _ hdg sm).mono ?_
 rotate_left
 focus
  have hw:IntKind.u64.wrap x=(u:Nat):=by rw [← hu];exact ET x om h2
  have e0:decide (x<0)=false:=bQ h0;rw [e0]at HS;have HV:Hid (bG x= .agg #[.bool false,.string (bytesOf (bV u))]):=zh (by unfold bG;rw [e0,hu]);go_enter Tryz.func90,Tryz.ntmps90;go_wp2_with fail;have kk:=(HK1.out.alloc (.cells #[.int .u32 ((u:Int)%4294967296),.int .u32 ((u:Int)/4294967296)] FL));have HB:Hid (aL ((w.alloc (.cells #[.bool false,.string ⟨#[]⟩] 100)).alloc (.cells #[.int .u32 ((u:Int)%4294967296),.int .u32 ((u:Int)/4294967296)] FL)) w.heap.size #[.bool false,.string ⟨#[]⟩]):=zh kc;have hdg:=P9 (w.alloc (.cells #[.bool false,.string ⟨#[]⟩] 100)) u hul;rw [show(w.alloc (.cells #[.bool false,.string ⟨#[]⟩] 100)).heap.size=w.heap.size+1 from sm]at hdg;refine(cO _ false _ _ hdg sm).mono ?_
 rotate_left
 all_goals
  rintro e w1 ⟨rfl,hk1⟩;rw [HN.out,HS.out,HV.out];have HK:=zh (kk.both hk1);obtain⟨p0,p1,f0,f1,pl⟩:=(HB.out.keep hk1).two;clear kk hdg hk1;go_wp2;refine bodyPost_ret (by simp [results,Tryz.results90,go_sem,p0,p1,pl];rfl) rfl ?_;exact⟨by rw [HV.out],kp⟩
theorem Di (n:Nat):(bytesOf (bV n)).toList.isEmpty=decide (n=0):=by
 unfold bytesOf;rw [ByteArray.toList_mk];by_cases h:n=0
 ·subst h;rw [iR];rfl
 rw [decide_eq_false h,uF h];rfl
theorem zT {z:Int}(h:z<0):bG z= .agg #[.bool true,.string (bytesOf (bV z.natAbs))]:=by unfold bG;rw [cZ h]
theorem iV {z:Int}(h:¬z<0):bG z= .agg #[.bool false,.string (bytesOf (bV z.natAbs))]:=by unfold bG;rw [bQ h]
theorem gX (w:World)(z:Int):Calls Tryz.prog 94 #[bG z] w fun e w'=>e= .returned (.int .i64 z.sign)∧Keep au w w':=by
 have hem:=Di z.natAbs;by_cases h:z<0
 ·rw [zT h];rw [decide_eq_false om]at hem;rw [show z.sign= -1 from Int.sign_eq_neg_one_of_neg h];generalize bytesOf (bV z.natAbs)=S at *;go_enter Tryz.func94,Tryz.ntmps94;go_wp2;go_ret;exact⟨rfl,kp⟩
 rw [iV h];by_cases h0:z=0
 ·rw [decide_eq_true om]at hem;rw [show z.sign=0 from by rw [h0];rfl];generalize bytesOf (bV z.natAbs)=S at *;go_enter Tryz.func94,Tryz.ntmps94;go_wp2;go_ret;exact⟨rfl,kp⟩
 rw [decide_eq_false om]at hem;rw [show z.sign=1 from Int.sign_eq_one_of_pos om];generalize bytesOf (bV z.natAbs)=S at *;go_enter Tryz.func94,Tryz.ntmps94;go_wp2;go_ret;exact⟨rfl,kp⟩
theorem uH (w:World)(z:Int):Calls Tryz.prog 199 #[bG z] w fun e w'=>e= .returned (bG (-z))∧Keep au w w':=by
 have hem:=Di z.natAbs;have hna:(-z).natAbs=z.natAbs:=Int.natAbs_neg z;by_cases h:z<0
 focus
  have HV:=zh (iV (z:= -z) om);rw [zT h,HV.out,hna];rw [decide_eq_false om]at hem
 rotate_left
 focus
  by_cases h0:z=0
  focus
   have HV:=zh (iV (z:= -z) om);rw [iV h,HV.out,hna];rw [decide_eq_true om]at hem
  rotate_left
  focus
   have HV:=zh (zT (z:= -z) om);rw [iV h,HV.out,hna];rw [decide_eq_false om]at hem
  rotate_left
 rotate_left 2
 all_goals
  generalize bytesOf (bV z.natAbs)=S at *;clear HV hna;go_enter Tryz.func199,Tryz.ntmps199;go_wp2;refine bodyPost_ret (by simp [results,Tryz.results199,go_sem];rfl) rfl ?_;exact⟨rfl,kp⟩
theorem Kl (w:World)(z:Int):Calls Tryz.prog 228 #[bG z] w fun e w'=>e= .returned (bG (z.natAbs:Nat))∧Keep au w w':=by
 have HV:=zh (iV (z:=((z.natAbs:Nat):Int)) om);rw [HV.out,Int.natAbs_natCast];unfold bG;generalize bytesOf (bV z.natAbs)=S at *;generalize decide (z<0)=b;clear HV;go_enter Tryz.func228,Tryz.ntmps228;go_wp2;refine bodyPost_ret (by simp [results,Tryz.results228,go_sem];rfl) rfl ?_;exact⟨rfl,kp⟩
theorem pF (w:World)(va vb:Value)(ds es:List Nat)(ha:dX w va ds)(hb:dX w vb es)(hna:jG ds)(hnb:jG es)(hla:ds.length≤100000)(hlb:es.length≤100000):
  Calls Tryz.prog 152 #[va,vb] w fun e w'=>e= .returned (.int .i64 (kG (dval ds) (dval es)))∧∃n,w'=w.drewN n:=by
 have HA:=zh ha;have HB:=zh hb;have HL:=zh ha.lt;have HL':=zh hb.lt;have HN:=zh hna;have HN':=zh hnb;obtain⟨oa,ca,rfl,hca,hma⟩:=ha.len;obtain⟨ob,cb,rfl,hcb,hmb⟩:=hb.len;clear ha hb hna hnb;unfold maxLen at hma hmb;by_cases hl:ds.length=es.length
 ·have e1:((ds.length:Int) != (es.length:Int))=false:=by rw [bne_eq_false_iff_eq];omega
  have Hl:=zh hl;clear hl;go_enter Tryz.func152,Tryz.ntmps152;go_wp2;go_loopw [5] (fun n wr=>∃k:Nat,k≤ds.length∧n= .int .i64 ((k:Int)-1)∧ds.drop k=es.drop k∧∃m,wr=w.drewN m) (fun n _=>(intOf n+1).toNat)
  case atStart=>exact⟨ds.length,Nat.le_refl _,rfl,by rw [List.drop_length,Hl.out,List.drop_length],0,rfl⟩
  obtain⟨k,hk,rfl,hdr,m,rfl⟩:=hrel;have HR:=zh hdr;clear hdr;by_cases hk0:k=0
  ·subst hk0;have E:kG (dval ds) (dval es)=0:=by
    have:=HR.out;simp at this;subst this;simp [kG]
   have EH:=zh E;clear E;go_wp2;go_ret;exact⟨jB EH.out.symm,_,rfl⟩
  obtain⟨j,rfl⟩:∃j,k=j+1:=⟨k-1,om⟩;obtain⟨g,o,hoa,hgl,hc⟩:=HA.out.at om;subst hoa;obtain⟨g',o',Io,hgl',hc'⟩:=HB.out.at (by have:=Hl.out;omega);subst Io;have q1:=hc j om;have q1':=hc' j (by have:=Hl.out;omega);have hlt':(j:Int)<(es.length:Int):=by have:=Hl.out;omega
  have hlt:(j:Int)<(ds.length:Int):=om;clear hc hc';generalize hp:ds.getD j 0=p at q1;generalize hp':es.getD j 0=p' at q1';have Hp:=zh hp;clear hp;have Hp':=zh hp';clear hp';have ej:((j+1:Nat):Int)-1=(j:Int):=om;rw [ej];by_cases hlp:p<p'
  ·have E:kG (dval ds) (dval es)= -1:=by
    have:=FM ds es j Hl.out om HR.out HL.out (by rw [Hp.out,Hp'.out];exact hlp);simp [kG,this]
   have EH:=zh E;clear E;go_wp2;go_quiet (fail);go_wp2;go_ret;exact⟨jB EH.out.symm,_,by rw [World.drewN_drewN]⟩
  by_cases hgp:p'<p
  ·have E:kG (dval ds) (dval es)=1:=by
    have:=FM es ds j Hl.out.symm om HR.out.symm HL'.out (by rw [Hp.out,Hp'.out];omega);unfold kG;rw [if_neg om,if_neg om]
   have EH:=zh E;clear E;go_wp2;go_quiet (fail);go_wp2;go_quiet (fail);go_wp2;go_ret;exact⟨jB EH.out.symm,_,by rw [World.drewN_drewN,World.drewN_drewN]⟩
  obtain rfl:p=p':=om;go_wp2;go_quiet (fail);go_wp2;go_quiet (fail);go_wp2;go_roundw
  case rel=>
   refine⟨j,om,gn,?_,_,rfl⟩;have h1:j<ds.length:=om;have h2:j<es.length:=om;rw [List.drop_eq_getElem_cons h1,List.drop_eq_getElem_cons h2,HR.out,←su h1,←su h2,Hp.out,Hp'.out]
  simp [intOf]
 have e1:((ds.length:Int) != (es.length:Int))=true:=by rw [bne_iff_ne];omega
 by_cases hlt:ds.length<es.length
 ·have E:kG (dval ds) (dval es)= -1:=by
   have:=Dj ds es HN'.out hlt HL.out;simp [kG,this]
  have EH:=zh E;clear E hl;go_enter Tryz.func152,Tryz.ntmps152;go_wp2;go_ret;exact⟨jB EH.out.symm,0,rfl⟩
 have E:kG (dval ds) (dval es)=1:=by
  have:=Dj es ds HN.out om HL'.out;unfold kG;rw [if_neg om,if_neg om]
 have EH:=zh E;clear E hl;go_enter Tryz.func152,Tryz.ntmps152;go_wp2;go_ret;exact⟨jB EH.out.symm,0,rfl⟩
def dl (z:Int):Nat:=(bV z.natAbs).length
theorem jI (n:Nat):n<4294967296^(bV n).length:=by
 have:=pG (bV n) (yG n);rwa [dh]at this
theorem jY {z:Int}{k:Nat}(h:z.natAbs<4294967296^k):dl z≤k:=Ki h
theorem zV (z:Int):dl (-z)=dl z:=by unfold dl;rw [Int.natAbs_neg]
theorem zbG (z:Int):dl (z.natAbs:Nat)=dl z:=by unfold dl;rw [Int.natAbs_natCast]
theorem pJ {a b:Int}(h:a.natAbs≤b.natAbs):dl a≤dl b:=jY (Nat.lt_of_le_of_lt h (jI _))
theorem Ir (a b:Int)(k:Nat)(ha:dl a≤k)(hb:dl b≤k):dl (a+b)≤k+1:=by
 apply jY;have h1:a.natAbs<4294967296^k:=bJ (jI _) (Nat.pow_le_pow_right om ha);have h2:b.natAbs<4294967296^k:=bJ (jI _) (Nat.pow_le_pow_right om hb);rw [Nat.pow_succ];omega
theorem iJ (a b:Int):dl (a*b)≤dl a+dl b:=by
 apply jY;rw [Int.natAbs_mul,Nat.pow_add];exact Nat.mul_lt_mul'' (jI _) (jI _)
theorem bN (z:Int):bG z= .agg #[.bool (decide (z<0)),.string (bytesOf (bV z.natAbs))]:=rfl
theorem iC (w:World)(z:Int)(b:Bool)(hz:dl z≤10000):Calls Tryz.prog 153 #[.agg #[.bool b,.string (bytesOf (bV z.natAbs))]] w fun e w'=>∃v,e= .returned v∧dX w' v (bV z.natAbs)∧Keep au w w':=
 (RH w b (bV z.natAbs) (yG _) hz).mono fun e w' ⟨v,ds,he,hk,hd,hds⟩=>⟨v,he,by subst hds;exact hd.dg,hk⟩
theorem Qc (a b:Nat):kG a b=((a:Int)-b).sign:=by
 unfold kG;split
 ·rw [Int.sign_eq_neg_one_of_neg om]
 split
 ·rename_i h1 h2;subst h2;simp
 rw [Int.sign_eq_one_of_pos om]
theorem Qd {x y:Int}(h:x.sign<y.sign):x-y<0:=by
 apply Classical.byContradiction;intro h';rcases Int.lt_trichotomy x 0 with h1 | h1 | h1
 ·rw [Int.sign_eq_neg_one_of_neg h1,Int.sign_eq_neg_one_of_neg om]at h;omega
 ·subst h1;rcases Int.lt_or_le y 0 with h2 | h2
  ·rw [Int.sign_eq_neg_one_of_neg h2]at h;simp at h
  obtain rfl:y=0:=om;simp at h
 rw [Int.sign_eq_one_of_pos h1]at h;rcases Int.lt_trichotomy y 0 with h2 | h2 | h2
 ·rw [Int.sign_eq_neg_one_of_neg h2]at h;omega
 ·subst h2;simp at h
 rw [Int.sign_eq_one_of_pos h2]at h;omega
theorem AF (w:World)(x y:Int)(hx:dl x≤10000)(hy:dl y≤10000):
  Calls Tryz.prog 87 #[bG x,bG y] w fun e w'=>e= .returned (.int .i64 (x-y).sign)∧Keep au w w':=by
 have HX:=zh hx;have HY:=zh hy;have SX:=fun w=>zh (gX w x);have SY:=fun w=>zh (gX w y);have LX:=fun w b=>zh (iC w x b hx);have LY:=fun w b=>zh (iC w y b hy);rw [bN]at SX;rw [bN]at SY;rw [bN,bN];obtain⟨S,hS⟩:∃S,bytesOf (bV x.natAbs)=S:=⟨_,rfl⟩;obtain⟨T,hT⟩:∃S,bytesOf (bV y.natAbs)=S:=⟨_,rfl⟩;rw [hS]at SX LX ⊢;rw [hT]at SY LY ⊢;clear hx hy hS hT;go_enter Tryz.func87,Tryz.ntmps87;go_wp2;obtain⟨bx,hbx⟩:∃b,decide (x<0)=b:=⟨_,rfl⟩;obtain⟨by',hby⟩:∃b,decide (y<0)=b:=⟨_,rfl⟩;rw [hbx]at SX ⊢;rw [hby]at SY ⊢;have wL:=zh hbx;have ZU:=zh hby;clear hbx hby;have B0:aL ((w.alloc (.cells #[.bool bx,.string S] 100)).alloc (.cells #[.bool by',.string T] 100)) w.heap.size #[.bool bx,.string S]:=kc;have B1:aL ((w.alloc (.cells #[.bool bx,.string S] 100)).alloc (.cells #[.bool by',.string T] 100)) (w.heap.size+1) #[.bool by',.string T]:=kc;have K0:Hid (Keep au w ((w.alloc (.cells #[.bool bx,.string S] 100)).alloc (.cells #[.bool by',.string T] 100))):=zh kp;generalize (w.alloc (.cells #[.bool bx,.string S] 100)).alloc (.cells #[.bool by',.string T] 100)=w0 at*;have HB0:=zh B0;have HB1:=zh B1;clear B0 B1;refine aD (fun w'=>Keep au w0 w') [] [([0,2],1),([],3)] [4,5] kr kr kp ?_;intro X W hne hF hcl;have aY:=zh hcl;have hx0:=fun x=>(HB0.out.keep (hF x)).two;have hx1:=fun x=>(HB1.out.keep (hF x)).two;clear hF hcl;simp only [aW,aJ,zl0,zl1,zl2,aX,Bool.false_eq_true,if_false]
 (repeat(quiet_step (fail)));refine wpQuiet_nil ?_
 refine ay rfl rfl fun K hK=> ?_;go_simp;refine(SX _).out.mono ?_;rintro e w1 ⟨rfl,hk1⟩;have k1:Keep au w0 w1:=Keep.trans kp hk1 fun _ _ _ h=>h;refine hK _ _ ⟨fun _=>aY.out _ k1,?_⟩;clear hK K hk1
 (repeat(quiet_step (fail)));refine wpQuiet_nil ?_
 refine ay rfl rfl fun K hK=> ?_;go_simp;refine(SY _).out.mono ?_;rintro e w2 ⟨rfl,hk2⟩;have k2:=k1.both hk2;refine hK _ _ ⟨fun _=>aY.out _ k2,?_⟩;clear hK K hk2 k1
 (repeat(quiet_step (fail)));refine wpQuiet_nil ?_
 refine NoPanic.normal ?_;have HB0:=zh (HB0.out.keep k2);have HB1:=zh (HB1.out.keep k2);have K2:=zh (K0.out.both k2);clear hx0 hx1 aY k2 SX SY;obtain⟨p0,p1,_,_,pl⟩:=HB0.out.two;obtain⟨q0,q1,_,_,ql⟩:=HB1.out.two;by_cases hs:x.sign=y.sign
 ·have HS:=zh hs;rw [hs];clear hs;cases bx
  focus
   have HR:Hid (kG x.natAbs y.natAbs=(x-y).sign):=zh (by
    have h1:¬x<0:=of_decide_eq_false wL.out;have h2:¬y<0:=fun h=>by have:=HS.out;rw [Int.sign_eq_neg_one_of_neg h]at this;exact h1 (Int.sign_neg_iff.1 (by rw [this];omega))
    rw [Qc];congr 1;omega)
   go_wp2;clear p0 p1 pl q0 q1 ql;refine aD (fun w'=>Keep au w2 w') [] [([0,2],1),([],3),([],4)] [5] kr kr kp ?_;intro X W hne hF hcl;have aY:=zh hcl;have hx0:=fun x=>(HB0.out.keep (hF x)).two;have hx1:=fun x=>(HB1.out.keep (hF x)).two;clear hF hcl;simp only [aW,aJ,zl0,zl1,zl2,aX,Bool.false_eq_true,if_false]
   (repeat(quiet_step (fail)));refine wpQuiet_nil ?_
   refine ay rfl rfl fun K hK=> ?_;go_simp;refine(LX _ _).out.mono ?_;rintro e w3 ⟨v3,rfl,hd3,hk3⟩;have k3:Keep au w2 w3:=Keep.trans kp hk3 fun _ _ _ h=>h;refine hK _ _ ⟨fun _=>aY.out _ k3,?_⟩;clear hK K hk3
   (repeat(quiet_step (fail)));refine wpQuiet_nil ?_
   refine ay rfl rfl fun K hK=> ?_;go_simp;refine(LY _ _).out.mono ?_;rintro e w4 ⟨v4,rfl,hd4,hk4⟩;have k4:=k3.both hk4;refine hK _ _ ⟨fun _=>aY.out _ k4,?_⟩;have HD3:=zh (hd3.keep hk4);have HD4:=zh hd4;clear hK K hk4 k3 hd3 hd4
   (repeat(quiet_step (fail)));refine wpQuiet_nil ?_
   refine ay rfl rfl fun K hK=> ?_;go_simp;refine(pF _ _ _ _ _ HD3.out HD4.out (dD _) (dD _) (by have:=HX.out;unfold dl at this;omega) (by have:=HY.out;unfold dl at this;omega)).mono ?_
  rotate_left
  focus
   have HR:Hid (kG y.natAbs x.natAbs=(x-y).sign):=zh (by
    have h1:x<0:=of_decide_eq_true wL.out;have h2:y<0:=Int.sign_neg_iff.1 (by rw [← HS.out,Int.sign_eq_neg_one_of_neg h1];omega);rw [Qc];congr 1;omega)
   go_wp2;clear p0 p1 pl q0 q1 ql;refine aD (fun w'=>Keep au w2 w') [] [([0,2],1),([],3),([],4)] [5] kr kr kp ?_;intro X W hne hF hcl;have aY:=zh hcl;have hx0:=fun x=>(HB0.out.keep (hF x)).two;have hx1:=fun x=>(HB1.out.keep (hF x)).two;clear hF hcl;simp only [aW,aJ,zl0,zl1,zl2,aX,Bool.false_eq_true,if_false]
   (repeat(quiet_step (fail)));refine wpQuiet_nil ?_
   refine ay rfl rfl fun K hK=> ?_;go_simp;refine(LY _ _).out.mono ?_;rintro e w3 ⟨v3,rfl,hd3,hk3⟩;have k3:Keep au w2 w3:=Keep.trans kp hk3 fun _ _ _ h=>h;refine hK _ _ ⟨fun _=>aY.out _ k3,?_⟩;clear hK K hk3
   (repeat(quiet_step (fail)));refine wpQuiet_nil ?_
   refine ay rfl rfl fun K hK=> ?_;go_simp;refine(LX _ _).out.mono ?_;rintro e w4 ⟨v4,rfl,hd4,hk4⟩;have k4:=k3.both hk4;refine hK _ _ ⟨fun _=>aY.out _ k4,?_⟩;have HD3:=zh (hd3.keep hk4);have HD4:=zh hd4;clear hK K hk4 k3 hd3 hd4
   (repeat(quiet_step (fail)));refine wpQuiet_nil ?_
   refine ay rfl rfl fun K hK=> ?_;go_simp;refine(pF _ _ _ _ _ HD3.out HD4.out (dD _) (dD _) (by have:=HY.out;unfold dl at this;omega) (by have:=HX.out;unfold dl at this;omega)).mono ?_
  rotate_left
  all_goals
   rintro e w5 ⟨rfl,n5,rfl⟩;have k5:=k4.both (kH w4 n5);rw [dh,dh,HR.out];refine hK _ _ ⟨fun _=>aY.out _ k5,?_⟩;have HK:=zh (K2.out.both k5);clear hK K k4 k5 hx0 hx1
   (repeat(quiet_step (fail)));refine wpQuiet_nil ?_
   refine NoPanic.normal ?_;go_wp2;go_ret;exact⟨rfl,HK.out⟩
 have e1:(x.sign != y.sign)=true:=by rw [bne_iff_ne];exact hs
 by_cases hl:x.sign<y.sign
 ·have HR:Hid ((x-y).sign= -1):=zh (Int.sign_eq_neg_one_of_neg (Qd hl));clear hs;go_wp2;go_ret;exact⟨jB HR.out.symm,K2.out⟩
 have HR:Hid ((x-y).sign=1):=zh (Int.sign_eq_one_of_pos (by have:=Qd (x:=y) (y:=x) om;omega));clear hs;go_wp2;go_ret;exact⟨jB HR.out.symm,K2.out⟩
open Go.Shelf
def zcU:Ren:=⟨fun n=>if n=128 then 229 else if n=133 then 261 else 0,fun n=>if n=3 then 3 else if n=4 then 4 else if n=5 then 5 else if n=9 then 9 else if n=46 then 239 else if n=51 then 238 else 0,fun x=>x⟩
theorem lays128:Lays.n128 Tryz.prog zcU where
 mixed:=kr
 f128:=kr
 t3:=kr
 a3:=fun w=>kr
 z3:=fun w=>kr
 v3:=fun w=>kr
 t4:=kr
 a4:=fun w=>kr
 z4:=fun w=>kr
 v4:=fun w=>kr
 t5:=kr
 a5:=fun w=>kr
 z5:=fun w=>kr
 v5:=fun w=>kr
 t9:=kr
 a9:=fun w=>kr
 z9:=fun w=>kr
 v9:=fun w=>kr
 t46:=kr
 a46:=fun w=>kr
 z46:=fun w=>kr
 v46:=fun w=>kr
 t51:=kr
 a51:=fun w=>kr
 z51:=fun w=>kr
 v51:=fun w=>kr
theorem lays133:Lays.n133 Tryz.prog zcU where
 mixed:=kr
 f128:=kr
 f133:=kr
 t3:=kr
 a3:=fun w=>kr
 z3:=fun w=>kr
 v3:=fun w=>kr
 t4:=kr
 a4:=fun w=>kr
 z4:=fun w=>kr
 v4:=fun w=>kr
 t5:=kr
 a5:=fun w=>kr
 z5:=fun w=>kr
 v5:=fun w=>kr
 t9:=kr
 a9:=fun w=>kr
 z9:=fun w=>kr
 v9:=fun w=>kr
 t46:=kr
 a46:=fun w=>kr
 z46:=fun w=>kr
 v46:=fun w=>kr
 t51:=kr
 a51:=fun w=>kr
 z51:=fun w=>kr
 v51:=fun w=>kr
theorem RJ (x:Int)(w:World)(h0:0≤x)(h1:x≤4294967295):Calls Tryz.prog 229 #[.int .u32 x] w fun e w'=>e= .returned (.int .i64 (Lib.bitLen x.toNat))∧w'=w:=Any.bits_Len32 lays128 x w h0 h1
def jQ (z:Int):Nat:=if bV z.natAbs= []then 0 else 32*(dl z-1)+Lib.bitLen ((bV z.natAbs).getD (dl z-1) 0)
theorem Dk (z:Int):jQ z≤32*dl z:=by
 unfold jQ;split
 ·omega
 rename_i h;have h1:0<dl z:=List.length_pos_iff.2 h;have h2:=eT (yG z.natAbs) (dl z-1);have h3:Lib.bitLen ((bV z.natAbs).getD (dl z-1) 0)≤32:=Lib.bitLen_le _ 32 om om;omega
def uI (z:Int):Int:=if 131072<jQ z then 0 else z
def Dl (z:Int):Int:=if 131072<jQ z then 10 else 0
theorem Qe {z:Int}(h:dl z≤4096):uI z=z∧Dl z=0:=by
 have:=Dk z;unfold uI Dl;rw [if_neg om,if_neg om];exact⟨rfl,rfl⟩
theorem sD (w:World)(z:Int)(hz:dl z≤10000):Calls Tryz.prog 205 #[bG z] w fun e w'=>e= .returned (.int .i64 (jQ z:Nat))∧Keep au w w':=by
 have LX:=fun w b=>zh (iC w z b hz);rw [bN];obtain⟨ds,hds⟩:∃ds,bV z.natAbs=ds:=⟨_,rfl⟩;have hdl:dl z=ds.length:=by unfold dl;rw [hds]
 obtain⟨N,hN⟩:∃N,jQ z=N:=⟨_,rfl⟩;rw [hN];have HB:Hid (N=if ds= []then 0 else 32*(ds.length-1)+Lib.bitLen (ds.getD (ds.length-1) 0)):=zh (by rw [← hN];unfold jQ;rw [hds,hdl]);have hlt:∀d∈ds,d<4294967296:=by rw [← hds];exact yG _
 have nJ:=zh hlt;rw [hds]at LX ⊢;rw [hdl]at hz;clear hds hdl hlt hN;generalize decide (z<0)=b;generalize bytesOf ds=S at *;go_enter Tryz.func205,Tryz.ntmps205;go_wp2_with fail;refine(LX _ b).out.mono ?_;rintro e w1 ⟨v1,rfl,hd1,hk1⟩;obtain⟨oa,ca,rfl,hca,hma⟩:=hd1.len;have HD:=zh hd1;have HK:Hid (Keep au w w1):=zh (Keep.both kp hk1);unfold maxLen at hma;clear hk1 hd1;by_cases h0:ds= []
 ·subst h0;go_wp2;go_ret;exact⟨jB (by rw [HB.out];simp),HK.out⟩
 have hl0:0<ds.length:=List.length_pos_iff.2 h0;obtain⟨g,o,hoa,hgl,hc⟩:=HD.out.at hl0;subst hoa;have e0:((ds.length:Int)==0)=false:=by rw [beq_eq_false_iff_ne];omega
 have hck:=hc (ds.length-1) om;have hdk:=eT nJ.out (ds.length-1);have q1:(ds.length:Int)-1=((ds.length-1:Nat):Int):=om;have q2:((ds.length-1:Nat):Int)<(ds.length:Int):=om;rw [if_neg h0]at HB;obtain⟨d,hd⟩:∃d,ds.getD (ds.length-1) 0=d:=⟨_,rfl⟩;rw [hd]at hck hdk HB;have hbl:Lib.bitLen d≤32:=Lib.bitLen_le _ 32 om om;clear hc hd h0;go_wp2_with fail;refine(RJ _ _ om om).mono ?_;rintro e w2 ⟨rfl,rfl⟩;rw [Int.toNat_natCast];go_wp2;go_ret;exact⟨jB (by rw [HB.out];omega),HK.out⟩
theorem tH (w:World)(z:Int)(hz:dl z≤10000):Calls Tryz.prog 206 #[bG z] w fun e w'=>e= .returned (.tuple #[bG (uI z),.int .i64 (Dl z)])∧Keep au w w':=by
 have BX:=fun w=>zh (sD w z hz);have hb0:(0:Int)≤(jQ z:Nat):=om;have HL:Hid ((131072<jQ z→uI z=0∧Dl z=10)∧(¬131072<jQ z→uI z=z∧Dl z=0)):=zh ⟨fun h=>by unfold uI Dl;rw [if_pos h,if_pos h];exact⟨rfl,rfl⟩,fun h=>by unfold uI Dl;rw [if_neg h,if_neg h];exact⟨rfl,rfl⟩⟩;have HZ0:Hid (bG 0= .agg #[.bool false,.string ⟨#[]⟩]):=zh (by unfold bG;rw [show(0:Int).natAbs=0 from rfl,iR];rfl);rw [bN]at BX ⊢;by_cases hl:131072<jQ z
 ·rw [(HL.out.1 hl).1,(HL.out.1 hl).2,HZ0.out];have hl2:(131072:Int)<(jQ z:Nat):=om;generalize jQ z=N at *;generalize decide (z<0)=b at *;generalize bytesOf (bV z.natAbs)=S at *;go_enter Tryz.func206,Tryz.ntmps206;go_wp2_with fail;refine(BX _).out.mono ?_;rintro e w1 ⟨rfl,hk1⟩;have B1:aL w1 (w.heap.size+1) #[.bool false,.string ⟨#[]⟩]:=aL.keep kc hk1;have HK:Hid (Keep au w w1):=zh (Keep.both kp hk1);obtain⟨p0,p1,f0,f1,pl⟩:=B1.two;clear B1 hk1;go_wp2;refine bodyPost_ret (by simp [results,Tryz.results206,go_sem,p0,p1,pl];rfl) rfl ?_;exact⟨rfl,kp⟩
 rw [(HL.out.2 hl).1,(HL.out.2 hl).2,bN];have hl2:¬(131072:Int)<(jQ z:Nat):=om;generalize jQ z=N at *;generalize decide (z<0)=b at *;generalize bytesOf (bV z.natAbs)=S at *;go_enter Tryz.func206,Tryz.ntmps206;go_wp2_with fail;refine(BX _).out.mono ?_;rintro e w1 ⟨rfl,hk1⟩;have B0:aL w1 w.heap.size #[.bool b,.string S]:=aL.keep kc hk1;have B1:aL w1 (w.heap.size+1) #[.bool false,.string ⟨#[]⟩]:=aL.keep kc hk1;have HK:Hid (Keep au w w1):=zh (Keep.both kp hk1);obtain⟨q0,q1,_,_,ql⟩:=B0.two;obtain⟨p0,p1,f0,f1,pl⟩:=B1.two;clear B0 B1 hk1;go_wp2;refine bodyPost_ret (by simp [results,Tryz.results206,go_sem,p0,p1,pl];rfl) rfl ?_;exact⟨rfl,kp⟩
def is64 (z:Int):Prop:= -9223372036854775808≤z∧z≤9223372036854775807
instance (z:Int):Decidable (is64 z):=by unfold is64;infer_instance
def small64 (z:Int):Value:=if is64 z then .tuple #[.int .i64 z,.bool true]else .tuple #[.int .i64 0,.bool false]
theorem NY {ds:List Nat}(h:jG ds)(hl:2<ds.length):18446744073709551616≤dval ds:=by
 have h1:=rW ds h (by rintro rfl;simp at hl);have h2:4294967296^2≤4294967296^(ds.length-1):=Nat.pow_le_pow_right om om;omega
theorem zcV (d:Nat)(h:d<18446744073709551616):bits .or .u64 0 (d:Int)=(d:Int):=by
 have:=u64_or_nat 0 d om h;simpa using this
theorem or_hi (a d:Nat)(ha:a<4294967296)(hd:d<4294967296):bits .or .u64 (a:Int) ((d:Int)*4294967296)=((a+4294967296*d:Nat):Int):=by
 rw [show((d:Int)*4294967296)=((d*4294967296:Nat):Int)from sm,u64_or_nat _ _ om om];congr 1;have:=Nat.shiftLeft_add_eq_or_of_lt (i:=32) (by simpa using ha) d;rw [Nat.shiftLeft_eq]at this;have e:d*4294967296+a=d*4294967296 ||| a:=by simpa using this
 rw [Nat.or_comm,←e];omega
theorem wO (w:World)(z:Int)(hz:dl z≤10000):Calls Tryz.prog 140 #[bG z] w fun e w'=>e= .returned (small64 z)∧Keep au w w':=by
 have LX:=fun w b=>zh (iC w z b hz);have hne:=dD z.natAbs;have hlt:=yG z.natAbs;have hval:=dh z.natAbs;have hlen:(bV z.natAbs).length≤10000:=hz;rw [bN];obtain⟨ds,hds⟩:∃ds,bV z.natAbs=ds:=⟨_,rfl⟩;rw [hds]at LX hne hlt hval hlen ⊢;clear hds hz;by_cases hl:2<ds.length
 ·have hb:=NY hne hl;have HV:Hid (small64 z= .tuple #[.int .i64 0,.bool false]):=zh (by unfold small64;rw [if_neg];rintro⟨h1,h2⟩;omega);rw [HV.out];have hl2:(2:Int)<(ds.length:Int):=om;clear hne hlt hval hb;generalize decide (z<0)=b;generalize bytesOf ds=S at *;go_enter Tryz.func140,Tryz.ntmps140;go_wp2_with fail;refine(LX _ b).out.mono ?_;rintro e w1 ⟨v1,rfl,hd1,hk1⟩;obtain⟨oa,ca,rfl,hca,hma⟩:=hd1.len;have HK:Hid (Keep au w w1):=zh (Keep.both kp hk1);unfold maxLen at hma;clear hk1 hd1;go_wp2;go_returns;exact⟨rfl,HK.out⟩
 have hl2:¬(2:Int)<(ds.length:Int):=om;have nJ:=zh hlt;have HT:Hid (∀k,k<ds.length→∃a b:Nat,dval (ds.take k)=a∧ds.getD k 0=b∧a<4294967296∧b<4294967296∧(k=0∧a=0∨k=1)∧dval (ds.take (k+1))=a+4294967296^k*b):=zh (by
  intro k hk;refine⟨_,_,rfl,rfl,?_,eT hlt k,?_,fI ds k hk⟩
  ·have h1:=pG (ds.take k) fun d h=>hlt d (List.mem_of_mem_take h);have h2:4294967296^(ds.take k).length≤4294967296^1:=Nat.pow_le_pow_right om (by rw [List.length_take];omega);omega
  rcases k with _ | k
  ·left;simp [dval]
  right;omega)
 have hN:z.natAbs<18446744073709551616:=by
  rw [← hval];have h1:=pG ds hlt;have h2:4294967296^ds.length≤4294967296^2:=Nat.pow_le_pow_right om om;omega
 have zew:=zh hval;clear hne hlt hval;obtain⟨b,hb⟩:∃b,decide (z<0)=b:=⟨_,rfl⟩;rw [hb];have HB:=zh hb;clear hb;generalize bytesOf ds=S at *;go_enter Tryz.func140,Tryz.ntmps140;go_wp2_with fail;refine(LX _ b).out.mono ?_;rintro e w1 ⟨v1,rfl,hd1,hk1⟩;obtain⟨oa,ca,rfl,hca,hma⟩:=hd1.len;have HD:=zh hd1;have B0:aL w1 w.heap.size #[.bool b,.string S]:=aL.keep kc hk1;have HB0:=zh B0;have HK:Hid (Keep au w w1):=zh (Keep.both kp hk1);unfold maxLen at hma;clear hk1 hd1 B0;go_wp2;go_loopw [15,5] (fun s t wr=>∃k:Nat,k≤ds.length∧s= .int .i64 k∧t= .int .u64 (dval (ds.take k):Nat)∧w1=wr) (fun s _ _=>(ds.length-intOf s).toNat)
 case atStart=>exact⟨0,om,rfl,by simp [dval],rfl⟩
 obtain⟨k,hk,rfl,rfl,hw⟩:=hrel;subst hw;by_cases hkl:k<ds.length
 ·have hlt:(k:Int)<(ds.length:Int):=om;obtain⟨g,o,hoa,hgl,hc⟩:=HD.out.at om;subst hoa;have hck:=hc k hkl;obtain⟨a,d,h1,h2,ha,hd,hk01,h3⟩:=HT.out k hkl;rw [h2]at hck;rw [h1];have H3:=zh h3;clear h1 h2 h3 hc;rcases hk01 with⟨rfl,rfl⟩ | rfl
  ·rw [Nat.add_zero]at hck;rw [show((0:Nat):Int)=0 from rfl]at hlt ⊢;go_wp2;refine⟨⟨1,om,rfl,?_,trivial⟩,by simp [intOf]<;>omega⟩;rw [H3.out,zcV d om]
   try simp
  go_wp2;refine⟨⟨2,om,rfl,?_,trivial⟩,by simp [intOf]<;>omega⟩;rw [H3.out,or_hi a d ha hd]
  try simp
 have hlt:¬(k:Int)<(ds.length:Int):=om;obtain rfl:k=ds.length:=om;rw [List.take_length,zew.out];obtain⟨p0,p1,_,_,pl⟩:=HB0.out.two;obtain⟨n,hn⟩:∃n,z.natAbs=n:=⟨_,rfl⟩;rw [hn]at hN ⊢;have HN:=zh hn;clear hn;cases b
 ·have HS:Hid (z=(n:Int)):=zh (by have:=of_decide_eq_false HB.out;have:=HN.out;omega);by_cases hs:n<9223372036854775808
  ·have HV:Hid (small64 z= .tuple #[.int .i64 n,.bool true]):=zh (by unfold small64;rw [if_pos,HS.out];rw [HS.out];exact⟨om,om⟩);have hsI:(n:Int)<9223372036854775808:=om;have hw:wrap64 (n:Int)=n:=by unfold wrap64;omega
   clear hs;go_wp2;go_returns;exact⟨congrArg Ending.returned HV.out.symm,HK.out⟩
  have HV:Hid (small64 z= .tuple #[.int .i64 0,.bool false]):=zh (by unfold small64;rw [if_neg];rintro⟨h1,h2⟩;have:=HS.out;omega);have hsI:¬(n:Int)<9223372036854775808:=om;clear hs;go_wp2;go_returns;exact⟨congrArg Ending.returned HV.out.symm,HK.out⟩
 have HS:Hid (z= -(n:Int)):=zh (by have:=of_decide_eq_true HB.out;have:=HN.out;omega);by_cases hs:n≤9223372036854775808
 ·have HV:Hid (small64 z= .tuple #[.int .i64 (-(n:Int)),.bool true]):=zh (by unfold small64;rw [if_pos,HS.out];rw [HS.out];exact⟨om,om⟩);have hsI:(n:Int)≤9223372036854775808:=om;have hw:wrap64 (-wrap64 (n:Int))= -(n:Int):=by unfold wrap64;omega
  clear hs;go_wp2;go_returns;exact⟨congrArg Ending.returned HV.out.symm,HK.out⟩
 have HV:Hid (small64 z= .tuple #[.int .i64 0,.bool false]):=zh (by unfold small64;rw [if_neg];rintro⟨h1,h2⟩;have:=HS.out;omega);have hsI:¬(n:Int)≤9223372036854775808:=om;clear hs;go_wp2;go_returns;exact⟨congrArg Ending.returned HV.out.symm,HK.out⟩
def Wj (P:List Nat→Prop)(w:World)(e:Ending)(w':World):Prop:=∃v ds,e= .returned v∧Keep au w w'∧dX w' v ds∧P ds
def uJ (w:World)(base:Nat)(v:Value)(ds:List Nat):Prop:=w.ownsRow base FL 1 v ds.length (yI ds)
theorem uJ.keep {w w':World}{base:Nat}{v:Value}{l:List Nat}(h:uJ w base v l)(k:Keep au w w'):uJ w' base v l:=by
 obtain⟨hl,h | ⟨g,cap,cur,hv,hb,hg,hl',hm,hs,ht⟩⟩:=h
 ·exact ⟨hl,.inl h⟩
 exact⟨hl,.inr ⟨g,cap,cur,hv,hb,by rw [k.block g (lt_of_heap hg) fun _ h=>h];exact hg,hl',hm,hs,ht⟩⟩
theorem uJ.block {w:World}{base:Nat}{v:Value}{l:List Nat}(h:uJ w base v l):∀k,v.ownBlock=some k→base≤k:=fun k hk=>(World.ownsRow.lt h k hk).1
theorem uJ.len {w:World}{base:Nat}{v:Value}{l:List Nat}(h:uJ w base v l):∃oa cap,v= .slice oa l.length cap:=by
 obtain⟨hl,h | ⟨g,cap,cur,hv,hb,hg,hl',hm,hs,ht⟩⟩:=h
 ·obtain ⟨rfl,h0⟩:=h;exact⟨none,0,by rw [h0]⟩
 exact⟨_,cap,hv⟩
theorem uJ.dg {w:World}{base:Nat}{v:Value}{ds:List Nat}(h:uJ w base v ds)(hd:∀d∈ds,d<4294967296):dX w v ds:=by
 obtain⟨hl,h | ⟨g,cap,cur,hv,hb,hg,hl',hm,hs,ht⟩⟩:=h
 ·obtain ⟨rfl,h0⟩:=h;obtain rfl:ds= []:=List.eq_nil_of_length_eq_zero h0;exact V7 w
 refine⟨_,cap,hv,hl',hm,hd,fun hne=>⟨g,0,rfl,lt_of_heap hg,fun i hi=> ?_⟩⟩;rw [Nat.zero_add];refine cell_of_heap hg ?_;have h1:(cur.toList.take (ds.length*1))[i]? =(yI ds)[i]? :=by rw [ht]
 rw [List.getElem?_take,if_pos om]at h1;rw [dV,eD hi];simpa [yI,hi]using h1
theorem yJ {w:World}{base:Nat}{v:Value}{l:List Nat}(hown:uJ w base v l)(d:Nat){g:Nat}(h0:w.cell? ⟨g,0,none⟩=some (.int .u32 (d:Int)))(hl:l.length≤1000000)(hb:base≤w.heap.size):
  ∃v' w',(Builtin.append_ #[233,233] 233 #[v,.slice (some ⟨g,0,none⟩) 1 1]).run Tryz.prog w= .ok v' w'∧uJ w' base v' (l++ [d])∧w.grownBy w' v.ownBlock:=by
 obtain⟨i0,hi0,hz0,hz1,hz2⟩:=info_parts rY;obtain⟨v',w',hr,ho,hg⟩:=vE (P:=Tryz.prog) (w:=w) (ty:=233) Tryz.underlying233 hi0 hz0 hz1 hz2 rfl dc base v l.length (yI l) hown (some ⟨g,0,none⟩) 1 1 (yI [d]) (by simp [yI])
  (fun _=>⟨_,rfl,fun j u hj=>by
   rw [rZ];rcases j with _ | j
   ·simp [yI]at hj;rw [h0,←hj]
   simp [yI]at hj⟩) (by intro u hu;obtain⟨x,_,rfl⟩:=List.mem_map.1 hu;rfl) (by unfold maxLen;omega) om hb
 refine⟨v',w',hr,?_,hg⟩;unfold uJ;rw [List.length_append,show([d]:List Nat).length=1 from rfl,show yI (l++ [d])=yI l++yI [d]from by simp [yI]];exact ho
theorem Dm (w:World)(n:Nat)(hn:n≤1000000):∃w',(Instr.makeSlice 233 (.int .i64 0) (.int .i64 (n:Int))).run Tryz.prog w= .ok (.slice (some ⟨w.heap.size,0,none⟩) 0 n) w'∧
  uJ w' w.heap.size (.slice (some ⟨w.heap.size,0,none⟩) 0 n) []∧Keep au w w':=by
 obtain⟨i0,hi0,hz0,hs0,hb0⟩:=info_parts rY;obtain⟨w2,hr2,ho2,hg2⟩:=run_make_own (P:=Tryz.prog) w w.heap.size 233 238 i0 (.int .u32 0) 1 Tryz.underlying233 hi0 hz0 hs0 .i64 .i64 n (by rw [hb0];omega) (by unfold maxLen;omega) (Nat.le_refl _);exact⟨w2,hr2,ho2,Keep.of_below (dB hg2 w.heap.size (Nat.le_refl _) sm) (Nat.le_refl _)⟩
theorem jv (ds:List Nat)(k:Nat):dval (ds.take (k+1))=dval (ds.take k)+4294967296^k*ds.getD k 0:=by
 rcases Nat.lt_or_ge k ds.length with h | h
 ·exact fI ds k h
 rw [List.take_of_length_le om,List.take_of_length_le h,dV,List.getElem?_eq_none h];simp
structure Bz (a b os:List Nat)(k q:Nat):Prop where
 len:os.length=k
 lt:∀d∈os,d<4294967296
 car:q≤1
 val:dval os+4294967296^k*q=dval (a.take k)+dval (b.take k)
theorem Bz.step {a b os:List Nat}{k q:Nat}(h:Bz a b os k q)(ha:∀d∈a,d<4294967296)(hb:∀d∈b,d<4294967296):Bz a b (os++ [(q+a.getD k 0+b.getD k 0)%4294967296]) (k+1) ((q+a.getD k 0+b.getD k 0)/4294967296):=by
 have hx:=eT ha k;have hy:=eT hb k;have hq:=h.car;refine⟨by rw [List.length_append,h.len];rfl,fun d hd=> ?_,om,?_⟩
 ·rcases List.mem_append.1 hd with hd | hd
  ·exact h.lt d hd
  obtain rfl:d=_:=by simpa using hd
  omega
 rw [iQ,h.len,jv,jv];have:=Km (x:=a.getD k 0) (y:=b.getD k 0) k rfl h.val;simp only [dval,Nat.mul_zero,Nat.add_zero];exact this
structure nL (a b os:List Nat)(k c:Nat):Prop where
 len:os.length=k
 lt:∀d∈os,d<4294967296
 car:c≤1
 val:dval os+dval (b.take k)=dval (a.take k)+4294967296^k*c
theorem nL.step {a b os:List Nat}{k c d c1:Nat}(h:nL a b os k c)(hd:d<4294967296)(hc:c1≤1)(he:d+b.getD k 0+c=a.getD k 0+4294967296*c1):nL a b (os++ [d]) (k+1) c1:=by
 refine⟨by rw [List.length_append,h.len];rfl,fun x hx=> ?_,hc,?_⟩
 ·rcases List.mem_append.1 hx with hx | hx
  ·exact h.lt x hx
  obtain rfl:x=d:=by simpa using hx
  exact hd
 rw [iQ,h.len,jv,jv,Nat.pow_succ];simp only [dval,Nat.mul_zero,Nat.add_zero];have hv:=h.val;have e:4294967296^k*(d+b.getD k 0+c)=4294967296^k*(a.getD k 0+4294967296*c1):=by rw [he]
 rw [Nat.mul_add,Nat.mul_add,Nat.mul_add,←Nat.mul_assoc]at e;omega
theorem nL.fin {a b os:List Nat}{c:Nat}(h:nL a b os a.length c)(hl:b.length≤a.length)(hle:dval b≤dval a)(ha:∀d∈a,d<4294967296):dval os=dval a-dval b:=by
 have hv:=h.val;rw [List.take_length,List.take_of_length_le hl]at hv;have h1:=pG os h.lt;rw [h.len]at h1;have h2:=h.car;have hc:c=0:=by
  rcases Nat.lt_or_ge 0 c with h' | h'
  ·obtain rfl:c=1:=om;omega
  omega
 subst hc;omega
theorem Iu (w:World)(va vb:Value)(al Uw:List Nat)(ha:dX w va al)(hb:dX w vb Uw)(hla:al.length≤10000)(hlb:Uw.length≤10000):
  Calls Tryz.prog 265 #[va,vb] w (Wj (fun ds=>dval ds=dval al+dval Uw∧ds.length≤10001) w):=by
 have HA:=zh ha;have HB:=zh hb;obtain⟨oa,ca,rfl,hca,hma⟩:=ha.len;obtain⟨ob,cb,rfl,hcb,hmb⟩:=hb.len;clear ha hb;unfold maxLen at hma hmb;go_enter Tryz.func265,Tryz.ntmps265;go_upto_if 13 with fail;go_cut [0,1] (fun s t wx=>∃xs ys:List Nat,∃ox cx oy cy,s= .slice ox xs.length cx∧t= .slice oy ys.length cy∧w=wx∧dX w (.slice ox xs.length cx) xs∧dX w (.slice oy ys.length cy) ys∧ys.length≤xs.length∧xs.length≤10000∧dval xs+dval ys=dval al+dval Uw)
 case first=>
  by_cases hl:al.length<Uw.length
  ·have e1:decide (al.length<Uw.length)=true:=decide_eq_true hl;have e2:decide ((al.length:Int)<(Uw.length:Int))=true:=cZ om;go_wp2_with fail;go_meet;exact⟨Uw,al,_,_,_,_,rfl,rfl,rfl,HB.out,HA.out,om,om,om⟩
  have e1:decide (al.length<Uw.length)=false:=decide_eq_false hl;have e2:decide ((al.length:Int)<(Uw.length:Int))=false:=bQ om;go_wp2_with fail;go_meet;exact⟨al,Uw,_,_,_,_,rfl,rfl,rfl,HA.out,HB.out,om,om,rfl⟩
 obtain⟨xs,ys,ox,cx,oy,cy,rfl,rfl,rfl,hx,hy,hl1,hl2,hsum⟩:=hcut;have HX:=zh hx;have HY:=zh hy;have zex:=zh hsum;obtain⟨_,_,hvx,hcx,hmx⟩:=hx.len;cases hvx;obtain⟨_,_,hvy,hcy,hmy⟩:=hy.len;cases hvy;unfold maxLen at hmx hmy;obtain⟨w2,hr2,ho2,hk2⟩:=Dm w (xs.length+1) om;rw [show((xs.length+1:Nat):Int)=(xs.length:Int)+1 from om]at hr2;have Im:=zh ho2;have Ay:=zh hk2;clear hx hy hsum ho2 hk2 HA HB;go_wp2;clear hr2;go_loopw [22,6,5] (fun s t u wr=>∃k:Nat,k≤xs.length∧s= .int .i64 k∧∃q:Nat,∃os,t= .int .u64 q∧Keep au w wr∧uJ wr w.heap.size u os∧Bz xs ys os k q) (fun s _ _ _=>(xs.length-intOf s).toNat)
 case atStart=>exact⟨0,om,rfl,0,[],rfl,Ay.out,Im.out,rfl,sm,om,by simp [dval]⟩
 obtain⟨k,hk,rfl,q,os,rfl,hkr,hou,hinv⟩:=hrel;have dH:=zh hkr;have zD:=zh hou;have zH:=zh hinv;have hol:=hinv.len;have hq:=hinv.car;obtain⟨oo,co,hu⟩:=hou.len;rw [hol]at hu;subst hu;have HOL:=zh hol;have hsz:=hkr.size;by_cases hkl:k<xs.length
 ·have hlt:(k:Int)<(xs.length:Int):=om;obtain⟨gx,px,hox,hgx,hcx⟩:=(HX.out.keep hkr).at om;subst hox;have c0:=hcx k hkl;have bx:=eT HX.out.lt k;have by':=eT HY.out.lt k
  have HST:=zh (hinv.step HX.out.lt HY.out.lt);obtain⟨x,hxx⟩:∃x,xs.getD k 0=x:=⟨_,rfl⟩;obtain⟨y,hyy⟩:∃y,ys.getD k 0=y:=⟨_,rfl⟩;rw [hxx]at c0 bx HST;rw [hyy]at by' HST
  have HYY:=zh hyy;clear hxx hyy hkr hou hinv hol hcx;go_upto_if 34 with fail;go_cut [6] (fun s wx=>s= .int .u64 ((q+x+y:Nat):Int)∧wr=wx)
  case first=>
   by_cases hky:k<ys.length
   ·have hlt2:(k:Int)<(ys.length:Int):=om;have e2:decide ((k:Int)<(ys.length:Int))=true:=cZ hlt2;obtain⟨gy,py,hoy,hgy,hcy⟩:=(HY.out.keep dH.out).at om;subst hoy;have c1:=hcy k hky;rw [HYY.out]at c1;clear hcy;go_wp2_with fail;go_meet;exact⟨sm,rfl⟩
   have hlt2:¬(k:Int)<(ys.length:Int):=om;have e2:decide ((k:Int)<(ys.length:Int))=false:=bQ hlt2;have hy0:y=0:=by rw [← HYY.out,dV,List.getElem?_eq_none om];rfl
   have HY0:=zh hy0;clear hy0;go_wp2_with fail;go_meet;exact⟨by rw [HY0.out];simp,rfl⟩
  obtain⟨rfl,rfl⟩:=hcut;have hsm:q+x+y<18446744073709551616:=om;obtain⟨s,hs⟩:∃s,q+x+y=s:=⟨_,rfl⟩;rw [hs]at HST hsm ⊢;clear hs;have k1:Keep au wr (wr.alloc (.cells #[.int .u32 ((s:Int)%4294967296)] FL)):=kp;obtain⟨v',w',hr,ho',hg⟩:=yJ (zD.out.keep k1) (s%4294967296) (g:=wr.heap.size) sm (by rw [HOL.out];omega) (by simp;omega);have NW:=zh ho';have EM:Hid (Keep au w w'):=zh ((dH.out.both k1).grown hg fun k hk=>zD.out.block k hk);obtain⟨ot',ct',hv'⟩:=ho'.len;rw [List.length_append,HOL.out,List.length_singleton]at hv';subst hv';clear ho' hg k1;go_wp2_with (at_builtin;refine aV _ _ 233 _ _ rfl rfl rfl rfl hr ?_);go_roundw
  case rel=>exact⟨k+1,om,gn,s/4294967296,_,sm,EM.out,NW.out,HST.out⟩
  simp [intOf];omega
 have hlt:¬(k:Int)<(xs.length:Int):=om;obtain rfl:k=xs.length:=om;have HV:Hid (dval (os++ [q])=dval al+dval Uw):=zh (by
  have:=hinv.val;rw [List.take_length,List.take_of_length_le hl1]at this;rw [iQ,hol,←zex.out];simp only [dval,Nat.mul_zero,Nat.add_zero];exact this)
 have hlt2:∀d∈os++ [q],d<4294967296:=fun d hd=>by
  rcases List.mem_append.1 hd with hd | hd
  ·exact hinv.lt d hd
  obtain rfl:d=q:=by simpa using hd
  omega
 have zbH:=zh hlt2;have k1:Keep au wr (wr.alloc (.cells #[.int .u32 (q:Int)] FL)):=kp;obtain⟨v',w',hr,ho',hg⟩:=yJ (zD.out.keep k1) q (g:=wr.heap.size) sm (by rw [HOL.out];omega) (by simp;omega);have NW:=zh ho';have EM:Hid (Keep au w w'):=zh ((dH.out.both k1).grown hg fun k hk=>zD.out.block k hk);have hqq:(q:Int)%4294967296=(q:Int):=om;clear ho' hg k1 hkr hou hinv hlt2;go_wp2_with (at_builtin;refine aV _ _ 233 _ _ rfl rfl rfl rfl hr ?_);go_ret;exact⟨_,_,rfl,EM.out,NW.out.dg zbH.out,HV.out,by rw [List.length_append,HOL.out];simp;omega⟩
theorem wP (w:World)(va vb:Value)(xs ys:List Nat)(ha:dX w va xs)(hb:dX w vb ys)(hla:xs.length≤10001)(hlb:ys.length≤xs.length)(hle:dval ys≤dval xs):
  Calls Tryz.prog 266 #[va,vb] w (Wj (fun ds=>dval ds=dval xs-dval ys∧ds.length≤10001) w):=by
 have HX:=zh ha;have HY:=zh hb;have HLE:=zh hle;obtain⟨ox,cx,rfl,hcx,hmx⟩:=ha.len;obtain⟨oy,cy,rfl,hcy,hmy⟩:=hb.len;clear ha hb hle;unfold maxLen at hmx hmy;obtain⟨w2,hr2,ho2,hk2⟩:=Dm w xs.length om;have Im:=zh ho2;have Ay:=zh hk2;clear ho2 hk2;go_enter Tryz.func266,Tryz.ntmps266;go_wp2;clear hr2;go_loopw [15,6,5] (fun s t u wr=>∃k:Nat,k≤xs.length∧s= .int .i64 k∧∃q:Nat,∃os,t= .int .i64 q∧Keep au w wr∧uJ wr w.heap.size u os∧nL xs ys os k q) (fun s _ _ _=>(xs.length-intOf s).toNat)
 case atStart=>exact⟨0,om,rfl,0,[],rfl,Ay.out,Im.out,rfl,sm,om,by simp [dval]⟩
 obtain⟨k,hk,rfl,q,os,rfl,hkr,hou,hinv⟩:=hrel;have dH:=zh hkr;have zD:=zh hou;have zH:=zh hinv;have hol:=hinv.len;have hq:=hinv.car;obtain⟨oo,co,hu⟩:=hou.len;rw [hol]at hu;subst hu;have HOL:=zh hol;have hsz:=hkr.size;by_cases hkl:k<xs.length
 ·have hlt:(k:Int)<(xs.length:Int):=om;obtain⟨gx,px,hox,hgx,hcx⟩:=(HX.out.keep hkr).at om;subst hox;have c0:=hcx k hkl;have bx:=eT HX.out.lt k;have by':=eT HY.out.lt k
  have HST:Hid (∀d c1,d<4294967296→c1≤1→d+ys.getD k 0+q=xs.getD k 0+4294967296*c1→nL xs ys (os++ [d]) (k+1) c1):=zh fun d c1 h1 h2 h3=>hinv.step h1 h2 h3;obtain⟨x,hxx⟩:∃x,xs.getD k 0=x:=⟨_,rfl⟩;obtain⟨y,hyy⟩:∃y,ys.getD k 0=y:=⟨_,rfl⟩;rw [hxx]at c0 bx HST;rw [hyy]at by' HST
  have HYY:=zh hyy;clear hxx hyy hkr hou hinv hol hcx;go_upto_if 27 with fail;go_cut [9] (fun s wx=>s= .int .i64 ((x:Int)-q-y)∧wr=wx)
  case first=>
   by_cases hky:k<ys.length
   ·have hlt2:(k:Int)<(ys.length:Int):=om;have e2:decide ((k:Int)<(ys.length:Int))=true:=cZ hlt2;obtain⟨gy,py,hoy,hgy,hcy⟩:=(HY.out.keep dH.out).at om;subst hoy;have c1:=hcy k hky;rw [HYY.out]at c1;clear hcy;go_wp2_with fail;go_meet;exact⟨rfl,rfl⟩
   have hlt2:¬(k:Int)<(ys.length:Int):=om;have e2:decide ((k:Int)<(ys.length:Int))=false:=bQ hlt2;have hy0:y=0:=by rw [← HYY.out,dV,List.getElem?_eq_none om];rfl
   have HY0:=zh hy0;clear hy0;go_wp2_with fail;go_meet;exact⟨by rw [HY0.out];simp,rfl⟩
  obtain⟨rfl,rfl⟩:=hcut;obtain⟨D,hD⟩:∃D:Int,(x:Int)-q-y=D:=⟨_,rfl⟩;rw [hD];obtain⟨d,c1,hd,hc1,he,hw⟩:∃d c1:Nat,d<4294967296∧c1≤1∧d+y+q=x+4294967296*c1∧(D<0∧c1=1∧D+4294967296=(d:Int)∨¬D<0∧c1=0∧D=(d:Int)):=by
   by_cases h:D<0
   ·exact ⟨(D+4294967296).toNat,1,om,om,om,.inl ⟨h,rfl,om⟩⟩
   exact⟨D.toNat,0,om,om,om,.inr ⟨h,rfl,om⟩⟩
  have zey:=zh (HST.out d c1 hd hc1 he);clear hD he;go_upto_if 36 with fail;go_cut [9,6] (fun s t wx=>s= .int .i64 (d:Int)∧t= .int .i64 (c1:Int)∧wr=wx)
  case first=>
   rcases hw with⟨h1,rfl,h2⟩ | ⟨h1,rfl,h2⟩
   ·have HE:=zh h2;clear h2;go_wp2_with fail;go_meet;exact⟨by rw [HE.out];try rw [show wrap64 (d:Int)=(d:Int)from by unfold wrap64;omega],rfl,rfl⟩
   have HE:=zh h2;clear h2;go_wp2_with fail;go_meet;exact⟨by rw [HE.out];try rw [show wrap64 (d:Int)=(d:Int)from by unfold wrap64;omega],rfl,rfl⟩
  obtain⟨rfl,rfl,rfl⟩:=hcut;have hdd:(d:Int)%4294967296=(d:Int):=om;have k1:Keep au wr (wr.alloc (.cells #[.int .u32 (d:Int)] FL)):=kp;obtain⟨v',w',hr,ho',hg⟩:=yJ (zD.out.keep k1) d (g:=wr.heap.size) sm (by rw [HOL.out];omega) (by simp;omega);have NW:=zh ho';have EM:Hid (Keep au w w'):=zh ((dH.out.both k1).grown hg fun k hk=>zD.out.block k hk);obtain⟨ot',ct',hv'⟩:=ho'.len;rw [List.length_append,HOL.out,List.length_singleton]at hv';subst hv';clear ho' hg k1 hw;go_wp2_with (at_builtin;refine aV _ _ 233 _ _ rfl rfl rfl rfl hr ?_);go_roundw
  case rel=>exact⟨k+1,om,gn,c1,_,rfl,EM.out,NW.out,zey.out⟩
  simp [intOf];omega
 have hlt:¬(k:Int)<(xs.length:Int):=om;obtain rfl:k=xs.length:=om;have HV:=zh (hinv.fin hlb HLE.out HX.out.lt);go_wp2;go_ret;exact⟨_,os,rfl,dH.out,zD.out.dg zH.out.lt,HV.out,by rw [HOL.out];omega⟩
theorem uK (z:Int):jK (decide (z<0)) z.natAbs=z:=by
 by_cases h:z<0
 ·rw [decide_eq_true h];simp [jK];omega
 rw [decide_eq_false h];simp [jK];omega
theorem Wl {x y:Int}(h:decide (x<0)=decide (y<0)):jK (decide (x<0)) (x.natAbs+y.natAbs)=x+y:=by
 rw [add_same h,uK,uK]
theorem Wm {x y:Int}(h:decide (x<0)≠decide (y<0))(hl:y.natAbs≤x.natAbs):jK (decide (x<0)) (x.natAbs-y.natAbs)=x+y:=by
 rw [Wn h hl,uK,uK]
theorem Wo {x y:Int}(h:decide (x<0)≠decide (y<0))(hl:x.natAbs≤y.natAbs):jK (decide (y<0)) (y.natAbs-x.natAbs)=x+y:=by
 rw [Wp h hl,uK,uK]
theorem AJ {x y:Int}(h:y.natAbs≤x.natAbs):(bV y.natAbs).length≤(bV x.natAbs).length:=pJ h
theorem pK (w:World)(x y:Int)(hx:dl x≤9000)(hy:dl y≤9000):
  Calls Tryz.prog 227 #[bG x,bG y] w fun e w'=>e= .returned (bG (x+y))∧Keep au w w':=by
 have HX:=zh hx;have HY:=zh hy;have LX:=fun w b=>zh (iC w x b om);have LY:=fun w b=>zh (iC w y b om);obtain⟨Z,hZ⟩:∃Z,x+y=Z:=⟨_,rfl⟩;have HZ:=zh hZ;rw [hZ,bN x,bN y];obtain⟨S,hS⟩:∃S,bytesOf (bV x.natAbs)=S:=⟨_,rfl⟩;obtain⟨T,hT⟩:∃S,bytesOf (bV y.natAbs)=S:=⟨_,rfl⟩;rw [hS]at LX ⊢;rw [hT]at LY ⊢;obtain⟨bx,hbx⟩:∃b,decide (x<0)=b:=⟨_,rfl⟩;obtain⟨by',hby⟩:∃b,decide (y<0)=b:=⟨_,rfl⟩;rw [hbx,hby];have wL:=zh hbx;have ZU:=zh hby;clear hx hy hS hT hbx hby hZ;go_enter Tryz.func227,Tryz.ntmps227;go_wp2;have B0:aL (((w.alloc (.cells #[.bool bx,.string S] 100)).alloc (.cells #[.bool by',.string T] 100)).alloc (.cells #[.bool false,.string ⟨#[]⟩] 100)) w.heap.size #[.bool bx,.string S]:=kc;have B1:aL (((w.alloc (.cells #[.bool bx,.string S] 100)).alloc (.cells #[.bool by',.string T] 100)).alloc (.cells #[.bool false,.string ⟨#[]⟩] 100)) (w.heap.size+1) #[.bool by',.string T]:=kc;have B2:aL (((w.alloc (.cells #[.bool bx,.string S] 100)).alloc (.cells #[.bool by',.string T] 100)).alloc (.cells #[.bool false,.string ⟨#[]⟩] 100)) (w.heap.size+1+1) #[.bool false,.string ⟨#[]⟩]:=kc;have K0:Hid (Keep au w (((w.alloc (.cells #[.bool bx,.string S] 100)).alloc (.cells #[.bool by',.string T] 100)).alloc (.cells #[.bool false,.string ⟨#[]⟩] 100))):=zh kp;generalize ((w.alloc (.cells #[.bool bx,.string S] 100)).alloc (.cells #[.bool by',.string T] 100)).alloc (.cells #[.bool false,.string ⟨#[]⟩] 100)=w0 at*;have HB0:=zh B0;have HB1:=zh B1;have HB2:=zh B2;clear B0 B1 B2;refine aD (fun w'=>Keep au w0 w') [] [([0,2],1),([],3)] [4,5] kr kr kp ?_;intro X W hne hF hcl;have aY:=zh hcl;have hx0:=fun x=>(HB0.out.keep (hF x)).two;have hx1:=fun x=>(HB1.out.keep (hF x)).two;clear hF hcl;simp only [aW,aJ,zl0,zl1,zl2,aX,Bool.false_eq_true,if_false]
 (repeat(quiet_step (fail)));refine wpQuiet_nil ?_
 refine ay rfl rfl fun K hK=> ?_;go_simp;refine(LX _ _).out.mono ?_;rintro e w1 ⟨v1,rfl,hd1,hk1⟩;have k1:Keep au w0 w1:=Keep.trans kp hk1 fun _ _ _ h=>h;refine hK _ _ ⟨fun _=>aY.out _ k1,?_⟩;clear hK K hk1
 (repeat(quiet_step (fail)));refine wpQuiet_nil ?_
 refine ay rfl rfl fun K hK=> ?_;go_simp;refine(LY _ _).out.mono ?_;rintro e w2 ⟨v2,rfl,hd2,hk2⟩;have k2:=k1.both hk2;refine hK _ _ ⟨fun _=>aY.out _ k2,?_⟩;have HD1:=zh (hd1.keep hk2);have HD2:=zh hd2;obtain⟨o1,c1,rfl,_⟩:=hd1.len;obtain⟨o2,c2,rfl,_⟩:=hd2.len;clear hK K hk2 k1 hd1 hd2
 (repeat(quiet_step (fail)));refine wpQuiet_nil ?_
 refine NoPanic.normal ?_;have HB0:=zh (HB0.out.keep k2);have HB1:=zh (HB1.out.keep k2);have HB2:=zh (HB2.out.keep k2);have K2:=zh (K0.out.both k2);have hdx:(bV x.natAbs).length≤9000:=HX.out;have hdy:(bV y.natAbs).length≤9000:=HY.out;clear hx0 hx1 aY k2 LX LY;by_cases hs:bx=by'
 focus
  have HV:Hid (jK bx (x.natAbs+y.natAbs)=Z):=zh (by rw [← HZ.out,←wL.out];exact Wl (by rw [wL.out,ZU.out,hs]));have e1:(bx==by')=true:=by rw [hs];simp
  have HS:=zh hs;clear hs;obtain⟨p0,p1,_,_,pl⟩:=HB0.out.two;obtain⟨q0,q1,_,_,ql⟩:=HB1.out.two;go_wp2;clear p0 p1 pl q0 q1 ql;refine aD (fun w'=>Keep au w2 w') [6] [([0,1,2,3],4),([],5),([],6)] [] kr kr kp ?_;intro X W hne hF hcl;have aY:=zh hcl;have hx0:=fun x=>(HB0.out.keep (hF x)).two;clear hF hcl;simp only [aW,aJ,zl0,zl1,zl2,aX,Bool.false_eq_true,if_false]
  (repeat(quiet_step (fail)));refine wpQuiet_nil ?_
  refine ay rfl rfl fun K hK=> ?_;go_simp;refine(Iu _ _ _ _ _ (HD1.out.keep kp) (HD2.out.keep kp) om om).mono ?_;rintro e w3 ⟨v3,ds,rfl,hk3,hd3,hv3,hl3⟩;have k3:Keep au w2 w3:=Keep.trans kp hk3 fun _ _ _ h=>h;refine hK _ _ ⟨fun _=>aY.out _ k3,?_⟩;clear hK K hk3
  (repeat(quiet_step (fail)));refine wpQuiet_nil ?_
  refine ay rfl rfl fun K hK=> ?_;go_simp;refine(cO _ bx _ _ hd3 om).mono ?_
 rotate_left
 focus
  have hne':decide (x<0)≠decide (y<0):=by rw [wL.out,ZU.out];exact hs
  have e1:(bx==by')=false:=by rw [beq_eq_false_iff_ne];exact hs
  have kZ:=zh hne';clear hs hne';obtain⟨p0,p1,_,_,pl⟩:=HB0.out.two;obtain⟨q0,q1,_,_,ql⟩:=HB1.out.two;go_wp2_with fail;refine(pF _ _ _ _ _ HD1.out HD2.out (dD _) (dD _) om om).mono ?_;rintro e w2' ⟨rfl,n2,rfl⟩;rw [dh,dh];have kd:=kH w2 n2;have HB0:=zh (HB0.out.keep kd);have HB1:=zh (HB1.out.keep kd);have HB2:=zh (HB2.out.keep kd);have K2:=zh (K2.out.both kd);have HD1:=zh (HD1.out.keep kd);have HD2:=zh (HD2.out.keep kd);generalize w2.drewN n2=w2 at *;clear kd p0 p1 pl q0 q1 ql;by_cases hl:y.natAbs≤x.natAbs
  focus
   have HV:Hid (jK bx (x.natAbs-y.natAbs)=Z):=zh (by rw [← HZ.out,←wL.out];exact Wm kZ.out hl);have e2:decide (0≤kG x.natAbs y.natAbs)=true:=by rw [Qf];exact decide_eq_true hl
   have e3:0≤kG x.natAbs y.natAbs:=of_decide_eq_true e2;have hll:=AJ hl;generalize kG x.natAbs y.natAbs=C at *;obtain⟨p0,p1,_,_,pl⟩:=HB0.out.two;obtain⟨q0,q1,_,_,ql⟩:=HB1.out.two;go_wp2;clear p0 p1 pl q0 q1 ql;refine aD (fun w'=>Keep au w2 w') [6] [([0,1,2,3],4),([],5),([],6)] [] kr kr kp ?_;intro X W hne hF hcl;have aY:=zh hcl;have hx0:=fun x=>(HB0.out.keep (hF x)).two;clear hF hcl;simp only [aW,aJ,zl0,zl1,zl2,aX,Bool.false_eq_true,if_false]
   (repeat(quiet_step (fail)));refine wpQuiet_nil ?_
   refine ay rfl rfl fun K hK=> ?_;go_simp;refine(wP _ _ _ _ _ (HD1.out.keep kp) (HD2.out.keep kp) om om (by rw [dh,dh];exact hl)).mono ?_;rintro e w3 ⟨v3,ds,rfl,hk3,hd3,hv3,hl3⟩;have k3:Keep au w2 w3:=Keep.trans kp hk3 fun _ _ _ h=>h;refine hK _ _ ⟨fun _=>aY.out _ k3,?_⟩;clear hK K hk3
   (repeat(quiet_step (fail)));refine wpQuiet_nil ?_
   refine ay rfl rfl fun K hK=> ?_;go_simp;refine(cO _ bx _ _ hd3 om).mono ?_
  rotate_left
  focus
   have HV:Hid (jK by' (y.natAbs-x.natAbs)=Z):=zh (by rw [← HZ.out,←ZU.out];exact Wo kZ.out om);have e2:decide (0≤kG x.natAbs y.natAbs)=false:=by rw [Qf];exact decide_eq_false hl
   have e3:¬0≤kG x.natAbs y.natAbs:=of_decide_eq_false e2;have hll:=AJ (x:=y) (y:=x) om;have hl':x.natAbs≤y.natAbs:=om;generalize kG x.natAbs y.natAbs=C at *;obtain⟨p0,p1,_,_,pl⟩:=HB0.out.two;obtain⟨q0,q1,_,_,ql⟩:=HB1.out.two;go_wp2;clear p0 p1 pl q0 q1 ql;refine aD (fun w'=>Keep au w2 w') [6] [([0,1,2,3],4),([],5),([],6)] [] kr kr kp ?_;intro X W hne hF hcl;have aY:=zh hcl;have hx0:=fun x=>(HB1.out.keep (hF x)).two;clear hF hcl;simp only [aW,aJ,zl0,zl1,zl2,aX,Bool.false_eq_true,if_false]
   (repeat(quiet_step (fail)));refine wpQuiet_nil ?_
   refine ay rfl rfl fun K hK=> ?_;go_simp;refine(wP _ _ _ _ _ (HD2.out.keep kp) (HD1.out.keep kp) om om (by rw [dh,dh];exact hl')).mono ?_;rintro e w3 ⟨v3,ds,rfl,hk3,hd3,hv3,hl3⟩;have k3:Keep au w2 w3:=Keep.trans kp hk3 fun _ _ _ h=>h;refine hK _ _ ⟨fun _=>aY.out _ k3,?_⟩;clear hK K hk3
   (repeat(quiet_step (fail)));refine wpQuiet_nil ?_
   refine ay rfl rfl fun K hK=> ?_;go_simp;refine(cO _ by' _ _ hd3 om).mono ?_
  rotate_left
 rotate_left 2
 all_goals
  rintro e w4 ⟨rfl,hk4⟩;have k4:=k3.both hk4;rw [hv3,dh,dh,HV.out];refine hK _ _ ⟨fun _=>aY.out _ k4,?_⟩;have HB2:=zh (HB2.out.keep k4);have HK:=zh (K2.out.both k4);clear hK K k4 hx0 k3 hd3 hv3 hl3 hk4 aY;obtain⟨r0,r1,f0,f1,rl⟩:=HB2.out.two;rw [bN]
  (repeat(quiet_step (fail)));refine wpQuiet_nil ?_
  refine ay rfl rfl fun K hK=> ?_;go_simp;refine hK _ _ ⟨fun h=>(by simp at h),?_⟩;clear hK K
  (repeat(quiet_step (fail)));refine wpQuiet_nil ?_
  refine NoPanic.normal ?_;go_wp2;refine bodyPost_ret (by simp [results,Tryz.results227,go_sem,r0,r1,rl];rfl) rfl ?_;exact⟨rfl,kp⟩
theorem Kn (w:World)(x y:Int)(hx:dl x≤9000)(hy:dl y≤9000):
  Calls Tryz.prog 202 #[bG x,bG y] w fun e w'=>e= .returned (.tuple #[bG (uI (x+y)),.int .i64 (Dl (x+y))])∧Keep au w w':=by
 have SM:=fun w=>zh (pK w x y hx hy);have LM:=fun w=>zh (tH w (x+y) (by have:=Ir x y 9000 hx hy;omega));rw [bN (uI (x+y))]at LM;rw [bN x,bN y]at SM ⊢;rw [bN (uI (x+y))];generalize decide (x<0)=b at *;generalize bytesOf (bV x.natAbs)=S at *;generalize decide (y<0)=c at *;generalize bytesOf (bV y.natAbs)=T at *;generalize decide (uI (x+y)<0)=d at *;generalize bytesOf (bV (uI (x+y)).natAbs)=U at *;generalize Dl (x+y)=E at *;generalize bG (x+y)=V at *;clear hx hy;go_enter Tryz.func202,Tryz.ntmps202;go_wp2_with fail;refine(SM _).out.mono ?_;rintro e w1 ⟨rfl,hk1⟩;have B2:aL w1 (w.heap.size+1+1) #[.bool false,.string ⟨#[]⟩]:=aL.keep kc hk1;have K1:Hid (Keep au w w1):=zh (Keep.both kp hk1);have HB2:=zh B2;clear B2 hk1;go_wp2_with fail;refine(LM _).out.mono ?_;rintro e w2 ⟨rfl,hk2⟩;obtain⟨p0,p1,f0,f1,pl⟩:=(HB2.out.keep hk2).two;have HK:=zh (K1.out.both hk2);clear hk2;go_wp2;refine bodyPost_ret (by simp [results,Tryz.results202,go_sem,p0,p1,pl];rfl) rfl ?_;exact⟨rfl,kp⟩
theorem EU (w:World)(va vb:Value)(ds es:List Nat)(ha:dX w va ds)(hb:dX w vb es)(hla:ds.length≤10000)(hlb:es.length≤10000):
  Calls Tryz.prog 207 #[va,vb] w (Wj (fun os=>dval os=dval ds*dval es∧os.length=ds.length+es.length) w):=by
 have HX:=zh ha;have HY:=zh hb;obtain⟨ox,cx,rfl,hcx,hmx⟩:=ha.len;obtain⟨oy,cy,rfl,hcy,hmy⟩:=hb.len;clear ha hb;unfold maxLen at hmx hmy;obtain⟨i0,hi0,hz0,hs0,hb0⟩:=info_parts rY;obtain⟨w2,hr2,ho2,hg2⟩:=run_make_full (P:=Tryz.prog) w w.heap.size 233 238 i0 (.int .u32 0) 1 Tryz.underlying233 hi0 hz0 hs0 .i64 .i64 (ds.length+es.length) (by rw [hb0];omega) (by unfold maxLen;omega) sm;rw [show((ds.length+es.length:Nat):Int)=(ds.length:Int)+(es.length:Int)from om]at hr2;obtain⟨go,hgo⟩:∃go,w.heap.size=go:=⟨_,rfl⟩;rw [hgo]at hr2 ho2;have P2:iM w2 go (ds.length+es.length) (fun _=>0):=kE ho2 fun i hi=>uG rfl _ i hi;have L2:Keep au w w2:=Keep.of_below (dB hg2 w.heap.size sm sm) sm;have YD:=zh P2;have HL2:=zh L2;have EO:=zh hgo;clear ho2 hg2 P2 L2 hgo;go_enter Tryz.func207,Tryz.ntmps207;go_wp2;clear hr2;go_loopw [19] (fun s wr=>∃i:Nat,i≤ds.length∧s= .int .i64 i∧Keep au w wr∧∃f,iM wr go (ds.length+es.length) f∧Iw (fun p=>ds.getD p 0) (fun p=>es.getD p 0) ds.length es.length i f) (fun s _=>(ds.length-intOf s).toNat)
 case atStart=>exact⟨0,om,rfl,HL2.out,fun _=>0,YD.out,fun _ _=>om,fun _ _ _=>rfl,by
  have:=wZ (f:=fun _=>0) (n:=0) (ds.length+es.length) (fun _ _ _=>rfl);rw [Nat.zero_add]at this;rw [this];simp [dv]⟩
 obtain⟨i,hi,rfl,hkp,f,har,hrow⟩:=hrel;have BD:=zh hkp;have Kk:=zh har;have HRO:=zh hrow;clear har hrow;by_cases hil:i<ds.length
 ·have hlt:(i:Int)<(ds.length:Int):=om;obtain⟨gx,px,hox,hgx,hcx⟩:=(HX.out.keep hkp).at om;subst hox;have ca:=hcx i hil;have ba:=eT HX.out.lt i;clear hcx hkp;have HCO:=zh HRO.out.start;clear HRO;obtain⟨w3,rfl⟩:∃W:World,W=wr:=⟨_,rfl⟩;generalize hX:(fun p=>ds.getD p 0)=X at*;have hXi:ds.getD i 0=X i:=by rw [← hX]
  rw [hXi]at ca ba;have HXX:=zh hX;clear hX hXi;generalize hx:X i=xi at ca ba;have HXI:=zh hx;clear hx;go_wp2;clear ca;have bxi:(xi:Int)<4294967296:=om;go_loopw [26,8] (fun s t wr=>∃j:Nat,j≤es.length∧s= .int .i64 j∧Keep au w wr∧∃q:Nat,∃f,t= .int .u64 q∧iM wr go (ds.length+es.length) f∧uL X (fun p=>es.getD p 0) ds.length es.length i j q f) (fun s _ _=>(es.length-intOf s).toNat)
  case atStart=>exact⟨0,om,rfl,BD.out,0,f,rfl,Kk.out,HCO.out⟩
  obtain⟨j,hj,rfl,hkq,q,f2,rfl,har,Iy⟩:=hrel;have HKQ:=zh hkq;have HA2:=zh har;have HC2:=zh Iy;have hgo2:=har.lt;have hfree:=har.free;have bq:(q:Int)<4294967296:=by have:=Iy.qlt;omega
  by_cases hjl:j<es.length
  ·have zbI:(j:Int)<(es.length:Int):=om;obtain⟨gy,py,hoy,hgy,hcy⟩:=(HY.out.keep hkq).at om;subst hoy;have cb:=hcy j hjl;have bb:=eT HY.out.lt j;have co:=har.cell (i:=i+j) om;have bo:=Iy.lt (i+j) om;have fij:=hfree (i+j);have hst:∀d q1,d=(q+(xi*es.getD j 0+f2 (i+j)))%4294967296→q1=(q+(xi*es.getD j 0+f2 (i+j)))/4294967296→uL X (fun p=>es.getD p 0) ds.length es.length i (j+1) q1 fun p=>if p=i+j then d else f2 p:=fun d q1 h1 h2=>
    Iy.step hil hjl (by rw [HXI.out];exact ba) bb (by rw [HXI.out];exact h1) (by rw [HXI.out];exact h2)
   have HST:=zh hst;clear hcy hkq har Iy hst hfree;generalize es.getD j 0=b at *;generalize f2 (i+j)=o at *;obtain⟨hm3,hm2⟩:=Iz ba bb;have hix:(i:Int)+(j:Int)<(ds.length:Int)+(es.length:Int):=om;go_wp2;go_roundw
   case rel=>
    exact⟨j+1,om,gn,HKQ.out.setCell _ (fun h=>absurd h (by have:=EO.out;omega)),(q+(xi*b+o))/4294967296,_,congrArg (Value.int .u64) (by rw [← Int.natCast_mul];omega),
     iM.set HA2.out (i+j) ((q+(xi*b+o))%4294967296) (congrArg (Value.int .u32) (by rw [← Int.natCast_mul];omega)),HST.out _ _ rfl rfl⟩
   simp [intOf];omega
  have zbI:¬(j:Int)<(es.length:Int):=om;obtain rfl:j=es.length:=om;have co:=har.cell (i:=i+es.length) om;have fij:=hfree (i+es.length);have Ct:=zh (Iy.fin hil);clear hkq har Iy hfree;generalize f2 (i+es.length)=o at co;have hix:(i:Int)+(es.length:Int)<(ds.length:Int)+(es.length:Int):=om;go_wp2;go_roundw
  case rel=>
   exact⟨i+1,om,gn,HKQ.out.setCell _ (fun h=>absurd h (by have:=EO.out;omega)),_,iM.set HA2.out (i+es.length) q rfl,Ct.out⟩
  simp [intOf];omega
 have hlt:¬(i:Int)<(ds.length:Int):=om;obtain rfl:i=ds.length:=om;have HD1:=zh (kF Kk.out (Nat.le_refl _) (by unfold maxLen;omega) HRO.out.lt);have HV:Hid (dval (Dg f (ds.length+es.length))=dval ds*dval es):=zh (by
  rw [uM,HRO.out.val,←oZ,←oZ])
 go_wp2;go_ret;exact⟨_,_,rfl,BD.out,HD1.out.dg,HV.out,iB _ _⟩
theorem Wq (x y:Int):jK (decide (x<0) != decide (y<0)) (x.natAbs*y.natAbs)=x*y:=by
 rw [ZW,uK,uK]
theorem Ko (w:World)(x y:Int)(hx:dl x≤4500)(hy:dl y≤4500)(hb:jQ x+jQ y≤131073):
  Calls Tryz.prog 154 #[bG x,bG y] w fun e w'=>e= .returned (.tuple #[bG (uI (x*y)),.int .i64 (Dl (x*y))])∧Keep au w w':=by
 have LX:=fun w b=>zh (iC w x b om);have LY:=fun w b=>zh (iC w y b om);have BX:=fun w=>zh (sD w x om);have BY:=fun w=>zh (sD w y om);have hdm:=iJ x y;have LM:=fun w=>zh (tH w (x*y) om);rw [bN (uI (x*y))]at LM;have HV:=zh (Wq x y);have hdx:(bV x.natAbs).length≤4500:=hx;have hdy:(bV y.natAbs).length≤4500:=hy;rw [bN x]at BX;rw [bN y]at BY;rw [bN x,bN y,bN (uI (x*y))];obtain⟨S,hS⟩:∃S,bytesOf (bV x.natAbs)=S:=⟨_,rfl⟩;obtain⟨T,hT⟩:∃S,bytesOf (bV y.natAbs)=S:=⟨_,rfl⟩;rw [hS]at LX BX ⊢;rw [hT]at LY BY ⊢;obtain⟨bx,hbx⟩:∃b,decide (x<0)=b:=⟨_,rfl⟩;obtain⟨by',hby⟩:∃b,decide (y<0)=b:=⟨_,rfl⟩;rw [hbx]at BX HV ⊢;rw [hby]at BY HV ⊢;generalize decide (uI (x*y)<0)=dz at *;generalize bytesOf (bV (uI (x*y)).natAbs)=U at *;generalize Dl (x*y)=E at *;generalize x*y=Z at *;generalize jQ x=nx at *;generalize jQ y=ny at *;clear hx hy hS hT hbx hby hdm;go_enter Tryz.func154,Tryz.ntmps154;go_wp2;have B0:aL (((w.alloc (.cells #[.bool bx,.string S] 100)).alloc (.cells #[.bool by',.string T] 100)).alloc (.cells #[.bool false,.string ⟨#[]⟩] 100)) w.heap.size #[.bool bx,.string S]:=kc;have B1:aL (((w.alloc (.cells #[.bool bx,.string S] 100)).alloc (.cells #[.bool by',.string T] 100)).alloc (.cells #[.bool false,.string ⟨#[]⟩] 100)) (w.heap.size+1) #[.bool by',.string T]:=kc;have B2:aL (((w.alloc (.cells #[.bool bx,.string S] 100)).alloc (.cells #[.bool by',.string T] 100)).alloc (.cells #[.bool false,.string ⟨#[]⟩] 100)) (w.heap.size+1+1) #[.bool false,.string ⟨#[]⟩]:=kc;have K0:Hid (Keep au w (((w.alloc (.cells #[.bool bx,.string S] 100)).alloc (.cells #[.bool by',.string T] 100)).alloc (.cells #[.bool false,.string ⟨#[]⟩] 100))):=zh kp;generalize ((w.alloc (.cells #[.bool bx,.string S] 100)).alloc (.cells #[.bool by',.string T] 100)).alloc (.cells #[.bool false,.string ⟨#[]⟩] 100)=w0 at*;have HB0:=zh B0;have HB1:=zh B1;have HB2:=zh B2;clear B0 B1 B2;have hww:IntKind.i64.wrap ((nx:Int)+(ny:Int))=(nx:Int)+(ny:Int):=Go.IntWalk.i64_in _ om;have hnn:¬(131073:Int)<(nx:Int)+(ny:Int):=om;refine aD (fun w'=>Keep au w0 w') [] [([0,2],1),([],3)] [4,5] kr kr kp ?_;intro X W hne hF hcl;have aY:=zh hcl;have hx0:=fun x=>(HB0.out.keep (hF x)).two;have hx1:=fun x=>(HB1.out.keep (hF x)).two;clear hF hcl;simp only [aW,aJ,zl0,zl1,zl2,aX,Bool.false_eq_true,if_false]
 (repeat(quiet_step (fail)));refine wpQuiet_nil ?_
 refine ay rfl rfl fun K hK=> ?_;go_simp;refine(BX _).out.mono ?_;rintro e w1 ⟨rfl,hk1⟩;have k1:Keep au w0 w1:=Keep.trans kp hk1 fun _ _ _ h=>h;refine hK _ _ ⟨fun _=>aY.out _ k1,?_⟩;clear hK K hk1
 (repeat(quiet_step (fail)));refine wpQuiet_nil ?_
 refine ay rfl rfl fun K hK=> ?_;go_simp;refine(BY _).out.mono ?_;rintro e w2 ⟨rfl,hk2⟩;have k2:=k1.both hk2;refine hK _ _ ⟨fun _=>aY.out _ k2,?_⟩;clear hK K hk2 k1
 (repeat(quiet_step (fail)));refine wpQuiet_nil ?_
 refine NoPanic.normal ?_;have HB0:=zh (HB0.out.keep k2);have HB1:=zh (HB1.out.keep k2);have HB2:=zh (HB2.out.keep k2);have K2:=zh (K0.out.both k2);clear hx0 hx1 aY k2 BX BY;go_wp2;clear hnn hww;refine aD (fun w'=>Keep au w2 w') [14,15] [([0,1,2,3,4,5,7],6),([],8),([],9),([],10),([],11),([12,13],14)] [15] kr kr kp ?_;intro X W hne hF hcl;have aY:=zh hcl;have hx0:=fun x=>(HB0.out.keep (hF x)).two;have hx1:=fun x=>(HB1.out.keep (hF x)).two;clear hF hcl;simp only [aW,aJ,zl0,zl1,zl2,aX,Bool.false_eq_true,if_false]
 (repeat(quiet_step (fail)));refine wpQuiet_nil ?_
 refine ay rfl rfl fun K hK=> ?_;go_simp;refine(LX _ _).out.mono ?_;rintro e w3 ⟨v3,rfl,hd3,hk3⟩;have k3:Keep au w2 w3:=Keep.trans kp hk3 fun _ _ _ h=>h;refine hK _ _ ⟨fun _=>aY.out _ k3,?_⟩;clear hK K hk3
 (repeat(quiet_step (fail)));refine wpQuiet_nil ?_
 refine ay rfl rfl fun K hK=> ?_;go_simp;refine(LY _ _).out.mono ?_;rintro e w4 ⟨v4,rfl,hd4,hk4⟩;have k4:=k3.both hk4;refine hK _ _ ⟨fun _=>aY.out _ k4,?_⟩;have hd3:=hd3.keep hk4;clear hK K hk4 k3
 (repeat(quiet_step (fail)));refine wpQuiet_nil ?_
 refine ay rfl rfl fun K hK=> ?_;go_simp;refine(EU _ _ _ _ _ hd3 hd4 om om).mono ?_;rintro e w5 ⟨v5,ds,rfl,hk5,hd5,hv5,hl5⟩;have k5:=k4.both hk5;refine hK _ _ ⟨fun _=>aY.out _ k5,?_⟩;clear hK K hk5 k4 hd3 hd4
 (repeat(quiet_step (fail)));refine wpQuiet_nil ?_
 refine ay rfl rfl fun K hK=> ?_;go_simp;refine(cO _ _ _ _ hd5 om).mono ?_;rintro e w6 ⟨rfl,hk6⟩;have k6:=k5.both hk6;rw [hv5,dh,dh,show jK (!bx==by') (x.natAbs*y.natAbs)=Z from HV.out];refine hK _ _ ⟨fun _=>aY.out _ k6,?_⟩;clear hK K hk6 k5 hd5 hv5 hl5
 (repeat(quiet_step (fail)));refine wpQuiet_nil ?_
 refine ay rfl rfl fun K hK=> ?_;go_simp;refine(LM _).out.mono ?_;rintro e w7 ⟨rfl,hk7⟩;have k7:=k6.both hk7;refine hK _ _ ⟨fun _=>aY.out _ k7,?_⟩;have HB2:=zh (HB2.out.keep k7);have HK:=zh (K2.out.both k7);clear hK K hk7 k6 hx0 hx1 aY;obtain⟨r0,r1,f0,f1,rl⟩:=HB2.out.two
 (repeat(quiet_step (fail)));refine wpQuiet_nil ?_
 refine ay rfl rfl fun K hK=> ?_;go_simp;refine hK _ _ ⟨fun h=>(by simp at h),?_⟩;clear hK K
 (repeat(quiet_step (fail)));refine wpQuiet_nil ?_
 refine NoPanic.normal ?_;go_wp2;refine bodyPost_ret (by simp [results,Tryz.results154,go_sem,r0,r1,rl];rfl) rfl ?_;exact⟨rfl,kp⟩
end Go.Proofs.YtmepglhdcphffaaGreat
